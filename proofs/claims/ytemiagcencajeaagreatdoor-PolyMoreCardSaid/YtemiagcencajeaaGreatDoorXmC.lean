/- What the claim needs of the walks, put together by a program (shake.py). -/
import Derived.Test.YtemiagcencajeaaGreatDoorXmB
set_option maxRecDepth 100000
set_option linter.unusedSimpArgs false
set_option linter.unusedVariables false
set_option linter.unusedSectionVars false
namespace Go.Proofs.YtemiagcencajeaaGreatDoor
section
open Go Go.Eng Go.RowKit
abbrev e_ (n:Nat):I:= .int .u64 (Z n)
abbrev bl (n:Nat):I:= .int .u32 (Z n)
abbrev aI (n:Nat):I:= .int .i64 (Z n)
abbrev bV (l:List Nat) (e:Bool):I:= .sl (l.map fun n=> .int .u32 (Z n)) e
def aD (l:List Nat) (i:Nat):Nat:=l.getD i 0
theorem C2 (x:Nat) (l:List Nat):aD (x::l) 0=x:=rfl
theorem yU (x:Nat) (l:List Nat) (i:Nat):aD (x::l) (i+1)=aD l i:=rfl
theorem TY (i:Nat):aD [] i=0:=rfl
theorem qR {l:List Nat} {i:Nat} (h:l.length<=i):aD l i=0:=by
 simp[aD,List.getD,List.getElem?_eq_none h]
theorem jS {l:List Nat} {i:Nat} (h:i<l.length):aD l i=l[i]:=by simp[aD,List.getD,h]
theorem C3 {l:List Nat} {i:Nat} (h:i<l.length):aD l i∈l:=by
 rw[jS h];exact List.getElem_mem h
theorem o1 {l:List Nat} {i:Nat} (h:i<l.length):(l.map fun n=>I.int .u32 (Z n))[i]? =some (.int .u32 (Z (aD l i))):=by
 simp[jS h,List.getElem?_eq_getElem h]
def val:List Nat->Nat
 | []=>0
 | x::l=>x+4294967296*val l
def Small (l:List Nat):Prop:=∀x∈l,x<4294967296
theorem Small.nil:Small []:=fun x h=>by cases h
theorem Small.cons {x:Nat} {l:List Nat} (h:Small (x::l)):x<4294967296/\Small l:=⟨h x (by simp),fun y aQ=>h y (by simp[aQ])⟩
theorem lq {x:Nat} {l:List Nat}:Small (x::l)↔x<4294967296/\Small l:=⟨Small.cons,fun h y aQ=>by
 rcases List.mem_cons.1 aQ with rfl|aQ
 · exact h.1
 · exact h.2 y aQ⟩
theorem oa {a b:List Nat}:Small (a++b)↔Small a/\Small b:=by
 constructor
 · exact fun h=>⟨fun x ae=>h x (by simp[ae]),fun x ae=>h x (by simp[ae])⟩
 · rintro ⟨h,k⟩ x ae
   rcases List.mem_append.1 ae with ae|ae
   · exact h x ae
   · exact k x ae
theorem Small.aD {l:List Nat} (h:Small l) (i:Nat):aD l i<4294967296:=by
 by_cases ab:i<l.length
 · exact h _ (C3 ab)
 · rw[qR (by omega)];decide
theorem Small.take {l:List Nat} (h:Small l) (n:Nat):Small (l.take n):=fun x ae=>h x (List.mem_of_mem_take ae)
theorem Small.drop {l:List Nat} (h:Small l) (n:Nat):Small (l.drop n):=fun x ae=>h x (List.mem_of_mem_drop ae)
def aj:Nat->Nat
 | 0=>1
 | k+1=>4294967296*aj k
theorem fk:aj 0=1:=rfl
theorem ea (k:Nat):aj (k+1)=aj k*4294967296:=Nat.mul_comm ..
theorem ui:∀k,aj k=4294967296^k
 | 0=>rfl
 | k+1=>by rw[ea,ui k,Nat.pow_succ]
theorem jD:∀k:Nat,0<aj k
 | 0=>by decide
 | k+1=>by have:=jD k;rw[ea];omega
theorem gB (a b:Nat):aj (a+b)=aj a*aj b:=by rw[ui,ui,ui,Nat.pow_add]
theorem lH {a b:Nat} (h:a<=b):aj a<=aj b:=by rw[ui,ui];exact Nat.pow_le_pow_right (by decide) h
theorem mu:aj 1=4294967296:=rfl
theorem qS (n k:Nat):n/aj (k+1)=n/aj k/4294967296:=by rw[ea,Nat.div_div_eq_div_mul]
theorem l7 (n k:Nat):n%aj (k+1)=n%aj k+aj k*(n/aj k%4294967296):=by rw[ea];exact Nat.mod_mul
attribute [irreducible] aj
theorem l8:∀(a b:List Nat),val (a++b)=val a+aj a.length*val b
 | [],b=>by simp[val,fk]
 | x::a,b=>by
   simp only[List.cons_append,val,l8 a b,List.length_cons,ea]
   rw[Nat.mul_add,Nat.mul_comm (aj a.length) 4294967296,Nat.mul_assoc];omega
theorem o2:∀ {l:List Nat},Small l->val l<aj l.length
 | [],_=>by simp[val,fk]
 | x::l,h=>by
   have U:=h.cons
   have h2:=o2 U.2
   have aB:4294967296*val l+4294967296<=4294967296*aj l.length:=by
    have:=Nat.mul_le_mul_left 4294967296 (Nat.succ_le_of_lt h2)
    rw[Nat.mul_succ] at this;exact this
   simp only[val,List.length_cons,ea]
   rw[Nat.mul_comm (aj l.length)]
   omega
theorem sn (n:Nat):val (List.replicate n 0)=0:=by
 induction n with
 | zero=>rfl
 | succ n a8=>rw[List.replicate_succ,val,a8]
def aa (n:Nat):List Nat:=if h:n=0 then [] else n%4294967296::aa (n/4294967296)
termination_by n
decreasing_by exact Nat.div_lt_self (by omega) (by decide)
theorem eD:aa 0= []:=by unfold aa;simp
theorem so {n:Nat} (h:n≠0):aa n=n%4294967296::aa (n/4294967296):=by
 rw[aa];simp[h]
theorem dp (n:Nat):Small (aa n):=by
 induction n using Nat.strongRecOn with
 | _ n a8=>
   by_cases h:n=0
   · subst h;rw[eD];exact Small.nil
   · rw[so h]
     exact lq.2 ⟨Nat.mod_lt _ (by decide),a8 _ (Nat.div_lt_self (by omega) (by decide))⟩
theorem cq (n:Nat):val (aa n)=n:=by
 induction n using Nat.strongRecOn with
 | _ n a8=>
   by_cases h:n=0
   · subst h;rw[eD];rfl
   · rw[so h,val,a8 _ (Nat.div_lt_self (by omega) (by decide))]
     exact Nat.mod_add_div n 4294967296
theorem bI {a b:Nat}:aa a=aa b↔a=b:=⟨fun h=>by rw[<-cq a,h,cq],fun h=>by rw[h]⟩
theorem jn {n:Nat}:aa n= []↔n=0:=by
 constructor
 · intro h;rw[<-cq n,h];rfl
 · rintro rfl;exact eD
theorem Ku {n:Nat}:(aa n).length=0↔n=0:=by rw[List.length_eq_zero_iff,jn]
theorem lr {n:Nat}:0<(aa n).length↔n≠0:=by
 have:=Ku (n:=n);omega
theorem Kv:∀ {l:List Nat},Small l->(l= []\/aD l (l.length - 1)≠0)->aa (val l)=l
 | [],_,_=>eD
 | [x],h,h2=>by
   have U:=h.cons.1
   have ae:x≠0:=by
    rcases h2 with h2|h2
    · cases h2
    · exact h2
   have e:val [x]=x:=by simp[val]
   rw[e,so ae,Nat.mod_eq_of_lt U,show x/4294967296=0 from Nat.div_eq_of_lt U,eD]
 | x::y::l,h,h2=>by
   have U:=h.cons
   have aB:aD (y::l) ((y::l).length - 1)≠0:=by
    rcases h2 with h2|h2
    · cases h2
    · exact h2
   have a8:=Kv U.2 (.inr aB)
   have al:val (y::l)≠0:=by
    intro aF
    rw[aF,eD] at a8
    cases a8
   have e:val (x::y::l)=x+4294967296*val (y::l):=rfl
   rw[e]
   generalize val (y::l)=v at*
   rw[so (by omega),show (x+4294967296*v)%4294967296=x by omega,show (x+4294967296*v)/4294967296=v by omega,a8]
theorem p2:∀ {l:List Nat},Small l->∀i,aD l i=val l/aj i%4294967296
 | [],_,i=>by simp[TY,val]
 | x::l,h,0=>by
   have:=h.cons.1
   rw[C2,val,fk];omega
 | x::l,h,i+1=>by
   have U:=h.cons
   rw[yU,p2 U.2 i,val,ea,Nat.mul_comm (aj i),<-Nat.div_div_eq_div_mul]
   congr 2
   omega
theorem fY (n i:Nat):aD (aa n) i=n/aj i%4294967296:=by rw[p2 (dp n),cq]
theorem C4:∀ {l:List Nat},Small l->∀i,val (l.drop i)=val l/aj i
 | [],_,i=>by simp[val]
 | x::l,h,0=>by simp[fk]
 | x::l,h,i+1=>by
   have U:=h.cons
   rw[List.drop_succ_cons,C4 U.2 i,val,ea,Nat.mul_comm (aj i),<-Nat.div_div_eq_div_mul]
   congr 1
   omega
theorem TZ {l:List Nat} (h:Small l) (i:Nat):val (l.take i)=val l%aj i:=by
 by_cases ab:i<=l.length
 · have e:=l8 (l.take i) (l.drop i)
   rw[List.take_append_drop,C4 h,List.length_take,Nat.min_eq_left ab] at e
   have:=Nat.mod_add_div (val l) (aj i)
   omega
 · rw[List.take_of_length_le (by omega),Nat.mod_eq_of_lt (Nat.lt_of_lt_of_le (o2 h) (lH (by omega)))]
theorem Kw {n:Nat} (h:n≠0):aD (aa n) ((aa n).length - 1)≠0:=by
 induction n using Nat.strongRecOn with
 | _ n a8=>
   by_cases h2:n/4294967296=0
   · have ak:n<4294967296:=by omega
     rw[so h,h2,eD]
     show n%4294967296≠0
     omega
   · have:=a8 _ (Nat.div_lt_self (by omega) (by decide)) h2
     have aE:=lr.2 h2
     rw[so h,List.length_cons,Nat.add_sub_cancel]
     obtain⟨k,ag⟩:∃k,(aa (n/4294967296)).length=k+1:=⟨_,(Nat.succ_pred_eq_of_pos aE).symm⟩
     rw[ag,yU]
     rw[ag,Nat.add_sub_cancel] at this
     exact this
theorem cu {n k:Nat}:(aa n).length<=k↔n<aj k:=by
 constructor
 · intro h
   have:=o2 (dp n)
   rw[cq] at this
   exact Nat.lt_of_lt_of_le this (lH h)
 · intro h
   by_cases ak:n=0
   · subst ak;rw[eD];exact Nat.zero_le _
   · refine Nat.le_of_not_lt fun ag=>Kw ak ?_
     rw[fY,Nat.div_eq_of_lt (Nat.lt_of_lt_of_le h (lH (by omega)))]
theorem C5 {n k:Nat}:k<(aa n).length↔aj k<=n:=by
 have:=cu (n:=n) (k:=k);omega
theorem fB {a b:Nat} (h:a<=b):(aa a).length<=(aa b).length:=cu.2 (Nat.lt_of_le_of_lt h (cu.1 (Nat.le_refl _)))
theorem ki (a b:Nat):(aa (a+b)).length<=max (aa a).length (aa b).length+1:=by
 refine cu.2 ?_
 have U:a<aj (max (aa a).length (aa b).length):=cu.1 (Nat.le_max_left _ _)
 have h2:b<aj (max (aa a).length (aa b).length):=cu.1 (Nat.le_max_right _ _)
 generalize max (aa a).length (aa b).length=k at*
 rw[ea]
 omega
theorem kE (a b:Nat):(aa (a*b)).length<=(aa a).length+(aa b).length:=by
 refine cu.2 ?_
 rw[gB]
 have U:a<aj (aa a).length:=cu.1 (Nat.le_refl _)
 have h2:b<aj (aa b).length:=cu.1 (Nat.le_refl _)
 exact Nat.mul_lt_mul'' U h2
theorem C6 {l:List Nat} (h:Small l) {m:Nat} (hm:m<=l.length) (av:∀i,m<=i->aD l i=0) (az:m=0\/aD l (m - 1)≠0):l.take m=aa (val l):=by
 have T0:∀i,i<m->aD (l.take m) i=aD l i:=fun i ab=>by
  rw[jS (by simp;omega),jS (by omega)];simp
 have e:val (l.take m)=val l:=by
  have a3:∀r:List Nat,(∀i,aD r i=0)->val r=0:=by
   intro r
   induction r with
   | nil=>intro _;rfl
   | cons x r a8=>intro aT;rw[val,a8 (fun i=>aT (i+1)),show x=0 from aT 0]
  have:=l8 (l.take m) (l.drop m)
  rw[List.take_append_drop,a3 (l.drop m) (fun i=>by
   have e:aD (l.drop m) i=aD l (m+i):=by simp[aD,List.getD,List.getElem?_drop]
   rw[e,av _ (by omega)])] at this
  simpa using this.symm
 rw[<-e,Kv (h.take m)]
 by_cases aF:m=0
 · left;subst aF;rfl
 · right
   have hlen:(l.take m).length=m:=by simp;omega
   rw[hlen,T0 _ (by omega)]
   exact az.resolve_left aF
theorem bz {a b:List Nat}:((a.map fun n=>I.int .u32 (Z n))=b.map fun n=>I.int .u32 (Z n))↔a=b:=by
 constructor
 · intro h
   refine List.map_inj_right (f:=fun n=>I.int .u32 (Z n)) (fun x y lZ=>?_) |>.1 h
   simpa[bp] using lZ
 · rintro rfl;rfl
theorem c2 (l:List Nat):kS (l.map fun n=>I.int .u32 (Z n))=l.map fun n=>I.int .u32 (Z n):=by
 rw[p0,List.map_map]
 refine List.map_congr_left fun x _=>?_
 simp[fQ]
theorem wu (l:List Nat):(l.map fun n=>I.int .u32 (Z n)).all I.ei=true:=by
 simp[I.ei,I.cells,I.eb]
abbrev af (n:Nat):I:=bV (aa n) false
theorem wv (l:List Nat) (e:Bool):(bV l e).loose=bV l false:=by rw[dv,c2]
theorem m7:aa 1= [1]:=by rw[so (by decide),show 1%4294967296=1 from rfl,show 1/4294967296=0 from rfl,eD]
def a5 (z:Int):Bool:=decide (z<0)
theorem Kx {a b:Int}:(a5 a=a5 b/\a.natAbs=b.natAbs)↔a=b:=by
 constructor
 · rintro ⟨U,h2⟩
   simp only[a5,decide_eq_decide] at U
   omega
 · rintro rfl;exact ⟨rfl,rfl⟩
theorem wx (n:Nat):a5 (n:Int)=false:=by simp[a5]
theorem Ky {z:Int}:a5 z=true↔z<0:=by simp[a5]
theorem C7 {z:Int}:a5 z=false↔0<=z:=by simp[a5]
abbrev ao (z:Int):I:= .agg [.bool (a5 z),af z.natAbs]
theorem Kz (z:Int) (e:Bool):(I.agg [.bool (a5 z),bV (aa z.natAbs) e]).loose=ao z:=by
 rw[e8,eY,eY,fh,e9,wv]
abbrev ax (p:List Int) (e:Bool):I:= .sl (p.map fun z=>ao z) e
theorem bZ {a b:Int}:ao a=ao b↔a=b:=by
 constructor
 · intro h
   simp only[I.agg.injEq,List.cons.injEq,I.bool.injEq,I.sl.injEq,bz,bI,and_true] at h
   exact Kx.1 h
 · rintro rfl;rfl
theorem b8 {a b:List Int}:((a.map fun z=>ao z)=b.map fun z=>ao z)↔a=b:=by
 constructor
 · intro h
   exact List.map_inj_right (f:=fun z=>ao z) (fun x y lZ=>bZ.1 lZ) |>.1 h
 · rintro rfl;rfl
theorem cN (l:List Int):kS (l.map fun z=>ao z)=l.map fun z=>ao z:=by
 rw[p0,List.map_map]
 refine List.map_congr_left fun x _=>?_
 exact Kz x false
end
section
open Go Go.Eng
def G:Nat->Option I:=fun _=>none
end
section
open Go Go.Eng Go.RowKit
def sq:List (String × DataW Unit):=[("ziggurat/ntt.fields",Rows.laid_ziggurat_ntt_fields)]
theorem own:ownKnob Tryz.prog.godebug=none:=by kernel_rfl
theorem lay:laidOutB Tryz.prog=true:=by kernel_rfl
theorem mO (W:World) (T1:Array Value) (ag5:laidMetH Tryz.prog sq W):∀g u,G g=some u->a2 W (fun _=>True) (fun _=>none) (.eJ u) (.pointer (some ⟨g,0,none⟩)):=by
 intro g u aW
 cases aW
theorem T2 (os:Os) (args:Array Value):laidMetH Tryz.prog sq ((World.doorLaid Tryz.prog 27 os).forCall (fun _ _=>0) ⟨#[],args,[]⟩).memory:=
 laidMetH_of_parts3 (fuel:=8) (laidMet_of_run' 8 (by kernel_rfl) (by kernel_rfl)) (by kernel_rfl) (by kernel_rfl)
theorem T3 (w aO:World) (T1:Array Value) (cK:w.heap=aO.heap) (h:laidMetH Tryz.prog sq w):laidMetH Tryz.prog sq aO:=h.of_heap cK
end
section
open Go Go.Eng Go.RowKit
attribute [local simp] aY.m aY.o aY.n aY.g fg eF cV cJ c4 evalOp.eq_1 evalOp.eq_2 evalOp.eq_3 evalOp.eq_4 evalOp.eq_5 evalOp.eq_6 evalOp.eq_7 evalOp.eq_8 evalOp.eq_9 evalOp.eq_10 evalOp.eq_11 evalOp.eq_12 evalOp.eq_13 evalOp.eq_14 evalOp.eq_15 evalOp.eq_16 evalOp.eq_17 evalOp.eq_18 evalOp.eq_19 evalOp.eq_20 evalOp.eq_21 evalOp.eq_22 evalOp.eq_23 evalOp.eq_24 evalOp.eq_25 evalOp.eq_27 evalOp.eq_28 evalOp.eq_29 iK aR.ev cI ar ai.new ec I.cells I.cb I.eb I.ei gL gN gM gO gQ gP hY hZ h0 fM fN cut partOf bound elems h4 h5 h6 h7 h8 h9 h_ ia ib ic ie ig gh ih ij ik il im iq ir iu iv iw ix iy iz iA iB iC iD iE iF iG iH iI iJ eE eo dZ e6 gR gf ai.close ai.set gy iL iM iN h3 gg fh eY dv e8 gu fQ e9 gv gw gx e3 e4 e5 e2 gS bp gq gT gr gU gV eW gW eX gX gY gZ fG hX g0 g1 g2 g3 g4 g5 g6 g7 g8 g9 g_ g' ha hb hc hd hf hg hh fP hi hj hk hl hn ho hp hq hr hs ht hv hx hy hz
attribute [local simp high] hU hV hW hA hB hC hD hE hF hG hH hI hJ hK hL hM hN hO hP hQ hR hS hT
attribute [local simp] c2 cN
section
noncomputable def T4:FuncId->Option (List I->Option I):=cf []
theorem uj:∀f T,T4 f=some T->aG Tryz.prog G f T:=cg (by simp)
theorem uk (a b:Nat):jI (fun a b=>if a<b then b else a) [I.int .i64 (Z a),I.int .i64 (Z b)]=some (.int .i64 (Z (max a b))):=by
 simp only[jI,if_true]
 congr 2
 by_cases h:a<b
 · rw[if_pos (by simp only[Z];omega),Nat.max_eq_right (by omega)]
 · rw[if_neg (by simp only[Z];omega),Nat.max_eq_left (by omega)]
theorem um (a b:Nat):jI (fun a b=>if b<a then b else a) [I.int .i64 (Z a),I.int .i64 (Z b)]=some (.int .i64 (Z (min a b))):=by
 simp only[jI,if_true]
 congr 2
 by_cases h:b<a
 · rw[if_pos (by simp only[Z];omega),Nat.min_eq_right (by omega)]
 · rw[if_neg (by simp only[Z];omega),Nat.min_eq_left (by omega)]
def eQ (n:Nat):Int:=n - 1
theorem p3:eQ 0= -1:=rfl
theorem ob (n:Nat):eQ (n+1)=Z n:=by simp only[eQ,Z];omega
theorem jT {n:Nat} (h:n<9223372036854775808):IntKind.i64.wrap (Z n - Z 1)=eQ n:=by
 rw[wrap_i64 (by simp only[Z];omega) (by simp only[Z];omega)];rfl
noncomputable def uo:List I->Option I:=a7 (fun z:List Nat × Nat=>Small z.1/\z.2<4611686018427387904/\z.1.length<4611686018427387904) (fun z=>[bV z.1 false,aI z.2]) (fun z=>e_ (aD z.1 z.2))
theorem sr {l:List Nat} {e:Bool} {i:Nat} (h:Small l) (ab:i<4611686018427387904) (az:l.length<4611686018427387904):uo [.sl (l.map fun n=> .int .u32 (Z n)) e,aI i]=some (e_ (aD l i)):=
 bk (fun z w h=>by simp[bz] at h;simp[h]) (l,i) ⟨h,ab,az⟩ (by simp)
theorem KA:aG Tryz.prog G 177 uo:=by
 refine bj mixed uj JR fun z av=>?_
 obtain⟨l,i⟩:=z
 obtain⟨aw,ab,az⟩:=av
 simp only at aw ab az|-
 have U:=aw.aD i
 unfold i177
 refine ba (bg bx ?_)
 simp[aF]
 refine ba (ba (bg bx ?_))
 simp
 refine fy _ rfl (fun J=>?_) (fun J=>?_)
 · have J:l.length<=i:=by simpa using J
   refine ba (bg bx ?_)
   simp
   try refine bU ?_
   simp[qR J]
 · have J:i<l.length:=by simpa using J
   refine gp ?_
   simp
   refine ba (bg bx ?_)
   have aW:=o1 J
   simp only[List.getElem?_map] at aW
   simp[aW,Nat.mod_eq_of_lt (show aD l i<18446744073709551616 by omega)]
   try refine bU ?_
   simp
noncomputable def nF:List I->Option I:=a7 (fun z:List Nat=>Small z/\z.length<=1073741824) (fun z=>[bV z false]) (fun z=>af (val z))
theorem p4 {l:List Nat} {e:Bool} (h:Small l) (az:l.length<=1073741824):nF [.sl (l.map fun n=> .int .u32 (Z n)) e]=some (af (val l)):=
 bk (fun z w h=>by simp[bz] at h;simp[h]) l ⟨h,az⟩ (by simp)
theorem wy:aG Tryz.prog G 178 nF:=by
 refine bj mixed uj JS fun l av=>?_
 obtain⟨aw,az⟩:=av
 unfold i178
 refine ba (bg bx ?_)
 simp[aF]
 refine ba (bg bx ?_)
 simp
 refine ba ?_
 refine ln (id:=0) (fun m s=>m<=l.length/\(∀i,m<=i->aD l i=0)/\s.F 0=bV l false/\s.F 3=aI m)
  (fun s=>∃m,m<=l.length/\(∀i,m<=i->aD l i=0)/\(m=0\/aD l (m - 1)≠0)/\s.F 0=bV l false/\s.F 3=aI m) (fun _=>False) l.length ?_ ?_ ?_ (fun _ h=>h.elim)
 · exact ⟨Nat.le_refl _,fun i ab=>qR ab,by simp,by simp⟩
 · rintro m s ⟨hm,av,f0,f3⟩
   refine ba (ba (bg bx ?_))
   cases m with
   | zero=>
     simp[f0,f3]
     refine fy _ rfl (fun J=>?_) (fun J=>?_)
     · exact absurd J (by decide)
     · refine c5 ?_
       exact ⟨rfl,0,by omega,av,.inl rfl,by simp[f0],by simp[f3]⟩
   | succ m=>
     have aW:=o1 (show m<l.length by omega)
     simp only[List.getElem?_map] at aW
     simp[f0,f3,cQ (show 1<=m+1 by omega) (show m+1<9223372036854775808 by omega),aW]
     refine fy _ rfl (fun J=>?_) (fun J=>?_)
     · have J:aD l m=0:=by simpa using J
       refine gp ?_
       simp
       refine jA (bg bx ?_)
       simp[f3,cQ (show 1<=m+1 by omega) (show m+1<9223372036854775808 by omega)]
       refine⟨m,by omega,by omega,fun i ab=>?_,f0,rfl⟩
       by_cases e:i=m
       · subst e;exact J
       · exact av i (by omega)
     · have J:aD l m≠0:=by simpa using J
       refine c5 ?_
       exact ⟨rfl,m+1,hm,av,.inr J,by simp[f0],by simp[f3]⟩
 · rintro s ⟨m,hm,av,jj,f0,f3⟩
   have aL:=C6 aw hm av jj
   have hlen:(aa (val l)).length=m:=by rw[<-aL];simp;omega
   simp
   refine ba (bg bx ?_)
   have aq:((l.take m).map fun n=>I.int .u32 (Z n))=(aa (val l)).map fun n=>I.int .u32 (Z n):=by rw[aL]
   rw[List.map_take] at aq
   by_cases oc:m=0
   · have T5:aa (val l)= []:=List.length_eq_zero_iff.1 (by omega)
     subst oc
     simp[f0,f3,kl,kv]
     try refine bU ?_
     simp[T5]
   · have bO:¬aa (val l)= []:=fun h=>oc (by rw[<-hlen,h];rfl)
     have au:List.take m ((aa (val l)).map fun n=>I.int .u32 (Z n))=(aa (val l)).map fun n=>I.int .u32 (Z n):=List.take_of_length_le (by simp;omega)
     simp[f0,f3,hm,kl,kv,aq,hlen,bO,oc,show 0<m by omega,show m*4<=35184372088832 by omega]
     try refine bU ?_
     simp[hlen,au]
end
end
section
open Go Go.Eng Go.RowKit
attribute [local simp] aY.m aY.o aY.n aY.g fg eF cV cJ c4 evalOp.eq_1 evalOp.eq_2 evalOp.eq_3 evalOp.eq_4 evalOp.eq_5 evalOp.eq_6 evalOp.eq_7 evalOp.eq_8 evalOp.eq_9 evalOp.eq_10 evalOp.eq_11 evalOp.eq_12 evalOp.eq_13 evalOp.eq_14 evalOp.eq_15 evalOp.eq_16 evalOp.eq_17 evalOp.eq_18 evalOp.eq_19 evalOp.eq_20 evalOp.eq_21 evalOp.eq_22 evalOp.eq_23 evalOp.eq_24 evalOp.eq_25 evalOp.eq_27 evalOp.eq_28 evalOp.eq_29 iK aR.ev cI ar ai.new ec I.cells I.cb I.eb I.ei gL gN gM gO gQ gP hY hZ h0 fM fN cut partOf bound elems h4 h5 h6 h7 h8 h9 h_ ia ib ic ie ig gh ih ij ik il im iq ir iu iv iw ix iy iz iA iB iC iD iE iF iG iH iI iJ eE eo dZ e6 gR gf ai.close ai.set gy iL iM iN h3 gg fh eY dv e8 gu fQ e9 gv gw gx e3 e4 e5 e2 gS bp gq gT gr gU gV eW gW eX gX gY gZ fG hX g0 g1 g2 g3 g4 g5 g6 g7 g8 g9 g_ g' ha hb hc hd hf hg hh fP hi hj hk hl hn ho hp hq hr hs ht hv hx hy hz
attribute [local simp high] hU hV hW hA hB hC hD hE hF hG hH hI hJ hK hL hM hN hO hP hQ hR hS hT
attribute [local simp] c2 cN cq
section
noncomputable def C8:FuncId->Option (List I->Option I):=cf [(177,uo),(178,nF)]
theorem C9:∀f T,C8 f=some T->aG Tryz.prog G f T:=cg (by simp only[List.forall_mem_cons];exact ⟨KA,wy,fun _ h=>absurd h (by simp)⟩)
theorem KB:C8 177=some uo:=rfl
theorem KC:C8 178=some nF:=rfl
attribute [local simp] KB KC
theorem val_two {n:Nat} (h:n<18446744073709551616):val [n%4294967296,n/4294967296]=n:=by simp only[val];omega
noncomputable def yV:List I->Option I:=a7 (fun z:Nat=>z<18446744073709551616) (fun z=>[e_ z]) (fun z=>af z)
theorem KD {n:Nat} (h:n<18446744073709551616):yV [e_ n]=some (af n):=
 bk (fun z w h=>by simp at h;simp[h]) n h (by simp)
theorem T6:aG Tryz.prog G 139 yV:=by
 refine bj mixed C9 JJ fun n ak=>?_
 unfold i139
 refine ba (bg bx ?_)
 simp[aF]
 refine ba (bg bx ?_)
 have e:=p4 (l:=[n%4294967296,n/4294967296]) (e:=true) (lq.2 ⟨by omega,lq.2 ⟨by omega,Small.nil⟩⟩) (by simp)
 rw[val_two ak] at e
 simp only[List.map_cons,List.map_nil] at e
 simp[Nat.mod_eq_of_lt ak,Nat.mod_eq_of_lt (show n/4294967296<4294967296 by omega),Nat.mod_eq_of_lt (show n/4294967296<18446744073709551616 by omega),e]
 try refine bU ?_
 simp
def dx (a b:Nat):Int:=if a<b then -1 else if b<a then 1 else 0
theorem yW {a b k:Nat} (h:a/aj (k+1)=b/aj (k+1)):
 (a/aj k%4294967296<b/aj k%4294967296->a<b)/\(a/aj k%4294967296=b/aj k%4294967296->a/aj k=b/aj k):=by
 rw[qS,qS] at h
 constructor
 · intro az
   refine Nat.lt_of_not_le fun hle=>?_
   have:=Nat.div_le_div_right (c:=aj k) hle
   omega
 · intro he
   omega
noncomputable def o3:List I->Option I:=a7 (fun z:List Nat × List Nat=>Small z.1/\Small z.2/\z.1.length<=1073741824/\z.2.length<=1073741824) (fun z=>[bV z.1 false,bV z.2 false]) (fun z=> .int .i64 (dx (val z.1) (val z.2)))
theorem yX {a b:List Nat} {e e':Bool} (aC:Small a) (ad:Small b) (bt:a.length<=1073741824) (bm:b.length<=1073741824):
 o3 [.sl (a.map fun n=> .int .u32 (Z n)) e,.sl (b.map fun n=> .int .u32 (Z n)) e']=some (.int .i64 (dx (val a) (val b))):=
 bk (fun z w h=>by simp[bz] at h;simp[h]) (a,b) ⟨aC,ad,bt,bm⟩ (by simp)
theorem yY:aG Tryz.prog G 96 o3:=by
 refine bj mixed C9 Jp fun z av=>?_
 obtain⟨a,b⟩:=z
 obtain⟨aC,ad,bt,bm⟩:=av
 simp only at aC ad bt bm|-
 obtain⟨M,ll⟩:∃M,M=max a.length b.length:=⟨_,rfl⟩
 have KE:M<=1073741824:=by omega
 have a4:val a<aj M:=Nat.lt_of_lt_of_le (o2 aC) (lH (by omega))
 have bw:val b<aj M:=Nat.lt_of_lt_of_le (o2 ad) (lH (by omega))
 unfold i96
 refine ba (bg bx ?_)
 simp[aF]
 refine ba (ba (bg bx ?_))
 simp[uk,<-ll,jT (show M<9223372036854775808 by omega)]
 refine ln (id:=0) (fun m s=>m<=M/\val a/aj m=val b/aj m/\s.F 0=bV a false/\s.F 1=bV b false/\s.F 5= .int .i64 (eQ m))
  (fun s=>val a=val b) (fun s=>s.F 4= .int .i64 (dx (val a) (val b))) M ?_ ?_ ?_ ?_
 · exact ⟨Nat.le_refl _,by rw[Nat.div_eq_of_lt a4,Nat.div_eq_of_lt bw],by simp,by simp,by simp⟩
 · rintro m s ⟨hm,he,f0,f1,f5⟩
   refine ba (ba (bg bx ?_))
   cases m with
   | zero=>
     rw[p3] at f5
     simp[f5]
     refine fy _ rfl (fun J=>?_) (fun J=>?_)
     · exact absurd J (by decide)
     · refine c5 ?_
       exact ⟨rfl,by simpa[fk] using he⟩
   | succ m=>
     rw[ob] at f5
     simp[f5]
     refine fy _ rfl (fun J=>?_) (fun J=>(by simp at J))
     refine gp ?_
     simp
     have t1:=sr (e:=false) (i:=m) aC (by omega) (by omega)
     have t2:=sr (e:=false) (i:=m) ad (by omega) (by omega)
     obtain⟨s1,s2⟩:=yW he
     obtain⟨iO,_⟩:=yW he.symm
     rw[<-p2 aC,<-p2 ad] at s1 s2 iO
     refine ba (jA (ba (ba (bg bx ?_))))
     simp[f0,f1,f5,t1,t2]
     refine fy _ rfl (fun J=>?_) (fun J=>?_)
     · have J:aD a m<aD b m:=by simpa using J
       refine ba (bg bx ?_)
       simp
       try refine bU ?_
       simp[dx,s1 J]
     · have J:¬aD a m<aD b m:=by simpa using J
       refine gp ?_
       simp
       refine ba (bg bx ?_)
       simp[f0,f1,f5,t1,t2]
       refine fy _ rfl (fun je=>?_) (fun je=>?_)
       · have je:aD b m<aD a m:=by simpa using je
         have aB:=iO je
         refine ba (bg bx ?_)
         simp
         try refine bU ?_
         simp[dx,aB,Nat.lt_asymm aB]
       · have je:¬aD b m<aD a m:=by simpa using je
         refine gp ?_
         simp
         refine bg bx ?_
         simp[f0,f1,f5,jT (show m<9223372036854775808 by omega)]
         exact ⟨m,by omega,by omega,s2 (by omega),rfl⟩
 · intro s h
   simp
   refine ba (bg bx ?_)
   simp
   try refine bU ?_
   simp[dx,h]
 · intro s h
   simp[h]
end
section
attribute [local simp] KB KC
theorem T7 (M n:Nat):M*n=M*(n%4294967296)+M*4294967296*(n/4294967296):=by
 conv=>lhs;rw[<-Nat.mod_add_div n 4294967296]
 rw[Nat.mul_add,Nat.mul_assoc]
theorem KF {a b o i c:Nat} (h:o+aj i*c=a%aj i+b%aj i):
 (o+aj i*((a/aj i%4294967296+b/aj i%4294967296+c)%4294967296))+aj (i+1)*((a/aj i%4294967296+b/aj i%4294967296+c)/4294967296)=a%aj (i+1)+b%aj (i+1):=by
 rw[l7,l7,ea]
 have aB:=T7 (aj i) (a/aj i%4294967296+b/aj i%4294967296+c)
 rw[Nat.mul_add (aj i),Nat.mul_add (aj i)] at aB
 omega
noncomputable def qT:List I->Option I:=a7 (fun z:Nat × Nat=>(aa z.1).length<=1000000000/\(aa z.2).length<=1000000000) (fun z=>[af z.1,af z.2]) (fun z=>af (z.1+z.2))
theorem C_ {a b:Nat} {e e':Bool} (aC:(aa a).length<=1000000000) (ad:(aa b).length<=1000000000):
 qT [.sl ((aa a).map fun n=> .int .u32 (Z n)) e,.sl ((aa b).map fun n=> .int .u32 (Z n)) e']=some (af (a+b)):=
 bk (fun z w h=>by simp[bz,bI] at h;simp[h]) (a,b) ⟨aC,ad⟩ (by simp)
theorem C':aG Tryz.prog G 212 qT:=by
 refine bj mixed C9 J5 fun z av=>?_
 obtain⟨a,b⟩:=z
 obtain⟨bt,bm⟩:=av
 simp only at bt bm|-
 have aC:=dp a
 have ad:=dp b
 obtain⟨M,ll⟩:∃M,M=max (aa a).length (aa b).length:=⟨_,rfl⟩
 have KE:M<=1000000000:=by omega
 have a4:a<aj (M+1):=cu.1 (by omega)
 have bw:b<aj (M+1):=cu.1 (by omega)
 have KG:a+b<aj (M+1):=cu.1 (by have:=ki a b;omega)
 unfold i212
 refine ba (bg bx ?_)
 simp[aF]
 refine ba (bg bx ?_)
 simp
 refine ba ?_
 refine ba (bg bx ?_)
 simp
 refine ln (id:=0) (fun m s=>∃(o:List Nat) (c:Nat),m=M+1 - o.length/\o.length<=M+1/\Small o/\c<=1/\val o+aj o.length*c=a%aj o.length+b%aj o.length/\
  s.F 0=af a/\s.F 1=af b/\bD 1 s.h (s.F 5) (o.map fun n=> .int .u32 (Z n))/\s.F 6=e_ c/\s.F 7=aI o.length)
  (fun s=>∃o:List Nat,Small o/\o.length=M+1/\val o=a+b/\bD 1 s.h (s.F 5) (o.map fun n=> .int .u32 (Z n))) (fun _=>False) (M+1) ?_ ?_ ?_ (fun _ h=>h.elim)
 · exact ⟨[],0,by simp,by simp,Small.nil,by simp,by simp[val,fk,Nat.mod_one],by simp,by simp,by simp;exact bD.nil (by simp),by simp,by simp⟩
 · rintro m s ⟨o,c,rfl,fZ,fl,qU,al,f0,f1,f5,f6,f7⟩
   by_cases jj:o.length=M+1
   · have aq:¬o.length<=(aa a).length:=by omega
     have au:¬o.length<=(aa b).length:=by omega
     refine ba (ba (bg bx ?_))
     simp[f0,f1,f7,aq,au]
     refine fy _ rfl (fun J=>?_) (fun J=>?_)
     · exact absurd J (by simp)
     · refine c5 ?_
       rw[jj,Nat.mod_eq_of_lt a4,Nat.mod_eq_of_lt bw] at al
       have gb:c=0:=by
        rcases Nat.eq_zero_or_pos c with h|h
        · exact h
        · have:=Nat.le_mul_of_pos_right (aj (M+1)) h
          omega
       subst gb
       refine⟨rfl,o,fl,jj,by simpa using al,?_⟩
       simp[ar]
       exact f5.mono (fun q _=>rfl) (fun q=>rfl) (by simp)
   · have lj:o.length<=M:=by omega
     refine IN (fun s=>s.F 0=af a/\s.F 1=af b/\bD 1 s.h (s.F 5) (o.map fun n=> .int .u32 (Z n))/\s.F 6=e_ c/\s.F 7=aI o.length) ?_ ?_
     · refine ba (bg bx ?_)
       by_cases aq:o.length<=(aa a).length
       · simp[f0,f1,f7,aq]
         refine fy _ rfl (fun J=>?_) (fun J=>absurd J (by simp))
         refine gp ?_
         simp[f0,f1,f6,f7]
         exact f5.mono (fun q _=>rfl) (fun q=>rfl) (by simp)
       · have au:o.length<=(aa b).length:=by omega
         simp[f0,f1,f7,aq,au]
         refine fy _ rfl (fun J=>?_) (fun J=>absurd J (by simp))
         refine gp ?_
         simp[f0,f1,f6,f7]
         exact f5.mono (fun q _=>rfl) (fun q=>rfl) (by simp)
     · clear f0 f1 f5 f6 f7
       rintro s ⟨f0,f1,f5,f6,f7⟩
       have t1:=sr (e:=false) (i:=o.length) aC (by omega) (by omega)
       have t2:=sr (e:=false) (i:=o.length) ad (by omega) (by omega)
       have s1:=aC.aD o.length
       have s2:=ad.aD o.length
       have ez:=KF al
       rw[<-fY,<-fY] at ez
       generalize aD (aa a) o.length=x at*
       generalize aD (aa b) o.length=y at*
       refine ba (jA (ba (bg bx ?_)))
       simp[f0,f1,f6,f7,t1,t2,Nat.mod_eq_of_lt (show x+y<18446744073709551616 by omega),Nat.mod_eq_of_lt (show x+y+c<18446744073709551616 by omega)]
       refine ba (bg bx ?_)
       simp[qQ f5,show (o.length+1)*4<=35184372088832 by omega]
       refine bg bx ?_
       simp
       refine bg bx ?_
       simp[f7,dD (show o.length+1<9223372036854775808 by omega)]
       have ay:=f5.app (ys:=[I.int .u32 (Z ((x+y+c)%4294967296))]) (by simp) (by simp) (s.h.next+10+7) (s.h.next+10+7+3+3) (s.h.next+10+5) s.h.aU s.h.aU (by omega) (by omega)
       simp only[List.length_map,List.length_singleton] at ay
       refine⟨M+1 -(o.length+1),by omega,o++ [(x+y+c)%4294967296],by simp,by simp;omega,oa.2 ⟨fl,lq.2 ⟨by omega,Small.nil⟩⟩,(x+y+c)/4294967296,by omega,?_,f0,f1,by simpa using ay,by omega,by simp⟩
       rw[l8,List.length_append,List.length_singleton]
       simpa[val] using ez
 · rintro s ⟨o,fl,fZ,al,f5⟩
   simp
   obtain⟨ids,ay⟩:=f5.out (wu _)
   refine ba (bg bx ?_)
   simp[ay,p4 fl (show o.length<=1073741824 by omega),al]
   try refine bU ?_
   simp
end
section
noncomputable def yZ:FuncId->Option (List I->Option I):=cf [(177,uo),(178,nF),(96,o3)]
theorem Da:∀f T,yZ f=some T->aG Tryz.prog G f T:=cg (by simp only[List.forall_mem_cons];exact ⟨KA,wy,yY,fun _ h=>absurd h (by simp)⟩)
theorem y2:yZ 177=some uo:=rfl
theorem y3:yZ 178=some nF:=rfl
theorem y4:yZ 96=some o3:=rfl
attribute [local simp] y2 y3 y4
theorem KH {a b:Nat}:dx a b<0↔a<b:=by
 unfold dx;split
 · simp;omega
 · split<;>simp<;>omega
theorem T8 {P B x y c n o u v q r:Nat} (ak:n+y+c=B+x) (a3:n=B*q+r) (aN:q<=1) (h:o+v=u+P*c):o+P*r+(v+P*y)=u+P*x+P*B*(1 - q):=by
 have U:P*n+P*y+P*c=P*B+P*x:=by rw[<-Nat.mul_add,<-Nat.mul_add,ak,Nat.mul_add]
 have aN:q=0\/q=1:=by omega
 rcases aN with rfl|rfl
 · have:n=r:=by omega
   subst this
   simp only[Nat.sub_zero,Nat.mul_one]
   omega
 · have h2:P*n=P*B+P*r:=by rw[a3,Nat.mul_one,Nat.mul_add]
   simp only[Nat.sub_self,Nat.mul_zero,Nat.add_zero]
   omega
theorem T9 {a b o i c n:Nat} (h:o+b%aj i=a%aj i+aj i*c) (ak:n+(b/aj i%4294967296)+c=4294967296+(a/aj i%4294967296)) (h2:n<8589934592):
 (o+aj i*(n%4294967296))+b%aj (i+1)=a%aj (i+1)+aj (i+1)*(1 - n/4294967296):=by
 rw[l7,l7,ea]
 exact T8 ak (Nat.div_add_mod n 4294967296).symm (by omega) h
theorem T_ {v P c a b:Nat} (h:v+b=a+P*c) (J:c<=1) (al:v<P) (fp:b<=a):c=0:=by
 rcases Nat.eq_zero_or_pos c with aF|aF
 · exact aF
 · obtain rfl:c=1:=by omega
   omega
noncomputable def qV:List I->Option I:=a7 (fun z:Nat × Nat=>(aa z.1).length<=1000000000/\(aa z.2).length<=1000000000) (fun z=>[af z.1,af z.2])
 (fun z=>if z.1<z.2 then .bL [.sl [] false,.bool false] else .bL [af (z.1 - z.2),.bool true])
theorem y5 {a b:Nat} {e e':Bool} (aC:(aa a).length<=1000000000) (ad:(aa b).length<=1000000000):
 qV [.sl ((aa a).map fun n=> .int .u32 (Z n)) e,.sl ((aa b).map fun n=> .int .u32 (Z n)) e']=some (if a<b then .bL [.sl [] false,.bool false] else .bL [af (a - b),.bool true]):=
 bk (fun z w h=>by simp[bz,bI] at h;simp[h]) (a,b) ⟨aC,ad⟩ (by simp)
theorem Db:aG Tryz.prog G 213 qV:=by
 refine bj mixed Da J6 fun z av=>?_
 obtain⟨a,b⟩:=z
 obtain⟨bt,bm⟩:=av
 simp only at bt bm|-
 have aC:=dp a
 have ad:=dp b
 have t0:=yX (e:=false) (e':=false) aC ad (by omega) (by omega)
 simp only[cq] at t0
 unfold i213
 refine ba (bg bx ?_)
 simp[aF]
 refine ba (ba (bg bx ?_))
 simp[t0]
 refine fy _ rfl (fun J=>?_) (fun J=>?_)
 · have J:dx a b<0:=of_decide_eq_true J
   have J:=KH.1 J
   refine ba (bg bx ?_)
   simp
   try refine bU ?_
   simp[J]
 · have J:¬dx a b<0:=of_decide_eq_false J
   have fp:¬a<b:=fun h=>J (KH.2 h)
   refine gp ?_
   simp
   obtain⟨L,bd⟩:∃L,L=(aa a).length:=⟨_,rfl⟩
   have a4:a<aj L:=cu.1 (by omega)
   refine ba (bg bx ?_)
   simp
   refine ba (ba (bg bx ?_))
   simp
   refine ln (id:=0) (fun m s=>∃(o:List Nat) (c:Nat),m=L - o.length/\o.length<=L/\Small o/\c<=1/\val o+b%aj o.length=a%aj o.length+aj o.length*c/\
    s.F 0=af a/\s.F 1=af b/\bD 1 s.h (s.F 6) (o.map fun n=> .int .u32 (Z n))/\s.F 7=e_ c/\s.F 8=aI o.length)
    (fun s=>∃o:List Nat,Small o/\o.length=L/\val o=a - b/\bD 1 s.h (s.F 6) (o.map fun n=> .int .u32 (Z n))) (fun _=>False) L ?_ ?_ ?_ (fun _ h=>h.elim)
   · exact ⟨[],0,by simp,by simp,Small.nil,by simp,by simp[val,fk,Nat.mod_one],by simp,by simp,by simp;exact bD.nil (by simp),by simp,by simp⟩
   · rintro m s ⟨o,c,rfl,fZ,fl,qU,al,f0,f1,f6,f7,f8⟩
     refine ba (ba (bg bx ?_))
     simp[f0,f8,<-bd]
     refine fy _ rfl (fun J=>?_) (fun J=>?_)
     · have lj:o.length<L:=by simpa using J
       refine gp ?_
       simp
       have t1:=sr (e:=false) (i:=o.length) aC (by omega) (by omega)
       have t2:=sr (e:=false) (i:=o.length) ad (by omega) (by omega)
       have s1:=aC.aD o.length
       have s2:=ad.aD o.length
       have ez:=fun n=>T9 (n:=n) al
       rw[<-fY,<-fY] at ez
       generalize aD (aa a) o.length=x at*
       generalize aD (aa b) o.length=y at*
       have ez:=ez (4294967296+x - y - c) (by omega) (by omega)
       refine ba (jA (ba (bg bx ?_)))
       simp[f0,f1,f7,f8,t1,t2,Nat.mod_eq_of_lt (show 4294967296+x<18446744073709551616 by omega),show (4294967296+x+(18446744073709551616 - y%18446744073709551616))%18446744073709551616=4294967296+x - y by omega,
        show (4294967296+x - y+(18446744073709551616 - c%18446744073709551616))%18446744073709551616=4294967296+x - y - c by omega]
       generalize ak:4294967296+x - y - c=n at*
       refine ba (bg bx ?_)
       simp[qQ f6,show (o.length+1)*4<=35184372088832 by omega]
       refine bg bx ?_
       simp[Nat.mod_eq_of_lt (show n/4294967296<18446744073709551616 by omega),show (1+(18446744073709551616 - n/4294967296))%18446744073709551616=1 - n/4294967296 by omega]
       refine bg bx ?_
       simp[f8,dD (show o.length+1<9223372036854775808 by omega)]
       have ay:=f6.app (ys:=[I.int .u32 (Z (n%4294967296))]) (by simp) (by simp) (s.h.next+4+11+7) (s.h.next+4+11+7+4+3) (s.h.next+4+11+5) s.h.aU s.h.aU (by omega) (by omega)
       simp only[List.length_map,List.length_singleton] at ay
       refine⟨L -(o.length+1),by omega,o++ [n%4294967296],by simp,by simp;omega,oa.2 ⟨fl,lq.2 ⟨by omega,Small.nil⟩⟩,1 - n/4294967296,by omega,?_,f0,f1,by simpa using ay,rfl,by simp⟩
       rw[l8,List.length_append,List.length_singleton]
       simpa[val] using ez
     · have jj:o.length=L:=by simp at J;omega
       refine c5 ?_
       rw[jj,Nat.mod_eq_of_lt a4,Nat.mod_eq_of_lt (show b<aj L by omega)] at al
       have wz:=o2 fl
       rw[jj] at wz
       have gb:=T_ al qU wz (by omega)
       subst gb
       refine⟨rfl,o,fl,jj,by simp at al;omega,?_⟩
       simp[ar]
       exact f6.mono (fun q _=>rfl) (fun q=>rfl) (by simp)
   · rintro s ⟨o,fl,fZ,al,f6⟩
     simp
     obtain⟨ids,ay⟩:=f6.out (wu _)
     refine ba (bg bx ?_)
     simp[ay,p4 fl (show o.length<=1073741824 by omega),al]
     try refine bU ?_
     simp[fp]
end
end
section
open Go Go.Eng Go.RowKit
attribute [local simp] aY.m aY.o aY.n aY.g fg eF cV cJ c4 evalOp.eq_1 evalOp.eq_2 evalOp.eq_3 evalOp.eq_4 evalOp.eq_5 evalOp.eq_6 evalOp.eq_7 evalOp.eq_8 evalOp.eq_9 evalOp.eq_10 evalOp.eq_11 evalOp.eq_12 evalOp.eq_13 evalOp.eq_14 evalOp.eq_15 evalOp.eq_16 evalOp.eq_17 evalOp.eq_18 evalOp.eq_19 evalOp.eq_20 evalOp.eq_21 evalOp.eq_22 evalOp.eq_23 evalOp.eq_24 evalOp.eq_25 evalOp.eq_27 evalOp.eq_28 evalOp.eq_29 iK aR.ev cI ar ai.new ec I.cells I.cb I.eb I.ei gL gN gM gO gQ gP hY hZ h0 fM fN cut partOf bound elems h4 h5 h6 h7 h8 h9 h_ ia ib ic ie ig gh ih ij ik il im iq ir iu iv iw ix iy iz iA iB iC iD iE iF iG iH iI iJ eE eo dZ e6 gR gf ai.close ai.set gy iL iM iN h3 gg fh eY dv e8 gu fQ e9 gv gw gx e3 e4 e5 e2 gS bp gq gT gr gU gV eW gW eX gX gY gZ fG hX g0 g1 g2 g3 g4 g5 g6 g7 g8 g9 g_ g' ha hb hc hd hf hg hh fP hi hj hk hl hn ho hp hq hr hs ht hv hx hy hz
attribute [local simp high] hU hV hW hA hB hC hD hE hF hG hH hI hJ hK hL hM hN hO hP hQ hR hS hT
section
attribute [local simp] c2 cN cq y2 y3 y4
def dJ (n:Nat):Nat:=if h:n=0 then 0 else dJ (n/2)+1
termination_by n
decreasing_by exact Nat.div_lt_self (by omega) (by decide)
theorem y6:dJ 0=0:=by unfold dJ;simp
theorem y7 {n:Nat} (h:n≠0):dJ n=dJ (n/2)+1:=by rw[dJ];simp[h]
theorem o4 {n k:Nat}:dJ n<=k↔n<2^k:=by
 induction k generalizing n with
 | zero=>
   by_cases h:n=0
   · subst h;simp[y6]
   · rw[y7 h];simp;omega
 | succ k a8=>
   by_cases h:n=0
   · subst h;simp[y6,Nat.pow_pos]
   · rw[y7 h,Nat.pow_succ]
     have:=a8 (n:=n/2)
     omega
theorem KI {n k:Nat}:k<dJ n↔2^k<=n:=by
 have:=o4 (n:=n) (k:=k);omega
theorem T' {n:Nat}:dJ n=0↔n=0:=by
 have:=o4 (n:=n) (k:=0);simp at this;omega
theorem KJ {n k:Nat} (h:n/2^k≠0):dJ n=k+dJ (n/2^k):=by
 induction k generalizing n with
 | zero=>simp
 | succ k a8=>
   have e:n/2^(k+1)=n/2/2^k:=by rw[Nat.pow_succ,Nat.mul_comm,Nat.div_div_eq_div_mul]
   have ak:n≠0:=by rintro rfl;simp at h
   rw[e] at h|-
   rw[y7 ak,a8 h];omega
theorem kF:∀k:Nat,aj k=2^(32*k)
 | 0=>fk
 | k+1=>by rw[ea,kF k,Nat.mul_add,Nat.pow_add]
theorem Ua {n:Nat} (h:n≠0):dJ n=32*((aa n).length - 1)+dJ (aD (aa n) ((aa n).length - 1)):=by
 obtain⟨k,ag⟩:∃k,k=(aa n).length - 1:=⟨_,rfl⟩
 have aE:=lr.2 h
 have U:n<aj (k+1):=cu.1 (by omega)
 have h2:=Kw h
 rw[<-ag] at h2|-
 rw[fY] at h2|-
 have aB:n/aj k<4294967296:=by
  rw[ea] at U
  exact Nat.div_lt_of_lt_mul U
 rw[Nat.mod_eq_of_lt aB] at h2|-
 rw[kF] at h2|-
 exact KJ h2
theorem Ub {x r:Nat} (h:r<32):x%4294967296/2^r%2=x/2^r%2:=by
 have U:=Nat.testBit_mod_two_pow x 32 r
 rw[Nat.testBit_eq_decide_div_mod_eq,Nat.testBit_eq_decide_div_mod_eq] at U
 simp only[h,decide_true,Bool.true_and,decide_eq_decide] at U
 have e:(2:Nat)^32=4294967296:=rfl
 rw[e] at U
 omega
theorem Uc (a i:Nat):aD (aa a) (i/32)/2^(i%32)%2=a/2^i%2:=by
 rw[fY,Ub (Nat.mod_lt _ (by decide)),kF,Nat.div_div_eq_div_mul,<-Nat.pow_add,Nat.div_add_mod]
noncomputable def y8:List I->Option I:=a7 (fun z:Nat=>(aa z).length<=1000000000) (fun z=>[af z]) (fun z=>aI (dJ z))
theorem Ud {a:Nat} {e:Bool} (aC:(aa a).length<=1000000000):y8 [.sl ((aa a).map fun n=> .int .u32 (Z n)) e]=some (aI (dJ a)):=
 bk (fun z w h=>by simp[bz,bI] at h;simp[h]) a aC (by simp)
theorem Ue:aG Tryz.prog G 243 y8:=by
 refine bj mixed uj J_ fun a bt=>?_
 have aC:=dp a
 unfold i243
 refine ba (bg bx ?_)
 simp[aF]
 refine ba (ba (bg bx ?_))
 simp
 refine fy _ rfl (fun J=>?_) (fun J=>?_)
 · have J:a=0:=by simpa[jn] using J
   refine ba (bg bx ?_)
   simp
   try refine bU ?_
   simp[J,y6]
 · have J:a≠0:=by simpa[jn] using J
   have aE:=lr.2 J
   obtain⟨L,bd⟩:∃L,(aa a).length=L+1:=⟨_,(Nat.succ_pred_eq_of_pos aE).symm⟩
   have aW:=(jS (show L<(aa a).length by omega)).symm
   have k9:=Ua J
   rw[bd,Nat.add_sub_cancel] at k9
   have aL:=aC.aD L
   refine gp ?_
   simp
   refine ba (bg bx ?_)
   simp[bd,cQ (show 1<=L+1 by omega) (show L+1<9223372036854775808 by omega),aW]
   refine⟨by first|decide|rfl,?_⟩
   generalize aD (aa a) L=top at*
   refine ba ?_
   refine ln (id:=0) (fun m s=>∃n,m<4294967296/\n<=32/\n+dJ m=dJ top/\s.F 0=af a/\s.F 3=aI n/\s.F 4=bl m) (fun s=>s.F 0=af a/\s.F 3=aI (dJ top)) (fun _=>False) top ?_ ?_ ?_ (fun _ h=>h.elim)
   · exact ⟨0,aL,by omega,by simp,by simp,by simp,by simp⟩
   · rintro m s ⟨n,hm,ak,ad,f0,f3,f4⟩
     refine ba (ba (bg bx ?_))
     simp[f4]
     refine fy _ rfl (fun J=>?_) (fun J=>?_)
     · have J:0<m:=by simpa using J
       have qP:=y7 (show m≠0 by omega)
       have Uf:dJ top<=32:=o4.2 (by simpa using aL)
       refine gp ?_
       simp
       refine jA (ba (bg bx ?_))
       simp[f4,Nat.mod_eq_of_lt (show m/2<4294967296 by omega)]
       refine bg bx ?_
       simp[f3,dD (show n+1<9223372036854775808 by omega)]
       exact ⟨m/2,by omega,by omega,n+1,by omega,by omega,f0,rfl,rfl⟩
     · have J:m=0:=by simpa using J
       subst J
       rw[y6] at ad
       refine c5 ?_
       exact ⟨rfl,by simp[f0],by simp[f3];omega⟩
   · rintro s ⟨f0,f3⟩
     have Uf:dJ top<=32:=o4.2 (by simpa using aL)
     simp
     refine ba (bg bx ?_)
     simp[f0,f3,bd,cQ (show 1<=L+1 by omega) (show L+1<9223372036854775808 by omega),pZ (show 32*L<9223372036854775808 by omega),dD (show 32*L+dJ top<9223372036854775808 by omega)]
     try refine bU ?_
     simp[k9]
noncomputable def y9:List I->Option I:=a7 (fun z:Nat × Nat=>(aa z.1).length<=1000000000/\z.2<4611686018427387904) (fun z=>[af z.1,aI z.2]) (fun z=>bl (z.1/2^z.2%2))
theorem Ug {a i:Nat} {e:Bool} (aC:(aa a).length<=1000000000) (ab:i<4611686018427387904):y9 [.sl ((aa a).map fun n=> .int .u32 (Z n)) e,aI i]=some (bl (a/2^i%2)):=
 bk (fun z w h=>by simp[bz,bI] at h;simp[h]) (a,i) ⟨aC,ab⟩ (by simp)
theorem Uh:aG Tryz.prog G 244 y9:=by
 refine bj mixed uj J' fun z av=>?_
 obtain⟨a,i⟩:=z
 obtain⟨bt,ab⟩:=av
 simp only at bt ab|-
 have aC:=dp a
 have ad:=Uc a i
 obtain⟨q,aN⟩:∃q,q=i/32:=⟨_,rfl⟩
 obtain⟨r,aT⟩:∃r,r=i%32:=⟨_,rfl⟩
 have l9:r<32:=by omega
 rw[<-aN,<-aT] at ad
 rw[<-ad]
 unfold i244
 refine ba (bg bx ?_)
 simp[aF]
 refine ba (ba (bg bx ?_))
 simp[fq (show q<9223372036854775808 by omega),<-aN]
 refine fy _ rfl (fun J=>?_) (fun J=>?_)
 · have J:(aa a).length<=q:=by simpa using J
   refine ba (bg bx ?_)
   simp
   try refine bU ?_
   simp[qR J]
 · have J:q<(aa a).length:=by simpa using J
   have aW:=o1 J
   simp only[List.getElem?_map] at aW
   have aL:=aC.aD q
   generalize aD (aa a) q=x at*
   refine gp ?_
   simp
   refine ba (bg bx ?_)
   simp[fq (show q<9223372036854775808 by omega),<-aN,aW]
   refine ba (ba (bg bx ?_))
   simp
   refine ln (id:=0) (fun m s=>∃k,m=r - k/\k<=r/\s.F 1=aI i/\s.F 5=bl (x/2^k)/\s.F 6=aI k) (fun s=>s.F 5=bl (x/2^r)) (fun _=>False) r ?_ ?_ ?_ (fun _ h=>h.elim)
   · exact ⟨0,by omega,by omega,by simp,by simp,by simp⟩
   · rintro m s ⟨k,rfl,ag,f1,f5,f6⟩
     have ae:x/2^k<4294967296:=Nat.lt_of_le_of_lt (Nat.div_le_self _ _) aL
     refine ba (ba (bg bx ?_))
     simp[f1,f6,<-aT]
     refine fy _ rfl (fun J=>?_) (fun J=>?_)
     · have J:k<r:=by simpa using J
       refine gp ?_
       simp
       refine ba (jA (bg bx ?_))
       have e:x/2^k/2=x/2^(k+1):=by rw[Nat.div_div_eq_div_mul,Nat.pow_succ]
       simp[f5,e,Nat.mod_eq_of_lt (show x/2^(k+1)<4294967296 by omega)]
       refine bg bx ?_
       simp[f6,dD (show k+1<9223372036854775808 by omega)]
       exact ⟨r -(k+1),by omega,k+1,rfl,by omega,f1,rfl,rfl⟩
     · have J:k=r:=by simp at J;omega
       refine c5 ?_
       exact ⟨rfl,by simp[f5,J]⟩
   · intro s f5
     simp
     refine ba (bg bx ?_)
     simp[f5]
     try refine bU ?_
     simp
def qW (l:List Nat):Bool:=decide (l= []\/(l.length<=65536/\aD l (l.length - 1)≠0))
noncomputable def Dc:List I->Option I:=a7 (fun z:List Nat=>z.length<=1000000000) (fun z=>[bV z false]) (fun z=> .bool (qW z))
theorem Ui:aG Tryz.prog G 211 Dc:=by
 refine bj mixed uj TI fun l az=>?_
 unfold i211
 refine ba (bg bx ?_)
 simp[aF]
 refine ba (bg bx ?_)
 by_cases U:l= []
 · subst U
   simp
   try refine bU ?_
   simp[qW]
 · obtain⟨L,bd⟩:∃L,l.length=L+1:=⟨l.length - 1,by have:=List.length_pos_iff.2 U;omega⟩
   have aW:=(jS (show L<l.length by omega)).symm
   by_cases h2:L+1<=65536
   · simp[U,bd,h2,cQ (show 1<=L+1 by omega) (show L+1<9223372036854775808 by omega),aW]
     try refine bU ?_
     simp[qW,U,bd,h2,bne]
     rfl
   · simp[U,bd,h2]
     try refine bU ?_
     simp[qW,U,bd,h2]
end
section
attribute [local simp] c2 cN cq y2 y3 y4
theorem m8:∀ {l:List Nat} {j:Nat} (v:Nat),j<l.length->val (l.set j v)+aj j*aD l j=val l+aj j*v
 | [],j,v,h=>by simp at h
 | x::l,0,v,h=>by simp[val,fk,C2];omega
 | x::l,j+1,v,h=>by
   have a8:=m8 (l:=l) v (show j<l.length by simpa using h)
   simp only[List.set_cons_succ,val,yU,ea]
   have aq:aj j*4294967296*aD l j=4294967296*(aj j*aD l j):=by rw[Nat.mul_comm (aj j),Nat.mul_assoc]
   have au:aj j*4294967296*v=4294967296*(aj j*v):=by rw[Nat.mul_comm (aj j),Nat.mul_assoc]
   rw[aq,au]
   omega
theorem nG {l:List Nat} {j:Nat} (v i:Nat) (h:j<l.length):aD (l.set j v) i=if i=j then v else aD l i:=by
 simp only[aD,List.getD,List.getElem?_set]
 by_cases e:i=j
 · subst e;simp[h]
 · simp[Ne.symm e,e]
theorem m9 {l:List Nat} {j v:Nat} (h:Small l) (al:v<4294967296):Small (l.set j v):=fun x ae=>by
 rcases List.mem_or_eq_of_mem_set ae with ae|rfl
 · exact h x ae
 · exact al
theorem map_set (l:List Nat) (j v:Nat):(l.map fun n=>I.int .u32 (Z n)).set j (.int .u32 (Z v))=(l.set j v).map fun n=>I.int .u32 (Z n):=by
 rw[List.map_set]
theorem p5 (n:Nat):Small (List.replicate n 0):=fun x ae=>by
 rw[List.eq_of_mem_replicate ae];decide
theorem wA (n i:Nat):aD (List.replicate n 0) i=0:=by
 by_cases h:i<n
 · rw[jS (by simpa using h)];simp
 · exact qR (by simpa using h)
theorem Uj (n:Nat):List.replicate n (I.int .u32 (Z 0))=(List.replicate n 0).map fun n=>I.int .u32 (Z n):=by simp
theorem Dd (q:Nat) (o:List Nat):val (List.replicate q 0++o)=aj q*val o:=by
 rw[l8,sn,List.length_replicate,Nat.zero_add]
theorem Uk {P B x y c o u X q r:Nat} (l4:X=x*y+c) (a3:X=B*q+r) (h:o+P*c=u*y):(o+P*r)+P*B*q=(u+P*x)*y:=by
 have aq:P*X=P*(x*y)+P*c:=by rw[l4,Nat.mul_add]
 have au:P*X=P*B*q+P*r:=by rw[a3,Nat.mul_add,Nat.mul_assoc]
 rw[Nat.add_mul,Nat.mul_assoc P x y]
 omega
theorem Ul {a o i c tK:Nat} (h:o+aj i*c=a%aj i*tK):
 (o+aj i*(((a/aj i%4294967296)*tK+c)%4294967296))+aj (i+1)*(((a/aj i%4294967296)*tK+c)/4294967296)=a%aj (i+1)*tK:=by
 rw[l7,ea]
 exact Uk rfl (Nat.div_add_mod _ _).symm h
theorem Um {v P c n:Nat} (h:v+P*c=n) (ak:n<P):c=0:=by
 rcases Nat.eq_zero_or_pos c with aF|aF
 · exact aF
 · have:=Nat.le_mul_of_pos_right P aF
   omega
noncomputable def uq:List I->Option I:=a7 (fun z:Nat × Nat=>(aa z.1).length<=100000000/\z.2<=100000000) (fun z=>[af z.1,aI z.2]) (fun z=>af (z.1*2^z.2))
theorem KK {a n:Nat} {e:Bool} (aC:(aa a).length<=100000000) (ak:n<=100000000):uq [.sl ((aa a).map fun n=> .int .u32 (Z n)) e,aI n]=some (af (a*2^n)):=
 bk (fun z w h=>by simp[bz,bI] at h;simp[h]) (a,n) ⟨aC,ak⟩ (by simp)
theorem KL:aG Tryz.prog G 186 uq:=by
 refine bj mixed Da JZ fun z av=>?_
 obtain⟨a,n⟩:=z
 obtain⟨bt,ak⟩:=av
 simp only at bt ak|-
 have aC:=dp a
 obtain⟨q,aN⟩:∃q,q=n/32:=⟨_,rfl⟩
 obtain⟨r,aT⟩:∃r,r=n%32:=⟨_,rfl⟩
 have l9:r<32:=by omega
 have fT:aj q*(a*2^r)=a*2^n:=by
  rw[kF,Nat.mul_left_comm,<-Nat.pow_add,show 32*q+r=n by omega]
 have vJ:2^r<=2147483648:=Nat.pow_le_pow_right (n:=2) (by decide) (show r<=31 by omega)
 obtain⟨L,bd⟩:∃L,L=(aa a).length:=⟨_,rfl⟩
 have a4:a<aj L:=cu.1 (by omega)
 unfold i186
 refine ba (bg bx ?_)
 simp[aF]
 refine ba (bg bx ?_)
 simp
 refine ba (ba (bg bx ?_))
 simp
 refine ln (id:=0) (fun m s=>∃i,m=q - i/\i<=q/\s.F 0=af a/\s.F 1=aI n/\bD 1 s.h (s.F 5) ((List.replicate i 0).map fun n=> .int .u32 (Z n))/\s.F 6=e_ 0/\s.F 7=e_ 1/\s.F 8=aI i)
  (fun s=>s.F 0=af a/\s.F 1=aI n/\bD 1 s.h (s.F 5) ((List.replicate q 0).map fun n=> .int .u32 (Z n))/\s.F 6=e_ 0/\s.F 7=e_ 1) (fun _=>False) q ?_ ?_ ?_ (fun _ h=>h.elim)
 · exact ⟨0,by omega,by omega,by simp,by simp,by simp;exact bD.nil (by simp),by simp,by simp,by simp⟩
 · rintro m s ⟨i,rfl,ab,f0,f1,f5,f6,f7,f8⟩
   refine ba (ba (bg bx ?_))
   simp[f1,f8,<-aN,fq (show q<9223372036854775808 by omega)]
   refine fy _ rfl (fun J=>?_) (fun J=>?_)
   · have J:i<q:=by simpa using J
     refine gp ?_
     simp
     refine ba (jA (bg bx ?_))
     have aq:=qQ f5 (by decide) (bytes:=4) (by decide) (ys:=[I.int .u32 (Z 0)]) (by simp) (by simp) (by simp;omega)
     have au:=f5.app (ys:=[I.int .u32 (Z 0)]) (by simp) (by simp)
     have aV:((List.replicate i 0).map fun n=>I.int .u32 (Z n))++ [I.int .u32 (Z 0)]=(List.replicate (i+1) 0).map fun n=>I.int .u32 (Z n):=by simp[List.replicate_succ']
     simp only[aV] at aq au
     simp[aq]
     refine bg bx ?_
     simp[f8,dD (show i+1<9223372036854775808 by omega)]
     have ay:=au (s.h.next+4+4) (s.h.next+4+4+3) (s.h.next+4+2) s.h.aU s.h.aU (by omega) (by omega)
     exact ⟨q -(i+1),by omega,i+1,rfl,by omega,f0,f1,by simpa using ay,f6,f7,rfl⟩
   · have J:i=q:=by simp at J;omega
     subst J
     refine c5 ?_
     refine⟨rfl,by simp[f0],by simp[f1],?_,by simp[f6],by simp[f7]⟩
     simpa[ar] using f5.bump (s.h.next+4) (by omega)
 · rintro s ⟨f0,f1,f5,f6,f7⟩
   simp
   refine ba (ba (bg bx ?_))
   simp
   refine ln (id:=2) (fun m s=>∃i,m=r - i/\i<=r/\s.F 0=af a/\s.F 1=aI n/\bD 1 s.h (s.F 5) ((List.replicate q 0).map fun n=> .int .u32 (Z n))/\s.F 6=e_ 0/\s.F 7=e_ (2^i)/\s.F 9=aI i)
    (fun s=>s.F 0=af a/\bD 1 s.h (s.F 5) ((List.replicate q 0).map fun n=> .int .u32 (Z n))/\s.F 6=e_ 0/\s.F 7=e_ (2^r)) (fun _=>False) r ?_ ?_ ?_ (fun _ h=>h.elim)
   · refine⟨0,by omega,by omega,by simp[f0],by simp[f1],?_,by simp[f6],by simp[f7],by simp⟩
     simpa[ar] using f5.bump (s.h.next+1) (by omega)
   · clear f0 f1 f5 f6 f7 s
     rintro m s ⟨i,rfl,ab,f0,f1,f5,f6,f7,f9⟩
     refine ba (ba (bg bx ?_))
     simp[f1,f9,<-aT]
     refine fy _ rfl (fun J=>?_) (fun J=>?_)
     · have J:i<r:=by simpa using J
       have od:2*2^i<=2^r:=by
        rw[Nat.mul_comm,<-Nat.pow_succ];exact Nat.pow_le_pow_right (by decide) J
       refine gp ?_
       simp
       refine ba (jA (bg bx ?_))
       simp[f7,Nat.mod_eq_of_lt (show 2*2^i<18446744073709551616 by omega)]
       refine bg bx ?_
       simp[f9,dD (show i+1<9223372036854775808 by omega)]
       refine⟨r -(i+1),by omega,i+1,rfl,by omega,f0,f1,?_,f6,by rw[Nat.pow_succ,Nat.mul_comm],rfl⟩
       simpa using f5.bump (s.h.next+4+3+3) (by omega)
     · have J:i=r:=by simp at J;omega
       subst J
       refine c5 ?_
       refine⟨rfl,by simp[f0],?_,by simp[f6],by simp[f7]⟩
       simpa[ar] using f5.bump (s.h.next+4) (by omega)
   · clear f0 f1 f5 f6 f7 s
     rintro s ⟨f0,f5,f6,f7⟩
     simp
     refine ba (ba (bg bx ?_))
     simp
     generalize bw:2^r=B at*
     refine ln (id:=4) (fun m s=>∃(o:List Nat) (c:Nat),m=L+1 - o.length/\o.length<=L+1/\Small o/\c<4294967296/\val o+aj o.length*c=a%aj o.length*B/\
      s.F 0=af a/\bD 1 s.h (s.F 5) ((List.replicate q 0++o).map fun n=> .int .u32 (Z n))/\s.F 6=e_ c/\s.F 7=e_ B/\s.F 10=aI o.length)
      (fun s=>∃o:List Nat,Small o/\o.length=L+1/\val o=a*B/\bD 1 s.h (s.F 5) ((List.replicate q 0++o).map fun n=> .int .u32 (Z n))) (fun _=>False) (L+1) ?_ ?_ ?_ (fun _ h=>h.elim)
     · refine⟨[],0,by simp,by simp,Small.nil,by simp,by simp[val,fk,Nat.mod_one],by simp[f0],?_,by simp[f6],by simp[f7],by simp⟩
       simpa[ar] using f5.bump (s.h.next+1) (by omega)
     · clear f0 f5 f6 f7 s
       rintro m s ⟨o,c,rfl,fZ,fl,qU,al,f0,f5,f6,f7,f10⟩
       refine ba (ba (bg bx ?_))
       simp[f0,f10,<-bd]
       refine fy _ rfl (fun J=>?_) (fun J=>?_)
       · have lj:o.length<=L:=by simpa using J
         refine gp ?_
         simp
         have t1:=sr (e:=false) (i:=o.length) aC (by omega) (by omega)
         have s1:=aC.aD o.length
         have ez:=Ul al
         rw[<-fY] at ez
         generalize aD (aa a) o.length=x at*
         have ag6:x*B<=9223372034707292160:=Nat.mul_le_mul (show x<=4294967295 by omega) vJ
         generalize l4:x*B+c=X at*
         refine ba (jA (ba (bg bx ?_)))
         simp[f0,f6,f7,f10,t1,Nat.mod_eq_of_lt (show x*B<18446744073709551616 by omega),l4,Nat.mod_eq_of_lt (show X<18446744073709551616 by omega)]
         have aq:=qQ f5 (by decide) (bytes:=4) (by decide) (ys:=[I.int .u32 (Z (X%4294967296))]) (by simp) (by simp) (by simp;omega)
         have au:=f5.app (ys:=[I.int .u32 (Z (X%4294967296))]) (by simp) (by simp)
         have aV:((List.replicate q 0++o).map fun n=>I.int .u32 (Z n))++ [I.int .u32 (Z (X%4294967296))]=(List.replicate q 0++(o++ [X%4294967296])).map fun n=>I.int .u32 (Z n):=by simp
         simp only[aV] at aq au
         refine ba (bg bx ?_)
         simp only[List.map_append,List.map_cons,List.map_nil,List.map_replicate] at aq au
         simp[aq]
         refine bg bx ?_
         simp[Nat.mod_eq_of_lt (show X/4294967296<18446744073709551616 by omega)]
         refine bg bx ?_
         simp[f10,dD (show o.length+1<9223372036854775808 by omega)]
         have ay:=au (s.h.next+4+8+7) (s.h.next+4+8+7+3+3) (s.h.next+4+8+5) s.h.aU s.h.aU (by omega) (by omega)
         refine⟨L+1 -(o.length+1),by omega,o++ [X%4294967296],by simp,by simp;omega,oa.2 ⟨fl,lq.2 ⟨by omega,Small.nil⟩⟩,X/4294967296,by omega,?_,f0,by simpa using ay,rfl,f7,by simp⟩
         rw[l8,List.length_append,List.length_singleton]
         simpa[val] using ez
       · have jj:o.length=L+1:=by simp at J;omega
         refine c5 ?_
         have Un:a<aj (L+1):=by have:=jD L;rw[ea];omega
         have Uo:a*B<aj (L+1):=by
          rw[ea]
          exact Nat.mul_lt_mul_of_lt_of_le a4 (by omega) (by omega)
         rw[jj,Nat.mod_eq_of_lt Un] at al
         have gb:=Um al Uo
         subst gb
         refine⟨rfl,o,fl,jj,by simpa using al,?_⟩
         simpa[ar] using f5.bump (s.h.next+4) (by omega)
     · clear f0 f5 f6 f7 s
       rintro s ⟨o,fl,fZ,al,f5⟩
       simp
       obtain⟨ids,ay⟩:=f5.out (wu _)
       have b7:=p4 (l:=List.replicate q 0++o) (e:=decide (((List.replicate q 0++o).map fun n=>I.int .u32 (Z n))= [])) (oa.2 ⟨p5 q,fl⟩) (by simp;omega)
       rw[Dd,al,fT] at b7
       refine ba (bg bx ?_)
       generalize ((List.replicate q 0++o).map fun n=>I.int .u32 (Z n))=xs at*
       simp[ay,b7]
       try refine bU ?_
       simp
end
end
section
open Go Go.Eng Go.RowKit
attribute [local simp] aY.m aY.o aY.n aY.g fg eF cV cJ c4 evalOp.eq_1 evalOp.eq_2 evalOp.eq_3 evalOp.eq_4 evalOp.eq_5 evalOp.eq_6 evalOp.eq_7 evalOp.eq_8 evalOp.eq_9 evalOp.eq_10 evalOp.eq_11 evalOp.eq_12 evalOp.eq_13 evalOp.eq_14 evalOp.eq_15 evalOp.eq_16 evalOp.eq_17 evalOp.eq_18 evalOp.eq_19 evalOp.eq_20 evalOp.eq_21 evalOp.eq_22 evalOp.eq_23 evalOp.eq_24 evalOp.eq_25 evalOp.eq_27 evalOp.eq_28 evalOp.eq_29 iK aR.ev cI ar ai.new ec I.cells I.cb I.eb I.ei gL gN gM gO gQ gP hY hZ h0 fM fN cut partOf bound elems h4 h5 h6 h7 h8 h9 h_ ia ib ic ie ig gh ih ij ik il im iq ir iu iv iw ix iy iz iA iB iC iD iE iF iG iH iI iJ eE eo dZ e6 gR gf ai.close ai.set gy iL iM iN h3 gg fh eY dv e8 gu fQ e9 gv gw gx e3 e4 e5 e2 gS bp gq gT gr gU gV eW gW eX gX gY gZ fG hX g0 g1 g2 g3 g4 g5 g6 g7 g8 g9 g_ g' ha hb hc hd hf hg hh fP hi hj hk hl hn ho hp hq hr hs ht hv hx hy hz
attribute [local simp high] hU hV hW hA hB hC hD hE hF hG hH hI hJ hK hL hM hN hO hP hQ hR hS hT
attribute [local simp] c2 cN cq
section
noncomputable def su:FuncId->Option (List I->Option I):=cf [(178,nF),(243,y8),(244,y9),(186,uq),(212,qT),(213,qV)]
theorem Up:∀f T,su f=some T->aG Tryz.prog G f T:=cg (by simp only[List.forall_mem_cons];exact ⟨wy,Ue,Uh,KL,C',Db,fun _ h=>absurd h (by simp)⟩)
theorem Uq:su 178=some nF:=rfl
theorem Ur:su 243=some y8:=rfl
theorem Us:su 244=some y9:=rfl
theorem Ut:su 186=some uq:=rfl
theorem Uu:su 212=some qT:=rfl
theorem Uv:su 213=some qV:=rfl
attribute [local simp] Uq Ur Us Ut Uu Uv
theorem Uw {a b m:Nat} (ad:0<b):2*(a/2^(m+1)%b)+a/2^m%2=(if b<=2*(a/2^(m+1)%b)+a/2^m%2 then b else 0)+a/2^m%b/\
 a/2^m/b=2*(a/2^(m+1)/b)+(if b<=2*(a/2^(m+1)%b)+a/2^m%2 then 1 else 0):=by
 have e:a/2^(m+1)=a/2^m/2:=by rw[Nat.pow_succ,Nat.div_div_eq_div_mul]
 rw[e]
 generalize a/2^m=x
 obtain⟨h,cK⟩:∃h,h=x/2:=⟨_,rfl⟩
 have ae:x=2*h+x%2:=by omega
 rw[<-cK]
 generalize x%2=t at*
 have aL:2*h+t=x:=by omega
 have U:=Nat.div_add_mod h b
 have h2:h%b<b:=Nat.mod_lt _ ad
 generalize aN:h/b=q at*
 generalize aT:h%b=r at*
 have aB:x=b*(2*q)+(2*r+t):=by
  rw[Nat.mul_left_comm];omega
 have sv:t<2:=by omega
 by_cases hle:b<=2*r+t
 · simp only[if_pos hle]
   have aS:x=b*(2*q+1)+(2*r+t - b):=by rw[Nat.mul_add,Nat.mul_one];omega
   have bB:2*r+t - b<b:=by omega
   constructor
   · have:x%b=2*r+t - b:=by rw[aS,Nat.mul_add_mod];exact Nat.mod_eq_of_lt bB
     omega
   · rw[aS,Nat.mul_add_div ad,Nat.div_eq_of_lt bB]
 · simp only[if_neg hle]
   have bB:2*r+t<b:=by omega
   constructor
   · have:x%b=2*r+t:=by rw[aB,Nat.mul_add_mod];exact Nat.mod_eq_of_lt bB
     omega
   · rw[aB,Nat.mul_add_div ad,Nat.div_eq_of_lt bB]
theorem Ux {v m:Nat} (h:v%2^(m+1)=0):v/aj (m/32)%4294967296%2^(m%32+1)=0:=by
 obtain⟨c,J⟩:=Nat.dvd_of_mod_eq_zero h
 have e:2^(m+1)=aj (m/32)*2^(m%32+1):=by
  rw[kF,<-Nat.pow_add];congr 1;omega
 rw[J,e,Nat.mul_assoc,Nat.mul_div_cancel_left _ (jD _)]
 have a3:(2:Nat)^(m%32+1)∣4294967296:=⟨2^(31 - m%32),by
  rw[<-Nat.pow_add,show m%32+1+(31 - m%32)=32 by omega]⟩
 rw[Nat.mod_mod_of_dvd _ a3,Nat.mul_mod_right]
theorem Uy {d k:Nat} (a3:d<4294967296) (ag:k<32) (h:d%2^(k+1)=0):d+2^k<4294967296:=by
 obtain⟨c,J⟩:=Nat.dvd_of_mod_eq_zero h
 have e:4294967296=2^(k+1)*2^(31 - k):=by rw[<-Nat.pow_add,show k+1+(31 - k)=32 by omega]
 have h2:c<2^(31 - k):=by
  rw[J,e] at a3
  exact Nat.lt_of_mul_lt_mul_left a3
 have aB:2^(k+1)*c+2^(k+1)<=2^(k+1)*2^(31 - k):=by rw[<-Nat.mul_succ];exact Nat.mul_le_mul_left _ h2
 rw[<-e,<-J] at aB
 have aS:0<2^k:=Nat.pow_pos (by decide)
 rw[Nat.pow_succ] at aB
 omega
noncomputable def ur:List I->Option I:=a7 (fun z:Nat × Nat=>(aa z.1).length<=1000000/\(aa z.2).length<=1000000) (fun z=>[af z.1,af z.2])
 (fun z=>if z.2=0 then .bL [.sl [] false,.sl [] false,aI 3] else .bL [af (z.1/z.2),af (z.1%z.2),aI 0])
theorem KM {a b:Nat} {e e':Bool} (aC:(aa a).length<=1000000) (ad:(aa b).length<=1000000):
 ur [.sl ((aa a).map fun n=> .int .u32 (Z n)) e,.sl ((aa b).map fun n=> .int .u32 (Z n)) e']=some (if b=0 then .bL [.sl [] false,.sl [] false,aI 3] else .bL [af (a/b),af (a%b),aI 0]):=
 bk (fun z w h=>by simp[bz,bI] at h;simp[h]) (a,b) ⟨aC,ad⟩ (by simp)
structure KN (a b:Nat) (m:Nat) (l:List Nat) (s:aK) (q:Nat):Prop where
 len:l.length=(aa a).length
 mw:Small l
 v:val l=a/2^m/b*2^m
 f0:s.F 0=af a
 f1:s.F 1=af b
 f7:s.F 7= .ref q 0 (aa a).length (aa a).length
 f8:∃e,s.F 8=bV (aa (a/2^m%b)) e
 f9:s.F 9= .int .i64 (eQ m)
 cells:s.h.cells q=some (l.map fun n=> .int .u32 (Z n))
 cp:s.h.shut q=false
 dK:q<s.h.next
theorem KO:aG Tryz.prog G 182 ur:=by
 refine bj mixed Up JV fun z av=>?_
 obtain⟨a,b⟩:=z
 obtain⟨bt,bm⟩:=av
 simp only at bt bm|-
 have aC:=dp a
 unfold i182
 refine ba (bg bx ?_)
 simp[aF]
 refine ba (ba (bg bx ?_))
 simp
 refine fy _ rfl (fun J=>?_) (fun J=>?_)
 · have J:b=0:=by simpa[jn] using J
   refine ba (bg bx ?_)
   simp
   try refine bU ?_
   simp[J]
 · have cP:b≠0:=by simpa[jn] using J
   refine gp ?_
   simp[cP]
   obtain⟨L,bd⟩:∃L,L=(aa a).length:=⟨_,rfl⟩
   have a4:a<aj L:=cu.1 (by omega)
   have KP:a<2^dJ a:=o4.1 (Nat.le_refl _)
   have k9:dJ a<=32*L:=by rw[o4,<-kF];exact a4
   refine ba (bg bx ?_)
   simp[<-bd,show Z L*4<=140737488355328 by simp only[Z];omega]
   refine ba (ba (bg bx ?_))
   simp[Ud (a:=a) (e:=false) (by omega),jT (show dJ a<9223372036854775808 by omega)]
   refine ln (id:=0) (fun m s=>∃l q,m<=dJ a/\KN a b m l s q) (fun s=>∃l q,KN a b 0 l s q) (fun _=>False) (dJ a) ?_ ?_ ?_ (fun _ h=>h.elim)
   · refine⟨List.replicate L 0,3+3+2,Nat.le_refl _,⟨by simp[bd],p5 _,by rw[sn,Nat.div_eq_of_lt KP];simp,by simp,by simp,by simp[bd],⟨true,by simp[Nat.div_eq_of_lt KP,eD]⟩,by simp,by simp,by simp,by simp⟩⟩
   · rintro m s ⟨l,q,hm,ah⟩
     have f9:=ah.f9
     refine ba (ba (bg bx ?_))
     cases m with
     | zero=>
       rw[p3] at f9
       simp[f9]
       refine fy _ rfl (fun J=>absurd J (by decide)) (fun J=>?_)
       refine c5 ?_
       exact ⟨rfl,l,q,⟨ah.len,ah.mw,ah.v,by simp[ah.f0],by simp[ah.f1],by simp[ah.f7],by simpa using ah.f8,by simp[f9,p3],by simp[ah.cells],by simp[ah.cp],by have:=ah.dK;simp;omega⟩⟩
     | succ m=>
       rw[ob] at f9
       simp[f9]
       refine fy _ rfl (fun J=>?_) (fun J=>(by simp at J))
       refine gp ?_
       simp
       have aT:=Nat.mod_lt (a/2^(m+1)) (show 0<b by omega)
       obtain⟨d1,d2⟩:=Uw (a:=a) (m:=m) (show 0<b by omega)
       have uu:(aa (a/2^(m+1)%b)).length<=1000000:=Nat.le_trans (fB (Nat.le_of_lt aT)) bm
       have bB:a/2^m%2<2:=Nat.mod_lt _ (by decide)
       have ag7:=Nat.mod_lt (a/2^m) (show 0<b by omega)
       have al:=ah.v
       obtain⟨qI,Uz⟩:=ah.f8
       have nH:=ah.dK
       generalize sw:a/2^(m+1)%b=r at*
       generalize UA:a/2^m%2=t at*
       have UB:(aa (2*r+t)).length<=1000001:=Nat.le_trans (fB (show 2*r+t<=b+b by omega)) (Nat.le_trans (ki b b) (by omega))
       have ag8:(aa (2*r)).length<=1000001:=Nat.le_trans (fB (by omega)) UB
       refine ba (jA (ba (bg bx ?_)))
       have t1:=KK (a:=r) (n:=1) (e:=qI) (by omega) (by omega)
       rw[show r*2^1=2*r by omega] at t1
       simp[Uz,t1]
       refine IN (fun an=>an.F 8=af (2*r+t)/\an.F 0=af a/\an.F 1=af b/\an.F 7= .ref q 0 L L/\an.F 9=aI m/\an.h.cells q=some (l.map fun n=> .int .u32 (Z n))/\an.h.shut q=false/\q<an.h.next) ?_ ?_
       · refine ba (bg bx ?_)
         simp[ah.f0,f9,Ug (a:=a) (i:=m) (e:=false) (by omega) (by omega),UA]
         refine fy _ rfl (fun J=>?_) (fun J=>?_)
         · have J:t=1:=by simpa using J
           refine bg bx ?_
           have t2:=C_ (a:=2*r) (b:=1) (e:=false) (e':=true) (by omega) (by rw[m7];decide)
           rw[m7] at t2
           simp only[List.map_cons,List.map_nil] at t2
           simp[t2,J,ah.f0,ah.f1,ah.f7,f9,ah.cells,ah.cp,<-bd]
           omega
         · have J:t=0:=by simp at J;omega
           refine gp ?_
           simp[J,ah.f0,ah.f1,ah.f7,f9,ah.cells,ah.cp,<-bd]
           omega
       · rintro an ⟨jU,p6,bJ,j',qX,gc,gs,ag9⟩
         have t3:=y5 (a:=2*r+t) (b:=b) (e:=false) (e':=false) (by omega) (by omega)
         by_cases hle:b<=2*r+t
         · simp only[if_pos hle] at d1 d2
           rw[if_neg (by omega)] at t3
           obtain⟨j,aA⟩:∃j,j=m/32:=⟨_,rfl⟩
           obtain⟨k,ag⟩:∃k,k=m%32:=⟨_,rfl⟩
           have KQ:=Ux (v:=val l) (m:=m) (by rw[al,Nat.mul_mod_left])
           rw[<-p2 ah.mw,<-aA,<-ag] at KQ
           have De:j<L:=by
            have:=KI.1 (show m<dJ a by omega)
            omega
           have wB:k<32:=by omega
           have KR:=Uy (ah.mw.aD j) wB KQ
           have hlen:=ah.len
           have aW:=(jS (show j<l.length by omega)).symm
           have tU:=m8 (l:=l) (j:=j) (aD l j+2^k) (by omega)
           have UC:aj j*2^k=2^m:=by rw[kF,<-Nat.pow_add];congr 1;omega
           have UD:=m9 (j:=j) ah.mw KR
           have wC:=map_set l j (aD l j+2^k)
           rw[Nat.mul_add,UC] at tU
           have UE:2^k<4294967296:=by omega
           generalize a3:aD l j=d at*
           refine ba (bg bx ?_)
           simp[jU,bJ,t3]
           refine ba (bg bx ?_)
           simp
           refine fy _ rfl (fun _=>?_) (fun J=>absurd J (by simp))
           refine ba (bg bx ?_)
           simp
           refine bg bx ?_
           simp[j',qX,gc,gs,<-aA,<-ag,fq (show j<9223372036854775808 by omega),aW,De,sizedB,hlen,<-bd,show L≠0 by omega,show 0<L by omega,a3,Nat.min_eq_left (Nat.le_of_lt wB),Nat.mod_eq_of_lt UE,Nat.mod_eq_of_lt KR,show q<an.h.next+8+1+2 by omega]
           refine⟨by first|decide|rfl,?_⟩
           refine bg bx ?_
           simp[qX,jT (show m<9223372036854775808 by omega)]
           refine⟨m,by omega,by omega,l.set j (d+2^k),q,⟨by simp[hlen],UD,?_,by simp[p6],by simp[bJ],by simp[j',bd],⟨false,by simp[bz,bI];omega⟩,by simp,by simp,by simp[gs],by simp;omega⟩⟩
           have aq:val l=2*(a/2^(m+1)/b)*2^m:=by rw[al,Nat.pow_succ,Nat.mul_comm (2^m) 2,<-Nat.mul_assoc,Nat.mul_comm _ 2]
           rw[d2,Nat.add_mul,Nat.one_mul,<-aq]
           omega
         · simp only[if_neg hle] at d1 d2
           rw[if_pos (by omega)] at t3
           refine ba (bg bx ?_)
           simp[jU,bJ,t3]
           refine ba (bg bx ?_)
           simp
           refine fy _ rfl (fun J=>absurd J (by simp)) (fun _=>?_)
           refine gp ?_
           simp
           refine bg bx ?_
           simp[qX,jT (show m<9223372036854775808 by omega)]
           refine⟨m,by omega,by omega,l,q,⟨ah.len,ah.mw,?_,by simp[p6],by simp[bJ],by simp[j',bd],⟨false,by simp[jU,bz,bI];omega⟩,by simp,by simp[gc],by simp[gs],by simp;omega⟩⟩
           rw[al,d2,Nat.pow_succ 2 m,Nat.mul_comm (2^m) 2,<-Nat.mul_assoc,Nat.mul_comm _ 2,Nat.add_zero]
   · rintro s ⟨l,q,ah⟩
     have al:=ah.v
     obtain⟨qI,f8⟩:=ah.f8
     have hlen:=ah.len
     simp only[Nat.pow_zero,Nat.div_one,Nat.mul_one] at al f8
     simp
     refine ba (bg bx ?_)
     have UF:=Nat.mod_lt a (show 0<b by omega)
     have b7:=p4 (e:=false) ah.mw (by omega)
     rw[al] at b7
     have KS:=p4 (e:=qI) (dp (a%b)) (Nat.le_trans (fB (Nat.le_of_lt UF)) (by omega))
     rw[cq] at KS
     have ef:List.take L (l.map fun n=>I.int .u32 (Z n))=l.map fun n=>I.int .u32 (Z n):=List.take_of_length_le (by simp;omega)
     simp[ah.f7,f8,ah.cells,<-bd,hlen,ef,b7,KS]
     try refine bU ?_
     simp
noncomputable def uv:List I->Option I:=a7 (fun z:Nat × Nat=>(aa z.1).length<=1000000/\(aa z.2).length<=1000000) (fun z=>[af z.1,af z.2]) (fun z=>af (Nat.gcd z.1 z.2))
theorem KT {a b:Nat} {e e':Bool} (aC:(aa a).length<=1000000) (ad:(aa b).length<=1000000):
 uv [.sl ((aa a).map fun n=> .int .u32 (Z n)) e,.sl ((aa b).map fun n=> .int .u32 (Z n)) e']=some (af (Nat.gcd a b)):=
 bk (fun z w h=>by simp[bz,bI] at h;simp[h]) (a,b) ⟨aC,ad⟩ (by simp)
noncomputable def KU:FuncId->Option (List I->Option I):=cf [(182,ur)]
theorem UG:∀f T,KU f=some T->aG Tryz.prog G f T:=cg (by simp only[List.forall_mem_cons];exact ⟨KO,fun _ h=>absurd h (by simp)⟩)
theorem UH:KU 182=some ur:=rfl
attribute [local simp] UH
theorem KV:aG Tryz.prog G 113 uv:=by
 refine bj mixed UG Jz fun z av=>?_
 obtain⟨a,b⟩:=z
 obtain⟨bt,bm⟩:=av
 simp only at bt bm|-
 unfold i113
 refine ba (bg bx ?_)
 simp[aF]
 refine ba ?_
 refine ln (id:=0) (fun m s=>∃x,(aa x).length<=1000000/\(aa m).length<=1000000/\Nat.gcd x m=Nat.gcd a b/\s.F 0=af x/\s.F 1=af m) (fun s=>s.F 0=af (Nat.gcd a b)) (fun _=>False) b ?_ ?_ ?_ (fun _ h=>h.elim)
 · exact ⟨a,bt,bm,rfl,by simp,by simp⟩
 · rintro m s ⟨x,KW,lm,aW,f0,f1⟩
   refine ba (ba (bg bx ?_))
   simp[f1]
   refine fy _ rfl (fun J=>?_) (fun J=>?_)
   · have hm:m≠0:=lr.1 (by simpa using J)
     have t1:=KM (a:=x) (b:=m) (e:=false) (e':=false) KW lm
     rw[if_neg hm] at t1
     have bB:=Nat.mod_lt x (show 0<m by omega)
     refine gp ?_
     simp
     refine jA (ba (bg bx ?_))
     simp[f0,f1,t1]
     refine ba (bg bx ?_)
     simp[f1]
     refine bg bx ?_
     simp
     refine⟨x%m,bB,m,lm,Nat.le_trans (fB (Nat.le_of_lt bB)) lm,?_,rfl,rfl⟩
     rw[<-aW,Nat.gcd_comm x m,Nat.gcd_rec m x,Nat.gcd_comm]
   · have hm:m=0:=by
      have:(aa m).length=0:=by simp at J;simp[J]
      exact Ku.1 this
     subst hm
     refine c5 ?_
     rw[Nat.gcd_zero_right] at aW
     exact ⟨rfl,by simp[f0,aW]⟩
 · intro s f0
   simp
   refine ba (bg bx ?_)
   simp[f0]
   try refine bU ?_
   simp
end
end
section
set_option maxHeartbeats 8000000
open Go Go.Eng Go.RowKit
attribute [local simp] aY.m aY.o aY.n aY.g fg eF cV cJ c4 evalOp.eq_1 evalOp.eq_2 evalOp.eq_3 evalOp.eq_4 evalOp.eq_5 evalOp.eq_6 evalOp.eq_7 evalOp.eq_8 evalOp.eq_9 evalOp.eq_10 evalOp.eq_11 evalOp.eq_12 evalOp.eq_13 evalOp.eq_14 evalOp.eq_15 evalOp.eq_16 evalOp.eq_17 evalOp.eq_18 evalOp.eq_19 evalOp.eq_20 evalOp.eq_21 evalOp.eq_22 evalOp.eq_23 evalOp.eq_24 evalOp.eq_25 evalOp.eq_27 evalOp.eq_28 evalOp.eq_29 iK aR.ev cI ar ai.new ec I.cells I.cb I.eb I.ei gL gN gM gO gQ gP hY hZ h0 fM fN cut partOf bound elems h4 h5 h6 h7 h8 h9 h_ ia ib ic ie ig gh ih ij ik il im iq ir iu iv iw ix iy iz iA iB iC iD iE iF iG iH iI iJ eE eo dZ e6 gR gf ai.close ai.set gy iL iM iN h3 gg fh eY dv e8 gu fQ e9 gv gw gx e3 e4 e5 e2 gS bp gq gT gr gU gV eW gW eX gX gY gZ fG hX g0 g1 g2 g3 g4 g5 g6 g7 g8 g9 g_ g' ha hb hc hd hf hg hh fP hi hj hk hl hn ho hp hq hr hs ht hv hx hy hz
attribute [local simp high] hU hV hW hA hB hC hD hE hF hG hH hI hJ hK hL hM hN hO hP hQ hR hS hT
attribute [local simp] aF List.getElem?_cons_zero List.getElem?_cons_succ dD cQ fq Nat.mod_eq_of_lt iV iW iX iY fz iZ i_ i'
section
attribute [local irreducible] a'
attribute [local simp] c2 cN cq
def y_:Option TypeDesc->Bool
 | some (.slice _)=>true
 | _=>false
theorem UI:∃e,Tryz.prog.underlying 23=some (.slice e):=by
 have h:y_ (Tryz.prog.underlying 23)=true:=by kernel_rfl
 unfold y_ at h
 split at h
 · rename_i e he;exact ⟨e,he⟩
 · cases h
theorem KX (w:World) (A:Option Addr) (c:Nat):Sem.run Tryz.prog (binOp BinOp.eql 23 (Value.slice A 0 c) (Value.slice none 0 0)) w= .ok (.bool A.isNone) w:=by
 obtain⟨e,hu⟩:=UI
 have aq:(Op.equal 23 (.slice A 0 c) (.slice none 0 0)).run Tryz.prog w= .ok A.isNone w:=by
  unfold Op.equal Op.maxDepth Op.equalIn
  cases A<;>simp[run_underlying hu]
 show (do pure (.bool (<-Op.equal 23 (.slice A 0 c) (.slice none 0 0))):Sem Value).run Tryz.prog w=_
 simp[aq]
theorem UJ (w:World) (R:Ending->World->Prop) (c:Nat) (h:R (.returned (.slice none 0 0)) w):Calls Tryz.prog 238 #[.slice none 0 c] w R:=by
 have aq:=fun w=>KX w none c
 simp only[Option.isNone_none] at aq
 go_enter Tryz.func238,Tryz.ntmps238
 go_wp2
 exact h
theorem UK (w:World) (R:Ending->World->Prop) (A:Addr) (c:Nat) (h:∀t,R (.returned (.slice (some ⟨w.heap.size,0,none⟩) 0 0)) (w.alloc (.cells #[] t))):Calls Tryz.prog 238 #[.slice (some A) 0 c] w R:=by
 have aq:=fun w=>KX w (some A) c
 simp only[Option.isNone_some] at aq
 go_enter Tryz.func238,Tryz.ntmps238
 go_wp2
 exact h _
theorem y' (w:World) (ok:Nat->Prop) (A:Option Addr):dh w ok (.sl [] false) (.slice A 0 0):=
 .sl [] false A 0 1 (fun _ _=>undef) (Nat.le_refl _) (fun h=>by cases h) (fun i h=>absurd h (by simp)) (fun i j h=>absurd h (by simp)) (fun h=>absurd h (by simp)) (fun i h=>absurd h (by simp))
def KY:List I->Option I
 | [.sl [] _]=>some (.sl [] false)
 | _=>none
theorem UL:aG Tryz.prog G 238 KY:=by
 intro args v ct ok w dd cW e7 pT
 unfold KY at ct
 split at ct<;>try(cases ct;done)
 rename_i e
 cases ct
 have aw:dd.size=1:=by simpa using cW
 obtain⟨x,rfl⟩:∃x,dd= #[x]:=by
  match dd,aw with
  | ⟨[x]⟩,_=>exact ⟨x,rfl⟩
 have aF:=e7 0 (by simp) (by simp)
 simp only[List.getElem_cons_zero] at aF
 refine .inl ⟨yt Tryz.func238 rfl (by decide) _ _,?_⟩
 cases aF with
 | sl _ _ A c _ _ _ _ _ _ _ _=>
   cases A with
   | none=>exact UJ _ _ _ ⟨_,rfl,y' _ _ _,Below.refl _ _⟩
   | some A=>exact UK _ _ _ _ fun t=>⟨_,rfl,y' _ _ _,(Below.refl _ _).alloc (Nat.le_refl _) _⟩
theorem UM:aG Tryz.prog G 238 (a7 (fun l:List Nat=>l≠ []/\l.length<=1073741824) (fun l=>[bV l false]) (fun l=>bV l false)):=by
 refine bj mixed uj C1 fun l av=>?_
 obtain⟨ak,az⟩:=av
 have U:0<l.length:=List.length_pos_iff.2 ak
 have ap:=qQ (bD.nil (sz:=1) (h:=aF) (by simp[aF])) (by decide) (bytes:=4) (by decide) (ys:=l.map fun n=> .int .u32 (Z n)) (by simpa using U) (by simp[I.cells,I.cb]) (by simp;omega)
 simp only[aF,List.length_nil,Nat.zero_add,List.length_map,List.nil_append] at ap
 unfold i238
 refine aM [0,2,4] fun F K=>?_
 obtain⟨f0,f2,f4⟩:=K
 have H:=br U ap
 have K:=b3 f0 f2 f4;clear f0 f2 f4
 refine bu [0,2,4] fun F k=>?_;clear K H
 obtain⟨f0,f2,f4⟩:=k
 rw[List.take_of_length_le (by simp)]
 simp
theorem KZ {P:Program} {G:Nat->Option I} {f:FuncId} {K0 K1 T:List I->Option I} (U:aG P G f K0) (h2:aG P G f K1) (h:∀args v,T args=some v->K0 args=some v\/K1 args=some v):aG P G f T:=by
 intro args v ct
 rcases h args v ct with h|h
 · exact U args v h
 · exact h2 args v h
theorem K2 {v:I} (h:v.loose= .sl [] false):∃e,v= .sl [] e:=by
 cases v<;>simp only[I.loose] at h<;>try(cases h;done)
 rename_i xs e
 cases xs with
 | nil=>exact ⟨e,rfl⟩
 | cons x xs=>simp[kS] at h
noncomputable def wD:List I->Option I:=a7 (fun l:List Nat=>l.length<=1073741824) (fun l=>[bV l false]) (fun l=>bV l false)
theorem K3 {l:List Nat} {e:Bool} (az:l.length<=1073741824):wD [.sl (l.map fun n=> .int .u32 (Z n)) e]=some (bV l false):=
 bk (fun z w h=>by simp[bz] at h;simp[h]) l az (by simp)
theorem K4:aG Tryz.prog G 238 wD:=
 KZ UL UM fun args v ct=>by
  unfold wD a7 at ct
  obtain⟨l,U,h2,rfl⟩:=ud ct
  by_cases ak:l= []
  · subst ak
    left
    match args,h2 with
    | [],h2=>simp at h2
    | _::_::_,h2=>simp at h2
    | [x],h2=>
      simp only[List.map_cons,List.map_nil,List.cons.injEq,and_true] at h2
      obtain⟨e,rfl⟩:=K2 h2.symm
      rfl
  · right
    exact bk (fun z w h=>by simp[bz] at h;simp[h]) l ⟨ak,U⟩ h2.symm
noncomputable def K5:FuncId->Option (List I->Option I):=cf [(238,wD)]
theorem UN:∀f T,K5 f=some T->aG Tryz.prog G f T:=cg (by simp only[List.forall_mem_cons];exact ⟨K4,fun _ h=>absurd h (by simp)⟩)
theorem UO:K5 238=some wD:=rfl
attribute [local simp] UO
noncomputable def kG:List I->Option I:=a7 (fun z:List Nat=>Small z/\z.length<=1073741824) (fun z=>[bV z false]) (fun z=>af (val z))
theorem o5 {l:List Nat} {e:Bool} (h:Small l) (az:l.length<=1073741824):kG [.sl (l.map fun n=> .int .u32 (Z n)) e]=some (af (val l)):=
 bk (fun z w h=>by simp[bz] at h;simp[h]) l ⟨h,az⟩ (by simp)
theorem p7:aG Tryz.prog G 170 kG:=by
 refine bj mixed UN CY fun l av=>?_
 obtain⟨aw,az⟩:=av
 unfold i170
 refine aM [0,2,3,15] fun F K=>?_
 obtain⟨f0,f2,f3,f15⟩:=K
 have H:=trivial
 have K:=bK f0 f2 f3 f15;clear f0 f2 f3 f15
 refine bu [0,2,3,15] fun F k=>?_;clear K H
 obtain⟨f0,f2,f3,f15⟩:=k
 refine ln (id:=0) (fun m s=>m<=l.length/\(∀i,m<=i->aD l i=0)/\s.F 0=bV l false/\s.F 3=aI m)
  (fun s=>∃m,m<=l.length/\(∀i,m<=i->aD l i=0)/\(m=0\/aD l (m - 1)≠0)/\s.F 0=bV l false/\s.F 3=aI m) (fun _=>False) l.length ?_ ?_ ?_ (fun _ h=>h.elim)
 · exact ⟨Nat.le_refl _,fun i ab=>qR ab,by simp[f0],by simp[f3]⟩
 · clear f0 f2 f3 f15
   rintro m s ⟨hm,av,f0,f3⟩
   have K:=br f0 f3;clear f0 f3
   refine bN [0,2,3,15] fun F k=>?_;clear K
   obtain⟨f0,f2,f3,f15⟩:=k
   cases m with
   | zero=>
     have H:=trivial
     have K:=bK f0 f2 f3 f15;clear f0 f2 f3 f15
     refine bu [0,2,3,15] fun F k=>?_;clear K H
     obtain⟨f0,f2,f3,f15⟩:=k
     exact ⟨0,by omega,av,.inl rfl,rfl⟩
   | succ m=>
     have aW:=o1 (show m<l.length by omega)
     have aq:m+1 - 1=m:=by omega
     by_cases aF:aD l m=0
     · have za:∀i,m<=i->aD l i=0:=fun i ab=>by
        by_cases e:i=m
        · subst e;exact aF
        · exact av i (by omega)
       rw[aF] at aW
       have H:=br aW aq
       have K:=bK f0 f2 f3 f15;clear f0 f2 f3 f15
       refine bu [0,2,3,15] fun F k=>?_;clear K H
       obtain⟨f0,f2,f3,f15⟩:=k
       exact ⟨m,by omega,by omega,za,rfl⟩
     · generalize ae:aD l m=x at*
       have H:=b3 aW aq (@aF)
       have K:=bK f0 f2 f3 f15;clear f0 f2 f3 f15
       refine bu [0,2,3,15] fun F k=>?_;clear K H
       obtain⟨f0,f2,f3,f15⟩:=k
       exact ⟨m+1,hm,av,.inr (by rw[aq,ae];exact aF),rfl⟩
 · rintro s ⟨m,hm,av,jj,f0,f3⟩
   have K:=br f0 f3;clear f0 f3
   refine bN [0,2,3] fun F k=>?_;clear K
   obtain⟨f0,f2,f3⟩:=k
   have aL:=C6 aw hm av jj
   have hlen:(aa (val l)).length=m:=by rw[<-aL];simp;omega
   have kX:=K3 (l:=l.take m) (e:=false) (by simp;omega)
   have kX:=kX
   rw[aL,<-aL,List.map_take,aL] at kX
   have H:=br hm kX
   have K:=b3 f0 f2 f3;clear f0 f2 f3
   exact a9 [0,2,3]
noncomputable def UP:FuncId->Option (List I->Option I):=cf []
theorem K6:∀f T,UP f=some T->aG Tryz.prog G f T:=cg (by simp)
noncomputable def qY:List I->Option I:=a7 (fun z:List Nat × Nat=>Small z.1/\z.2<4611686018427387904) (fun z=>[bV z.1 false,aI z.2]) (fun z=>bl (aD z.1 z.2))
theorem Df {l:List Nat} {e:Bool} {i:Nat} (h:Small l) (ab:i<4611686018427387904):qY [.sl (l.map fun n=> .int .u32 (Z n)) e,aI i]=some (bl (aD l i)):=
 bk (fun z w h=>by simp[bz] at h;simp[h]) (l,i) ⟨h,ab⟩ (by simp)
theorem Dg:aG Tryz.prog G 239 qY:=by
 refine bj mixed K6 J7 fun z av=>?_
 obtain⟨l,i⟩:=z
 obtain⟨aw,ab⟩:=av
 simp only at aw ab|-
 unfold i239
 by_cases h:i<l.length
 · have aW:=o1 h
   generalize aD l i=x at*
   refine aM [0,1,4,12] fun F K=>?_
   obtain⟨f0,f1,f4,f12⟩:=K
   have H:=br aW h
   have K:=bK f0 f1 f4 f12;clear f0 f1 f4 f12
   exact a9 [0,1,4,12]
 · have ae:=qR (show l.length<=i by omega)
   refine aM [0,1,4,12] fun F K=>?_
   obtain⟨f0,f1,f4,f12⟩:=K
   have H:=h
   have K:=bK f0 f1 f4 f12;clear f0 f1 f4 f12
   repeat' (first|refine dE ?_|refine dF ?_|((first|refine et ?_|refine eu ?_|refine ew ?_|exact dH|refine dG ?_);try(refine d' [0,1,4,12] fun F k=>?_;replace K:=k;clear k))|(refine dI (fun J=>?_) (fun J=>?_)<;>first|(exfalso;simp(disch:=omega) [H] at J;done)|(exfalso;simp at J;omega)|simp at J)|((first|refine bU ?_|refine c5 ?_);simp(disch:=omega) [H,K,ae])|exact trivial)
   all_goals obtain⟨f0,f1,f4,f12⟩:=K
theorem UQ:∀x:Fin 256,((⟨(#[0,1,2,2,3,3,3,3,4,4,4,4,4,4,4,4,5,5,5,5,5,5,5,5,5,5,5,5,5,5,5,5,6,6,6,6,6,6,6,6,6,6,6,6,6,6,6,6,6,6,6,6,6,6,6,6,6,6,6,6,6,6,6,6,7,7,7,7,7,7,7,7,7,7,7,7,7,7,7,7,7,7,7,7,7,7,7,7,7,7,7,7,7,7,7,7,7,7,7,7,7,7,7,7,7,7,7,7,7,7,7,7,7,7,7,7,7,7,7,7,7,7,7,7,7,7,7,7,8,8,8,8,8,8,8,8,8,8,8,8,8,8,8,8,8,8,8,8,8,8,8,8,8,8,8,8,8,8,8,8,8,8,8,8,8,8,8,8,8,8,8,8,8,8,8,8,8,8,8,8,8,8,8,8,8,8,8,8,8,8,8,8,8,8,8,8,8,8,8,8,8,8,8,8,8,8,8,8,8,8,8,8,8,8,8,8,8,8,8,8,8,8,8,8,8,8,8,8,8,8,8,8,8,8,8,8,8,8,8,8,8,8,8,8,8,8,8,8,8,8,8,8,8,8,8,8])⟩:ByteArray)[x.val]?).map (fun b=>b.toNat)=some (dJ x.val):=by decide+kernel
theorem zb {x:Nat} (h:x<256):∃b,(⟨(#[0,1,2,2,3,3,3,3,4,4,4,4,4,4,4,4,5,5,5,5,5,5,5,5,5,5,5,5,5,5,5,5,6,6,6,6,6,6,6,6,6,6,6,6,6,6,6,6,6,6,6,6,6,6,6,6,6,6,6,6,6,6,6,6,7,7,7,7,7,7,7,7,7,7,7,7,7,7,7,7,7,7,7,7,7,7,7,7,7,7,7,7,7,7,7,7,7,7,7,7,7,7,7,7,7,7,7,7,7,7,7,7,7,7,7,7,7,7,7,7,7,7,7,7,7,7,7,7,8,8,8,8,8,8,8,8,8,8,8,8,8,8,8,8,8,8,8,8,8,8,8,8,8,8,8,8,8,8,8,8,8,8,8,8,8,8,8,8,8,8,8,8,8,8,8,8,8,8,8,8,8,8,8,8,8,8,8,8,8,8,8,8,8,8,8,8,8,8,8,8,8,8,8,8,8,8,8,8,8,8,8,8,8,8,8,8,8,8,8,8,8,8,8,8,8,8,8,8,8,8,8,8,8,8,8,8,8,8,8,8,8,8,8,8,8,8,8,8,8,8,8,8,8,8,8,8])⟩:ByteArray)[x]? =some b/\b.toNat=dJ x:=by
 have:=UQ ⟨x,h⟩
 obtain⟨b,U,h2⟩:=Option.map_eq_some_iff.1 this
 exact ⟨b,U,h2⟩
noncomputable def zc:List I->Option I:=a7 (fun z:Nat=>z<4294967296) (fun z=>[bl z]) (fun z=>aI (dJ z))
theorem UR {n:Nat} (h:n<4294967296):zc [bl n]=some (aI (dJ n)):=
 bk (fun z w h=>by simp at h;simp[h]) n h (by simp)
theorem Dh {x k:Nat} (h:2^k<=x):dJ x=k+dJ (x/2^k):=KJ (by have:=Nat.div_pos h (Nat.pow_pos (by decide));omega)
theorem US:aG Tryz.prog G 266 zc:=by
 refine bj mixed K6 Kl fun x ae=>?_
 unfold i266
 have ad:dJ x<=32:=o4.2 (by omega)
 by_cases U:65536<=x
 · have b1:=Dh (x:=x) (k:=16) U
   rw[show (2:Nat)^16=65536 from rfl] at b1
   by_cases h2:256<=x/65536
   · have dW:=Dh (x:=x/65536) (k:=8) h2
     rw[show (2:Nat)^8=256 from rfl] at dW
     obtain⟨b,t1,t2⟩:=zb (x:=x/65536/256) (by omega)
     refine aM [0,2,4,8] fun F K=>?_
     obtain⟨f0,f2,f4,f8⟩:=K
     have H:=bK U h2 t1 t2
     have K:=bK f0 f2 f4 f8;clear f0 f2 f4 f8
     repeat' (first|refine dE ?_|refine dF ?_|((first|refine et ?_|refine eu ?_|refine ew ?_|exact dH|refine dG ?_);try(refine d' [0,2,4,8] fun F k=>?_;replace K:=k;clear k))|(refine dI (fun J=>?_) (fun J=>?_)<;>first|(exfalso;simp(disch:=omega) [H] at J;done)|(exfalso;simp at J;omega)|simp at J)|((first|refine bU ?_|refine c5 ?_);simp(disch:=omega) [H,K,b1,dW,<-Nat.add_assoc])|exact trivial)
     all_goals obtain⟨f0,f2,f4,f8⟩:=K
   · obtain⟨b,t1,t2⟩:=zb (x:=x/65536) (by omega)
     refine aM [0,2,4,8] fun F K=>?_
     obtain⟨f0,f2,f4,f8⟩:=K
     have H:=bK U h2 t1 t2
     have K:=bK f0 f2 f4 f8;clear f0 f2 f4 f8
     repeat' (first|refine dE ?_|refine dF ?_|((first|refine et ?_|refine eu ?_|refine ew ?_|exact dH|refine dG ?_);try(refine d' [0,2,4,8] fun F k=>?_;replace K:=k;clear k))|(refine dI (fun J=>?_) (fun J=>?_)<;>first|(exfalso;simp(disch:=omega) [H] at J;done)|(exfalso;simp at J;omega)|simp at J)|((first|refine bU ?_|refine c5 ?_);simp(disch:=omega) [H,K,b1])|exact trivial)
     all_goals obtain⟨f0,f2,f4,f8⟩:=K
 · by_cases h2:256<=x
   · have dW:=Dh (x:=x) (k:=8) h2
     rw[show (2:Nat)^8=256 from rfl] at dW
     obtain⟨b,t1,t2⟩:=zb (x:=x/256) (by omega)
     refine aM [0,2,4,8] fun F K=>?_
     obtain⟨f0,f2,f4,f8⟩:=K
     have H:=bK U h2 t1 t2
     have K:=bK f0 f2 f4 f8;clear f0 f2 f4 f8
     repeat' (first|refine dE ?_|refine dF ?_|((first|refine et ?_|refine eu ?_|refine ew ?_|exact dH|refine dG ?_);try(refine d' [0,2,4,8] fun F k=>?_;replace K:=k;clear k))|(refine dI (fun J=>?_) (fun J=>?_)<;>first|(exfalso;simp(disch:=omega) [H] at J;done)|(exfalso;simp at J;omega)|simp at J)|((first|refine bU ?_|refine c5 ?_);simp(disch:=omega) [H,K,dW])|exact trivial)
     all_goals obtain⟨f0,f2,f4,f8⟩:=K
   · obtain⟨b,t1,t2⟩:=zb (x:=x) (by omega)
     refine aM [0,2,4,8] fun F K=>?_
     obtain⟨f0,f2,f4,f8⟩:=K
     have H:=bK U h2 t1 t2
     have K:=bK f0 f2 f4 f8;clear f0 f2 f4 f8
     exact a9 [0,2,4,8]
end
end
end Go.Proofs.YtemiagcencajeaaGreatDoor
