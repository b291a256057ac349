/- What the claim needs of the walks, put together by a program (shake.py). -/
import Derived.Test.YtemiagcencajeaaGreatDoorCqB
set_option maxRecDepth 100000
set_option linter.unusedSimpArgs false
set_option linter.unusedVariables false
set_option linter.unusedSectionVars false
namespace Go.Proofs.YtemiagcencajeaaGreatDoor
section
open Go Go.Eng Go.RowKit
abbrev fo (n:Nat):J:= .int .u64 (Z n)
abbrev bx (n:Nat):J:= .int .u32 (Z n)
abbrev a4 (n:Nat):J:= .int .i64 (Z n)
abbrev cg (l:List Nat) (e:Bool):J:= .sl (l.map fun n=> .int .u32 (Z n)) e
def aP (l:List Nat) (i:Nat):Nat:=l.getD i 0
theorem CL (x:Nat) (l:List Nat):aP (x::l) 0=x:=rfl
theorem yE (x:Nat) (l:List Nat) (i:Nat):aP (x::l) (i+1)=aP l i:=rfl
theorem SZ (i:Nat):aP [] i=0:=rfl
theorem qZ {l:List Nat} {i:Nat} (h:l.length<=i):aP l i=0:=by
 simp[aP,List.getD,List.getElem?_eq_none h]
theorem kp {l:List Nat} {i:Nat} (h:i<l.length):aP l i=l[i]:=by simp[aP,List.getD,h]
theorem CM {l:List Nat} {i:Nat} (h:i<l.length):aP l i∈l:=by
 rw[kp h];exact List.getElem_mem h
theorem q0 {l:List Nat} {i:Nat} (h:i<l.length):(l.map fun n=>J.int .u32 (Z n))[i]? =some (.int .u32 (Z (aP l i))):=by
 simp[kp h,List.getElem?_eq_getElem h]
def val:List Nat->Nat
 | []=>0
 | x::l=>x+4294967296*val l
def Small (l:List Nat):Prop:=∀x∈l,x<4294967296
theorem Small.nil:Small []:=fun x h=>by cases h
theorem Small.cons {x:Nat} {l:List Nat} (h:Small (x::l)):x<4294967296/\Small l:=⟨h x (by simp),fun y a2=>h y (by simp[a2])⟩
theorem lz {x:Nat} {l:List Nat}:Small (x::l)↔x<4294967296/\Small l:=⟨Small.cons,fun h y a2=>by
 rcases List.mem_cons.1 a2 with rfl|a2
 · exact h.1
 · exact h.2 y a2⟩
theorem nW {a b:List Nat}:Small (a++b)↔Small a/\Small b:=by
 constructor
 · exact fun h=>⟨fun x ae=>h x (by simp[ae]),fun x ae=>h x (by simp[ae])⟩
 · rintro ⟨h,k⟩ x ae
   rcases List.mem_append.1 ae with ae|ae
   · exact h x ae
   · exact k x ae
theorem Small.aP {l:List Nat} (h:Small l) (i:Nat):aP l i<4294967296:=by
 by_cases ab:i<l.length
 · exact h _ (CM ab)
 · rw[qZ (by omega)];decide
theorem Small.take {l:List Nat} (h:Small l) (n:Nat):Small (l.take n):=fun x ae=>h x (List.mem_of_mem_take ae)
theorem Small.drop {l:List Nat} (h:Small l) (n:Nat):Small (l.drop n):=fun x ae=>h x (List.mem_of_mem_drop ae)
def ah:Nat->Nat
 | 0=>1
 | k+1=>4294967296*ah k
theorem fA:ah 0=1:=rfl
theorem et (k:Nat):ah (k+1)=ah k*4294967296:=Nat.mul_comm ..
theorem uf:∀k,ah k=4294967296^k
 | 0=>rfl
 | k+1=>by rw[et,uf k,Nat.pow_succ]
theorem jO:∀k:Nat,0<ah k
 | 0=>by decide
 | k+1=>by have:=jO k;rw[et];omega
theorem iU (a b:Nat):ah (a+b)=ah a*ah b:=by rw[uf,uf,uf,Nat.pow_add]
theorem mb {a b:Nat} (h:a<=b):ah a<=ah b:=by rw[uf,uf];exact Nat.pow_le_pow_right (by decide) h
theorem q1:ah 1=4294967296:=rfl
theorem q2 (n k:Nat):n/ah (k+1)=n/ah k/4294967296:=by rw[et,Nat.div_div_eq_div_mul]
theorem mc (n k:Nat):n%ah (k+1)=n%ah k+ah k*(n/ah k%4294967296):=by rw[et];exact Nat.mod_mul
attribute [irreducible] ah
theorem md:∀(a b:List Nat),val (a++b)=val a+ah a.length*val b
 | [],b=>by simp[val,fA]
 | x::a,b=>by
   simp only[List.cons_append,val,md a b,List.length_cons,et]
   rw[Nat.mul_add,Nat.mul_comm (ah a.length) 4294967296,Nat.mul_assoc];omega
theorem oO:∀ {l:List Nat},Small l->val l<ah l.length
 | [],_=>by simp[val,fA]
 | x::l,h=>by
   have U:=h.cons
   have h2:=oO U.2
   have aN:4294967296*val l+4294967296<=4294967296*ah l.length:=by
    have:=Nat.mul_le_mul_left 4294967296 (Nat.succ_le_of_lt h2)
    rw[Nat.mul_succ] at this;exact this
   simp only[val,List.length_cons,et]
   rw[Nat.mul_comm (ah l.length)]
   omega
theorem sy (n:Nat):val (List.replicate n 0)=0:=by
 induction n with
 | zero=>rfl
 | succ n bj=>rw[List.replicate_succ,val,bj]
def ad (n:Nat):List Nat:=if h:n=0 then [] else n%4294967296::ad (n/4294967296)
termination_by n
decreasing_by exact Nat.div_lt_self (by omega) (by decide)
theorem e_:ad 0= []:=by unfold ad;simp
theorem sA {n:Nat} (h:n≠0):ad n=n%4294967296::ad (n/4294967296):=by
 rw[ad];simp[h]
theorem dZ (n:Nat):Small (ad n):=by
 induction n using Nat.strongRecOn with
 | _ n bj=>
   by_cases h:n=0
   · subst h;rw[e_];exact Small.nil
   · rw[sA h]
     exact lz.2 ⟨Nat.mod_lt _ (by decide),bj _ (Nat.div_lt_self (by omega) (by decide))⟩
theorem cB (n:Nat):val (ad n)=n:=by
 induction n using Nat.strongRecOn with
 | _ n bj=>
   by_cases h:n=0
   · subst h;rw[e_];rfl
   · rw[sA h,val,bj _ (Nat.div_lt_self (by omega) (by decide))]
     exact Nat.mod_add_div n 4294967296
theorem cf {a b:Nat}:ad a=ad b↔a=b:=⟨fun h=>by rw[<-cB a,h,cB],fun h=>by rw[h]⟩
theorem j4 {n:Nat}:ad n= []↔n=0:=by
 constructor
 · intro h;rw[<-cB n,h];rfl
 · rintro rfl;exact e_
theorem JV {n:Nat}:(ad n).length=0↔n=0:=by rw[List.length_eq_zero_iff,j4]
theorem lM {n:Nat}:0<(ad n).length↔n≠0:=by
 have:=JV (n:=n);omega
theorem CN:∀ {l:List Nat},Small l->(l= []\/aP l (l.length - 1)≠0)->ad (val l)=l
 | [],_,_=>e_
 | [x],h,h2=>by
   have U:=h.cons.1
   have ae:x≠0:=by
    rcases h2 with h2|h2
    · cases h2
    · exact h2
   have e:val [x]=x:=by simp[val]
   rw[e,sA ae,Nat.mod_eq_of_lt U,show x/4294967296=0 from Nat.div_eq_of_lt U,e_]
 | x::y::l,h,h2=>by
   have U:=h.cons
   have aN:aP (y::l) ((y::l).length - 1)≠0:=by
    rcases h2 with h2|h2
    · cases h2
    · exact h2
   have bj:=CN U.2 (.inr aN)
   have aF:val (y::l)≠0:=by
    intro aQ
    rw[aQ,e_] at bj
    cases bj
   have e:val (x::y::l)=x+4294967296*val (y::l):=rfl
   rw[e]
   generalize val (y::l)=v at*
   rw[sA (by omega),show (x+4294967296*v)%4294967296=x by omega,show (x+4294967296*v)/4294967296=v by omega,bj]
theorem pM:∀ {l:List Nat},Small l->∀i,aP l i=val l/ah i%4294967296
 | [],_,i=>by simp[SZ,val]
 | x::l,h,0=>by
   have:=h.cons.1
   rw[CL,val,fA];omega
 | x::l,h,i+1=>by
   have U:=h.cons
   rw[yE,pM U.2 i,val,et,Nat.mul_comm (ah i),<-Nat.div_div_eq_div_mul]
   congr 2
   omega
theorem iy (n i:Nat):aP (ad n) i=n/ah i%4294967296:=by rw[pM (dZ n),cB]
theorem CO:∀ {l:List Nat},Small l->∀i,val (l.drop i)=val l/ah i
 | [],_,i=>by simp[val]
 | x::l,h,0=>by simp[fA]
 | x::l,h,i+1=>by
   have U:=h.cons
   rw[List.drop_succ_cons,CO U.2 i,val,et,Nat.mul_comm (ah i),<-Nat.div_div_eq_div_mul]
   congr 1
   omega
theorem S0 {l:List Nat} (h:Small l) (i:Nat):val (l.take i)=val l%ah i:=by
 by_cases ab:i<=l.length
 · have e:=md (l.take i) (l.drop i)
   rw[List.take_append_drop,CO h,List.length_take,Nat.min_eq_left ab] at e
   have:=Nat.mod_add_div (val l) (ah i)
   omega
 · rw[List.take_of_length_le (by omega),Nat.mod_eq_of_lt (Nat.lt_of_lt_of_le (oO h) (mb (by omega)))]
theorem JW {n:Nat} (h:n≠0):aP (ad n) ((ad n).length - 1)≠0:=by
 induction n using Nat.strongRecOn with
 | _ n bj=>
   by_cases h2:n/4294967296=0
   · have az:n<4294967296:=by omega
     rw[sA h,h2,e_]
     show n%4294967296≠0
     omega
   · have:=bj _ (Nat.div_lt_self (by omega) (by decide)) h2
     have aS:=lM.2 h2
     rw[sA h,List.length_cons,Nat.add_sub_cancel]
     obtain⟨k,ag⟩:∃k,(ad (n/4294967296)).length=k+1:=⟨_,(Nat.succ_pred_eq_of_pos aS).symm⟩
     rw[ag,yE]
     rw[ag,Nat.add_sub_cancel] at this
     exact this
theorem cN {n k:Nat}:(ad n).length<=k↔n<ah k:=by
 constructor
 · intro h
   have:=oO (dZ n)
   rw[cB] at this
   exact Nat.lt_of_lt_of_le this (mb h)
 · intro h
   by_cases az:n=0
   · subst az;rw[e_];exact Nat.zero_le _
   · refine Nat.le_of_not_lt fun ag=>JW az ?_
     rw[iy,Nat.div_eq_of_lt (Nat.lt_of_lt_of_le h (mb (by omega)))]
theorem CP {n k:Nat}:k<(ad n).length↔ah k<=n:=by
 have:=cN (n:=n) (k:=k);omega
theorem ir {a b:Nat} (h:a<=b):(ad a).length<=(ad b).length:=cN.2 (Nat.lt_of_le_of_lt h (cN.1 (Nat.le_refl _)))
theorem kq (a b:Nat):(ad (a+b)).length<=max (ad a).length (ad b).length+1:=by
 refine cN.2 ?_
 have U:a<ah (max (ad a).length (ad b).length):=cN.1 (Nat.le_max_left _ _)
 have h2:b<ah (max (ad a).length (ad b).length):=cN.1 (Nat.le_max_right _ _)
 generalize max (ad a).length (ad b).length=k at*
 rw[et]
 omega
theorem kY (a b:Nat):(ad (a*b)).length<=(ad a).length+(ad b).length:=by
 refine cN.2 ?_
 rw[iU]
 have U:a<ah (ad a).length:=cN.1 (Nat.le_refl _)
 have h2:b<ah (ad b).length:=cN.1 (Nat.le_refl _)
 exact Nat.mul_lt_mul'' U h2
theorem CQ {l:List Nat} (h:Small l) {m:Nat} (hm:m<=l.length) (ay:∀i,m<=i->aP l i=0) (aG:m=0\/aP l (m - 1)≠0):l.take m=ad (val l):=by
 have S1:∀i,i<m->aP (l.take m) i=aP l i:=fun i ab=>by
  rw[kp (by simp;omega),kp (by omega)];simp
 have e:val (l.take m)=val l:=by
  have bk:∀r:List Nat,(∀i,aP r i=0)->val r=0:=by
   intro r
   induction r with
   | nil=>intro _;rfl
   | cons x r bj=>intro aU;rw[val,bj (fun i=>aU (i+1)),show x=0 from aU 0]
  have:=md (l.take m) (l.drop m)
  rw[List.take_append_drop,bk (l.drop m) (fun i=>by
   have e:aP (l.drop m) i=aP l (m+i):=by simp[aP,List.getD,List.getElem?_drop]
   rw[e,ay _ (by omega)])] at this
  simpa using this.symm
 rw[<-e,CN (h.take m)]
 by_cases aQ:m=0
 · left;subst aQ;rfl
 · right
   have hlen:(l.take m).length=m:=by simp;omega
   rw[hlen,S1 _ (by omega)]
   exact aG.resolve_left aQ
theorem bY {a b:List Nat}:((a.map fun n=>J.int .u32 (Z n))=b.map fun n=>J.int .u32 (Z n))↔a=b:=by
 constructor
 · intro h
   refine List.map_inj_right (f:=fun n=>J.int .u32 (Z n)) (fun x y nj=>?_) |>.1 h
   simpa[bP] using nj
 · rintro rfl;rfl
theorem di (l:List Nat):kD (l.map fun n=>J.int .u32 (Z n))=l.map fun n=>J.int .u32 (Z n):=by
 rw[nT,List.map_map]
 refine List.map_congr_left fun x _=>?_
 simp[fh]
theorem wv (l:List Nat):(l.map fun n=>J.int .u32 (Z n)).all J.dJ=true:=by
 simp[J.dJ,J.cells,J.dO]
abbrev ai (n:Nat):J:=cg (ad n) false
theorem yF (l:List Nat) (e:Bool):(cg l e).loose=cg l false:=by rw[ee,di]
theorem nX:ad 1= [1]:=by rw[sA (by decide),show 1%4294967296=1 from rfl,show 1/4294967296=0 from rfl,e_]
def bn (z:Int):Bool:=decide (z<0)
theorem JX {a b:Int}:(bn a=bn b/\a.natAbs=b.natAbs)↔a=b:=by
 constructor
 · rintro ⟨U,h2⟩
   simp only[bn,decide_eq_decide] at U
   omega
 · rintro rfl;exact ⟨rfl,rfl⟩
theorem S2 (n:Nat):bn (n:Int)=false:=by simp[bn]
theorem S3 {z:Int}:bn z=true↔z<0:=by simp[bn]
theorem S4 {z:Int}:bn z=false↔0<=z:=by simp[bn]
abbrev aH (z:Int):J:= .agg [.bool (bn z),ai z.natAbs]
theorem CR (z:Int) (e:Bool):(J.agg [.bool (bn z),cg (ad z.natAbs) e]).loose=aH z:=by
 rw[fH,fy,fy,fR,fI,yF]
abbrev aM (p:List Int) (e:Bool):J:= .sl (p.map fun z=>aH z) e
theorem cH {a b:Int}:aH a=aH b↔a=b:=by
 constructor
 · intro h
   simp only[J.agg.injEq,List.cons.injEq,J.bool.injEq,J.sl.injEq,bY,cf,and_true] at h
   exact JX.1 h
 · rintro rfl;rfl
theorem cO {a b:List Int}:((a.map fun z=>aH z)=b.map fun z=>aH z)↔a=b:=by
 constructor
 · intro h
   exact List.map_inj_right (f:=fun z=>aH z) (fun x y nj=>cH.1 nj) |>.1 h
 · rintro rfl;rfl
theorem db (l:List Int):kD (l.map fun z=>aH z)=l.map fun z=>aH z:=by
 rw[nT,List.map_map]
 refine List.map_congr_left fun x _=>?_
 exact CR x false
end
section
open Go Go.Eng
def G:Nat->Option J:=fun _=>none
end
section
open Go Go.Eng Go.RowKit
def sB:List (String × DataW Unit):=[("ziggurat/ntt.fields",Rows.laid_ziggurat_ntt_fields)]
theorem own:ownKnob Tryz.prog.godebug=none:=by kernel_rfl
theorem lay:laidOutB Tryz.prog=true:=by kernel_rfl
theorem mS (W:World) (S5:Array Value) (ad7:laidMetH Tryz.prog sB W):∀g u,G g=some u->bf W (fun _=>True) (fun _=>none) (.eV u) (.pointer (some ⟨g,0,none⟩)):=by
 intro g u ba
 cases ba
theorem S6 (os:Os) (args:Array Value):laidMetH Tryz.prog sB ((World.doorLaid Tryz.prog 27 os).forCall (fun _ _=>0) ⟨#[],args,[]⟩).memory:=
 laidMetH_of_parts3 (fuel:=8) (laidMet_of_run' 8 (by kernel_rfl) (by kernel_rfl)) (by kernel_rfl) (by kernel_rfl)
theorem S7 (w a5:World) (S5:Array Value) (cS:w.heap=a5.heap) (h:laidMetH Tryz.prog sB w):laidMetH Tryz.prog sB a5:=h.of_heap cS
end
section
open Go Go.Eng Go.RowKit
attribute [local simp] a_.m a_.o a_.n a_.g e6 ez c2 cE c4 evalOp.eq_1 evalOp.eq_2 evalOp.eq_3 evalOp.eq_4 evalOp.eq_5 evalOp.eq_6 evalOp.eq_7 evalOp.eq_8 evalOp.eq_9 evalOp.eq_10 evalOp.eq_11 evalOp.eq_12 evalOp.eq_13 evalOp.eq_14 evalOp.eq_15 evalOp.eq_16 evalOp.eq_17 evalOp.eq_18 evalOp.eq_19 evalOp.eq_20 evalOp.eq_21 evalOp.eq_22 evalOp.eq_23 evalOp.eq_24 evalOp.eq_25 evalOp.eq_27 evalOp.eq_28 evalOp.eq_29 ie a6.ev cD aw af.new dW J.cells J.ch J.dO J.dJ gk gm gl gn gq gp hA hB hC ft fu cut partOf bound elems hE hF hG hH hI hJ hK hL hM hN hO hP fJ hQ hR hS hT hU hV hW hX hY hZ h0 h1 h3 h4 h5 h6 h7 h8 h9 h_ ia ib ic ey eh d_ e1 gr fS af.close af.set fU ig ih ij hD fT fR fy ee fH ga fh fI gb gd gf eY eZ e0 eW gu bP f_ gv f' gw gx eQ gy eR gz gA gB fl hz gC gD gE gF gG gH gI gJ gK gL gM gN gO gP gQ gR gS gT gU fx gV gW gX gY gZ g0 g1 g2 g3 g4 g5 g6 g7 g8 g9
attribute [local simp high] hv hx hy g_ g' ha hb hc hd hf hg hh hi hj hk hl hn ho hp hq hr hs ht
attribute [local simp] di db
section
noncomputable def S8:FuncId->Option (List J->Option J):=cT []
theorem ug:∀f T,S8 f=some T->a3 Tryz.prog G f T:=cX (by simp)
theorem uh (a b:Nat):jm (fun a b=>if a<b then b else a) [J.int .i64 (Z a),J.int .i64 (Z b)]=some (.int .i64 (Z (max a b))):=by
 simp only[jm,if_true]
 congr 2
 by_cases h:a<b
 · rw[if_pos (by simp only[Z];omega),Nat.max_eq_right (by omega)]
 · rw[if_neg (by simp only[Z];omega),Nat.max_eq_left (by omega)]
theorem ui (a b:Nat):jm (fun a b=>if b<a then b else a) [J.int .i64 (Z a),J.int .i64 (Z b)]=some (.int .i64 (Z (min a b))):=by
 simp only[jm,if_true]
 congr 2
 by_cases h:b<a
 · rw[if_pos (by simp only[Z];omega),Nat.min_eq_right (by omega)]
 · rw[if_neg (by simp only[Z];omega),Nat.min_eq_left (by omega)]
def eJ (n:Nat):Int:=n - 1
theorem nY:eJ 0= -1:=rfl
theorem nZ (n:Nat):eJ (n+1)=Z n:=by simp only[eJ,Z];omega
theorem kG {n:Nat} (h:n<9223372036854775808):IntKind.i64.wrap (Z n - Z 1)=eJ n:=by
 rw[wrap_i64 (by simp only[Z];omega) (by simp only[Z];omega)];rfl
noncomputable def uj:List J->Option J:=bu (fun z:List Nat × Nat=>Small z.1/\z.2<4611686018427387904/\z.1.length<4611686018427387904) (fun z=>[cg z.1 false,a4 z.2]) (fun z=>fo (aP z.1 z.2))
theorem sC {l:List Nat} {e:Bool} {i:Nat} (h:Small l) (ab:i<4611686018427387904) (aG:l.length<4611686018427387904):uj [.sl (l.map fun n=> .int .u32 (Z n)) e,a4 i]=some (fo (aP l i)):=
 bM (fun z w h=>by simp[bY] at h;simp[h]) (l,i) ⟨h,ab,aG⟩ (by simp)
theorem JY:a3 Tryz.prog G 177 uj:=by
 refine bK mixed ug Jg fun z ay=>?_
 obtain⟨l,i⟩:=z
 obtain⟨aE,ab,aG⟩:=ay
 simp only at aE ab aG|-
 have U:=aE.aP i
 unfold i177
 refine bl (bs bE ?_)
 simp[aQ]
 refine bl (bl (bs bE ?_))
 simp
 refine fQ _ rfl (fun I=>?_) (fun I=>?_)
 · have I:l.length<=i:=by simpa using I
   refine bl (bs bE ?_)
   simp
   try refine ca ?_
   simp[qZ I]
 · have I:i<l.length:=by simpa using I
   refine iS ?_
   simp
   refine bl (bs bE ?_)
   have ba:=q0 I
   simp only[List.getElem?_map] at ba
   simp[ba,Nat.mod_eq_of_lt (show aP l i<18446744073709551616 by omega)]
   try refine ca ?_
   simp
noncomputable def nr:List J->Option J:=bu (fun z:List Nat=>Small z/\z.length<=1073741824) (fun z=>[cg z false]) (fun z=>ai (val z))
theorem pN {l:List Nat} {e:Bool} (h:Small l) (aG:l.length<=1073741824):nr [.sl (l.map fun n=> .int .u32 (Z n)) e]=some (ai (val l)):=
 bM (fun z w h=>by simp[bY] at h;simp[h]) l ⟨h,aG⟩ (by simp)
theorem wx:a3 Tryz.prog G 178 nr:=by
 refine bK mixed ug Jh fun l ay=>?_
 obtain⟨aE,aG⟩:=ay
 unfold i178
 refine bl (bs bE ?_)
 simp[aQ]
 refine bl (bs bE ?_)
 simp
 refine bl ?_
 refine lv (id:=0) (fun m s=>m<=l.length/\(∀i,m<=i->aP l i=0)/\s.F 0=cg l false/\s.F 3=a4 m)
  (fun s=>∃m,m<=l.length/\(∀i,m<=i->aP l i=0)/\(m=0\/aP l (m - 1)≠0)/\s.F 0=cg l false/\s.F 3=a4 m) (fun _=>False) l.length ?_ ?_ ?_ (fun _ h=>h.elim)
 · exact ⟨Nat.le_refl _,fun i ab=>qZ ab,by simp,by simp⟩
 · rintro m s ⟨hm,ay,f0,f3⟩
   refine bl (bl (bs bE ?_))
   cases m with
   | zero=>
     simp[f0,f3]
     refine fQ _ rfl (fun I=>?_) (fun I=>?_)
     · exact absurd I (by decide)
     · refine dq ?_
       exact ⟨rfl,0,by omega,ay,.inl rfl,by simp[f0],by simp[f3]⟩
   | succ m=>
     have ba:=q0 (show m<l.length by omega)
     simp only[List.getElem?_map] at ba
     simp[f0,f3,cA (show 1<=m+1 by omega) (show m+1<9223372036854775808 by omega),ba]
     refine fQ _ rfl (fun I=>?_) (fun I=>?_)
     · have I:aP l m=0:=by simpa using I
       refine iS ?_
       simp
       refine kd (bs bE ?_)
       simp[f3,cA (show 1<=m+1 by omega) (show m+1<9223372036854775808 by omega)]
       refine⟨m,by omega,by omega,fun i ab=>?_,f0,rfl⟩
       by_cases e:i=m
       · subst e;exact I
       · exact ay i (by omega)
     · have I:aP l m≠0:=by simpa using I
       refine dq ?_
       exact ⟨rfl,m+1,hm,ay,.inr I,by simp[f0],by simp[f3]⟩
 · rintro s ⟨m,hm,ay,jv,f0,f3⟩
   have aY:=CQ aE hm ay jv
   have hlen:(ad (val l)).length=m:=by rw[<-aY];simp;omega
   simp
   refine bl (bs bE ?_)
   have au:((l.take m).map fun n=>J.int .u32 (Z n))=(ad (val l)).map fun n=>J.int .u32 (Z n):=by rw[aY]
   rw[List.map_take] at au
   by_cases n0:m=0
   · have S9:ad (val l)= []:=List.length_eq_zero_iff.1 (by omega)
     subst n0
     simp[f0,f3,kg,jL]
     try refine ca ?_
     simp[S9]
   · have bV:¬ad (val l)= []:=fun h=>n0 (by rw[<-hlen,h];rfl)
     have ax:List.take m ((ad (val l)).map fun n=>J.int .u32 (Z n))=(ad (val l)).map fun n=>J.int .u32 (Z n):=List.take_of_length_le (by simp;omega)
     simp[f0,f3,hm,kg,jL,au,hlen,bV,n0,show 0<m by omega,show m*4<=35184372088832 by omega]
     try refine ca ?_
     simp[hlen,ax]
end
end
section
open Go Go.Eng Go.RowKit
attribute [local simp] a_.m a_.o a_.n a_.g e6 ez c2 cE c4 evalOp.eq_1 evalOp.eq_2 evalOp.eq_3 evalOp.eq_4 evalOp.eq_5 evalOp.eq_6 evalOp.eq_7 evalOp.eq_8 evalOp.eq_9 evalOp.eq_10 evalOp.eq_11 evalOp.eq_12 evalOp.eq_13 evalOp.eq_14 evalOp.eq_15 evalOp.eq_16 evalOp.eq_17 evalOp.eq_18 evalOp.eq_19 evalOp.eq_20 evalOp.eq_21 evalOp.eq_22 evalOp.eq_23 evalOp.eq_24 evalOp.eq_25 evalOp.eq_27 evalOp.eq_28 evalOp.eq_29 ie a6.ev cD aw af.new dW J.cells J.ch J.dO J.dJ gk gm gl gn gq gp hA hB hC ft fu cut partOf bound elems hE hF hG hH hI hJ hK hL hM hN hO hP fJ hQ hR hS hT hU hV hW hX hY hZ h0 h1 h3 h4 h5 h6 h7 h8 h9 h_ ia ib ic ey eh d_ e1 gr fS af.close af.set fU ig ih ij hD fT fR fy ee fH ga fh fI gb gd gf eY eZ e0 eW gu bP f_ gv f' gw gx eQ gy eR gz gA gB fl hz gC gD gE gF gG gH gI gJ gK gL gM gN gO gP gQ gR gS gT gU fx gV gW gX gY gZ g0 g1 g2 g3 g4 g5 g6 g7 g8 g9
attribute [local simp high] hv hx hy g_ g' ha hb hc hd hf hg hh hi hj hk hl hn ho hp hq hr hs ht
attribute [local simp] di db cB
section
noncomputable def CS:FuncId->Option (List J->Option J):=cT [(177,uj),(178,nr)]
theorem CT:∀f T,CS f=some T->a3 Tryz.prog G f T:=cX (by simp only[List.forall_mem_cons];exact ⟨JY,wx,fun _ h=>absurd h (by simp)⟩)
theorem JZ:CS 177=some uj:=rfl
theorem J0:CS 178=some nr:=rfl
attribute [local simp] JZ J0
theorem val_two {n:Nat} (h:n<18446744073709551616):val [n%4294967296,n/4294967296]=n:=by simp only[val];omega
noncomputable def yG:List J->Option J:=bu (fun z:Nat=>z<18446744073709551616) (fun z=>[fo z]) (fun z=>ai z)
theorem J1 {n:Nat} (h:n<18446744073709551616):yG [fo n]=some (ai n):=
 bM (fun z w h=>by simp at h;simp[h]) n h (by simp)
theorem S_:a3 Tryz.prog G 139 yG:=by
 refine bK mixed CT I6 fun n az=>?_
 unfold i139
 refine bl (bs bE ?_)
 simp[aQ]
 refine bl (bs bE ?_)
 have e:=pN (l:=[n%4294967296,n/4294967296]) (e:=true) (lz.2 ⟨by omega,lz.2 ⟨by omega,Small.nil⟩⟩) (by simp)
 rw[val_two az] at e
 simp only[List.map_cons,List.map_nil] at e
 simp[Nat.mod_eq_of_lt az,Nat.mod_eq_of_lt (show n/4294967296<4294967296 by omega),Nat.mod_eq_of_lt (show n/4294967296<18446744073709551616 by omega),e]
 try refine ca ?_
 simp
def eg (a b:Nat):Int:=if a<b then -1 else if b<a then 1 else 0
theorem yH {a b k:Nat} (h:a/ah (k+1)=b/ah (k+1)):
 (a/ah k%4294967296<b/ah k%4294967296->a<b)/\(a/ah k%4294967296=b/ah k%4294967296->a/ah k=b/ah k):=by
 rw[q2,q2] at h
 constructor
 · intro aG
   refine Nat.lt_of_not_le fun hle=>?_
   have:=Nat.div_le_div_right (c:=ah k) hle
   omega
 · intro he
   omega
noncomputable def oP:List J->Option J:=bu (fun z:List Nat × List Nat=>Small z.1/\Small z.2/\z.1.length<=1073741824/\z.2.length<=1073741824) (fun z=>[cg z.1 false,cg z.2 false]) (fun z=> .int .i64 (eg (val z.1) (val z.2)))
theorem CU {a b:List Nat} {e e':Bool} (aV:Small a) (aa:Small b) (bQ:a.length<=1073741824) (bm:b.length<=1073741824):
 oP [.sl (a.map fun n=> .int .u32 (Z n)) e,.sl (b.map fun n=> .int .u32 (Z n)) e']=some (.int .i64 (eg (val a) (val b))):=
 bM (fun z w h=>by simp[bY] at h;simp[h]) (a,b) ⟨aV,aa,bQ,bm⟩ (by simp)
theorem yI:a3 Tryz.prog G 96 oP:=by
 refine bK mixed CT IT fun z ay=>?_
 obtain⟨a,b⟩:=z
 obtain⟨aV,aa,bQ,bm⟩:=ay
 simp only at aV aa bQ bm|-
 obtain⟨M,lu⟩:∃M,M=max a.length b.length:=⟨_,rfl⟩
 have J2:M<=1073741824:=by omega
 have bg:val a<ah M:=Nat.lt_of_lt_of_le (oO aV) (mb (by omega))
 have bt:val b<ah M:=Nat.lt_of_lt_of_le (oO aa) (mb (by omega))
 unfold i96
 refine bl (bs bE ?_)
 simp[aQ]
 refine bl (bl (bs bE ?_))
 simp[uh,<-lu,kG (show M<9223372036854775808 by omega)]
 refine lv (id:=0) (fun m s=>m<=M/\val a/ah m=val b/ah m/\s.F 0=cg a false/\s.F 1=cg b false/\s.F 5= .int .i64 (eJ m))
  (fun s=>val a=val b) (fun s=>s.F 4= .int .i64 (eg (val a) (val b))) M ?_ ?_ ?_ ?_
 · exact ⟨Nat.le_refl _,by rw[Nat.div_eq_of_lt bg,Nat.div_eq_of_lt bt],by simp,by simp,by simp⟩
 · rintro m s ⟨hm,he,f0,f1,f5⟩
   refine bl (bl (bs bE ?_))
   cases m with
   | zero=>
     rw[nY] at f5
     simp[f5]
     refine fQ _ rfl (fun I=>?_) (fun I=>?_)
     · exact absurd I (by decide)
     · refine dq ?_
       exact ⟨rfl,by simpa[fA] using he⟩
   | succ m=>
     rw[nZ] at f5
     simp[f5]
     refine fQ _ rfl (fun I=>?_) (fun I=>(by simp at I))
     refine iS ?_
     simp
     have t1:=sC (e:=false) (i:=m) aV (by omega) (by omega)
     have t2:=sC (e:=false) (i:=m) aa (by omega) (by omega)
     obtain⟨s1,s2⟩:=yH he
     obtain⟨kr,_⟩:=yH he.symm
     rw[<-pM aV,<-pM aa] at s1 s2 kr
     refine bl (kd (bl (bl (bs bE ?_))))
     simp[f0,f1,f5,t1,t2]
     refine fQ _ rfl (fun I=>?_) (fun I=>?_)
     · have I:aP a m<aP b m:=by simpa using I
       refine bl (bs bE ?_)
       simp
       try refine ca ?_
       simp[eg,s1 I]
     · have I:¬aP a m<aP b m:=by simpa using I
       refine iS ?_
       simp
       refine bl (bs bE ?_)
       simp[f0,f1,f5,t1,t2]
       refine fQ _ rfl (fun je=>?_) (fun je=>?_)
       · have je:aP b m<aP a m:=by simpa using je
         have aN:=kr je
         refine bl (bs bE ?_)
         simp
         try refine ca ?_
         simp[eg,aN,Nat.lt_asymm aN]
       · have je:¬aP b m<aP a m:=by simpa using je
         refine iS ?_
         simp
         refine bs bE ?_
         simp[f0,f1,f5,kG (show m<9223372036854775808 by omega)]
         exact ⟨m,by omega,by omega,s2 (by omega),rfl⟩
 · intro s h
   simp
   refine bl (bs bE ?_)
   simp
   try refine ca ?_
   simp[eg,h]
 · intro s h
   simp[h]
end
section
attribute [local simp] JZ J0
theorem S' (M n:Nat):M*n=M*(n%4294967296)+M*4294967296*(n/4294967296):=by
 conv=>lhs;rw[<-Nat.mod_add_div n 4294967296]
 rw[Nat.mul_add,Nat.mul_assoc]
theorem J3 {a b o i c:Nat} (h:o+ah i*c=a%ah i+b%ah i):
 (o+ah i*((a/ah i%4294967296+b/ah i%4294967296+c)%4294967296))+ah (i+1)*((a/ah i%4294967296+b/ah i%4294967296+c)/4294967296)=a%ah (i+1)+b%ah (i+1):=by
 rw[mc,mc,et]
 have aN:=S' (ah i) (a/ah i%4294967296+b/ah i%4294967296+c)
 rw[Nat.mul_add (ah i),Nat.mul_add (ah i)] at aN
 omega
noncomputable def q3:List J->Option J:=bu (fun z:Nat × Nat=>(ad z.1).length<=1000000000/\(ad z.2).length<=1000000000) (fun z=>[ai z.1,ai z.2]) (fun z=>ai (z.1+z.2))
theorem CV {a b:Nat} {e e':Bool} (aV:(ad a).length<=1000000000) (aa:(ad b).length<=1000000000):
 q3 [.sl ((ad a).map fun n=> .int .u32 (Z n)) e,.sl ((ad b).map fun n=> .int .u32 (Z n)) e']=some (ai (a+b)):=
 bM (fun z w h=>by simp[bY,cf] at h;simp[h]) (a,b) ⟨aV,aa⟩ (by simp)
theorem CW:a3 Tryz.prog G 212 q3:=by
 refine bK mixed CT Ju fun z ay=>?_
 obtain⟨a,b⟩:=z
 obtain⟨bQ,bm⟩:=ay
 simp only at bQ bm|-
 have aV:=dZ a
 have aa:=dZ b
 obtain⟨M,lu⟩:∃M,M=max (ad a).length (ad b).length:=⟨_,rfl⟩
 have J2:M<=1000000000:=by omega
 have bg:a<ah (M+1):=cN.1 (by omega)
 have bt:b<ah (M+1):=cN.1 (by omega)
 have J4:a+b<ah (M+1):=cN.1 (by have:=kq a b;omega)
 unfold i212
 refine bl (bs bE ?_)
 simp[aQ]
 refine bl (bs bE ?_)
 simp
 refine bl ?_
 refine bl (bs bE ?_)
 simp
 refine lv (id:=0) (fun m s=>∃(o:List Nat) (c:Nat),m=M+1 - o.length/\o.length<=M+1/\Small o/\c<=1/\val o+ah o.length*c=a%ah o.length+b%ah o.length/\
  s.F 0=ai a/\s.F 1=ai b/\cb 1 s.h (s.F 5) (o.map fun n=> .int .u32 (Z n))/\s.F 6=fo c/\s.F 7=a4 o.length)
  (fun s=>∃o:List Nat,Small o/\o.length=M+1/\val o=a+b/\cb 1 s.h (s.F 5) (o.map fun n=> .int .u32 (Z n))) (fun _=>False) (M+1) ?_ ?_ ?_ (fun _ h=>h.elim)
 · exact ⟨[],0,by simp,by simp,Small.nil,by simp,by simp[val,fA,Nat.mod_one],by simp,by simp,by simp;exact cb.nil (by simp),by simp,by simp⟩
 · rintro m s ⟨o,c,rfl,iV,fB,q4,aF,f0,f1,f5,f6,f7⟩
   by_cases jv:o.length=M+1
   · have au:¬o.length<=(ad a).length:=by omega
     have ax:¬o.length<=(ad b).length:=by omega
     refine bl (bl (bs bE ?_))
     simp[f0,f1,f7,au,ax]
     refine fQ _ rfl (fun I=>?_) (fun I=>?_)
     · exact absurd I (by simp)
     · refine dq ?_
       rw[jv,Nat.mod_eq_of_lt bg,Nat.mod_eq_of_lt bt] at aF
       have jf:c=0:=by
        rcases Nat.eq_zero_or_pos c with h|h
        · exact h
        · have:=Nat.le_mul_of_pos_right (ah (M+1)) h
          omega
       subst jf
       refine⟨rfl,o,fB,jv,by simpa using aF,?_⟩
       simp[aw]
       exact f5.mono (fun q _=>rfl) (fun q=>rfl) (by simp)
   · have lo:o.length<=M:=by omega
     refine Ie (fun s=>s.F 0=ai a/\s.F 1=ai b/\cb 1 s.h (s.F 5) (o.map fun n=> .int .u32 (Z n))/\s.F 6=fo c/\s.F 7=a4 o.length) ?_ ?_
     · refine bl (bs bE ?_)
       by_cases au:o.length<=(ad a).length
       · simp[f0,f1,f7,au]
         refine fQ _ rfl (fun I=>?_) (fun I=>absurd I (by simp))
         refine iS ?_
         simp[f0,f1,f6,f7]
         exact f5.mono (fun q _=>rfl) (fun q=>rfl) (by simp)
       · have ax:o.length<=(ad b).length:=by omega
         simp[f0,f1,f7,au,ax]
         refine fQ _ rfl (fun I=>?_) (fun I=>absurd I (by simp))
         refine iS ?_
         simp[f0,f1,f6,f7]
         exact f5.mono (fun q _=>rfl) (fun q=>rfl) (by simp)
     · clear f0 f1 f5 f6 f7
       rintro s ⟨f0,f1,f5,f6,f7⟩
       have t1:=sC (e:=false) (i:=o.length) aV (by omega) (by omega)
       have t2:=sC (e:=false) (i:=o.length) aa (by omega) (by omega)
       have s1:=aV.aP o.length
       have s2:=aa.aP o.length
       have eN:=J3 aF
       rw[<-iy,<-iy] at eN
       generalize aP (ad a) o.length=x at*
       generalize aP (ad b) o.length=y at*
       refine bl (kd (bl (bs bE ?_)))
       simp[f0,f1,f6,f7,t1,t2,Nat.mod_eq_of_lt (show x+y<18446744073709551616 by omega),Nat.mod_eq_of_lt (show x+y+c<18446744073709551616 by omega)]
       refine bl (bs bE ?_)
       simp[qX f5,show (o.length+1)*4<=35184372088832 by omega]
       refine bs bE ?_
       simp
       refine bs bE ?_
       simp[f7,dC (show o.length+1<9223372036854775808 by omega)]
       have aL:=f5.app (ys:=[J.int .u32 (Z ((x+y+c)%4294967296))]) (by simp) (by simp) (s.h.next+10+7) (s.h.next+10+7+3+3) (s.h.next+10+5) s.h.a7 s.h.a7 (by omega) (by omega)
       simp only[List.length_map,List.length_singleton] at aL
       refine⟨M+1 -(o.length+1),by omega,o++ [(x+y+c)%4294967296],by simp,by simp;omega,nW.2 ⟨fB,lz.2 ⟨by omega,Small.nil⟩⟩,(x+y+c)/4294967296,by omega,?_,f0,f1,by simpa using aL,by omega,by simp⟩
       rw[md,List.length_append,List.length_singleton]
       simpa[val] using eN
 · rintro s ⟨o,fB,iV,aF,f5⟩
   simp
   obtain⟨ids,aL⟩:=f5.out (wv _)
   refine bl (bs bE ?_)
   simp[aL,pN fB (show o.length<=1073741824 by omega),aF]
   try refine ca ?_
   simp
end
section
noncomputable def yJ:FuncId->Option (List J->Option J):=cT [(177,uj),(178,nr),(96,oP)]
theorem CX:∀f T,yJ f=some T->a3 Tryz.prog G f T:=cX (by simp only[List.forall_mem_cons];exact ⟨JY,wx,yI,fun _ h=>absurd h (by simp)⟩)
theorem yK:yJ 177=some uj:=rfl
theorem yL:yJ 178=some nr:=rfl
theorem yM:yJ 96=some oP:=rfl
attribute [local simp] yK yL yM
theorem J5 {a b:Nat}:eg a b<0↔a<b:=by
 unfold eg;split
 · simp;omega
 · split<;>simp<;>omega
theorem Ta {P B x y c n o u v q r:Nat} (az:n+y+c=B+x) (bk:n=B*q+r) (aT:q<=1) (h:o+v=u+P*c):o+P*r+(v+P*y)=u+P*x+P*B*(1 - q):=by
 have U:P*n+P*y+P*c=P*B+P*x:=by rw[<-Nat.mul_add,<-Nat.mul_add,az,Nat.mul_add]
 have aT:q=0\/q=1:=by omega
 rcases aT with rfl|rfl
 · have:n=r:=by omega
   subst this
   simp only[Nat.sub_zero,Nat.mul_one]
   omega
 · have h2:P*n=P*B+P*r:=by rw[bk,Nat.mul_one,Nat.mul_add]
   simp only[Nat.sub_self,Nat.mul_zero,Nat.add_zero]
   omega
theorem Tb {a b o i c n:Nat} (h:o+b%ah i=a%ah i+ah i*c) (az:n+(b/ah i%4294967296)+c=4294967296+(a/ah i%4294967296)) (h2:n<8589934592):
 (o+ah i*(n%4294967296))+b%ah (i+1)=a%ah (i+1)+ah (i+1)*(1 - n/4294967296):=by
 rw[mc,mc,et]
 exact Ta az (Nat.div_add_mod n 4294967296).symm (by omega) h
theorem Tc {v P c a b:Nat} (h:v+b=a+P*c) (I:c<=1) (aF:v<P) (iw:b<=a):c=0:=by
 rcases Nat.eq_zero_or_pos c with aQ|aQ
 · exact aQ
 · obtain rfl:c=1:=by omega
   omega
noncomputable def q5:List J->Option J:=bu (fun z:Nat × Nat=>(ad z.1).length<=1000000000/\(ad z.2).length<=1000000000) (fun z=>[ai z.1,ai z.2])
 (fun z=>if z.1<z.2 then .bD [.sl [] false,.bool false] else .bD [ai (z.1 - z.2),.bool true])
theorem yN {a b:Nat} {e e':Bool} (aV:(ad a).length<=1000000000) (aa:(ad b).length<=1000000000):
 q5 [.sl ((ad a).map fun n=> .int .u32 (Z n)) e,.sl ((ad b).map fun n=> .int .u32 (Z n)) e']=some (if a<b then .bD [.sl [] false,.bool false] else .bD [ai (a - b),.bool true]):=
 bM (fun z w h=>by simp[bY,cf] at h;simp[h]) (a,b) ⟨aV,aa⟩ (by simp)
theorem CY:a3 Tryz.prog G 213 q5:=by
 refine bK mixed CX Jv fun z ay=>?_
 obtain⟨a,b⟩:=z
 obtain⟨bQ,bm⟩:=ay
 simp only at bQ bm|-
 have aV:=dZ a
 have aa:=dZ b
 have t0:=CU (e:=false) (e':=false) aV aa (by omega) (by omega)
 simp only[cB] at t0
 unfold i213
 refine bl (bs bE ?_)
 simp[aQ]
 refine bl (bl (bs bE ?_))
 simp[t0]
 refine fQ _ rfl (fun I=>?_) (fun I=>?_)
 · have I:eg a b<0:=of_decide_eq_true I
   have I:=J5.1 I
   refine bl (bs bE ?_)
   simp
   try refine ca ?_
   simp[I]
 · have I:¬eg a b<0:=of_decide_eq_false I
   have iw:¬a<b:=fun h=>I (J5.2 h)
   refine iS ?_
   simp
   obtain⟨L,bq⟩:∃L,L=(ad a).length:=⟨_,rfl⟩
   have bg:a<ah L:=cN.1 (by omega)
   refine bl (bs bE ?_)
   simp
   refine bl (bl (bs bE ?_))
   simp
   refine lv (id:=0) (fun m s=>∃(o:List Nat) (c:Nat),m=L - o.length/\o.length<=L/\Small o/\c<=1/\val o+b%ah o.length=a%ah o.length+ah o.length*c/\
    s.F 0=ai a/\s.F 1=ai b/\cb 1 s.h (s.F 6) (o.map fun n=> .int .u32 (Z n))/\s.F 7=fo c/\s.F 8=a4 o.length)
    (fun s=>∃o:List Nat,Small o/\o.length=L/\val o=a - b/\cb 1 s.h (s.F 6) (o.map fun n=> .int .u32 (Z n))) (fun _=>False) L ?_ ?_ ?_ (fun _ h=>h.elim)
   · exact ⟨[],0,by simp,by simp,Small.nil,by simp,by simp[val,fA,Nat.mod_one],by simp,by simp,by simp;exact cb.nil (by simp),by simp,by simp⟩
   · rintro m s ⟨o,c,rfl,iV,fB,q4,aF,f0,f1,f6,f7,f8⟩
     refine bl (bl (bs bE ?_))
     simp[f0,f8,<-bq]
     refine fQ _ rfl (fun I=>?_) (fun I=>?_)
     · have lo:o.length<L:=by simpa using I
       refine iS ?_
       simp
       have t1:=sC (e:=false) (i:=o.length) aV (by omega) (by omega)
       have t2:=sC (e:=false) (i:=o.length) aa (by omega) (by omega)
       have s1:=aV.aP o.length
       have s2:=aa.aP o.length
       have eN:=fun n=>Tb (n:=n) aF
       rw[<-iy,<-iy] at eN
       generalize aP (ad a) o.length=x at*
       generalize aP (ad b) o.length=y at*
       have eN:=eN (4294967296+x - y - c) (by omega) (by omega)
       refine bl (kd (bl (bs bE ?_)))
       simp[f0,f1,f7,f8,t1,t2,Nat.mod_eq_of_lt (show 4294967296+x<18446744073709551616 by omega),show (4294967296+x+(18446744073709551616 - y%18446744073709551616))%18446744073709551616=4294967296+x - y by omega,
        show (4294967296+x - y+(18446744073709551616 - c%18446744073709551616))%18446744073709551616=4294967296+x - y - c by omega]
       generalize az:4294967296+x - y - c=n at*
       refine bl (bs bE ?_)
       simp[qX f6,show (o.length+1)*4<=35184372088832 by omega]
       refine bs bE ?_
       simp[Nat.mod_eq_of_lt (show n/4294967296<18446744073709551616 by omega),show (1+(18446744073709551616 - n/4294967296))%18446744073709551616=1 - n/4294967296 by omega]
       refine bs bE ?_
       simp[f8,dC (show o.length+1<9223372036854775808 by omega)]
       have aL:=f6.app (ys:=[J.int .u32 (Z (n%4294967296))]) (by simp) (by simp) (s.h.next+4+11+7) (s.h.next+4+11+7+4+3) (s.h.next+4+11+5) s.h.a7 s.h.a7 (by omega) (by omega)
       simp only[List.length_map,List.length_singleton] at aL
       refine⟨L -(o.length+1),by omega,o++ [n%4294967296],by simp,by simp;omega,nW.2 ⟨fB,lz.2 ⟨by omega,Small.nil⟩⟩,1 - n/4294967296,by omega,?_,f0,f1,by simpa using aL,rfl,by simp⟩
       rw[md,List.length_append,List.length_singleton]
       simpa[val] using eN
     · have jv:o.length=L:=by simp at I;omega
       refine dq ?_
       rw[jv,Nat.mod_eq_of_lt bg,Nat.mod_eq_of_lt (show b<ah L by omega)] at aF
       have J6:=oO fB
       rw[jv] at J6
       have jf:=Tc aF q4 J6 (by omega)
       subst jf
       refine⟨rfl,o,fB,jv,by simp at aF;omega,?_⟩
       simp[aw]
       exact f6.mono (fun q _=>rfl) (fun q=>rfl) (by simp)
   · rintro s ⟨o,fB,iV,aF,f6⟩
     simp
     obtain⟨ids,aL⟩:=f6.out (wv _)
     refine bl (bs bE ?_)
     simp[aL,pN fB (show o.length<=1073741824 by omega),aF]
     try refine ca ?_
     simp[iw]
end
end
section
open Go Go.Eng Go.RowKit
attribute [local simp] a_.m a_.o a_.n a_.g e6 ez c2 cE c4 evalOp.eq_1 evalOp.eq_2 evalOp.eq_3 evalOp.eq_4 evalOp.eq_5 evalOp.eq_6 evalOp.eq_7 evalOp.eq_8 evalOp.eq_9 evalOp.eq_10 evalOp.eq_11 evalOp.eq_12 evalOp.eq_13 evalOp.eq_14 evalOp.eq_15 evalOp.eq_16 evalOp.eq_17 evalOp.eq_18 evalOp.eq_19 evalOp.eq_20 evalOp.eq_21 evalOp.eq_22 evalOp.eq_23 evalOp.eq_24 evalOp.eq_25 evalOp.eq_27 evalOp.eq_28 evalOp.eq_29 ie a6.ev cD aw af.new dW J.cells J.ch J.dO J.dJ gk gm gl gn gq gp hA hB hC ft fu cut partOf bound elems hE hF hG hH hI hJ hK hL hM hN hO hP fJ hQ hR hS hT hU hV hW hX hY hZ h0 h1 h3 h4 h5 h6 h7 h8 h9 h_ ia ib ic ey eh d_ e1 gr fS af.close af.set fU ig ih ij hD fT fR fy ee fH ga fh fI gb gd gf eY eZ e0 eW gu bP f_ gv f' gw gx eQ gy eR gz gA gB fl hz gC gD gE gF gG gH gI gJ gK gL gM gN gO gP gQ gR gS gT gU fx gV gW gX gY gZ g0 g1 g2 g3 g4 g5 g6 g7 g8 g9
attribute [local simp high] hv hx hy g_ g' ha hb hc hd hf hg hh hi hj hk hl hn ho hp hq hr hs ht
section
attribute [local simp] di db cB yK yL yM
def dS (n:Nat):Nat:=if h:n=0 then 0 else dS (n/2)+1
termination_by n
decreasing_by exact Nat.div_lt_self (by omega) (by decide)
theorem yO:dS 0=0:=by unfold dS;simp
theorem yP {n:Nat} (h:n≠0):dS n=dS (n/2)+1:=by rw[dS];simp[h]
theorem oQ {n k:Nat}:dS n<=k↔n<2^k:=by
 induction k generalizing n with
 | zero=>
   by_cases h:n=0
   · subst h;simp[yO]
   · rw[yP h];simp;omega
 | succ k bj=>
   by_cases h:n=0
   · subst h;simp[yO,Nat.pow_pos]
   · rw[yP h,Nat.pow_succ]
     have:=bj (n:=n/2)
     omega
theorem J7 {n k:Nat}:k<dS n↔2^k<=n:=by
 have:=oQ (n:=n) (k:=k);omega
theorem Td {n:Nat}:dS n=0↔n=0:=by
 have:=oQ (n:=n) (k:=0);simp at this;omega
theorem J8 {n k:Nat} (h:n/2^k≠0):dS n=k+dS (n/2^k):=by
 induction k generalizing n with
 | zero=>simp
 | succ k bj=>
   have e:n/2^(k+1)=n/2/2^k:=by rw[Nat.pow_succ,Nat.mul_comm,Nat.div_div_eq_div_mul]
   have az:n≠0:=by rintro rfl;simp at h
   rw[e] at h|-
   rw[yP az,bj h];omega
theorem k9:∀k:Nat,ah k=2^(32*k)
 | 0=>fA
 | k+1=>by rw[et,k9 k,Nat.mul_add,Nat.pow_add]
theorem Te {n:Nat} (h:n≠0):dS n=32*((ad n).length - 1)+dS (aP (ad n) ((ad n).length - 1)):=by
 obtain⟨k,ag⟩:∃k,k=(ad n).length - 1:=⟨_,rfl⟩
 have aS:=lM.2 h
 have U:n<ah (k+1):=cN.1 (by omega)
 have h2:=JW h
 rw[<-ag] at h2|-
 rw[iy] at h2|-
 have aN:n/ah k<4294967296:=by
  rw[et] at U
  exact Nat.div_lt_of_lt_mul U
 rw[Nat.mod_eq_of_lt aN] at h2|-
 rw[k9] at h2|-
 exact J8 h2
theorem Tf {x r:Nat} (h:r<32):x%4294967296/2^r%2=x/2^r%2:=by
 have U:=Nat.testBit_mod_two_pow x 32 r
 rw[Nat.testBit_eq_decide_div_mod_eq,Nat.testBit_eq_decide_div_mod_eq] at U
 simp only[h,decide_true,Bool.true_and,decide_eq_decide] at U
 have e:(2:Nat)^32=4294967296:=rfl
 rw[e] at U
 omega
theorem Tg (a i:Nat):aP (ad a) (i/32)/2^(i%32)%2=a/2^i%2:=by
 rw[iy,Tf (Nat.mod_lt _ (by decide)),k9,Nat.div_div_eq_div_mul,<-Nat.pow_add,Nat.div_add_mod]
noncomputable def yQ:List J->Option J:=bu (fun z:Nat=>(ad z).length<=1000000000) (fun z=>[ai z]) (fun z=>a4 (dS z))
theorem Th {a:Nat} {e:Bool} (aV:(ad a).length<=1000000000):yQ [.sl ((ad a).map fun n=> .int .u32 (Z n)) e]=some (a4 (dS a)):=
 bM (fun z w h=>by simp[bY,cf] at h;simp[h]) a aV (by simp)
theorem Ti:a3 Tryz.prog G 243 yQ:=by
 refine bK mixed ug Jz fun a bQ=>?_
 have aV:=dZ a
 unfold i243
 refine bl (bs bE ?_)
 simp[aQ]
 refine bl (bl (bs bE ?_))
 simp
 refine fQ _ rfl (fun I=>?_) (fun I=>?_)
 · have I:a=0:=by simpa[j4] using I
   refine bl (bs bE ?_)
   simp
   try refine ca ?_
   simp[I,yO]
 · have I:a≠0:=by simpa[j4] using I
   have aS:=lM.2 I
   obtain⟨L,bq⟩:∃L,(ad a).length=L+1:=⟨_,(Nat.succ_pred_eq_of_pos aS).symm⟩
   have ba:=(kp (show L<(ad a).length by omega)).symm
   have k6:=Te I
   rw[bq,Nat.add_sub_cancel] at k6
   have aY:=aV.aP L
   refine iS ?_
   simp
   refine bl (bs bE ?_)
   simp[bq,cA (show 1<=L+1 by omega) (show L+1<9223372036854775808 by omega),ba]
   refine⟨by first|decide|rfl,?_⟩
   generalize aP (ad a) L=top at*
   refine bl ?_
   refine lv (id:=0) (fun m s=>∃n,m<4294967296/\n<=32/\n+dS m=dS top/\s.F 0=ai a/\s.F 3=a4 n/\s.F 4=bx m) (fun s=>s.F 0=ai a/\s.F 3=a4 (dS top)) (fun _=>False) top ?_ ?_ ?_ (fun _ h=>h.elim)
   · exact ⟨0,aY,by omega,by simp,by simp,by simp,by simp⟩
   · rintro m s ⟨n,hm,az,aa,f0,f3,f4⟩
     refine bl (bl (bs bE ?_))
     simp[f4]
     refine fQ _ rfl (fun I=>?_) (fun I=>?_)
     · have I:0<m:=by simpa using I
       have qW:=yP (show m≠0 by omega)
       have Tj:dS top<=32:=oQ.2 (by simpa using aY)
       refine iS ?_
       simp
       refine kd (bl (bs bE ?_))
       simp[f4,Nat.mod_eq_of_lt (show m/2<4294967296 by omega)]
       refine bs bE ?_
       simp[f3,dC (show n+1<9223372036854775808 by omega)]
       exact ⟨m/2,by omega,by omega,n+1,by omega,by omega,f0,rfl,rfl⟩
     · have I:m=0:=by simpa using I
       subst I
       rw[yO] at aa
       refine dq ?_
       exact ⟨rfl,by simp[f0],by simp[f3];omega⟩
   · rintro s ⟨f0,f3⟩
     have Tj:dS top<=32:=oQ.2 (by simpa using aY)
     simp
     refine bl (bs bE ?_)
     simp[f0,f3,bq,cA (show 1<=L+1 by omega) (show L+1<9223372036854775808 by omega),ua (show 32*L<9223372036854775808 by omega),dC (show 32*L+dS top<9223372036854775808 by omega)]
     try refine ca ?_
     simp[k6]
noncomputable def yR:List J->Option J:=bu (fun z:Nat × Nat=>(ad z.1).length<=1000000000/\z.2<4611686018427387904) (fun z=>[ai z.1,a4 z.2]) (fun z=>bx (z.1/2^z.2%2))
theorem Tk {a i:Nat} {e:Bool} (aV:(ad a).length<=1000000000) (ab:i<4611686018427387904):yR [.sl ((ad a).map fun n=> .int .u32 (Z n)) e,a4 i]=some (bx (a/2^i%2)):=
 bM (fun z w h=>by simp[bY,cf] at h;simp[h]) (a,i) ⟨aV,ab⟩ (by simp)
theorem Tl:a3 Tryz.prog G 244 yR:=by
 refine bK mixed ug JA fun z ay=>?_
 obtain⟨a,i⟩:=z
 obtain⟨bQ,ab⟩:=ay
 simp only at bQ ab|-
 have aV:=dZ a
 have aa:=Tg a i
 obtain⟨q,aT⟩:∃q,q=i/32:=⟨_,rfl⟩
 obtain⟨r,aU⟩:∃r,r=i%32:=⟨_,rfl⟩
 have m2:r<32:=by omega
 rw[<-aT,<-aU] at aa
 rw[<-aa]
 unfold i244
 refine bl (bs bE ?_)
 simp[aQ]
 refine bl (bl (bs bE ?_))
 simp[fg (show q<9223372036854775808 by omega),<-aT]
 refine fQ _ rfl (fun I=>?_) (fun I=>?_)
 · have I:(ad a).length<=q:=by simpa using I
   refine bl (bs bE ?_)
   simp
   try refine ca ?_
   simp[qZ I]
 · have I:q<(ad a).length:=by simpa using I
   have ba:=q0 I
   simp only[List.getElem?_map] at ba
   have aY:=aV.aP q
   generalize aP (ad a) q=x at*
   refine iS ?_
   simp
   refine bl (bs bE ?_)
   simp[fg (show q<9223372036854775808 by omega),<-aT,ba]
   refine bl (bl (bs bE ?_))
   simp
   refine lv (id:=0) (fun m s=>∃k,m=r - k/\k<=r/\s.F 1=a4 i/\s.F 5=bx (x/2^k)/\s.F 6=a4 k) (fun s=>s.F 5=bx (x/2^r)) (fun _=>False) r ?_ ?_ ?_ (fun _ h=>h.elim)
   · exact ⟨0,by omega,by omega,by simp,by simp,by simp⟩
   · rintro m s ⟨k,rfl,ag,f1,f5,f6⟩
     have ae:x/2^k<4294967296:=Nat.lt_of_le_of_lt (Nat.div_le_self _ _) aY
     refine bl (bl (bs bE ?_))
     simp[f1,f6,<-aU]
     refine fQ _ rfl (fun I=>?_) (fun I=>?_)
     · have I:k<r:=by simpa using I
       refine iS ?_
       simp
       refine bl (kd (bs bE ?_))
       have e:x/2^k/2=x/2^(k+1):=by rw[Nat.div_div_eq_div_mul,Nat.pow_succ]
       simp[f5,e,Nat.mod_eq_of_lt (show x/2^(k+1)<4294967296 by omega)]
       refine bs bE ?_
       simp[f6,dC (show k+1<9223372036854775808 by omega)]
       exact ⟨r -(k+1),by omega,k+1,rfl,by omega,f1,rfl,rfl⟩
     · have I:k=r:=by simp at I;omega
       refine dq ?_
       exact ⟨rfl,by simp[f5,I]⟩
   · intro s f5
     simp
     refine bl (bs bE ?_)
     simp[f5]
     try refine ca ?_
     simp
def lN (l:List Nat):Bool:=decide (l= []\/(l.length<=65536/\aP l (l.length - 1)≠0))
noncomputable def yS:List J->Option J:=bu (fun z:List Nat=>z.length<=1000000000) (fun z=>[cg z false]) (fun z=> .bool (lN z))
theorem Tm {l:List Nat} {e:Bool} (h:l.length<=1000000000):yS [.sl (l.map fun n=> .int .u32 (Z n)) e]=some (.bool (lN l)):=
 bM (fun z w h=>by simp[bY] at h;simp[h]) l h (by simp)
theorem Tn:a3 Tryz.prog G 211 yS:=by
 refine bK mixed ug SI fun l aG=>?_
 unfold i211
 refine bl (bs bE ?_)
 simp[aQ]
 refine bl (bs bE ?_)
 by_cases U:l= []
 · subst U
   simp
   try refine ca ?_
   simp[lN]
 · obtain⟨L,bq⟩:∃L,l.length=L+1:=⟨l.length - 1,by have:=List.length_pos_iff.2 U;omega⟩
   have ba:=(kp (show L<l.length by omega)).symm
   by_cases h2:L+1<=65536
   · simp[U,bq,h2,cA (show 1<=L+1 by omega) (show L+1<9223372036854775808 by omega),ba]
     try refine ca ?_
     simp[lN,U,bq,h2,bne]
     rfl
   · simp[U,bq,h2]
     try refine ca ?_
     simp[lN,U,bq,h2]
end
section
attribute [local simp] di db cB yK yL yM
theorem m3:∀ {l:List Nat} {j:Nat} (v:Nat),j<l.length->val (l.set j v)+ah j*aP l j=val l+ah j*v
 | [],j,v,h=>by simp at h
 | x::l,0,v,h=>by simp[val,fA,CL];omega
 | x::l,j+1,v,h=>by
   have bj:=m3 (l:=l) v (show j<l.length by simpa using h)
   simp only[List.set_cons_succ,val,yE,et]
   have au:ah j*4294967296*aP l j=4294967296*(ah j*aP l j):=by rw[Nat.mul_comm (ah j),Nat.mul_assoc]
   have ax:ah j*4294967296*v=4294967296*(ah j*v):=by rw[Nat.mul_comm (ah j),Nat.mul_assoc]
   rw[au,ax]
   omega
theorem ns {l:List Nat} {j:Nat} (v i:Nat) (h:j<l.length):aP (l.set j v) i=if i=j then v else aP l i:=by
 simp only[aP,List.getD,List.getElem?_set]
 by_cases e:i=j
 · subst e;simp[h]
 · simp[Ne.symm e,e]
theorem m4 {l:List Nat} {j v:Nat} (h:Small l) (aF:v<4294967296):Small (l.set j v):=fun x ae=>by
 rcases List.mem_or_eq_of_mem_set ae with ae|rfl
 · exact h x ae
 · exact aF
theorem map_set (l:List Nat) (j v:Nat):(l.map fun n=>J.int .u32 (Z n)).set j (.int .u32 (Z v))=(l.set j v).map fun n=>J.int .u32 (Z n):=by
 rw[List.map_set]
theorem pO (n:Nat):Small (List.replicate n 0):=fun x ae=>by
 rw[List.eq_of_mem_replicate ae];decide
theorem wy (n i:Nat):aP (List.replicate n 0) i=0:=by
 by_cases h:i<n
 · rw[kp (by simpa using h)];simp
 · exact qZ (by simpa using h)
theorem To (n:Nat):List.replicate n (J.int .u32 (Z 0))=(List.replicate n 0).map fun n=>J.int .u32 (Z n):=by simp
theorem CZ (q:Nat) (o:List Nat):val (List.replicate q 0++o)=ah q*val o:=by
 rw[md,sy,List.length_replicate,Nat.zero_add]
theorem Tp {P B x y c o u X q r:Nat} (l4:X=x*y+c) (bk:X=B*q+r) (h:o+P*c=u*y):(o+P*r)+P*B*q=(u+P*x)*y:=by
 have au:P*X=P*(x*y)+P*c:=by rw[l4,Nat.mul_add]
 have ax:P*X=P*B*q+P*r:=by rw[bk,Nat.mul_add,Nat.mul_assoc]
 rw[Nat.add_mul,Nat.mul_assoc P x y]
 omega
theorem Tq {a o i c tK:Nat} (h:o+ah i*c=a%ah i*tK):
 (o+ah i*(((a/ah i%4294967296)*tK+c)%4294967296))+ah (i+1)*(((a/ah i%4294967296)*tK+c)/4294967296)=a%ah (i+1)*tK:=by
 rw[mc,et]
 exact Tp rfl (Nat.div_add_mod _ _).symm h
theorem Tr {v P c n:Nat} (h:v+P*c=n) (az:n<P):c=0:=by
 rcases Nat.eq_zero_or_pos c with aQ|aQ
 · exact aQ
 · have:=Nat.le_mul_of_pos_right P aQ
   omega
noncomputable def uk:List J->Option J:=bu (fun z:Nat × Nat=>(ad z.1).length<=100000000/\z.2<=100000000) (fun z=>[ai z.1,a4 z.2]) (fun z=>ai (z.1*2^z.2))
theorem J9 {a n:Nat} {e:Bool} (aV:(ad a).length<=100000000) (az:n<=100000000):uk [.sl ((ad a).map fun n=> .int .u32 (Z n)) e,a4 n]=some (ai (a*2^n)):=
 bM (fun z w h=>by simp[bY,cf] at h;simp[h]) (a,n) ⟨aV,az⟩ (by simp)
theorem J_:a3 Tryz.prog G 186 uk:=by
 refine bK mixed CX Jo fun z ay=>?_
 obtain⟨a,n⟩:=z
 obtain⟨bQ,az⟩:=ay
 simp only at bQ az|-
 have aV:=dZ a
 obtain⟨q,aT⟩:∃q,q=n/32:=⟨_,rfl⟩
 obtain⟨r,aU⟩:∃r,r=n%32:=⟨_,rfl⟩
 have m2:r<32:=by omega
 have lO:ah q*(a*2^r)=a*2^n:=by
  rw[k9,Nat.mul_left_comm,<-Nat.pow_add,show 32*q+r=n by omega]
 have vH:2^r<=2147483648:=Nat.pow_le_pow_right (n:=2) (by decide) (show r<=31 by omega)
 obtain⟨L,bq⟩:∃L,L=(ad a).length:=⟨_,rfl⟩
 have bg:a<ah L:=cN.1 (by omega)
 unfold i186
 refine bl (bs bE ?_)
 simp[aQ]
 refine bl (bs bE ?_)
 simp
 refine bl (bl (bs bE ?_))
 simp
 refine lv (id:=0) (fun m s=>∃i,m=q - i/\i<=q/\s.F 0=ai a/\s.F 1=a4 n/\cb 1 s.h (s.F 5) ((List.replicate i 0).map fun n=> .int .u32 (Z n))/\s.F 6=fo 0/\s.F 7=fo 1/\s.F 8=a4 i)
  (fun s=>s.F 0=ai a/\s.F 1=a4 n/\cb 1 s.h (s.F 5) ((List.replicate q 0).map fun n=> .int .u32 (Z n))/\s.F 6=fo 0/\s.F 7=fo 1) (fun _=>False) q ?_ ?_ ?_ (fun _ h=>h.elim)
 · exact ⟨0,by omega,by omega,by simp,by simp,by simp;exact cb.nil (by simp),by simp,by simp,by simp⟩
 · rintro m s ⟨i,rfl,ab,f0,f1,f5,f6,f7,f8⟩
   refine bl (bl (bs bE ?_))
   simp[f1,f8,<-aT,fg (show q<9223372036854775808 by omega)]
   refine fQ _ rfl (fun I=>?_) (fun I=>?_)
   · have I:i<q:=by simpa using I
     refine iS ?_
     simp
     refine bl (kd (bs bE ?_))
     have au:=qX f5 (by decide) (bytes:=4) (by decide) (ys:=[J.int .u32 (Z 0)]) (by simp) (by simp) (by simp;omega)
     have ax:=f5.app (ys:=[J.int .u32 (Z 0)]) (by simp) (by simp)
     have a9:((List.replicate i 0).map fun n=>J.int .u32 (Z n))++ [J.int .u32 (Z 0)]=(List.replicate (i+1) 0).map fun n=>J.int .u32 (Z n):=by simp[List.replicate_succ']
     simp only[a9] at au ax
     simp[au]
     refine bs bE ?_
     simp[f8,dC (show i+1<9223372036854775808 by omega)]
     have aL:=ax (s.h.next+4+4) (s.h.next+4+4+3) (s.h.next+4+2) s.h.a7 s.h.a7 (by omega) (by omega)
     exact ⟨q -(i+1),by omega,i+1,rfl,by omega,f0,f1,by simpa using aL,f6,f7,rfl⟩
   · have I:i=q:=by simp at I;omega
     subst I
     refine dq ?_
     refine⟨rfl,by simp[f0],by simp[f1],?_,by simp[f6],by simp[f7]⟩
     simpa[aw] using f5.bump (s.h.next+4) (by omega)
 · rintro s ⟨f0,f1,f5,f6,f7⟩
   simp
   refine bl (bl (bs bE ?_))
   simp
   refine lv (id:=2) (fun m s=>∃i,m=r - i/\i<=r/\s.F 0=ai a/\s.F 1=a4 n/\cb 1 s.h (s.F 5) ((List.replicate q 0).map fun n=> .int .u32 (Z n))/\s.F 6=fo 0/\s.F 7=fo (2^i)/\s.F 9=a4 i)
    (fun s=>s.F 0=ai a/\cb 1 s.h (s.F 5) ((List.replicate q 0).map fun n=> .int .u32 (Z n))/\s.F 6=fo 0/\s.F 7=fo (2^r)) (fun _=>False) r ?_ ?_ ?_ (fun _ h=>h.elim)
   · refine⟨0,by omega,by omega,by simp[f0],by simp[f1],?_,by simp[f6],by simp[f7],by simp⟩
     simpa[aw] using f5.bump (s.h.next+1) (by omega)
   · clear f0 f1 f5 f6 f7 s
     rintro m s ⟨i,rfl,ab,f0,f1,f5,f6,f7,f9⟩
     refine bl (bl (bs bE ?_))
     simp[f1,f9,<-aU]
     refine fQ _ rfl (fun I=>?_) (fun I=>?_)
     · have I:i<r:=by simpa using I
       have lA:2*2^i<=2^r:=by
        rw[Nat.mul_comm,<-Nat.pow_succ];exact Nat.pow_le_pow_right (by decide) I
       refine iS ?_
       simp
       refine bl (kd (bs bE ?_))
       simp[f7,Nat.mod_eq_of_lt (show 2*2^i<18446744073709551616 by omega)]
       refine bs bE ?_
       simp[f9,dC (show i+1<9223372036854775808 by omega)]
       refine⟨r -(i+1),by omega,i+1,rfl,by omega,f0,f1,?_,f6,by rw[Nat.pow_succ,Nat.mul_comm],rfl⟩
       simpa using f5.bump (s.h.next+4+3+3) (by omega)
     · have I:i=r:=by simp at I;omega
       subst I
       refine dq ?_
       refine⟨rfl,by simp[f0],?_,by simp[f6],by simp[f7]⟩
       simpa[aw] using f5.bump (s.h.next+4) (by omega)
   · clear f0 f1 f5 f6 f7 s
     rintro s ⟨f0,f5,f6,f7⟩
     simp
     refine bl (bl (bs bE ?_))
     simp
     generalize bt:2^r=B at*
     refine lv (id:=4) (fun m s=>∃(o:List Nat) (c:Nat),m=L+1 - o.length/\o.length<=L+1/\Small o/\c<4294967296/\val o+ah o.length*c=a%ah o.length*B/\
      s.F 0=ai a/\cb 1 s.h (s.F 5) ((List.replicate q 0++o).map fun n=> .int .u32 (Z n))/\s.F 6=fo c/\s.F 7=fo B/\s.F 10=a4 o.length)
      (fun s=>∃o:List Nat,Small o/\o.length=L+1/\val o=a*B/\cb 1 s.h (s.F 5) ((List.replicate q 0++o).map fun n=> .int .u32 (Z n))) (fun _=>False) (L+1) ?_ ?_ ?_ (fun _ h=>h.elim)
     · refine⟨[],0,by simp,by simp,Small.nil,by simp,by simp[val,fA,Nat.mod_one],by simp[f0],?_,by simp[f6],by simp[f7],by simp⟩
       simpa[aw] using f5.bump (s.h.next+1) (by omega)
     · clear f0 f5 f6 f7 s
       rintro m s ⟨o,c,rfl,iV,fB,q4,aF,f0,f5,f6,f7,f10⟩
       refine bl (bl (bs bE ?_))
       simp[f0,f10,<-bq]
       refine fQ _ rfl (fun I=>?_) (fun I=>?_)
       · have lo:o.length<=L:=by simpa using I
         refine iS ?_
         simp
         have t1:=sC (e:=false) (i:=o.length) aV (by omega) (by omega)
         have s1:=aV.aP o.length
         have eN:=Tq aF
         rw[<-iy] at eN
         generalize aP (ad a) o.length=x at*
         have ad8:x*B<=9223372034707292160:=Nat.mul_le_mul (show x<=4294967295 by omega) vH
         generalize l4:x*B+c=X at*
         refine bl (kd (bl (bs bE ?_)))
         simp[f0,f6,f7,f10,t1,Nat.mod_eq_of_lt (show x*B<18446744073709551616 by omega),l4,Nat.mod_eq_of_lt (show X<18446744073709551616 by omega)]
         have au:=qX f5 (by decide) (bytes:=4) (by decide) (ys:=[J.int .u32 (Z (X%4294967296))]) (by simp) (by simp) (by simp;omega)
         have ax:=f5.app (ys:=[J.int .u32 (Z (X%4294967296))]) (by simp) (by simp)
         have a9:((List.replicate q 0++o).map fun n=>J.int .u32 (Z n))++ [J.int .u32 (Z (X%4294967296))]=(List.replicate q 0++(o++ [X%4294967296])).map fun n=>J.int .u32 (Z n):=by simp
         simp only[a9] at au ax
         refine bl (bs bE ?_)
         simp only[List.map_append,List.map_cons,List.map_nil,List.map_replicate] at au ax
         simp[au]
         refine bs bE ?_
         simp[Nat.mod_eq_of_lt (show X/4294967296<18446744073709551616 by omega)]
         refine bs bE ?_
         simp[f10,dC (show o.length+1<9223372036854775808 by omega)]
         have aL:=ax (s.h.next+4+8+7) (s.h.next+4+8+7+3+3) (s.h.next+4+8+5) s.h.a7 s.h.a7 (by omega) (by omega)
         refine⟨L+1 -(o.length+1),by omega,o++ [X%4294967296],by simp,by simp;omega,nW.2 ⟨fB,lz.2 ⟨by omega,Small.nil⟩⟩,X/4294967296,by omega,?_,f0,by simpa using aL,rfl,f7,by simp⟩
         rw[md,List.length_append,List.length_singleton]
         simpa[val] using eN
       · have jv:o.length=L+1:=by simp at I;omega
         refine dq ?_
         have Ts:a<ah (L+1):=by have:=jO L;rw[et];omega
         have Tt:a*B<ah (L+1):=by
          rw[et]
          exact Nat.mul_lt_mul_of_lt_of_le bg (by omega) (by omega)
         rw[jv,Nat.mod_eq_of_lt Ts] at aF
         have jf:=Tr aF Tt
         subst jf
         refine⟨rfl,o,fB,jv,by simpa using aF,?_⟩
         simpa[aw] using f5.bump (s.h.next+4) (by omega)
     · clear f0 f5 f6 f7 s
       rintro s ⟨o,fB,iV,aF,f5⟩
       simp
       obtain⟨ids,aL⟩:=f5.out (wv _)
       have cZ:=pN (l:=List.replicate q 0++o) (e:=decide (((List.replicate q 0++o).map fun n=>J.int .u32 (Z n))= [])) (nW.2 ⟨pO q,fB⟩) (by simp;omega)
       rw[CZ,aF,lO] at cZ
       refine bl (bs bE ?_)
       generalize ((List.replicate q 0++o).map fun n=>J.int .u32 (Z n))=xs at*
       simp[aL,cZ]
       try refine ca ?_
       simp
end
end
section
open Go Go.Eng Go.RowKit
attribute [local simp] a_.m a_.o a_.n a_.g e6 ez c2 cE c4 evalOp.eq_1 evalOp.eq_2 evalOp.eq_3 evalOp.eq_4 evalOp.eq_5 evalOp.eq_6 evalOp.eq_7 evalOp.eq_8 evalOp.eq_9 evalOp.eq_10 evalOp.eq_11 evalOp.eq_12 evalOp.eq_13 evalOp.eq_14 evalOp.eq_15 evalOp.eq_16 evalOp.eq_17 evalOp.eq_18 evalOp.eq_19 evalOp.eq_20 evalOp.eq_21 evalOp.eq_22 evalOp.eq_23 evalOp.eq_24 evalOp.eq_25 evalOp.eq_27 evalOp.eq_28 evalOp.eq_29 ie a6.ev cD aw af.new dW J.cells J.ch J.dO J.dJ gk gm gl gn gq gp hA hB hC ft fu cut partOf bound elems hE hF hG hH hI hJ hK hL hM hN hO hP fJ hQ hR hS hT hU hV hW hX hY hZ h0 h1 h3 h4 h5 h6 h7 h8 h9 h_ ia ib ic ey eh d_ e1 gr fS af.close af.set fU ig ih ij hD fT fR fy ee fH ga fh fI gb gd gf eY eZ e0 eW gu bP f_ gv f' gw gx eQ gy eR gz gA gB fl hz gC gD gE gF gG gH gI gJ gK gL gM gN gO gP gQ gR gS gT gU fx gV gW gX gY gZ g0 g1 g2 g3 g4 g5 g6 g7 g8 g9
attribute [local simp high] hv hx hy g_ g' ha hb hc hd hf hg hh hi hj hk hl hn ho hp hq hr hs ht
attribute [local simp] di db cB
section
noncomputable def sD:FuncId->Option (List J->Option J):=cT [(178,nr),(243,yQ),(244,yR),(186,uk),(212,q3),(213,q5)]
theorem Tu:∀f T,sD f=some T->a3 Tryz.prog G f T:=cX (by simp only[List.forall_mem_cons];exact ⟨wx,Ti,Tl,J_,CW,CY,fun _ h=>absurd h (by simp)⟩)
theorem Tv:sD 178=some nr:=rfl
theorem Tw:sD 243=some yQ:=rfl
theorem Tx:sD 244=some yR:=rfl
theorem Ty:sD 186=some uk:=rfl
theorem Tz:sD 212=some q3:=rfl
theorem TA:sD 213=some q5:=rfl
attribute [local simp] Tv Tw Tx Ty Tz TA
theorem TB {a b m:Nat} (aa:0<b):2*(a/2^(m+1)%b)+a/2^m%2=(if b<=2*(a/2^(m+1)%b)+a/2^m%2 then b else 0)+a/2^m%b/\
 a/2^m/b=2*(a/2^(m+1)/b)+(if b<=2*(a/2^(m+1)%b)+a/2^m%2 then 1 else 0):=by
 have e:a/2^(m+1)=a/2^m/2:=by rw[Nat.pow_succ,Nat.div_div_eq_div_mul]
 rw[e]
 generalize a/2^m=x
 obtain⟨h,cS⟩:∃h,h=x/2:=⟨_,rfl⟩
 have ae:x=2*h+x%2:=by omega
 rw[<-cS]
 generalize x%2=t at*
 have aY:2*h+t=x:=by omega
 have U:=Nat.div_add_mod h b
 have h2:h%b<b:=Nat.mod_lt _ aa
 generalize aT:h/b=q at*
 generalize aU:h%b=r at*
 have aN:x=b*(2*q)+(2*r+t):=by
  rw[Nat.mul_left_comm];omega
 have sE:t<2:=by omega
 by_cases hle:b<=2*r+t
 · simp only[if_pos hle]
   have a8:x=b*(2*q+1)+(2*r+t - b):=by rw[Nat.mul_add,Nat.mul_one];omega
   have bF:2*r+t - b<b:=by omega
   constructor
   · have:x%b=2*r+t - b:=by rw[a8,Nat.mul_add_mod];exact Nat.mod_eq_of_lt bF
     omega
   · rw[a8,Nat.mul_add_div aa,Nat.div_eq_of_lt bF]
 · simp only[if_neg hle]
   have bF:2*r+t<b:=by omega
   constructor
   · have:x%b=2*r+t:=by rw[aN,Nat.mul_add_mod];exact Nat.mod_eq_of_lt bF
     omega
   · rw[aN,Nat.mul_add_div aa,Nat.div_eq_of_lt bF]
theorem TC {v m:Nat} (h:v%2^(m+1)=0):v/ah (m/32)%4294967296%2^(m%32+1)=0:=by
 obtain⟨c,I⟩:=Nat.dvd_of_mod_eq_zero h
 have e:2^(m+1)=ah (m/32)*2^(m%32+1):=by
  rw[k9,<-Nat.pow_add];congr 1;omega
 rw[I,e,Nat.mul_assoc,Nat.mul_div_cancel_left _ (jO _)]
 have bk:(2:Nat)^(m%32+1)∣4294967296:=⟨2^(31 - m%32),by
  rw[<-Nat.pow_add,show m%32+1+(31 - m%32)=32 by omega]⟩
 rw[Nat.mod_mod_of_dvd _ bk,Nat.mul_mod_right]
theorem TD {d k:Nat} (bk:d<4294967296) (ag:k<32) (h:d%2^(k+1)=0):d+2^k<4294967296:=by
 obtain⟨c,I⟩:=Nat.dvd_of_mod_eq_zero h
 have e:4294967296=2^(k+1)*2^(31 - k):=by rw[<-Nat.pow_add,show k+1+(31 - k)=32 by omega]
 have h2:c<2^(31 - k):=by
  rw[I,e] at bk
  exact Nat.lt_of_mul_lt_mul_left bk
 have aN:2^(k+1)*c+2^(k+1)<=2^(k+1)*2^(31 - k):=by rw[<-Nat.mul_succ];exact Nat.mul_le_mul_left _ h2
 rw[<-e,<-I] at aN
 have a8:0<2^k:=Nat.pow_pos (by decide)
 rw[Nat.pow_succ] at aN
 omega
noncomputable def um:List J->Option J:=bu (fun z:Nat × Nat=>(ad z.1).length<=1000000/\(ad z.2).length<=1000000) (fun z=>[ai z.1,ai z.2])
 (fun z=>if z.2=0 then .bD [.sl [] false,.sl [] false,a4 3] else .bD [ai (z.1/z.2),ai (z.1%z.2),a4 0])
theorem J' {a b:Nat} {e e':Bool} (aV:(ad a).length<=1000000) (aa:(ad b).length<=1000000):
 um [.sl ((ad a).map fun n=> .int .u32 (Z n)) e,.sl ((ad b).map fun n=> .int .u32 (Z n)) e']=some (if b=0 then .bD [.sl [] false,.sl [] false,a4 3] else .bD [ai (a/b),ai (a%b),a4 0]):=
 bM (fun z w h=>by simp[bY,cf] at h;simp[h]) (a,b) ⟨aV,aa⟩ (by simp)
structure Ka (a b:Nat) (m:Nat) (l:List Nat) (s:aW) (q:Nat):Prop where
 len:l.length=(ad a).length
 mH:Small l
 v:val l=a/2^m/b*2^m
 f0:s.F 0=ai a
 f1:s.F 1=ai b
 f7:s.F 7= .ref q 0 (ad a).length (ad a).length
 f8:∃e,s.F 8=cg (ad (a/2^m%b)) e
 f9:s.F 9= .int .i64 (eJ m)
 cells:s.h.cells q=some (l.map fun n=> .int .u32 (Z n))
 b9:s.h.shut q=false
 dj:q<s.h.next
theorem Kb:a3 Tryz.prog G 182 um:=by
 refine bK mixed Tu Jk fun z ay=>?_
 obtain⟨a,b⟩:=z
 obtain⟨bQ,bm⟩:=ay
 simp only at bQ bm|-
 have aV:=dZ a
 unfold i182
 refine bl (bs bE ?_)
 simp[aQ]
 refine bl (bl (bs bE ?_))
 simp
 refine fQ _ rfl (fun I=>?_) (fun I=>?_)
 · have I:b=0:=by simpa[j4] using I
   refine bl (bs bE ?_)
   simp
   try refine ca ?_
   simp[I]
 · have c8:b≠0:=by simpa[j4] using I
   refine iS ?_
   simp[c8]
   obtain⟨L,bq⟩:∃L,L=(ad a).length:=⟨_,rfl⟩
   have bg:a<ah L:=cN.1 (by omega)
   have Kc:a<2^dS a:=oQ.1 (Nat.le_refl _)
   have k6:dS a<=32*L:=by rw[oQ,<-k9];exact bg
   refine bl (bs bE ?_)
   simp[<-bq,show Z L*4<=140737488355328 by simp only[Z];omega]
   refine bl (bl (bs bE ?_))
   simp[Th (a:=a) (e:=false) (by omega),kG (show dS a<9223372036854775808 by omega)]
   refine lv (id:=0) (fun m s=>∃l q,m<=dS a/\Ka a b m l s q) (fun s=>∃l q,Ka a b 0 l s q) (fun _=>False) (dS a) ?_ ?_ ?_ (fun _ h=>h.elim)
   · refine⟨List.replicate L 0,3+3+2,Nat.le_refl _,⟨by simp[bq],pO _,by rw[sy,Nat.div_eq_of_lt Kc];simp,by simp,by simp,by simp[bq],⟨true,by simp[Nat.div_eq_of_lt Kc,e_]⟩,by simp,by simp,by simp,by simp⟩⟩
   · rintro m s ⟨l,q,hm,av⟩
     have f9:=av.f9
     refine bl (bl (bs bE ?_))
     cases m with
     | zero=>
       rw[nY] at f9
       simp[f9]
       refine fQ _ rfl (fun I=>absurd I (by decide)) (fun I=>?_)
       refine dq ?_
       exact ⟨rfl,l,q,⟨av.len,av.mH,av.v,by simp[av.f0],by simp[av.f1],by simp[av.f7],by simpa using av.f8,by simp[f9,nY],by simp[av.cells],by simp[av.b9],by have:=av.dj;simp;omega⟩⟩
     | succ m=>
       rw[nZ] at f9
       simp[f9]
       refine fQ _ rfl (fun I=>?_) (fun I=>(by simp at I))
       refine iS ?_
       simp
       have aU:=Nat.mod_lt (a/2^(m+1)) (show 0<b by omega)
       obtain⟨d1,d2⟩:=TB (a:=a) (m:=m) (show 0<b by omega)
       have uo:(ad (a/2^(m+1)%b)).length<=1000000:=Nat.le_trans (ir (Nat.le_of_lt aU)) bm
       have bF:a/2^m%2<2:=Nat.mod_lt _ (by decide)
       have ad9:=Nat.mod_lt (a/2^m) (show 0<b by omega)
       have aF:=av.v
       obtain⟨qO,TE⟩:=av.f8
       have pP:=av.dj
       generalize yT:a/2^(m+1)%b=r at*
       generalize TF:a/2^m%2=t at*
       have TG:(ad (2*r+t)).length<=1000001:=Nat.le_trans (ir (show 2*r+t<=b+b by omega)) (Nat.le_trans (kq b b) (by omega))
       have aea:(ad (2*r)).length<=1000001:=Nat.le_trans (ir (by omega)) TG
       refine bl (kd (bl (bs bE ?_)))
       have t1:=J9 (a:=r) (n:=1) (e:=qO) (by omega) (by omega)
       rw[show r*2^1=2*r by omega] at t1
       simp[TE,t1]
       refine Ie (fun aj=>aj.F 8=ai (2*r+t)/\aj.F 0=ai a/\aj.F 1=ai b/\aj.F 7= .ref q 0 L L/\aj.F 9=a4 m/\aj.h.cells q=some (l.map fun n=> .int .u32 (Z n))/\aj.h.shut q=false/\q<aj.h.next) ?_ ?_
       · refine bl (bs bE ?_)
         simp[av.f0,f9,Tk (a:=a) (i:=m) (e:=false) (by omega) (by omega),TF]
         refine fQ _ rfl (fun I=>?_) (fun I=>?_)
         · have I:t=1:=by simpa using I
           refine bs bE ?_
           have t2:=CV (a:=2*r) (b:=1) (e:=false) (e':=true) (by omega) (by rw[nX];decide)
           rw[nX] at t2
           simp only[List.map_cons,List.map_nil] at t2
           simp[t2,I,av.f0,av.f1,av.f7,f9,av.cells,av.b9,<-bq]
           omega
         · have I:t=0:=by simp at I;omega
           refine iS ?_
           simp[I,av.f0,av.f1,av.f7,f9,av.cells,av.b9,<-bq]
           omega
       · rintro aj ⟨eT,sF,bT,eK,q6,gc,gs,aeb⟩
         have t3:=yN (a:=2*r+t) (b:=b) (e:=false) (e':=false) (by omega) (by omega)
         by_cases hle:b<=2*r+t
         · simp only[if_pos hle] at d1 d2
           rw[if_neg (by omega)] at t3
           obtain⟨j,aO⟩:∃j,j=m/32:=⟨_,rfl⟩
           obtain⟨k,ag⟩:∃k,k=m%32:=⟨_,rfl⟩
           have Kd:=TC (v:=val l) (m:=m) (by rw[aF,Nat.mul_mod_left])
           rw[<-pM av.mH,<-aO,<-ag] at Kd
           have C0:j<L:=by
            have:=J7.1 (show m<dS a by omega)
            omega
           have wz:k<32:=by omega
           have Ke:=TD (av.mH.aP j) wz Kd
           have hlen:=av.len
           have ba:=(kp (show j<l.length by omega)).symm
           have mB:=m3 (l:=l) (j:=j) (aP l j+2^k) (by omega)
           have TH:ah j*2^k=2^m:=by rw[k9,<-Nat.pow_add];congr 1;omega
           have TI:=m4 (j:=j) av.mH Ke
           have wA:=map_set l j (aP l j+2^k)
           rw[Nat.mul_add,TH] at mB
           have TJ:2^k<4294967296:=by omega
           generalize bk:aP l j=d at*
           refine bl (bs bE ?_)
           simp[eT,bT,t3]
           refine bl (bs bE ?_)
           simp
           refine fQ _ rfl (fun _=>?_) (fun I=>absurd I (by simp))
           refine bl (bs bE ?_)
           simp
           refine bs bE ?_
           simp[eK,q6,gc,gs,<-aO,<-ag,fg (show j<9223372036854775808 by omega),ba,C0,sizedB,hlen,<-bq,show L≠0 by omega,show 0<L by omega,bk,Nat.min_eq_left (Nat.le_of_lt wz),Nat.mod_eq_of_lt TJ,Nat.mod_eq_of_lt Ke,show q<aj.h.next+8+1+2 by omega]
           refine⟨by first|decide|rfl,?_⟩
           refine bs bE ?_
           simp[q6,kG (show m<9223372036854775808 by omega)]
           refine⟨m,by omega,by omega,l.set j (d+2^k),q,⟨by simp[hlen],TI,?_,by simp[sF],by simp[bT],by simp[eK,bq],⟨false,by simp[bY,cf];omega⟩,by simp,by simp,by simp[gs],by simp;omega⟩⟩
           have au:val l=2*(a/2^(m+1)/b)*2^m:=by rw[aF,Nat.pow_succ,Nat.mul_comm (2^m) 2,<-Nat.mul_assoc,Nat.mul_comm _ 2]
           rw[d2,Nat.add_mul,Nat.one_mul,<-au]
           omega
         · simp only[if_neg hle] at d1 d2
           rw[if_pos (by omega)] at t3
           refine bl (bs bE ?_)
           simp[eT,bT,t3]
           refine bl (bs bE ?_)
           simp
           refine fQ _ rfl (fun I=>absurd I (by simp)) (fun _=>?_)
           refine iS ?_
           simp
           refine bs bE ?_
           simp[q6,kG (show m<9223372036854775808 by omega)]
           refine⟨m,by omega,by omega,l,q,⟨av.len,av.mH,?_,by simp[sF],by simp[bT],by simp[eK,bq],⟨false,by simp[eT,bY,cf];omega⟩,by simp,by simp[gc],by simp[gs],by simp;omega⟩⟩
           rw[aF,d2,Nat.pow_succ 2 m,Nat.mul_comm (2^m) 2,<-Nat.mul_assoc,Nat.mul_comm _ 2,Nat.add_zero]
   · rintro s ⟨l,q,av⟩
     have aF:=av.v
     obtain⟨qO,f8⟩:=av.f8
     have hlen:=av.len
     simp only[Nat.pow_zero,Nat.div_one,Nat.mul_one] at aF f8
     simp
     refine bl (bs bE ?_)
     have TK:=Nat.mod_lt a (show 0<b by omega)
     have cZ:=pN (e:=false) av.mH (by omega)
     rw[aF] at cZ
     have Kf:=pN (e:=qO) (dZ (a%b)) (Nat.le_trans (ir (Nat.le_of_lt TK)) (by omega))
     rw[cB] at Kf
     have iW:List.take L (l.map fun n=>J.int .u32 (Z n))=l.map fun n=>J.int .u32 (Z n):=List.take_of_length_le (by simp;omega)
     simp[av.f7,f8,av.cells,<-bq,hlen,iW,cZ,Kf]
     try refine ca ?_
     simp
noncomputable def uq:List J->Option J:=bu (fun z:Nat × Nat=>(ad z.1).length<=1000000/\(ad z.2).length<=1000000) (fun z=>[ai z.1,ai z.2]) (fun z=>ai (Nat.gcd z.1 z.2))
theorem TL {a b:Nat} {e e':Bool} (aV:(ad a).length<=1000000) (aa:(ad b).length<=1000000):
 uq [.sl ((ad a).map fun n=> .int .u32 (Z n)) e,.sl ((ad b).map fun n=> .int .u32 (Z n)) e']=some (ai (Nat.gcd a b)):=
 bM (fun z w h=>by simp[bY,cf] at h;simp[h]) (a,b) ⟨aV,aa⟩ (by simp)
noncomputable def Kg:FuncId->Option (List J->Option J):=cT [(182,um)]
theorem TM:∀f T,Kg f=some T->a3 Tryz.prog G f T:=cX (by simp only[List.forall_mem_cons];exact ⟨Kb,fun _ h=>absurd h (by simp)⟩)
theorem TN:Kg 182=some um:=rfl
attribute [local simp] TN
theorem Kh:a3 Tryz.prog G 113 uq:=by
 refine bK mixed TM IZ fun z ay=>?_
 obtain⟨a,b⟩:=z
 obtain⟨bQ,bm⟩:=ay
 simp only at bQ bm|-
 unfold i113
 refine bl (bs bE ?_)
 simp[aQ]
 refine bl ?_
 refine lv (id:=0) (fun m s=>∃x,(ad x).length<=1000000/\(ad m).length<=1000000/\Nat.gcd x m=Nat.gcd a b/\s.F 0=ai x/\s.F 1=ai m) (fun s=>s.F 0=ai (Nat.gcd a b)) (fun _=>False) b ?_ ?_ ?_ (fun _ h=>h.elim)
 · exact ⟨a,bQ,bm,rfl,by simp,by simp⟩
 · rintro m s ⟨x,Ki,lm,ba,f0,f1⟩
   refine bl (bl (bs bE ?_))
   simp[f1]
   refine fQ _ rfl (fun I=>?_) (fun I=>?_)
   · have hm:m≠0:=lM.1 (by simpa using I)
     have t1:=J' (a:=x) (b:=m) (e:=false) (e':=false) Ki lm
     rw[if_neg hm] at t1
     have bF:=Nat.mod_lt x (show 0<m by omega)
     refine iS ?_
     simp
     refine kd (bl (bs bE ?_))
     simp[f0,f1,t1]
     refine bl (bs bE ?_)
     simp[f1]
     refine bs bE ?_
     simp
     refine⟨x%m,bF,m,lm,Nat.le_trans (ir (Nat.le_of_lt bF)) lm,?_,rfl,rfl⟩
     rw[<-ba,Nat.gcd_comm x m,Nat.gcd_rec m x,Nat.gcd_comm]
   · have hm:m=0:=by
      have:(ad m).length=0:=by simp at I;simp[I]
      exact JV.1 this
     subst hm
     refine dq ?_
     rw[Nat.gcd_zero_right] at ba
     exact ⟨rfl,by simp[f0,ba]⟩
 · intro s f0
   simp
   refine bl (bs bE ?_)
   simp[f0]
   try refine ca ?_
   simp
end
end
end Go.Proofs.YtemiagcencajeaaGreatDoor
