/- What the claim needs of the walks, put together by a program (shake.py). -/
import Derived.Test.YtcikknajimdjoaaGreatDoorFpA
set_option maxRecDepth 100000
set_option linter.unusedSimpArgs false
set_option linter.unusedVariables false
set_option linter.unusedSectionVars false
namespace Go.Proofs.YtcikknajimdjoaaGreatDoor
section
open Go Go.Eng Go.RowKit
abbrev e3 (n:Nat):J:= .int .u64 (Z n)
abbrev b2 (n:Nat):J:= .int .u32 (Z n)
abbrev bp (n:Nat):J:= .int .i64 (Z n)
abbrev cH (l:List Nat) (e:Bool):J:= .sl (l.map fun n=> .int .u32 (Z n)) e
def a5 (l:List Nat) (i:Nat):Nat:=l.getD i 0
theorem BD (x:Nat) (l:List Nat):a5 (x::l) 0=x:=rfl
theorem yy (x:Nat) (l:List Nat) (i:Nat):a5 (x::l) (i+1)=a5 l i:=rfl
theorem PG (i:Nat):a5 [] i=0:=rfl
theorem rf {l:List Nat} {i:Nat} (h:l.length<=i):a5 l i=0:=by
 simp[a5,List.getD,List.getElem?_eq_none h]
theorem k4 {l:List Nat} {i:Nat} (h:i<l.length):a5 l i=l[i]:=by simp[a5,List.getD,h]
theorem BE {l:List Nat} {i:Nat} (h:i<l.length):a5 l i∈l:=by
 rw[k4 h];exact List.getElem_mem h
theorem o9 {l:List Nat} {i:Nat} (h:i<l.length):(l.map fun n=>J.int .u32 (Z n))[i]? =some (.int .u32 (Z (a5 l i))):=by
 simp[k4 h,List.getElem?_eq_getElem h]
def val:List Nat->Nat
 | []=>0
 | x::l=>x+4294967296*val l
def Small (l:List Nat):Prop:=∀x∈l,x<4294967296
theorem Small.nil:Small []:=fun x h=>by cases h
theorem Small.cons {x:Nat} {l:List Nat} (h:Small (x::l)):x<4294967296/\Small l:=⟨h x (by simp),fun y bj=>h y (by simp[bj])⟩
theorem mi {x:Nat} {l:List Nat}:Small (x::l)↔x<4294967296/\Small l:=⟨Small.cons,fun h y bj=>by
 rcases List.mem_cons.1 bj with rfl|bj
 · exact h.1
 · exact h.2 y bj⟩
theorem o_ {a b:List Nat}:Small (a++b)↔Small a/\Small b:=by
 constructor
 · exact fun h=>⟨fun x av=>h x (by simp[av]),fun x av=>h x (by simp[av])⟩
 · rintro ⟨h,k⟩ x av
   rcases List.mem_append.1 av with av|av
   · exact h x av
   · exact k x av
theorem Small.a5 {l:List Nat} (h:Small l) (i:Nat):a5 l i<4294967296:=by
 by_cases an:i<l.length
 · exact h _ (BE an)
 · rw[rf (by omega)];decide
theorem Small.take {l:List Nat} (h:Small l) (n:Nat):Small (l.take n):=fun x av=>h x (List.mem_of_mem_take av)
theorem Small.drop {l:List Nat} (h:Small l) (n:Nat):Small (l.drop n):=fun x av=>h x (List.mem_of_mem_drop av)
def aE:Nat->Nat
 | 0=>1
 | k+1=>4294967296*aE k
theorem fC:aE 0=1:=rfl
theorem eQ (k:Nat):aE (k+1)=aE k*4294967296:=Nat.mul_comm ..
theorem uj:∀k,aE k=4294967296^k
 | 0=>rfl
 | k+1=>by rw[eQ,uj k,Nat.pow_succ]
theorem kO:∀k:Nat,0<aE k
 | 0=>by decide
 | k+1=>by have:=kO k;rw[eQ];omega
theorem hg (a b:Nat):aE (a+b)=aE a*aE b:=by rw[uj,uj,uj,Nat.pow_add]
theorem mS {a b:Nat} (h:a<=b):aE a<=aE b:=by rw[uj,uj];exact Nat.pow_le_pow_right (by decide) h
theorem pa:aE 1=4294967296:=rfl
theorem rh (n k:Nat):n/aE (k+1)=n/aE k/4294967296:=by rw[eQ,Nat.div_div_eq_div_mul]
theorem mT (n k:Nat):n%aE (k+1)=n%aE k+aE k*(n/aE k%4294967296):=by rw[eQ];exact Nat.mod_mul
attribute [irreducible] aE
theorem mU:∀(a b:List Nat),val (a++b)=val a+aE a.length*val b
 | [],b=>by simp[val,fC]
 | x::a,b=>by
   simp only[List.cons_append,val,mU a b,List.length_cons,eQ]
   rw[Nat.mul_add,Nat.mul_comm (aE a.length) 4294967296,Nat.mul_assoc];omega
theorem qo:∀ {l:List Nat},Small l->val l<aE l.length
 | [],_=>by simp[val,fC]
 | x::l,h=>by
   have ae:=h.cons
   have h2:=qo ae.2
   have aO:4294967296*val l+4294967296<=4294967296*aE l.length:=by
    have:=Nat.mul_le_mul_left 4294967296 (Nat.succ_le_of_lt h2)
    rw[Nat.mul_succ] at this;exact this
   simp only[val,List.length_cons,eQ]
   rw[Nat.mul_comm (aE l.length)]
   omega
theorem sG (n:Nat):val (List.replicate n 0)=0:=by
 induction n with
 | zero=>rfl
 | succ n b_=>rw[List.replicate_succ,val,b_]
def ai (n:Nat):List Nat:=if h:n=0 then [] else n%4294967296::ai (n/4294967296)
termination_by n
decreasing_by exact Nat.div_lt_self (by omega) (by decide)
theorem eX:ai 0= []:=by unfold ai;simp
theorem sH {n:Nat} (h:n≠0):ai n=n%4294967296::ai (n/4294967296):=by
 rw[ai];simp[h]
theorem dW (n:Nat):Small (ai n):=by
 induction n using Nat.strongRecOn with
 | _ n b_=>
   by_cases h:n=0
   · subst h;rw[eX];exact Small.nil
   · rw[sH h]
     exact mi.2 ⟨Nat.mod_lt _ (by decide),b_ _ (Nat.div_lt_self (by omega) (by decide))⟩
theorem du (n:Nat):val (ai n)=n:=by
 induction n using Nat.strongRecOn with
 | _ n b_=>
   by_cases h:n=0
   · subst h;rw[eX];rfl
   · rw[sH h,val,b_ _ (Nat.div_lt_self (by omega) (by decide))]
     exact Nat.mod_add_div n 4294967296
theorem bL {a b:Nat}:ai a=ai b↔a=b:=⟨fun h=>by rw[<-du a,h,du],fun h=>by rw[h]⟩
theorem g3 {n:Nat}:ai n= []↔n=0:=by
 constructor
 · intro h;rw[<-du n,h];rfl
 · rintro rfl;exact eX
theorem Hz {n:Nat}:(ai n).length=0↔n=0:=by rw[List.length_eq_zero_iff,g3]
theorem lk {n:Nat}:0<(ai n).length↔n≠0:=by
 have:=Hz (n:=n);omega
theorem HA:∀ {l:List Nat},Small l->(l= []\/a5 l (l.length - 1)≠0)->ai (val l)=l
 | [],_,_=>eX
 | [x],h,h2=>by
   have ae:=h.cons.1
   have av:x≠0:=by
    rcases h2 with h2|h2
    · cases h2
    · exact h2
   have e:val [x]=x:=by simp[val]
   rw[e,sH av,Nat.mod_eq_of_lt ae,show x/4294967296=0 from Nat.div_eq_of_lt ae,eX]
 | x::y::l,h,h2=>by
   have ae:=h.cons
   have aO:a5 (y::l) ((y::l).length - 1)≠0:=by
    rcases h2 with h2|h2
    · cases h2
    · exact h2
   have b_:=HA ae.2 (.inr aO)
   have aY:val (y::l)≠0:=by
    intro aS
    rw[aS,eX] at b_
    cases b_
   have e:val (x::y::l)=x+4294967296*val (y::l):=rfl
   rw[e]
   generalize val (y::l)=v at*
   rw[sH (by omega),show (x+4294967296*v)%4294967296=x by omega,show (x+4294967296*v)/4294967296=v by omega,b_]
theorem qp:∀ {l:List Nat},Small l->∀i,a5 l i=val l/aE i%4294967296
 | [],_,i=>by simp[PG,val]
 | x::l,h,0=>by
   have:=h.cons.1
   rw[BD,val,fC];omega
 | x::l,h,i+1=>by
   have ae:=h.cons
   rw[yy,qp ae.2 i,val,eQ,Nat.mul_comm (aE i),<-Nat.div_div_eq_div_mul]
   congr 2
   omega
theorem gv (n i:Nat):a5 (ai n) i=n/aE i%4294967296:=by rw[qp (dW n),du]
theorem BF:∀ {l:List Nat},Small l->∀i,val (l.drop i)=val l/aE i
 | [],_,i=>by simp[val]
 | x::l,h,0=>by simp[fC]
 | x::l,h,i+1=>by
   have ae:=h.cons
   rw[List.drop_succ_cons,BF ae.2 i,val,eQ,Nat.mul_comm (aE i),<-Nat.div_div_eq_div_mul]
   congr 1
   omega
theorem PH {l:List Nat} (h:Small l) (i:Nat):val (l.take i)=val l%aE i:=by
 by_cases an:i<=l.length
 · have e:=mU (l.take i) (l.drop i)
   rw[List.take_append_drop,BF h,List.length_take,Nat.min_eq_left an] at e
   have:=Nat.mod_add_div (val l) (aE i)
   omega
 · rw[List.take_of_length_le (by omega),Nat.mod_eq_of_lt (Nat.lt_of_lt_of_le (qo h) (mS (by omega)))]
theorem BG {n:Nat} (h:n≠0):a5 (ai n) ((ai n).length - 1)≠0:=by
 induction n using Nat.strongRecOn with
 | _ n b_=>
   by_cases h2:n/4294967296=0
   · have aC:n<4294967296:=by omega
     rw[sH h,h2,eX]
     show n%4294967296≠0
     omega
   · have:=b_ _ (Nat.div_lt_self (by omega) (by decide)) h2
     have bc:=lk.2 h2
     rw[sH h,List.length_cons,Nat.add_sub_cancel]
     obtain⟨k,aI⟩:∃k,(ai (n/4294967296)).length=k+1:=⟨_,(Nat.succ_pred_eq_of_pos bc).symm⟩
     rw[aI,yy]
     rw[aI,Nat.add_sub_cancel] at this
     exact this
theorem c8 {n k:Nat}:(ai n).length<=k↔n<aE k:=by
 constructor
 · intro h
   have:=qo (dW n)
   rw[du] at this
   exact Nat.lt_of_lt_of_le this (mS h)
 · intro h
   by_cases aC:n=0
   · subst aC;rw[eX];exact Nat.zero_le _
   · refine Nat.le_of_not_lt fun aI=>BG aC ?_
     rw[gv,Nat.div_eq_of_lt (Nat.lt_of_lt_of_le h (mS (by omega)))]
theorem BH {n k:Nat}:k<(ai n).length↔aE k<=n:=by
 have:=c8 (n:=n) (k:=k);omega
theorem f_ {a b:Nat} (h:a<=b):(ai a).length<=(ai b).length:=c8.2 (Nat.lt_of_le_of_lt h (c8.1 (Nat.le_refl _)))
theorem k5 (a b:Nat):(ai (a+b)).length<=max (ai a).length (ai b).length+1:=by
 refine c8.2 ?_
 have ae:a<aE (max (ai a).length (ai b).length):=c8.1 (Nat.le_max_left _ _)
 have h2:b<aE (max (ai a).length (ai b).length):=c8.1 (Nat.le_max_right _ _)
 generalize max (ai a).length (ai b).length=k at*
 rw[eQ]
 omega
theorem hC (a b:Nat):(ai (a*b)).length<=(ai a).length+(ai b).length:=by
 refine c8.2 ?_
 rw[hg]
 have ae:a<aE (ai a).length:=c8.1 (Nat.le_refl _)
 have h2:b<aE (ai b).length:=c8.1 (Nat.le_refl _)
 exact Nat.mul_lt_mul'' ae h2
theorem BI {l:List Nat} (h:Small l) {m:Nat} (hm:m<=l.length) (aV:∀i,m<=i->a5 l i=0) (a6:m=0\/a5 l (m - 1)≠0):l.take m=ai (val l):=by
 have PI:∀i,i<m->a5 (l.take m) i=a5 l i:=fun i an=>by
  rw[k4 (by simp;omega),k4 (by omega)];simp
 have e:val (l.take m)=val l:=by
  have bw:∀r:List Nat,(∀i,a5 r i=0)->val r=0:=by
   intro r
   induction r with
   | nil=>intro _;rfl
   | cons x r b_=>intro bf;rw[val,b_ (fun i=>bf (i+1)),show x=0 from bf 0]
  have:=mU (l.take m) (l.drop m)
  rw[List.take_append_drop,bw (l.drop m) (fun i=>by
   have e:a5 (l.drop m) i=a5 l (m+i):=by simp[a5,List.getD,List.getElem?_drop]
   rw[e,aV _ (by omega)])] at this
  simpa using this.symm
 rw[<-e,HA (h.take m)]
 by_cases aS:m=0
 · left;subst aS;rfl
 · right
   have hlen:(l.take m).length=m:=by simp;omega
   rw[hlen,PI _ (by omega)]
   exact a6.resolve_left aS
theorem bG {a b:List Nat}:((a.map fun n=>J.int .u32 (Z n))=b.map fun n=>J.int .u32 (Z n))↔a=b:=by
 constructor
 · intro h
   refine List.map_inj_right (f:=fun n=>J.int .u32 (Z n)) (fun x y np=>?_) |>.1 h
   simpa[bI] using np
 · rintro rfl;rfl
theorem ek (l:List Nat):mQ (l.map fun n=>J.int .u32 (Z n))=l.map fun n=>J.int .u32 (Z n):=by
 rw[sE,List.map_map]
 refine List.map_congr_left fun x _=>?_
 simp[gu]
theorem wI (l:List Nat):(l.map fun n=>J.int .u32 (Z n)).all J.ft=true:=by
 simp[J.ft,J.cells,J.e7]
abbrev aw (n:Nat):J:=cH (ai n) false
theorem PJ (l:List Nat) (e:Bool):(cH l e).loose=cH l false:=by rw[gJ,ek]
theorem lX:ai 1= [1]:=by rw[sH (by decide),show 1%4294967296=1 from rfl,show 1/4294967296=0 from rfl,eX]
def b' (z:Int):Bool:=decide (z<0)
theorem HB {a b:Int}:(b' a=b' b/\a.natAbs=b.natAbs)↔a=b:=by
 constructor
 · rintro ⟨ae,h2⟩
   simp only[b',decide_eq_decide] at ae
   omega
 · rintro rfl;exact ⟨rfl,rfl⟩
theorem PK (n:Nat):b' (n:Int)=false:=by simp[b']
theorem HC {z:Int}:b' z=true↔z<0:=by simp[b']
theorem HD {z:Int}:b' z=false↔0<=z:=by simp[b']
abbrev a7 (z:Int):J:= .agg [.bool (b' z),aw z.natAbs]
theorem PL (z:Int) (e:Bool):(J.agg [.bool (b' z),cH (ai z.natAbs) e]).loose=a7 z:=by
 rw[gr,gq,gq,gD,gK,PJ]
abbrev HE (p:List Int) (e:Bool):J:= .sl (p.map fun z=>a7 z) e
theorem bU {a b:Int}:a7 a=a7 b↔a=b:=by
 constructor
 · intro h
   simp only[J.agg.injEq,List.cons.injEq,J.bool.injEq,J.sl.injEq,bG,bL,and_true] at h
   exact HB.1 h
 · rintro rfl;rfl
theorem bV {a b:List Int}:((a.map fun z=>a7 z)=b.map fun z=>a7 z)↔a=b:=by
 constructor
 · intro h
   exact List.map_inj_right (f:=fun z=>a7 z) (fun x y np=>bU.1 np) |>.1 h
 · rintro rfl;rfl
theorem eL (l:List Int):mQ (l.map fun z=>a7 z)=l.map fun z=>a7 z:=by
 rw[sE,List.map_map]
 refine List.map_congr_left fun x _=>?_
 exact PL x false
end
section
open Go Go.Eng
def G:Nat->Option J:=fun _=>none
end
section
open Go Go.Eng Go.RowKit
def sI:List (String × DataW Unit):=[("ziggurat/ntt.fields",Rows.laid_ziggurat_ntt_fields)]
theorem own:ownKnob Tryz.prog.godebug=none:=by kernel_rfl
theorem lay:laidOutB Tryz.prog=true:=by kernel_rfl
theorem nk (W:World) (PM:Array Value) (Zy:laidMetH Tryz.prog sI W):∀g u,G g=some u->bC W (fun _=>True) (fun _=>none) (.e0 u) (.pointer (some ⟨g,0,none⟩)):=by
 intro g u bq
 cases bq
theorem PN (os:Os) (args:Array Value):laidMetH Tryz.prog sI ((World.doorLaid Tryz.prog 17 os).forCall (fun _ _=>0) ⟨#[],args,[]⟩).memory:=
 laidMetH_of_parts3 (fuel:=8) (laidMet_of_run' 8 (by kernel_rfl) (by kernel_rfl)) (by kernel_rfl) (by kernel_rfl)
theorem PO (w bh:World) (PM:Array Value) (de:w.heap=bh.heap) (h:laidMetH Tryz.prog sI w):laidMetH Tryz.prog sI bh:=h.of_heap de
end
section
open Go Go.Eng Go.RowKit
attribute [local simp] bH.m bH.o bH.n bH.g hy fh dG dr dJ evalOp.eq_1 evalOp.eq_2 evalOp.eq_3 evalOp.eq_4 evalOp.eq_5 evalOp.eq_6 evalOp.eq_7 evalOp.eq_8 evalOp.eq_9 evalOp.eq_10 evalOp.eq_11 evalOp.eq_12 evalOp.eq_13 evalOp.eq_14 evalOp.eq_15 evalOp.eq_16 evalOp.eq_17 evalOp.eq_18 evalOp.eq_19 evalOp.eq_20 evalOp.eq_21 evalOp.eq_22 evalOp.eq_23 evalOp.eq_24 evalOp.eq_25 evalOp.eq_27 evalOp.eq_28 evalOp.eq_29 kl bn.cu dq aG aF.new a8 J.cells J.dp J.e7 J.ft il iq im ir iv iu jK jL jM gY gZ cut partOf bound elems jO jP jQ jR jS jT jU jV jW jX jY jZ h1 j0 j1 j2 j3 j4 j5 j6 j7 j8 j9 j_ j' ka kb kc kd ke kf kg kh ki kj kk ff e8 e1 gi iw hA aF.close aF.set h3 km kn ko jN hB gD gq gJ gr hX gu gK hY hZ h0 gf gg gh gd ix bI hU iy hV iz iA fY iB fw iC iD iE gT jJ iF iG iH iI iJ iK iL iM iN iO iP iQ iR iS iT iU iV iW iX hf iY iZ i_ i' ja jb jc jd je jf jg jh ji jj jk
attribute [local simp high] jG jH jI jl jm jn jo jq jr js jt ju jv jw jx jy jz jA jB jC jD jE jF
attribute [local simp] ek eL
section
noncomputable def PQ:FuncId->Option (List J->Option J):=da []
theorem uk:∀f T,PQ f=some T->bl Tryz.prog G f T:=dc (by simp)
theorem yz (a b:Nat):fg (fun a b=>if a<b then b else a) [J.int .i64 (Z a),J.int .i64 (Z b)]=some (.int .i64 (Z (max a b))):=by
 simp only[fg,if_true]
 congr 2
 by_cases h:a<b
 · rw[if_pos (by simp only[Z];omega),Nat.max_eq_right (by omega)]
 · rw[if_neg (by simp only[Z];omega),Nat.max_eq_left (by omega)]
theorem um (a b:Nat):fg (fun a b=>if b<a then b else a) [J.int .i64 (Z a),J.int .i64 (Z b)]=some (.int .i64 (Z (min a b))):=by
 simp only[fg,if_true]
 congr 2
 by_cases h:b<a
 · rw[if_pos (by simp only[Z];omega),Nat.min_eq_right (by omega)]
 · rw[if_neg (by simp only[Z];omega),Nat.min_eq_left (by omega)]
def lK (n:Nat):Int:=n - 1
theorem sJ:lK 0= -1:=rfl
theorem uo (n:Nat):lK (n+1)=Z n:=by simp only[lK,Z];omega
theorem nb {n:Nat} (h:n<9223372036854775808):IntKind.i64.wrap (Z n - Z 1)=lK n:=by
 rw[wrap_i64 (by simp only[Z];omega) (by simp only[Z];omega)];rfl
noncomputable def uq:List J->Option J:=cl (fun z:List Nat × Nat=>Small z.1/\z.2<4611686018427387904/\z.1.length<4611686018427387904) (fun z=>[cH z.1 false,bp z.2]) (fun z=>e3 (a5 z.1 z.2))
theorem sK {l:List Nat} {e:Bool} {i:Nat} (h:Small l) (an:i<4611686018427387904) (a6:l.length<4611686018427387904):uq [.sl (l.map fun n=> .int .u32 (Z n)) e,bp i]=some (e3 (a5 l i)):=
 cI (fun z w h=>by simp[bG] at h;simp[h]) (l,i) ⟨h,an,a6⟩ (by simp)
theorem HF:bl Tryz.prog G 95 uq:=by
 refine cJ mixed uk GG fun z aV=>?_
 obtain⟨l,i⟩:=z
 obtain⟨aP,an,a6⟩:=aV
 simp only at aP an a6|-
 have ae:=aP.a5 i
 unfold i95
 refine ax (az aM ?_)
 simp[aS]
 refine ax (ax (az aM ?_))
 simp
 refine aJ _ rfl (fun I=>?_) (fun I=>?_)
 · have I:l.length<=i:=by simpa using I
   refine ax (az aM ?_)
   simp
   refine aH ?_
   simp[rf I]
 · have I:i<l.length:=by simpa using I
   refine aK ?_
   simp
   refine ax (az aM ?_)
   have bq:=o9 I
   simp only[List.getElem?_map] at bq
   simp[bq,Nat.mod_eq_of_lt (show a5 l i<18446744073709551616 by omega)]
   refine aH ?_
   simp
noncomputable def oo:List J->Option J:=cl (fun z:List Nat=>Small z/\z.length<=1073741824) (fun z=>[cH z false]) (fun z=>aw (val z))
theorem qq {l:List Nat} {e:Bool} (h:Small l) (a6:l.length<=1073741824):oo [.sl (l.map fun n=> .int .u32 (Z n)) e]=some (aw (val l)):=
 cI (fun z w h=>by simp[bG] at h;simp[h]) l ⟨h,a6⟩ (by simp)
theorem wJ:bl Tryz.prog G 106 oo:=by
 refine cJ mixed uk GO fun l aV=>?_
 obtain⟨aP,a6⟩:=aV
 unfold i106
 refine ax (az aM ?_)
 simp[aS]
 refine ax (az aM ?_)
 simp
 refine ax ?_
 refine mg (id:=0) (fun m s=>m<=l.length/\(∀i,m<=i->a5 l i=0)/\s.F 0=cH l false/\s.F 3=bp m)
  (fun s=>∃m,m<=l.length/\(∀i,m<=i->a5 l i=0)/\(m=0\/a5 l (m - 1)≠0)/\s.F 0=cH l false/\s.F 3=bp m) (fun _=>False) l.length ?_ ?_ ?_ (fun _ h=>h.elim)
 · exact ⟨Nat.le_refl _,fun i an=>rf an,by simp,by simp⟩
 · rintro m s ⟨hm,aV,f0,f3⟩
   refine ax (ax (az aM ?_))
   cases m with
   | zero=>
     simp[f0,f3]
     refine aJ _ rfl (fun I=>?_) (fun I=>?_)
     · exact absurd I (by decide)
     · refine aN ?_
       exact ⟨rfl,0,by omega,aV,.inl rfl,by simp[f0],by simp[f3]⟩
   | succ m=>
     have bq:=o9 (show m<l.length by omega)
     simp only[List.getElem?_map] at bq
     simp[f0,f3,eh (show 1<=m+1 by omega) (show m+1<9223372036854775808 by omega),bq]
     refine aJ _ rfl (fun I=>?_) (fun I=>?_)
     · have I:a5 l m=0:=by simpa using I
       refine aK ?_
       simp
       refine aL (az aM ?_)
       simp[f3,eh (show 1<=m+1 by omega) (show m+1<9223372036854775808 by omega)]
       refine⟨m,by omega,by omega,fun i an=>?_,f0,rfl⟩
       by_cases e:i=m
       · subst e;exact I
       · exact aV i (by omega)
     · have I:a5 l m≠0:=by simpa using I
       refine aN ?_
       exact ⟨rfl,m+1,hm,aV,.inr I,by simp[f0],by simp[f3]⟩
 · rintro s ⟨m,hm,aV,k2,f0,f3⟩
   have a':=BI aP hm aV k2
   have hlen:(ai (val l)).length=m:=by rw[<-a'];simp;omega
   simp
   refine ax (az aM ?_)
   have aj:((l.take m).map fun n=>J.int .u32 (Z n))=(ai (val l)).map fun n=>J.int .u32 (Z n):=by rw[a']
   rw[List.map_take] at aj
   by_cases my:m=0
   · have PR:ai (val l)= []:=List.length_eq_zero_iff.1 (by omega)
     subst my
     simp[f0,f3,lQ,mR]
     refine aH ?_
     simp[PR]
   · have cp:¬ai (val l)= []:=fun h=>my (by rw[<-hlen,h];rfl)
     have aq:List.take m ((ai (val l)).map fun n=>J.int .u32 (Z n))=(ai (val l)).map fun n=>J.int .u32 (Z n):=List.take_of_length_le (by simp;omega)
     simp[f0,f3,hm,lQ,mR,aj,hlen,cp,my,show 0<m by omega,show m*4<=35184372088832 by omega]
     refine aH ?_
     simp[hlen,aq]
end
end
section
open Go Go.Eng Go.RowKit
attribute [local simp] bH.m bH.o bH.n bH.g hy fh dG dr dJ evalOp.eq_1 evalOp.eq_2 evalOp.eq_3 evalOp.eq_4 evalOp.eq_5 evalOp.eq_6 evalOp.eq_7 evalOp.eq_8 evalOp.eq_9 evalOp.eq_10 evalOp.eq_11 evalOp.eq_12 evalOp.eq_13 evalOp.eq_14 evalOp.eq_15 evalOp.eq_16 evalOp.eq_17 evalOp.eq_18 evalOp.eq_19 evalOp.eq_20 evalOp.eq_21 evalOp.eq_22 evalOp.eq_23 evalOp.eq_24 evalOp.eq_25 evalOp.eq_27 evalOp.eq_28 evalOp.eq_29 kl bn.cu dq aG aF.new a8 J.cells J.dp J.e7 J.ft il iq im ir iv iu jK jL jM gY gZ cut partOf bound elems jO jP jQ jR jS jT jU jV jW jX jY jZ h1 j0 j1 j2 j3 j4 j5 j6 j7 j8 j9 j_ j' ka kb kc kd ke kf kg kh ki kj kk ff e8 e1 gi iw hA aF.close aF.set h3 km kn ko jN hB gD gq gJ gr hX gu gK hY hZ h0 gf gg gh gd ix bI hU iy hV iz iA fY iB fw iC iD iE gT jJ iF iG iH iI iJ iK iL iM iN iO iP iQ iR iS iT iU iV iW iX hf iY iZ i_ i' ja jb jc jd je jf jg jh ji jj jk
attribute [local simp high] jG jH jI jl jm jn jo jq jr js jt ju jv jw jx jy jz jA jB jC jD jE jF
attribute [local simp] ek eL du
section
noncomputable def BJ:FuncId->Option (List J->Option J):=da [(95,uq),(106,oo)]
theorem BK:∀f T,BJ f=some T->bl Tryz.prog G f T:=dc (by simp only[List.forall_mem_cons];exact ⟨HF,wJ,fun _ h=>absurd h (by simp)⟩)
theorem HG:BJ 95=some uq:=rfl
theorem HH:BJ 106=some oo:=rfl
attribute [local simp] HG HH
theorem val_two {n:Nat} (h:n<18446744073709551616):val [n%4294967296,n/4294967296]=n:=by simp only[val];omega
noncomputable def yA:List J->Option J:=cl (fun z:Nat=>z<18446744073709551616) (fun z=>[e3 z]) (fun z=>aw z)
theorem HI {n:Nat} (h:n<18446744073709551616):yA [e3 n]=some (aw n):=
 cI (fun z w h=>by simp at h;simp[h]) n h (by simp)
theorem PS:bl Tryz.prog G 110 yA:=by
 refine cJ mixed BK GS fun n aC=>?_
 unfold i110
 refine ax (az aM ?_)
 simp[aS]
 refine ax (az aM ?_)
 have e:=qq (l:=[n%4294967296,n/4294967296]) (e:=true) (mi.2 ⟨by omega,mi.2 ⟨by omega,Small.nil⟩⟩) (by simp)
 rw[val_two aC] at e
 simp only[List.map_cons,List.map_nil] at e
 simp[Nat.mod_eq_of_lt aC,Nat.mod_eq_of_lt (show n/4294967296<4294967296 by omega),Nat.mod_eq_of_lt (show n/4294967296<18446744073709551616 by omega),e]
 refine aH ?_
 simp
def cT (a b:Nat):Int:=if a<b then -1 else if b<a then 1 else 0
theorem yB {a b k:Nat} (h:a/aE (k+1)=b/aE (k+1)):
 (a/aE k%4294967296<b/aE k%4294967296->a<b)/\(a/aE k%4294967296=b/aE k%4294967296->a/aE k=b/aE k):=by
 rw[rh,rh] at h
 constructor
 · intro a6
   refine Nat.lt_of_not_le fun hle=>?_
   have:=Nat.div_le_div_right (c:=aE k) hle
   omega
 · intro he
   omega
noncomputable def oq:List J->Option J:=cl (fun z:List Nat × List Nat=>Small z.1/\Small z.2/\z.1.length<=1073741824/\z.2.length<=1073741824) (fun z=>[cH z.1 false,cH z.2 false]) (fun z=> .int .i64 (cT (val z.1) (val z.2)))
theorem wK {a b:List Nat} {e e':Bool} (bF:Small a) (au:Small b) (cZ:a.length<=1073741824) (cm:b.length<=1073741824):
 oq [.sl (a.map fun n=> .int .u32 (Z n)) e,.sl (b.map fun n=> .int .u32 (Z n)) e']=some (.int .i64 (cT (val a) (val b))):=
 cI (fun z w h=>by simp[bG] at h;simp[h]) (a,b) ⟨bF,au,cZ,cm⟩ (by simp)
theorem wL:bl Tryz.prog G 48 oq:=by
 refine cJ mixed BK Gd fun z aV=>?_
 obtain⟨a,b⟩:=z
 obtain⟨bF,au,cZ,cm⟩:=aV
 simp only at bF au cZ cm|-
 obtain⟨M,eB⟩:∃M,M=max a.length b.length:=⟨_,rfl⟩
 have HJ:M<=1073741824:=by omega
 have aU:val a<aE M:=Nat.lt_of_lt_of_le (qo bF) (mS (by omega))
 have a9:val b<aE M:=Nat.lt_of_lt_of_le (qo au) (mS (by omega))
 unfold i48
 refine ax (az aM ?_)
 simp[aS]
 refine ax (ax (az aM ?_))
 simp[yz,<-eB,nb (show M<9223372036854775808 by omega)]
 refine mg (id:=0) (fun m s=>m<=M/\val a/aE m=val b/aE m/\s.F 0=cH a false/\s.F 1=cH b false/\s.F 5= .int .i64 (lK m))
  (fun s=>val a=val b) (fun s=>s.F 4= .int .i64 (cT (val a) (val b))) M ?_ ?_ ?_ ?_
 · exact ⟨Nat.le_refl _,by rw[Nat.div_eq_of_lt aU,Nat.div_eq_of_lt a9],by simp,by simp,by simp⟩
 · rintro m s ⟨hm,he,f0,f1,f5⟩
   refine ax (ax (az aM ?_))
   cases m with
   | zero=>
     rw[sJ] at f5
     simp[f5]
     refine aJ _ rfl (fun I=>?_) (fun I=>?_)
     · exact absurd I (by decide)
     · refine aN ?_
       exact ⟨rfl,by simpa[fC] using he⟩
   | succ m=>
     rw[uo] at f5
     simp[f5]
     refine aJ _ rfl (fun I=>?_) (fun I=>(by simp at I))
     refine aK ?_
     simp
     have t1:=sK (e:=false) (i:=m) bF (by omega) (by omega)
     have t2:=sK (e:=false) (i:=m) au (by omega) (by omega)
     obtain⟨s1,s2⟩:=yB he
     obtain⟨b3,_⟩:=yB he.symm
     rw[<-qp bF,<-qp au] at s1 s2 b3
     refine ax (aL (ax (ax (az aM ?_))))
     simp[f0,f1,f5,t1,t2]
     refine aJ _ rfl (fun I=>?_) (fun I=>?_)
     · have I:a5 a m<a5 b m:=by simpa using I
       refine ax (az aM ?_)
       simp
       refine aH ?_
       simp[cT,s1 I]
     · have I:¬a5 a m<a5 b m:=by simpa using I
       refine aK ?_
       simp
       refine ax (az aM ?_)
       simp[f0,f1,f5,t1,t2]
       refine aJ _ rfl (fun hr=>?_) (fun hr=>?_)
       · have hr:a5 b m<a5 a m:=by simpa using hr
         have aO:=b3 hr
         refine ax (az aM ?_)
         simp
         refine aH ?_
         simp[cT,aO,Nat.lt_asymm aO]
       · have hr:¬a5 b m<a5 a m:=by simpa using hr
         refine aK ?_
         simp
         refine az aM ?_
         simp[f0,f1,f5,nb (show m<9223372036854775808 by omega)]
         exact ⟨m,by omega,by omega,s2 (by omega),rfl⟩
 · intro s h
   simp
   refine ax (az aM ?_)
   simp
   refine aH ?_
   simp[cT,h]
 · intro s h
   simp[h]
end
section
attribute [local simp] HG HH
theorem PT (M n:Nat):M*n=M*(n%4294967296)+M*4294967296*(n/4294967296):=by
 conv=>lhs;rw[<-Nat.mod_add_div n 4294967296]
 rw[Nat.mul_add,Nat.mul_assoc]
theorem HK {a b o i c:Nat} (h:o+aE i*c=a%aE i+b%aE i):
 (o+aE i*((a/aE i%4294967296+b/aE i%4294967296+c)%4294967296))+aE (i+1)*((a/aE i%4294967296+b/aE i%4294967296+c)/4294967296)=a%aE (i+1)+b%aE (i+1):=by
 rw[mT,mT,eQ]
 have aO:=PT (aE i) (a/aE i%4294967296+b/aE i%4294967296+c)
 rw[Nat.mul_add (aE i),Nat.mul_add (aE i)] at aO
 omega
noncomputable def ri:List J->Option J:=cl (fun z:Nat × Nat=>(ai z.1).length<=1000000000/\(ai z.2).length<=1000000000) (fun z=>[aw z.1,aw z.2]) (fun z=>aw (z.1+z.2))
theorem BL {a b:Nat} {e e':Bool} (bF:(ai a).length<=1000000000) (au:(ai b).length<=1000000000):
 ri [.sl ((ai a).map fun n=> .int .u32 (Z n)) e,.sl ((ai b).map fun n=> .int .u32 (Z n)) e']=some (aw (a+b)):=
 cI (fun z w h=>by simp[bG,bL] at h;simp[h]) (a,b) ⟨bF,au⟩ (by simp)
theorem BM:bl Tryz.prog G 84 ri:=by
 refine cJ mixed BK GA fun z aV=>?_
 obtain⟨a,b⟩:=z
 obtain⟨cZ,cm⟩:=aV
 simp only at cZ cm|-
 have bF:=dW a
 have au:=dW b
 obtain⟨M,eB⟩:∃M,M=max (ai a).length (ai b).length:=⟨_,rfl⟩
 have HJ:M<=1000000000:=by omega
 have aU:a<aE (M+1):=c8.1 (by omega)
 have a9:b<aE (M+1):=c8.1 (by omega)
 have HL:a+b<aE (M+1):=c8.1 (by have:=k5 a b;omega)
 unfold i84
 refine ax (az aM ?_)
 simp[aS]
 refine ax (az aM ?_)
 simp
 refine ax ?_
 refine ax (az aM ?_)
 simp
 refine mg (id:=0) (fun m s=>∃(o:List Nat) (c:Nat),m=M+1 - o.length/\o.length<=M+1/\Small o/\c<=1/\val o+aE o.length*c=a%aE o.length+b%aE o.length/\
  s.F 0=aw a/\s.F 1=aw b/\eE 1 s.h (s.F 5) (o.map fun n=> .int .u32 (Z n))/\s.F 6=e3 c/\s.F 7=bp o.length)
  (fun s=>∃o:List Nat,Small o/\o.length=M+1/\val o=a+b/\eE 1 s.h (s.F 5) (o.map fun n=> .int .u32 (Z n))) (fun _=>False) (M+1) ?_ ?_ ?_ (fun _ h=>h.elim)
 · exact ⟨[],0,by simp,by simp,Small.nil,by simp,by simp[val,fC,Nat.mod_one],by simp,by simp,by simp;exact eE.nil (by simp),by simp,by simp⟩
 · rintro m s ⟨o,c,rfl,hh,fD,rj,aY,f0,f1,f5,f6,f7⟩
   by_cases k2:o.length=M+1
   · have aj:¬o.length<=(ai a).length:=by omega
     have aq:¬o.length<=(ai b).length:=by omega
     refine ax (ax (az aM ?_))
     simp[f0,f1,f7,aj,aq]
     refine aJ _ rfl (fun I=>?_) (fun I=>?_)
     · exact absurd I (by simp)
     · refine aN ?_
       rw[k2,Nat.mod_eq_of_lt aU,Nat.mod_eq_of_lt a9] at aY
       have ia:c=0:=by
        rcases Nat.eq_zero_or_pos c with h|h
        · exact h
        · have:=Nat.le_mul_of_pos_right (aE (M+1)) h
          omega
       subst ia
       refine⟨rfl,o,fD,k2,by simpa using aY,?_⟩
       simp[aG]
       exact f5.mono (fun q _=>rfl) (fun q=>rfl) (by simp)
   · have fj:o.length<=M:=by omega
     refine oj (fun s=>s.F 0=aw a/\s.F 1=aw b/\eE 1 s.h (s.F 5) (o.map fun n=> .int .u32 (Z n))/\s.F 6=e3 c/\s.F 7=bp o.length) ?_ ?_
     · refine ax (az aM ?_)
       by_cases aj:o.length<=(ai a).length
       · simp[f0,f1,f7,aj]
         refine aJ _ rfl (fun I=>?_) (fun I=>absurd I (by simp))
         refine aK ?_
         simp[f0,f1,f6,f7]
         exact f5.mono (fun q _=>rfl) (fun q=>rfl) (by simp)
       · have aq:o.length<=(ai b).length:=by omega
         simp[f0,f1,f7,aj,aq]
         refine aJ _ rfl (fun I=>?_) (fun I=>absurd I (by simp))
         refine aK ?_
         simp[f0,f1,f6,f7]
         exact f5.mono (fun q _=>rfl) (fun q=>rfl) (by simp)
     · clear f0 f1 f5 f6 f7
       rintro s ⟨f0,f1,f5,f6,f7⟩
       have t1:=sK (e:=false) (i:=o.length) bF (by omega) (by omega)
       have t2:=sK (e:=false) (i:=o.length) au (by omega) (by omega)
       have s1:=bF.a5 o.length
       have s2:=au.a5 o.length
       have fL:=HK aY
       rw[<-gv,<-gv] at fL
       generalize a5 (ai a) o.length=x at*
       generalize a5 (ai b) o.length=y at*
       refine ax (aL (ax (az aM ?_)))
       simp[f0,f1,f6,f7,t1,t2,Nat.mod_eq_of_lt (show x+y<18446744073709551616 by omega),Nat.mod_eq_of_lt (show x+y+c<18446744073709551616 by omega)]
       refine ax (az aM ?_)
       simp[uh f5,show (o.length+1)*4<=35184372088832 by omega]
       refine az aM ?_
       simp
       refine az aM ?_
       simp[f7,fa (show o.length+1<9223372036854775808 by omega)]
       have a4:=f5.app (ys:=[J.int .u32 (Z ((x+y+c)%4294967296))]) (by simp) (by simp) (s.h.next+10+7) (s.h.next+10+7+3+3) (s.h.next+10+5) s.h.bu s.h.bu (by omega) (by omega)
       simp only[List.length_map,List.length_singleton] at a4
       refine⟨M+1 -(o.length+1),by omega,o++ [(x+y+c)%4294967296],by simp,by simp;omega,o_.2 ⟨fD,mi.2 ⟨by omega,Small.nil⟩⟩,(x+y+c)/4294967296,by omega,?_,f0,f1,by simpa using a4,by omega,by simp⟩
       rw[mU,List.length_append,List.length_singleton]
       simpa[val] using fL
 · rintro s ⟨o,fD,hh,aY,f5⟩
   simp
   obtain⟨ids,a4⟩:=f5.out (wI _)
   refine ax (az aM ?_)
   simp[a4,qq fD (show o.length<=1073741824 by omega),aY]
   refine aH ?_
   simp
end
section
noncomputable def yC:FuncId->Option (List J->Option J):=da [(95,uq),(106,oo),(48,oq)]
theorem BN:∀f T,yC f=some T->bl Tryz.prog G f T:=dc (by simp only[List.forall_mem_cons];exact ⟨HF,wJ,wL,fun _ h=>absurd h (by simp)⟩)
theorem yD:yC 95=some uq:=rfl
theorem yE:yC 106=some oo:=rfl
theorem yF:yC 48=some oq:=rfl
attribute [local simp] yD yE yF
theorem HM {a b:Nat}:cT a b<0↔a<b:=by
 unfold cT;split
 · simp;omega
 · split<;>simp<;>omega
theorem PU {P B x y c n o u v q r:Nat} (aC:n+y+c=B+x) (bw:n=B*q+r) (bo:q<=1) (h:o+v=u+P*c):o+P*r+(v+P*y)=u+P*x+P*B*(1 - q):=by
 have ae:P*n+P*y+P*c=P*B+P*x:=by rw[<-Nat.mul_add,<-Nat.mul_add,aC,Nat.mul_add]
 have bo:q=0\/q=1:=by omega
 rcases bo with rfl|rfl
 · have:n=r:=by omega
   subst this
   simp only[Nat.sub_zero,Nat.mul_one]
   omega
 · have h2:P*n=P*B+P*r:=by rw[bw,Nat.mul_one,Nat.mul_add]
   simp only[Nat.sub_self,Nat.mul_zero,Nat.add_zero]
   omega
theorem PV {a b o i c n:Nat} (h:o+b%aE i=a%aE i+aE i*c) (aC:n+(b/aE i%4294967296)+c=4294967296+(a/aE i%4294967296)) (h2:n<8589934592):
 (o+aE i*(n%4294967296))+b%aE (i+1)=a%aE (i+1)+aE (i+1)*(1 - n/4294967296):=by
 rw[mT,mT,eQ]
 exact PU aC (Nat.div_add_mod n 4294967296).symm (by omega) h
theorem PW {v P c a b:Nat} (h:v+b=a+P*c) (I:c<=1) (aY:v<P) (g2:b<=a):c=0:=by
 rcases Nat.eq_zero_or_pos c with aS|aS
 · exact aS
 · obtain rfl:c=1:=by omega
   omega
noncomputable def rk:List J->Option J:=cl (fun z:Nat × Nat=>(ai z.1).length<=1000000000/\(ai z.2).length<=1000000000) (fun z=>[aw z.1,aw z.2])
 (fun z=>if z.1<z.2 then .cb [.sl [] false,.bool false] else .cb [aw (z.1 - z.2),.bool true])
theorem yG {a b:Nat} {e e':Bool} (bF:(ai a).length<=1000000000) (au:(ai b).length<=1000000000):
 rk [.sl ((ai a).map fun n=> .int .u32 (Z n)) e,.sl ((ai b).map fun n=> .int .u32 (Z n)) e']=some (if a<b then .cb [.sl [] false,.bool false] else .cb [aw (a - b),.bool true]):=
 cI (fun z w h=>by simp[bG,bL] at h;simp[h]) (a,b) ⟨bF,au⟩ (by simp)
theorem BO:bl Tryz.prog G 92 rk:=by
 refine cJ mixed BN GD fun z aV=>?_
 obtain⟨a,b⟩:=z
 obtain⟨cZ,cm⟩:=aV
 simp only at cZ cm|-
 have bF:=dW a
 have au:=dW b
 have t0:=wK (e:=false) (e':=false) bF au (by omega) (by omega)
 simp only[du] at t0
 unfold i92
 refine ax (az aM ?_)
 simp[aS]
 refine ax (ax (az aM ?_))
 simp[t0]
 refine aJ _ rfl (fun I=>?_) (fun I=>?_)
 · have I:cT a b<0:=of_decide_eq_true I
   have I:=HM.1 I
   refine ax (az aM ?_)
   simp
   refine aH ?_
   simp[I]
 · have I:¬cT a b<0:=of_decide_eq_false I
   have g2:¬a<b:=fun h=>I (HM.2 h)
   refine aK ?_
   simp
   obtain⟨L,a_⟩:∃L,L=(ai a).length:=⟨_,rfl⟩
   have aU:a<aE L:=c8.1 (by omega)
   refine ax (az aM ?_)
   simp
   refine ax (ax (az aM ?_))
   simp
   refine mg (id:=0) (fun m s=>∃(o:List Nat) (c:Nat),m=L - o.length/\o.length<=L/\Small o/\c<=1/\val o+b%aE o.length=a%aE o.length+aE o.length*c/\
    s.F 0=aw a/\s.F 1=aw b/\eE 1 s.h (s.F 6) (o.map fun n=> .int .u32 (Z n))/\s.F 7=e3 c/\s.F 8=bp o.length)
    (fun s=>∃o:List Nat,Small o/\o.length=L/\val o=a - b/\eE 1 s.h (s.F 6) (o.map fun n=> .int .u32 (Z n))) (fun _=>False) L ?_ ?_ ?_ (fun _ h=>h.elim)
   · exact ⟨[],0,by simp,by simp,Small.nil,by simp,by simp[val,fC,Nat.mod_one],by simp,by simp,by simp;exact eE.nil (by simp),by simp,by simp⟩
   · rintro m s ⟨o,c,rfl,hh,fD,rj,aY,f0,f1,f6,f7,f8⟩
     refine ax (ax (az aM ?_))
     simp[f0,f8,<-a_]
     refine aJ _ rfl (fun I=>?_) (fun I=>?_)
     · have fj:o.length<L:=by simpa using I
       refine aK ?_
       simp
       have t1:=sK (e:=false) (i:=o.length) bF (by omega) (by omega)
       have t2:=sK (e:=false) (i:=o.length) au (by omega) (by omega)
       have s1:=bF.a5 o.length
       have s2:=au.a5 o.length
       have fL:=fun n=>PV (n:=n) aY
       rw[<-gv,<-gv] at fL
       generalize a5 (ai a) o.length=x at*
       generalize a5 (ai b) o.length=y at*
       have fL:=fL (4294967296+x - y - c) (by omega) (by omega)
       refine ax (aL (ax (az aM ?_)))
       simp[f0,f1,f7,f8,t1,t2,Nat.mod_eq_of_lt (show 4294967296+x<18446744073709551616 by omega),show (4294967296+x+(18446744073709551616 - y%18446744073709551616))%18446744073709551616=4294967296+x - y by omega,
        show (4294967296+x - y+(18446744073709551616 - c%18446744073709551616))%18446744073709551616=4294967296+x - y - c by omega]
       generalize aC:4294967296+x - y - c=n at*
       refine ax (az aM ?_)
       simp[uh f6,show (o.length+1)*4<=35184372088832 by omega]
       refine az aM ?_
       simp[Nat.mod_eq_of_lt (show n/4294967296<18446744073709551616 by omega),show (1+(18446744073709551616 - n/4294967296))%18446744073709551616=1 - n/4294967296 by omega]
       refine az aM ?_
       simp[f8,fa (show o.length+1<9223372036854775808 by omega)]
       have a4:=f6.app (ys:=[J.int .u32 (Z (n%4294967296))]) (by simp) (by simp) (s.h.next+4+11+7) (s.h.next+4+11+7+4+3) (s.h.next+4+11+5) s.h.bu s.h.bu (by omega) (by omega)
       simp only[List.length_map,List.length_singleton] at a4
       refine⟨L -(o.length+1),by omega,o++ [n%4294967296],by simp,by simp;omega,o_.2 ⟨fD,mi.2 ⟨by omega,Small.nil⟩⟩,1 - n/4294967296,by omega,?_,f0,f1,by simpa using a4,rfl,by simp⟩
       rw[mU,List.length_append,List.length_singleton]
       simpa[val] using fL
     · have k2:o.length=L:=by simp at I;omega
       refine aN ?_
       rw[k2,Nat.mod_eq_of_lt aU,Nat.mod_eq_of_lt (show b<aE L by omega)] at aY
       have HN:=qo fD
       rw[k2] at HN
       have ia:=PW aY rj HN (by omega)
       subst ia
       refine⟨rfl,o,fD,k2,by simp at aY;omega,?_⟩
       simp[aG]
       exact f6.mono (fun q _=>rfl) (fun q=>rfl) (by simp)
   · rintro s ⟨o,fD,hh,aY,f6⟩
     simp
     obtain⟨ids,a4⟩:=f6.out (wI _)
     refine ax (az aM ?_)
     simp[a4,qq fD (show o.length<=1073741824 by omega),aY]
     refine aH ?_
     simp[g2]
end
end
section
open Go Go.Eng Go.RowKit
attribute [local simp] bH.m bH.o bH.n bH.g hy fh dG dr dJ evalOp.eq_1 evalOp.eq_2 evalOp.eq_3 evalOp.eq_4 evalOp.eq_5 evalOp.eq_6 evalOp.eq_7 evalOp.eq_8 evalOp.eq_9 evalOp.eq_10 evalOp.eq_11 evalOp.eq_12 evalOp.eq_13 evalOp.eq_14 evalOp.eq_15 evalOp.eq_16 evalOp.eq_17 evalOp.eq_18 evalOp.eq_19 evalOp.eq_20 evalOp.eq_21 evalOp.eq_22 evalOp.eq_23 evalOp.eq_24 evalOp.eq_25 evalOp.eq_27 evalOp.eq_28 evalOp.eq_29 kl bn.cu dq aG aF.new a8 J.cells J.dp J.e7 J.ft il iq im ir iv iu jK jL jM gY gZ cut partOf bound elems jO jP jQ jR jS jT jU jV jW jX jY jZ h1 j0 j1 j2 j3 j4 j5 j6 j7 j8 j9 j_ j' ka kb kc kd ke kf kg kh ki kj kk ff e8 e1 gi iw hA aF.close aF.set h3 km kn ko jN hB gD gq gJ gr hX gu gK hY hZ h0 gf gg gh gd ix bI hU iy hV iz iA fY iB fw iC iD iE gT jJ iF iG iH iI iJ iK iL iM iN iO iP iQ iR iS iT iU iV iW iX hf iY iZ i_ i' ja jb jc jd je jf jg jh ji jj jk
attribute [local simp high] jG jH jI jl jm jn jo jq jr js jt ju jv jw jx jy jz jA jB jC jD jE jF
section
attribute [local simp] ek eL du yD yE yF
def dv (n:Nat):Nat:=if h:n=0 then 0 else dv (n/2)+1
termination_by n
decreasing_by exact Nat.div_lt_self (by omega) (by decide)
theorem wM:dv 0=0:=by unfold dv;simp
theorem yH {n:Nat} (h:n≠0):dv n=dv (n/2)+1:=by rw[dv];simp[h]
theorem ot {n k:Nat}:dv n<=k↔n<2^k:=by
 induction k generalizing n with
 | zero=>
   by_cases h:n=0
   · subst h;simp[wM]
   · rw[yH h];simp;omega
 | succ k b_=>
   by_cases h:n=0
   · subst h;simp[wM,Nat.pow_pos]
   · rw[yH h,Nat.pow_succ]
     have:=b_ (n:=n/2)
     omega
theorem HO {n k:Nat}:k<dv n↔2^k<=n:=by
 have:=ot (n:=n) (k:=k);omega
theorem PX {n:Nat}:dv n=0↔n=0:=by
 have:=ot (n:=n) (k:=0);simp at this;omega
theorem HP {n k:Nat} (h:n/2^k≠0):dv n=k+dv (n/2^k):=by
 induction k generalizing n with
 | zero=>simp
 | succ k b_=>
   have e:n/2^(k+1)=n/2/2^k:=by rw[Nat.pow_succ,Nat.mul_comm,Nat.div_div_eq_div_mul]
   have aC:n≠0:=by rintro rfl;simp at h
   rw[e] at h|-
   rw[yH aC,b_ h];omega
theorem ll:∀k:Nat,aE k=2^(32*k)
 | 0=>fC
 | k+1=>by rw[eQ,ll k,Nat.mul_add,Nat.pow_add]
theorem HQ {n:Nat} (h:n≠0):dv n=32*((ai n).length - 1)+dv (a5 (ai n) ((ai n).length - 1)):=by
 obtain⟨k,aI⟩:∃k,k=(ai n).length - 1:=⟨_,rfl⟩
 have bc:=lk.2 h
 have ae:n<aE (k+1):=c8.1 (by omega)
 have h2:=BG h
 rw[<-aI] at h2|-
 rw[gv] at h2|-
 have aO:n/aE k<4294967296:=by
  rw[eQ] at ae
  exact Nat.div_lt_of_lt_mul ae
 rw[Nat.mod_eq_of_lt aO] at h2|-
 rw[ll] at h2|-
 exact HP h2
theorem PY {x r:Nat} (h:r<32):x%4294967296/2^r%2=x/2^r%2:=by
 have ae:=Nat.testBit_mod_two_pow x 32 r
 rw[Nat.testBit_eq_decide_div_mod_eq,Nat.testBit_eq_decide_div_mod_eq] at ae
 simp only[h,decide_true,Bool.true_and,decide_eq_decide] at ae
 have e:(2:Nat)^32=4294967296:=rfl
 rw[e] at ae
 omega
theorem PZ (a i:Nat):a5 (ai a) (i/32)/2^(i%32)%2=a/2^i%2:=by
 rw[gv,PY (Nat.mod_lt _ (by decide)),ll,Nat.div_div_eq_div_mul,<-Nat.pow_add,Nat.div_add_mod]
noncomputable def yI:List J->Option J:=cl (fun z:Nat=>(ai z).length<=1000000000) (fun z=>[aw z]) (fun z=>bp (dv z))
theorem P0 {a:Nat} {e:Bool} (bF:(ai a).length<=1000000000):yI [.sl ((ai a).map fun n=> .int .u32 (Z n)) e]=some (bp (dv a)):=
 cI (fun z w h=>by simp[bG,bL] at h;simp[h]) a bF (by simp)
theorem P1:bl Tryz.prog G 128 yI:=by
 refine cJ mixed uk G8 fun a cZ=>?_
 have bF:=dW a
 unfold i128
 refine ax (az aM ?_)
 simp[aS]
 refine ax (ax (az aM ?_))
 simp
 refine aJ _ rfl (fun I=>?_) (fun I=>?_)
 · have I:a=0:=by simpa[g3] using I
   refine ax (az aM ?_)
   simp
   refine aH ?_
   simp[I,wM]
 · have I:a≠0:=by simpa[g3] using I
   have bc:=lk.2 I
   obtain⟨L,a_⟩:∃L,(ai a).length=L+1:=⟨_,(Nat.succ_pred_eq_of_pos bc).symm⟩
   have bq:=(k4 (show L<(ai a).length by omega)).symm
   have gp:=HQ I
   rw[a_,Nat.add_sub_cancel] at gp
   have a':=bF.a5 L
   refine aK ?_
   simp
   refine ax (az aM ?_)
   simp[a_,eh (show 1<=L+1 by omega) (show L+1<9223372036854775808 by omega),bq]
   refine⟨by first|decide|rfl,?_⟩
   generalize a5 (ai a) L=top at*
   refine ax ?_
   refine mg (id:=0) (fun m s=>∃n,m<4294967296/\n<=32/\n+dv m=dv top/\s.F 0=aw a/\s.F 3=bp n/\s.F 4=b2 m) (fun s=>s.F 0=aw a/\s.F 3=bp (dv top)) (fun _=>False) top ?_ ?_ ?_ (fun _ h=>h.elim)
   · exact ⟨0,a',by omega,by simp,by simp,by simp,by simp⟩
   · rintro m s ⟨n,hm,aC,au,f0,f3,f4⟩
     refine ax (ax (az aM ?_))
     simp[f4]
     refine aJ _ rfl (fun I=>?_) (fun I=>?_)
     · have I:0<m:=by simpa using I
       have hz:=yH (show m≠0 by omega)
       have P2:dv top<=32:=ot.2 (by simpa using a')
       refine aK ?_
       simp
       refine aL (ax (az aM ?_))
       simp[f4,Nat.mod_eq_of_lt (show m/2<4294967296 by omega)]
       refine az aM ?_
       simp[f3,fa (show n+1<9223372036854775808 by omega)]
       exact ⟨m/2,by omega,by omega,n+1,by omega,by omega,f0,rfl,rfl⟩
     · have I:m=0:=by simpa using I
       subst I
       rw[wM] at au
       refine aN ?_
       exact ⟨rfl,by simp[f0],by simp[f3];omega⟩
   · rintro s ⟨f0,f3⟩
     have P2:dv top<=32:=ot.2 (by simpa using a')
     simp
     refine ax (az aM ?_)
     simp[f0,f3,a_,eh (show 1<=L+1 by omega) (show L+1<9223372036854775808 by omega),sB (show 32*L<9223372036854775808 by omega),fa (show 32*L+dv top<9223372036854775808 by omega)]
     refine aH ?_
     simp[gp]
noncomputable def yJ:List J->Option J:=cl (fun z:Nat × Nat=>(ai z.1).length<=1000000000/\z.2<4611686018427387904) (fun z=>[aw z.1,bp z.2]) (fun z=>b2 (z.1/2^z.2%2))
theorem P3 {a i:Nat} {e:Bool} (bF:(ai a).length<=1000000000) (an:i<4611686018427387904):yJ [.sl ((ai a).map fun n=> .int .u32 (Z n)) e,bp i]=some (b2 (a/2^i%2)):=
 cI (fun z w h=>by simp[bG,bL] at h;simp[h]) (a,i) ⟨bF,an⟩ (by simp)
theorem P4:bl Tryz.prog G 37 yJ:=by
 refine cJ mixed uk F9 fun z aV=>?_
 obtain⟨a,i⟩:=z
 obtain⟨cZ,an⟩:=aV
 simp only at cZ an|-
 have bF:=dW a
 have au:=PZ a i
 obtain⟨q,bo⟩:∃q,q=i/32:=⟨_,rfl⟩
 obtain⟨r,bf⟩:∃r,r=i%32:=⟨_,rfl⟩
 have pP:r<32:=by omega
 rw[<-bo,<-bf] at au
 rw[<-au]
 unfold i37
 refine ax (az aM ?_)
 simp[aS]
 refine ax (ax (az aM ?_))
 simp[gl (show q<9223372036854775808 by omega),<-bo]
 refine aJ _ rfl (fun I=>?_) (fun I=>?_)
 · have I:(ai a).length<=q:=by simpa using I
   refine ax (az aM ?_)
   simp
   refine aH ?_
   simp[rf I]
 · have I:q<(ai a).length:=by simpa using I
   have bq:=o9 I
   simp only[List.getElem?_map] at bq
   have a':=bF.a5 q
   generalize a5 (ai a) q=x at*
   refine aK ?_
   simp
   refine ax (az aM ?_)
   simp[gl (show q<9223372036854775808 by omega),<-bo,bq]
   refine ax (ax (az aM ?_))
   simp
   refine mg (id:=0) (fun m s=>∃k,m=r - k/\k<=r/\s.F 1=bp i/\s.F 5=b2 (x/2^k)/\s.F 6=bp k) (fun s=>s.F 5=b2 (x/2^r)) (fun _=>False) r ?_ ?_ ?_ (fun _ h=>h.elim)
   · exact ⟨0,by omega,by omega,by simp,by simp,by simp⟩
   · rintro m s ⟨k,rfl,aI,f1,f5,f6⟩
     have av:x/2^k<4294967296:=Nat.lt_of_le_of_lt (Nat.div_le_self _ _) a'
     refine ax (ax (az aM ?_))
     simp[f1,f6,<-bf]
     refine aJ _ rfl (fun I=>?_) (fun I=>?_)
     · have I:k<r:=by simpa using I
       refine aK ?_
       simp
       refine ax (aL (az aM ?_))
       have e:x/2^k/2=x/2^(k+1):=by rw[Nat.div_div_eq_div_mul,Nat.pow_succ]
       simp[f5,e,Nat.mod_eq_of_lt (show x/2^(k+1)<4294967296 by omega)]
       refine az aM ?_
       simp[f6,fa (show k+1<9223372036854775808 by omega)]
       exact ⟨r -(k+1),by omega,k+1,rfl,by omega,f1,rfl,rfl⟩
     · have I:k=r:=by simp at I;omega
       refine aN ?_
       exact ⟨rfl,by simp[f5,I]⟩
   · intro s f5
     simp
     refine ax (az aM ?_)
     simp[f5]
     refine aH ?_
     simp
def nv (l:List Nat):Bool:=decide (l= []\/(l.length<=65536/\a5 l (l.length - 1)≠0))
noncomputable def ur:List J->Option J:=cl (fun z:List Nat=>z.length<=1000000000) (fun z=>[cH z false]) (fun z=> .bool (nv z))
theorem P5 {l:List Nat} {e:Bool} (h:l.length<=1000000000):ur [.sl (l.map fun n=> .int .u32 (Z n)) e]=some (.bool (nv l)):=
 cI (fun z w h=>by simp[bG] at h;simp[h]) l h (by simp)
theorem HR:bl Tryz.prog G 47 ur:=by
 refine cJ mixed uk Pc fun l a6=>?_
 unfold i47
 refine ax (az aM ?_)
 simp[aS]
 refine ax (az aM ?_)
 by_cases ae:l= []
 · subst ae
   simp
   refine aH ?_
   simp[nv]
 · obtain⟨L,a_⟩:∃L,l.length=L+1:=⟨l.length - 1,by have:=List.length_pos_iff.2 ae;omega⟩
   have bq:=(k4 (show L<l.length by omega)).symm
   by_cases h2:L+1<=65536
   · simp[ae,a_,h2,eh (show 1<=L+1 by omega) (show L+1<9223372036854775808 by omega),bq]
     refine aH ?_
     simp[nv,ae,a_,h2,bne]
     rfl
   · simp[ae,a_,h2]
     refine aH ?_
     simp[nv,ae,a_,h2]
end
section
attribute [local simp] ek eL du yD yE yF
theorem nw:∀ {l:List Nat} {j:Nat} (v:Nat),j<l.length->val (l.set j v)+aE j*a5 l j=val l+aE j*v
 | [],j,v,h=>by simp at h
 | x::l,0,v,h=>by simp[val,fC,BD];omega
 | x::l,j+1,v,h=>by
   have b_:=nw (l:=l) v (show j<l.length by simpa using h)
   simp only[List.set_cons_succ,val,yy,eQ]
   have aj:aE j*4294967296*a5 l j=4294967296*(aE j*a5 l j):=by rw[Nat.mul_comm (aE j),Nat.mul_assoc]
   have aq:aE j*4294967296*v=4294967296*(aE j*v):=by rw[Nat.mul_comm (aE j),Nat.mul_assoc]
   rw[aj,aq]
   omega
theorem ou {l:List Nat} {j:Nat} (v i:Nat) (h:j<l.length):a5 (l.set j v) i=if i=j then v else a5 l i:=by
 simp only[a5,List.getD,List.getElem?_set]
 by_cases e:i=j
 · subst e;simp[h]
 · simp[Ne.symm e,e]
theorem nx {l:List Nat} {j v:Nat} (h:Small l) (aY:v<4294967296):Small (l.set j v):=fun x av=>by
 rcases List.mem_or_eq_of_mem_set av with av|rfl
 · exact h x av
 · exact aY
theorem map_set (l:List Nat) (j v:Nat):(l.map fun n=>J.int .u32 (Z n)).set j (.int .u32 (Z v))=(l.set j v).map fun n=>J.int .u32 (Z n):=by
 rw[List.map_set]
theorem qs (n:Nat):Small (List.replicate n 0):=fun x av=>by
 rw[List.eq_of_mem_replicate av];decide
theorem wN (n i:Nat):a5 (List.replicate n 0) i=0:=by
 by_cases h:i<n
 · rw[k4 (by simpa using h)];simp
 · exact rf (by simpa using h)
theorem P6 (n:Nat):List.replicate n (J.int .u32 (Z 0))=(List.replicate n 0).map fun n=>J.int .u32 (Z n):=by simp
theorem BP (q:Nat) (o:List Nat):val (List.replicate q 0++o)=aE q*val o:=by
 rw[mU,sG,List.length_replicate,Nat.zero_add]
theorem P7 {P B x y c o u X q r:Nat} (mO:X=x*y+c) (bw:X=B*q+r) (h:o+P*c=u*y):(o+P*r)+P*B*q=(u+P*x)*y:=by
 have aj:P*X=P*(x*y)+P*c:=by rw[mO,Nat.mul_add]
 have aq:P*X=P*B*q+P*r:=by rw[bw,Nat.mul_add,Nat.mul_assoc]
 rw[Nat.add_mul,Nat.mul_assoc P x y]
 omega
theorem P8 {a o i c tR:Nat} (h:o+aE i*c=a%aE i*tR):
 (o+aE i*(((a/aE i%4294967296)*tR+c)%4294967296))+aE (i+1)*(((a/aE i%4294967296)*tR+c)/4294967296)=a%aE (i+1)*tR:=by
 rw[mT,eQ]
 exact P7 rfl (Nat.div_add_mod _ _).symm h
theorem P9 {v P c n:Nat} (h:v+P*c=n) (aC:n<P):c=0:=by
 rcases Nat.eq_zero_or_pos c with aS|aS
 · exact aS
 · have:=Nat.le_mul_of_pos_right P aS
   omega
noncomputable def uu:List J->Option J:=cl (fun z:Nat × Nat=>(ai z.1).length<=100000000/\z.2<=100000000) (fun z=>[aw z.1,bp z.2]) (fun z=>aw (z.1*2^z.2))
theorem P_ {a n:Nat} {e:Bool} (bF:(ai a).length<=100000000) (aC:n<=100000000):uu [.sl ((ai a).map fun n=> .int .u32 (Z n)) e,bp n]=some (aw (a*2^n)):=
 cI (fun z w h=>by simp[bG,bL] at h;simp[h]) (a,n) ⟨bF,aC⟩ (by simp)
theorem HS:bl Tryz.prog G 129 uu:=by
 refine cJ mixed BN G9 fun z aV=>?_
 obtain⟨a,n⟩:=z
 obtain⟨cZ,aC⟩:=aV
 simp only at cZ aC|-
 have bF:=dW a
 obtain⟨q,bo⟩:∃q,q=n/32:=⟨_,rfl⟩
 obtain⟨r,bf⟩:∃r,r=n%32:=⟨_,rfl⟩
 have pP:r<32:=by omega
 have sL:aE q*(a*2^r)=a*2^n:=by
  rw[ll,Nat.mul_left_comm,<-Nat.pow_add,show 32*q+r=n by omega]
 have v7:2^r<=2147483648:=Nat.pow_le_pow_right (n:=2) (by decide) (show r<=31 by omega)
 obtain⟨L,a_⟩:∃L,L=(ai a).length:=⟨_,rfl⟩
 have aU:a<aE L:=c8.1 (by omega)
 unfold i129
 refine ax (az aM ?_)
 simp[aS]
 refine ax (az aM ?_)
 simp
 refine ax (ax (az aM ?_))
 simp
 refine mg (id:=0) (fun m s=>∃i,m=q - i/\i<=q/\s.F 0=aw a/\s.F 1=bp n/\eE 1 s.h (s.F 5) ((List.replicate i 0).map fun n=> .int .u32 (Z n))/\s.F 6=e3 0/\s.F 7=e3 1/\s.F 8=bp i)
  (fun s=>s.F 0=aw a/\s.F 1=bp n/\eE 1 s.h (s.F 5) ((List.replicate q 0).map fun n=> .int .u32 (Z n))/\s.F 6=e3 0/\s.F 7=e3 1) (fun _=>False) q ?_ ?_ ?_ (fun _ h=>h.elim)
 · exact ⟨0,by omega,by omega,by simp,by simp,by simp;exact eE.nil (by simp),by simp,by simp,by simp⟩
 · rintro m s ⟨i,rfl,an,f0,f1,f5,f6,f7,f8⟩
   refine ax (ax (az aM ?_))
   simp[f1,f8,<-bo,gl (show q<9223372036854775808 by omega)]
   refine aJ _ rfl (fun I=>?_) (fun I=>?_)
   · have I:i<q:=by simpa using I
     refine aK ?_
     simp
     refine ax (aL (az aM ?_))
     have aj:=uh f5 (by decide) (bytes:=4) (by decide) (ys:=[J.int .u32 (Z 0)]) (by simp) (by simp) (by simp;omega)
     have aq:=f5.app (ys:=[J.int .u32 (Z 0)]) (by simp) (by simp)
     have aW:((List.replicate i 0).map fun n=>J.int .u32 (Z n))++ [J.int .u32 (Z 0)]=(List.replicate (i+1) 0).map fun n=>J.int .u32 (Z n):=by simp[List.replicate_succ']
     simp only[aW] at aj aq
     simp[aj]
     refine az aM ?_
     simp[f8,fa (show i+1<9223372036854775808 by omega)]
     have a4:=aq (s.h.next+4+4) (s.h.next+4+4+3) (s.h.next+4+2) s.h.bu s.h.bu (by omega) (by omega)
     exact ⟨q -(i+1),by omega,i+1,rfl,by omega,f0,f1,by simpa using a4,f6,f7,rfl⟩
   · have I:i=q:=by simp at I;omega
     subst I
     refine aN ?_
     refine⟨rfl,by simp[f0],by simp[f1],?_,by simp[f6],by simp[f7]⟩
     simpa[aG] using f5.bump (s.h.next+4) (by omega)
 · rintro s ⟨f0,f1,f5,f6,f7⟩
   simp
   refine ax (ax (az aM ?_))
   simp
   refine mg (id:=2) (fun m s=>∃i,m=r - i/\i<=r/\s.F 0=aw a/\s.F 1=bp n/\eE 1 s.h (s.F 5) ((List.replicate q 0).map fun n=> .int .u32 (Z n))/\s.F 6=e3 0/\s.F 7=e3 (2^i)/\s.F 9=bp i)
    (fun s=>s.F 0=aw a/\eE 1 s.h (s.F 5) ((List.replicate q 0).map fun n=> .int .u32 (Z n))/\s.F 6=e3 0/\s.F 7=e3 (2^r)) (fun _=>False) r ?_ ?_ ?_ (fun _ h=>h.elim)
   · refine⟨0,by omega,by omega,by simp[f0],by simp[f1],?_,by simp[f6],by simp[f7],by simp⟩
     simpa[aG] using f5.bump (s.h.next+1) (by omega)
   · clear f0 f1 f5 f6 f7 s
     rintro m s ⟨i,rfl,an,f0,f1,f5,f6,f7,f9⟩
     refine ax (ax (az aM ?_))
     simp[f1,f9,<-bf]
     refine aJ _ rfl (fun I=>?_) (fun I=>?_)
     · have I:i<r:=by simpa using I
       have rl:2*2^i<=2^r:=by
        rw[Nat.mul_comm,<-Nat.pow_succ];exact Nat.pow_le_pow_right (by decide) I
       refine aK ?_
       simp
       refine ax (aL (az aM ?_))
       simp[f7,Nat.mod_eq_of_lt (show 2*2^i<18446744073709551616 by omega)]
       refine az aM ?_
       simp[f9,fa (show i+1<9223372036854775808 by omega)]
       refine⟨r -(i+1),by omega,i+1,rfl,by omega,f0,f1,?_,f6,by rw[Nat.pow_succ,Nat.mul_comm],rfl⟩
       simpa using f5.bump (s.h.next+4+3+3) (by omega)
     · have I:i=r:=by simp at I;omega
       subst I
       refine aN ?_
       refine⟨rfl,by simp[f0],?_,by simp[f6],by simp[f7]⟩
       simpa[aG] using f5.bump (s.h.next+4) (by omega)
   · clear f0 f1 f5 f6 f7 s
     rintro s ⟨f0,f5,f6,f7⟩
     simp
     refine ax (ax (az aM ?_))
     simp
     generalize a9:2^r=B at*
     refine mg (id:=4) (fun m s=>∃(o:List Nat) (c:Nat),m=L+1 - o.length/\o.length<=L+1/\Small o/\c<4294967296/\val o+aE o.length*c=a%aE o.length*B/\
      s.F 0=aw a/\eE 1 s.h (s.F 5) ((List.replicate q 0++o).map fun n=> .int .u32 (Z n))/\s.F 6=e3 c/\s.F 7=e3 B/\s.F 10=bp o.length)
      (fun s=>∃o:List Nat,Small o/\o.length=L+1/\val o=a*B/\eE 1 s.h (s.F 5) ((List.replicate q 0++o).map fun n=> .int .u32 (Z n))) (fun _=>False) (L+1) ?_ ?_ ?_ (fun _ h=>h.elim)
     · refine⟨[],0,by simp,by simp,Small.nil,by simp,by simp[val,fC,Nat.mod_one],by simp[f0],?_,by simp[f6],by simp[f7],by simp⟩
       simpa[aG] using f5.bump (s.h.next+1) (by omega)
     · clear f0 f5 f6 f7 s
       rintro m s ⟨o,c,rfl,hh,fD,rj,aY,f0,f5,f6,f7,f10⟩
       refine ax (ax (az aM ?_))
       simp[f0,f10,<-a_]
       refine aJ _ rfl (fun I=>?_) (fun I=>?_)
       · have fj:o.length<=L:=by simpa using I
         refine aK ?_
         simp
         have t1:=sK (e:=false) (i:=o.length) bF (by omega) (by omega)
         have s1:=bF.a5 o.length
         have fL:=P8 aY
         rw[<-gv] at fL
         generalize a5 (ai a) o.length=x at*
         have Zz:x*B<=9223372034707292160:=Nat.mul_le_mul (show x<=4294967295 by omega) v7
         generalize mO:x*B+c=X at*
         refine ax (aL (ax (az aM ?_)))
         simp[f0,f6,f7,f10,t1,Nat.mod_eq_of_lt (show x*B<18446744073709551616 by omega),mO,Nat.mod_eq_of_lt (show X<18446744073709551616 by omega)]
         have aj:=uh f5 (by decide) (bytes:=4) (by decide) (ys:=[J.int .u32 (Z (X%4294967296))]) (by simp) (by simp) (by simp;omega)
         have aq:=f5.app (ys:=[J.int .u32 (Z (X%4294967296))]) (by simp) (by simp)
         have aW:((List.replicate q 0++o).map fun n=>J.int .u32 (Z n))++ [J.int .u32 (Z (X%4294967296))]=(List.replicate q 0++(o++ [X%4294967296])).map fun n=>J.int .u32 (Z n):=by simp
         simp only[aW] at aj aq
         refine ax (az aM ?_)
         simp only[List.map_append,List.map_cons,List.map_nil,List.map_replicate] at aj aq
         simp[aj]
         refine az aM ?_
         simp[Nat.mod_eq_of_lt (show X/4294967296<18446744073709551616 by omega)]
         refine az aM ?_
         simp[f10,fa (show o.length+1<9223372036854775808 by omega)]
         have a4:=aq (s.h.next+4+8+7) (s.h.next+4+8+7+3+3) (s.h.next+4+8+5) s.h.bu s.h.bu (by omega) (by omega)
         refine⟨L+1 -(o.length+1),by omega,o++ [X%4294967296],by simp,by simp;omega,o_.2 ⟨fD,mi.2 ⟨by omega,Small.nil⟩⟩,X/4294967296,by omega,?_,f0,by simpa using a4,rfl,f7,by simp⟩
         rw[mU,List.length_append,List.length_singleton]
         simpa[val] using fL
       · have k2:o.length=L+1:=by simp at I;omega
         refine aN ?_
         have P':a<aE (L+1):=by have:=kO L;rw[eQ];omega
         have Qa:a*B<aE (L+1):=by
          rw[eQ]
          exact Nat.mul_lt_mul_of_lt_of_le aU (by omega) (by omega)
         rw[k2,Nat.mod_eq_of_lt P'] at aY
         have ia:=P9 aY Qa
         subst ia
         refine⟨rfl,o,fD,k2,by simpa using aY,?_⟩
         simpa[aG] using f5.bump (s.h.next+4) (by omega)
     · clear f0 f5 f6 f7 s
       rintro s ⟨o,fD,hh,aY,f5⟩
       simp
       obtain⟨ids,a4⟩:=f5.out (wI _)
       have cS:=qq (l:=List.replicate q 0++o) (e:=decide (((List.replicate q 0++o).map fun n=>J.int .u32 (Z n))= [])) (o_.2 ⟨qs q,fD⟩) (by simp;omega)
       rw[BP,aY,sL] at cS
       refine ax (az aM ?_)
       generalize ((List.replicate q 0++o).map fun n=>J.int .u32 (Z n))=xs at*
       simp[a4,cS]
       refine aH ?_
       simp
end
end
section
open Go Go.Eng Go.RowKit
attribute [local simp] bH.m bH.o bH.n bH.g hy fh dG dr dJ evalOp.eq_1 evalOp.eq_2 evalOp.eq_3 evalOp.eq_4 evalOp.eq_5 evalOp.eq_6 evalOp.eq_7 evalOp.eq_8 evalOp.eq_9 evalOp.eq_10 evalOp.eq_11 evalOp.eq_12 evalOp.eq_13 evalOp.eq_14 evalOp.eq_15 evalOp.eq_16 evalOp.eq_17 evalOp.eq_18 evalOp.eq_19 evalOp.eq_20 evalOp.eq_21 evalOp.eq_22 evalOp.eq_23 evalOp.eq_24 evalOp.eq_25 evalOp.eq_27 evalOp.eq_28 evalOp.eq_29 kl bn.cu dq aG aF.new a8 J.cells J.dp J.e7 J.ft il iq im ir iv iu jK jL jM gY gZ cut partOf bound elems jO jP jQ jR jS jT jU jV jW jX jY jZ h1 j0 j1 j2 j3 j4 j5 j6 j7 j8 j9 j_ j' ka kb kc kd ke kf kg kh ki kj kk ff e8 e1 gi iw hA aF.close aF.set h3 km kn ko jN hB gD gq gJ gr hX gu gK hY hZ h0 gf gg gh gd ix bI hU iy hV iz iA fY iB fw iC iD iE gT jJ iF iG iH iI iJ iK iL iM iN iO iP iQ iR iS iT iU iV iW iX hf iY iZ i_ i' ja jb jc jd je jf jg jh ji jj jk
attribute [local simp high] jG jH jI jl jm jn jo jq jr js jt ju jv jw jx jy jz jA jB jC jD jE jF
attribute [local simp] ek eL du
section
noncomputable def sM:FuncId->Option (List J->Option J):=da [(106,oo),(128,yI),(37,yJ),(129,uu),(84,ri),(92,rk)]
theorem Qb:∀f T,sM f=some T->bl Tryz.prog G f T:=dc (by simp only[List.forall_mem_cons];exact ⟨wJ,P1,P4,HS,BM,BO,fun _ h=>absurd h (by simp)⟩)
theorem Qc:sM 106=some oo:=rfl
theorem Qd:sM 128=some yI:=rfl
theorem Qe:sM 37=some yJ:=rfl
theorem Qf:sM 129=some uu:=rfl
theorem Qg:sM 84=some ri:=rfl
theorem Qh:sM 92=some rk:=rfl
attribute [local simp] Qc Qd Qe Qf Qg Qh
theorem Qi {a b m:Nat} (au:0<b):2*(a/2^(m+1)%b)+a/2^m%2=(if b<=2*(a/2^(m+1)%b)+a/2^m%2 then b else 0)+a/2^m%b/\
 a/2^m/b=2*(a/2^(m+1)/b)+(if b<=2*(a/2^(m+1)%b)+a/2^m%2 then 1 else 0):=by
 have e:a/2^(m+1)=a/2^m/2:=by rw[Nat.pow_succ,Nat.div_div_eq_div_mul]
 rw[e]
 generalize a/2^m=x
 obtain⟨h,de⟩:∃h,h=x/2:=⟨_,rfl⟩
 have av:x=2*h+x%2:=by omega
 rw[<-de]
 generalize x%2=t at*
 have a':2*h+t=x:=by omega
 have ae:=Nat.div_add_mod h b
 have h2:h%b<b:=Nat.mod_lt _ au
 generalize bo:h/b=q at*
 generalize bf:h%b=r at*
 have aO:x=b*(2*q)+(2*r+t):=by
  rw[Nat.mul_left_comm];omega
 have ZA:t<2:=by omega
 by_cases hle:b<=2*r+t
 · simp only[if_pos hle]
   have a2:x=b*(2*q+1)+(2*r+t - b):=by rw[Nat.mul_add,Nat.mul_one];omega
   have b6:2*r+t - b<b:=by omega
   constructor
   · have:x%b=2*r+t - b:=by rw[a2,Nat.mul_add_mod];exact Nat.mod_eq_of_lt b6
     omega
   · rw[a2,Nat.mul_add_div au,Nat.div_eq_of_lt b6]
 · simp only[if_neg hle]
   have b6:2*r+t<b:=by omega
   constructor
   · have:x%b=2*r+t:=by rw[aO,Nat.mul_add_mod];exact Nat.mod_eq_of_lt b6
     omega
   · rw[aO,Nat.mul_add_div au,Nat.div_eq_of_lt b6]
theorem Qj {v m:Nat} (h:v%2^(m+1)=0):v/aE (m/32)%4294967296%2^(m%32+1)=0:=by
 obtain⟨c,I⟩:=Nat.dvd_of_mod_eq_zero h
 have e:2^(m+1)=aE (m/32)*2^(m%32+1):=by
  rw[ll,<-Nat.pow_add];congr 1;omega
 rw[I,e,Nat.mul_assoc,Nat.mul_div_cancel_left _ (kO _)]
 have bw:(2:Nat)^(m%32+1)∣4294967296:=⟨2^(31 - m%32),by
  rw[<-Nat.pow_add,show m%32+1+(31 - m%32)=32 by omega]⟩
 rw[Nat.mod_mod_of_dvd _ bw,Nat.mul_mod_right]
theorem Qk {d k:Nat} (bw:d<4294967296) (aI:k<32) (h:d%2^(k+1)=0):d+2^k<4294967296:=by
 obtain⟨c,I⟩:=Nat.dvd_of_mod_eq_zero h
 have e:4294967296=2^(k+1)*2^(31 - k):=by rw[<-Nat.pow_add,show k+1+(31 - k)=32 by omega]
 have h2:c<2^(31 - k):=by
  rw[I,e] at bw
  exact Nat.lt_of_mul_lt_mul_left bw
 have aO:2^(k+1)*c+2^(k+1)<=2^(k+1)*2^(31 - k):=by rw[<-Nat.mul_succ];exact Nat.mul_le_mul_left _ h2
 rw[<-e,<-I] at aO
 have a2:0<2^k:=Nat.pow_pos (by decide)
 rw[Nat.pow_succ] at aO
 omega
noncomputable def uv:List J->Option J:=cl (fun z:Nat × Nat=>(ai z.1).length<=1000000/\(ai z.2).length<=1000000) (fun z=>[aw z.1,aw z.2])
 (fun z=>if z.2=0 then .cb [.sl [] false,.sl [] false,bp 3] else .cb [aw (z.1/z.2),aw (z.1%z.2),bp 0])
theorem HT {a b:Nat} {e e':Bool} (bF:(ai a).length<=1000000) (au:(ai b).length<=1000000):
 uv [.sl ((ai a).map fun n=> .int .u32 (Z n)) e,.sl ((ai b).map fun n=> .int .u32 (Z n)) e']=some (if b=0 then .cb [.sl [] false,.sl [] false,bp 3] else .cb [aw (a/b),aw (a%b),bp 0]):=
 cI (fun z w h=>by simp[bG,bL] at h;simp[h]) (a,b) ⟨bF,au⟩ (by simp)
structure HU (a b:Nat) (m:Nat) (l:List Nat) (s:bg) (q:Nat):Prop where
 len:l.length=(ai a).length
 mj:Small l
 v:val l=a/2^m/b*2^m
 f0:s.F 0=aw a
 f1:s.F 1=aw b
 f7:s.F 7= .ref q 0 (ai a).length (ai a).length
 f8:∃e,s.F 8=cH (ai (a/2^m%b)) e
 f9:s.F 9= .int .i64 (lK m)
 cells:s.h.cells q=some (l.map fun n=> .int .u32 (Z n))
 bD:s.h.shut q=false
 fx:q<s.h.next
theorem HV:bl Tryz.prog G 96 uv:=by
 refine cJ mixed Qb GH fun z aV=>?_
 obtain⟨a,b⟩:=z
 obtain⟨cZ,cm⟩:=aV
 simp only at cZ cm|-
 have bF:=dW a
 unfold i96
 refine ax (az aM ?_)
 simp[aS]
 refine ax (ax (az aM ?_))
 simp
 refine aJ _ rfl (fun I=>?_) (fun I=>?_)
 · have I:b=0:=by simpa[g3] using I
   refine ax (az aM ?_)
   simp
   refine aH ?_
   simp[I]
 · have e9:b≠0:=by simpa[g3] using I
   refine aK ?_
   simp[e9]
   obtain⟨L,a_⟩:∃L,L=(ai a).length:=⟨_,rfl⟩
   have aU:a<aE L:=c8.1 (by omega)
   have HW:a<2^dv a:=ot.1 (Nat.le_refl _)
   have gp:dv a<=32*L:=by rw[ot,<-ll];exact aU
   refine ax (az aM ?_)
   simp[<-a_,show Z L*4<=140737488355328 by simp only[Z];omega]
   refine ax (ax (az aM ?_))
   simp[P0 (a:=a) (e:=false) (by omega),nb (show dv a<9223372036854775808 by omega)]
   refine mg (id:=0) (fun m s=>∃l q,m<=dv a/\HU a b m l s q) (fun s=>∃l q,HU a b 0 l s q) (fun _=>False) (dv a) ?_ ?_ ?_ (fun _ h=>h.elim)
   · refine⟨List.replicate L 0,3+3+2,Nat.le_refl _,⟨by simp[a_],qs _,by rw[sG,Nat.div_eq_of_lt HW];simp,by simp,by simp,by simp[a_],⟨true,by simp[Nat.div_eq_of_lt HW,eX]⟩,by simp,by simp,by simp,by simp⟩⟩
   · rintro m s ⟨l,q,hm,a3⟩
     have f9:=a3.f9
     refine ax (ax (az aM ?_))
     cases m with
     | zero=>
       rw[sJ] at f9
       simp[f9]
       refine aJ _ rfl (fun I=>absurd I (by decide)) (fun I=>?_)
       refine aN ?_
       exact ⟨rfl,l,q,⟨a3.len,a3.mj,a3.v,by simp[a3.f0],by simp[a3.f1],by simp[a3.f7],by simpa using a3.f8,by simp[f9,sJ],by simp[a3.cells],by simp[a3.bD],by have:=a3.fx;simp;omega⟩⟩
     | succ m=>
       rw[uo] at f9
       simp[f9]
       refine aJ _ rfl (fun I=>?_) (fun I=>(by simp at I))
       refine aK ?_
       simp
       have bf:=Nat.mod_lt (a/2^(m+1)) (show 0<b by omega)
       obtain⟨d1,d2⟩:=Qi (a:=a) (m:=m) (show 0<b by omega)
       have uw:(ai (a/2^(m+1)%b)).length<=1000000:=Nat.le_trans (f_ (Nat.le_of_lt bf)) cm
       have b6:a/2^m%2<2:=Nat.mod_lt _ (by decide)
       have ZB:=Nat.mod_lt (a/2^m) (show 0<b by omega)
       have aY:=a3.v
       obtain⟨q8,Ql⟩:=a3.f8
       have ov:=a3.fx
       generalize yK:a/2^(m+1)%b=r at*
       generalize Qm:a/2^m%2=t at*
       have BQ:(ai (2*r+t)).length<=1000001:=Nat.le_trans (f_ (show 2*r+t<=b+b by omega)) (Nat.le_trans (k5 b b) (by omega))
       have ZC:(ai (2*r)).length<=1000001:=Nat.le_trans (f_ (by omega)) BQ
       refine ax (aL (ax (az aM ?_)))
       have t1:=P_ (a:=r) (n:=1) (e:=q8) (by omega) (by omega)
       rw[show r*2^1=2*r by omega] at t1
       simp[Ql,t1]
       refine oj (fun aD=>aD.F 8=aw (2*r+t)/\aD.F 0=aw a/\aD.F 1=aw b/\aD.F 7= .ref q 0 L L/\aD.F 9=bp m/\aD.h.cells q=some (l.map fun n=> .int .u32 (Z n))/\aD.h.shut q=false/\q<aD.h.next) ?_ ?_
       · refine ax (az aM ?_)
         simp[a3.f0,f9,P3 (a:=a) (i:=m) (e:=false) (by omega) (by omega),Qm]
         refine aJ _ rfl (fun I=>?_) (fun I=>?_)
         · have I:t=1:=by simpa using I
           refine az aM ?_
           have t2:=BL (a:=2*r) (b:=1) (e:=false) (e':=true) (by omega) (by rw[lX];decide)
           rw[lX] at t2
           simp only[List.map_cons,List.map_nil] at t2
           simp[t2,I,a3.f0,a3.f1,a3.f7,f9,a3.cells,a3.bD,<-a_]
           omega
         · have I:t=0:=by simp at I;omega
           refine aK ?_
           simp[I,a3.f0,a3.f1,a3.f7,f9,a3.cells,a3.bD,<-a_]
           omega
       · rintro aD ⟨kp,cA,ba,h4,dw,gc,gs,gw⟩
         have t3:=yG (a:=2*r+t) (b:=b) (e:=false) (e':=false) (by omega) (by omega)
         by_cases hle:b<=2*r+t
         · simp only[if_pos hle] at d1 d2
           rw[if_neg (by omega)] at t3
           obtain⟨j,bb⟩:∃j,j=m/32:=⟨_,rfl⟩
           obtain⟨k,aI⟩:∃k,k=m%32:=⟨_,rfl⟩
           have HX:=Qj (v:=val l) (m:=m) (by rw[aY,Nat.mul_mod_left])
           rw[<-qp a3.mj,<-bb,<-aI] at HX
           have rm:j<L:=by
            have:=HO.1 (show m<dv a by omega)
            omega
           have pQ:k<32:=by omega
           have HY:=Qk (a3.mj.a5 j) pQ HX
           have hlen:=a3.len
           have bq:=(k4 (show j<l.length by omega)).symm
           have tY:=nw (l:=l) (j:=j) (a5 l j+2^k) (by omega)
           have Qn:aE j*2^k=2^m:=by rw[ll,<-Nat.pow_add];congr 1;omega
           have Qo:=nx (j:=j) a3.mj HY
           have yL:=map_set l j (a5 l j+2^k)
           rw[Nat.mul_add,Qn] at tY
           have Qp:2^k<4294967296:=by omega
           generalize bw:a5 l j=d at*
           refine ax (az aM ?_)
           simp[kp,ba,t3]
           refine ax (az aM ?_)
           simp
           refine aJ _ rfl (fun _=>?_) (fun I=>absurd I (by simp))
           refine ax (az aM ?_)
           simp
           refine az aM ?_
           simp[h4,dw,gc,gs,<-bb,<-aI,gl (show j<9223372036854775808 by omega),bq,rm,sizedB,hlen,<-a_,show L≠0 by omega,show 0<L by omega,bw,Nat.min_eq_left (Nat.le_of_lt pQ),Nat.mod_eq_of_lt Qp,Nat.mod_eq_of_lt HY,show q<aD.h.next+8+1+2 by omega]
           refine⟨by first|decide|rfl,?_⟩
           refine az aM ?_
           simp[dw,nb (show m<9223372036854775808 by omega)]
           refine⟨m,by omega,by omega,l.set j (d+2^k),q,⟨by simp[hlen],Qo,?_,by simp[cA],by simp[ba],by simp[h4,a_],⟨false,by simp[bG,bL];omega⟩,by simp,by simp,by simp[gs],by simp;omega⟩⟩
           have aj:val l=2*(a/2^(m+1)/b)*2^m:=by rw[aY,Nat.pow_succ,Nat.mul_comm (2^m) 2,<-Nat.mul_assoc,Nat.mul_comm _ 2]
           rw[d2,Nat.add_mul,Nat.one_mul,<-aj]
           omega
         · simp only[if_neg hle] at d1 d2
           rw[if_pos (by omega)] at t3
           refine ax (az aM ?_)
           simp[kp,ba,t3]
           refine ax (az aM ?_)
           simp
           refine aJ _ rfl (fun I=>absurd I (by simp)) (fun _=>?_)
           refine aK ?_
           simp
           refine az aM ?_
           simp[dw,nb (show m<9223372036854775808 by omega)]
           refine⟨m,by omega,by omega,l,q,⟨a3.len,a3.mj,?_,by simp[cA],by simp[ba],by simp[h4,a_],⟨false,by simp[kp,bG,bL];omega⟩,by simp,by simp[gc],by simp[gs],by simp;omega⟩⟩
           rw[aY,d2,Nat.pow_succ 2 m,Nat.mul_comm (2^m) 2,<-Nat.mul_assoc,Nat.mul_comm _ 2,Nat.add_zero]
   · rintro s ⟨l,q,a3⟩
     have aY:=a3.v
     obtain⟨q8,f8⟩:=a3.f8
     have hlen:=a3.len
     simp only[Nat.pow_zero,Nat.div_one,Nat.mul_one] at aY f8
     simp
     refine ax (az aM ?_)
     have Qq:=Nat.mod_lt a (show 0<b by omega)
     have cS:=qq (e:=false) a3.mj (by omega)
     rw[aY] at cS
     have HZ:=qq (e:=q8) (dW (a%b)) (Nat.le_trans (f_ (Nat.le_of_lt Qq)) (by omega))
     rw[du] at HZ
     have fe:List.take L (l.map fun n=>J.int .u32 (Z n))=l.map fun n=>J.int .u32 (Z n):=List.take_of_length_le (by simp;omega)
     simp[a3.f7,f8,a3.cells,<-a_,hlen,fe,cS,HZ]
     refine aH ?_
     simp
noncomputable def yM:List J->Option J:=cl (fun z:Nat × Nat=>(ai z.1).length<=1000000/\(ai z.2).length<=1000000) (fun z=>[aw z.1,aw z.2]) (fun z=>aw (Nat.gcd z.1 z.2))
theorem Qr {a b:Nat} {e e':Bool} (bF:(ai a).length<=1000000) (au:(ai b).length<=1000000):
 yM [.sl ((ai a).map fun n=> .int .u32 (Z n)) e,.sl ((ai b).map fun n=> .int .u32 (Z n)) e']=some (aw (Nat.gcd a b)):=
 cI (fun z w h=>by simp[bG,bL] at h;simp[h]) (a,b) ⟨bF,au⟩ (by simp)
noncomputable def H0:FuncId->Option (List J->Option J):=da [(96,uv)]
theorem Qs:∀f T,H0 f=some T->bl Tryz.prog G f T:=dc (by simp only[List.forall_mem_cons];exact ⟨HV,fun _ h=>absurd h (by simp)⟩)
theorem Qt:H0 96=some uv:=rfl
attribute [local simp] Qt
theorem Qu:bl Tryz.prog G 108 yM:=by
 refine cJ mixed Qs GQ fun z aV=>?_
 obtain⟨a,b⟩:=z
 obtain⟨cZ,cm⟩:=aV
 simp only at cZ cm|-
 unfold i108
 refine ax (az aM ?_)
 simp[aS]
 refine ax ?_
 refine mg (id:=0) (fun m s=>∃x,(ai x).length<=1000000/\(ai m).length<=1000000/\Nat.gcd x m=Nat.gcd a b/\s.F 0=aw x/\s.F 1=aw m) (fun s=>s.F 0=aw (Nat.gcd a b)) (fun _=>False) b ?_ ?_ ?_ (fun _ h=>h.elim)
 · exact ⟨a,cZ,cm,rfl,by simp,by simp⟩
 · rintro m s ⟨x,H2,lm,bq,f0,f1⟩
   refine ax (ax (az aM ?_))
   simp[f1]
   refine aJ _ rfl (fun I=>?_) (fun I=>?_)
   · have hm:m≠0:=lk.1 (by simpa using I)
     have t1:=HT (a:=x) (b:=m) (e:=false) (e':=false) H2 lm
     rw[if_neg hm] at t1
     have b6:=Nat.mod_lt x (show 0<m by omega)
     refine aK ?_
     simp
     refine aL (ax (az aM ?_))
     simp[f0,f1,t1]
     refine ax (az aM ?_)
     simp[f1]
     refine az aM ?_
     simp
     refine⟨x%m,b6,m,lm,Nat.le_trans (f_ (Nat.le_of_lt b6)) lm,?_,rfl,rfl⟩
     rw[<-bq,Nat.gcd_comm x m,Nat.gcd_rec m x,Nat.gcd_comm]
   · have hm:m=0:=by
      have:(ai m).length=0:=by simp at I;simp[I]
      exact Hz.1 this
     subst hm
     refine aN ?_
     rw[Nat.gcd_zero_right] at bq
     exact ⟨rfl,by simp[f0,bq]⟩
 · intro s f0
   simp
   refine ax (az aM ?_)
   simp[f0]
   refine aH ?_
   simp
end
end
end Go.Proofs.YtcikknajimdjoaaGreatDoor
