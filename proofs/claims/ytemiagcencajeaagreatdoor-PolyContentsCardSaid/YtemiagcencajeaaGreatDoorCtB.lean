/- What the claim needs of the walks, put together by a program (shake.py). -/
import Derived.Test.YtemiagcencajeaaGreatDoorCtA
set_option maxRecDepth 100000
set_option linter.unusedSimpArgs false
set_option linter.unusedVariables false
set_option linter.unusedSectionVars false
namespace Go.Proofs.YtemiagcencajeaaGreatDoor
section
open Go Go.Eng Go.RowKit
abbrev fj (n:Nat):J:= .int .u64 (Z n)
abbrev bM (n:Nat):J:= .int .u32 (Z n)
abbrev bt (n:Nat):J:= .int .i64 (Z n)
abbrev cF (l:List Nat) (e:Bool):J:= .sl (l.map fun n=> .int .u32 (Z n)) e
def aS (l:List Nat) (i:Nat):Nat:=l.getD i 0
theorem zF (x:Nat) (l:List Nat):aS (x::l) 0=x:=rfl
theorem wH (x:Nat) (l:List Nat) (i:Nat):aS (x::l) (i+1)=aS l i:=rfl
theorem Nv (i:Nat):aS [] i=0:=rfl
theorem pV {l:List Nat} {i:Nat} (h:l.length<=i):aS l i=0:=by
 simp[aS,List.getD,List.getElem?_eq_none h]
theorem kj {l:List Nat} {i:Nat} (h:i<l.length):aS l i=l[i]:=by simp[aS,List.getD,h]
theorem zG {l:List Nat} {i:Nat} (h:i<l.length):aS l i∈l:=by
 rw[kj h];exact List.getElem_mem h
theorem oi {l:List Nat} {i:Nat} (h:i<l.length):(l.map fun n=>J.int .u32 (Z n))[i]? =some (.int .u32 (Z (aS l i))):=by
 simp[kj h,List.getElem?_eq_getElem h]
def val:List Nat->Nat
 | []=>0
 | x::l=>x+4294967296*val l
def Small (l:List Nat):Prop:=∀x∈l,x<4294967296
theorem Small.nil:Small []:=fun x h=>by cases h
theorem Small.cons {x:Nat} {l:List Nat} (h:Small (x::l)):x<4294967296/\Small l:=⟨h x (by simp),fun y bd=>h y (by simp[bd])⟩
theorem ld {x:Nat} {l:List Nat}:Small (x::l)↔x<4294967296/\Small l:=⟨Small.cons,fun h y bd=>by
 rcases List.mem_cons.1 bd with rfl|bd
 · exact h.1
 · exact h.2 y bd⟩
theorem nK {a b:List Nat}:Small (a++b)↔Small a/\Small b:=by
 constructor
 · exact fun h=>⟨fun x ak=>h x (by simp[ak]),fun x ak=>h x (by simp[ak])⟩
 · rintro ⟨h,k⟩ x ak
   rcases List.mem_append.1 ak with ak|ak
   · exact h x ak
   · exact k x ak
theorem Small.aS {l:List Nat} (h:Small l) (i:Nat):aS l i<4294967296:=by
 by_cases ag:i<l.length
 · exact h _ (zG ag)
 · rw[pV (by omega)];decide
theorem Small.take {l:List Nat} (h:Small l) (n:Nat):Small (l.take n):=fun x ak=>h x (List.mem_of_mem_take ak)
theorem Small.drop {l:List Nat} (h:Small l) (n:Nat):Small (l.drop n):=fun x ak=>h x (List.mem_of_mem_drop ak)
def ay:Nat->Nat
 | 0=>1
 | k+1=>4294967296*ay k
theorem ft:ay 0=1:=rfl
theorem ee (k:Nat):ay (k+1)=ay k*4294967296:=Nat.mul_comm ..
theorem sD:∀k,ay k=4294967296^k
 | 0=>rfl
 | k+1=>by rw[ee,sD k,Nat.pow_succ]
theorem g3:∀k:Nat,0<ay k
 | 0=>by decide
 | k+1=>by have:=g3 k;rw[ee];omega
theorem gw (a b:Nat):ay (a+b)=ay a*ay b:=by rw[sD,sD,sD,Nat.pow_add]
theorem l6 {a b:Nat} (h:a<=b):ay a<=ay b:=by rw[sD,sD];exact Nat.pow_le_pow_right (by decide) h
theorem sE:ay 1=4294967296:=rfl
theorem pW (n k:Nat):n/ay (k+1)=n/ay k/4294967296:=by rw[ee,Nat.div_div_eq_div_mul]
theorem mn (n k:Nat):n%ay (k+1)=n%ay k+ay k*(n/ay k%4294967296):=by rw[ee];exact Nat.mod_mul
attribute [irreducible] ay
theorem lO:∀(a b:List Nat),val (a++b)=val a+ay a.length*val b
 | [],b=>by simp[val,ft]
 | x::a,b=>by
   simp only[List.cons_append,val,lO a b,List.length_cons,ee]
   rw[Nat.mul_add,Nat.mul_comm (ay a.length) 4294967296,Nat.mul_assoc];omega
theorem o1:∀ {l:List Nat},Small l->val l<ay l.length
 | [],_=>by simp[val,ft]
 | x::l,h=>by
   have ab:=h.cons
   have h2:=o1 ab.2
   have aX:4294967296*val l+4294967296<=4294967296*ay l.length:=by
    have:=Nat.mul_le_mul_left 4294967296 (Nat.succ_le_of_lt h2)
    rw[Nat.mul_succ] at this;exact this
   simp only[val,List.length_cons,ee]
   rw[Nat.mul_comm (ay l.length)]
   omega
theorem sF (n:Nat):val (List.replicate n 0)=0:=by
 induction n with
 | zero=>rfl
 | succ n bC=>rw[List.replicate_succ,val,bC]
def ah (n:Nat):List Nat:=if h:n=0 then [] else n%4294967296::ah (n/4294967296)
termination_by n
decreasing_by exact Nat.div_lt_self (by omega) (by decide)
theorem fu:ah 0= []:=by unfold ah;simp
theorem qV {n:Nat} (h:n≠0):ah n=n%4294967296::ah (n/4294967296):=by
 rw[ah];simp[h]
theorem dO (n:Nat):Small (ah n):=by
 induction n using Nat.strongRecOn with
 | _ n bC=>
   by_cases h:n=0
   · subst h;rw[fu];exact Small.nil
   · rw[qV h]
     exact ld.2 ⟨Nat.mod_lt _ (by decide),bC _ (Nat.div_lt_self (by omega) (by decide))⟩
theorem dm (n:Nat):val (ah n)=n:=by
 induction n using Nat.strongRecOn with
 | _ n bC=>
   by_cases h:n=0
   · subst h;rw[fu];rfl
   · rw[qV h,val,bC _ (Nat.div_lt_self (by omega) (by decide))]
     exact Nat.mod_add_div n 4294967296
theorem b6 {a b:Nat}:ah a=ah b↔a=b:=⟨fun h=>by rw[<-dm a,h,dm],fun h=>by rw[h]⟩
theorem jO {n:Nat}:ah n= []↔n=0:=by
 constructor
 · intro h;rw[<-dm n,h];rfl
 · rintro rfl;exact fu
theorem Nw {n:Nat}:(ah n).length=0↔n=0:=by rw[List.length_eq_zero_iff,jO]
theorem mo {n:Nat}:0<(ah n).length↔n≠0:=by
 have:=Nw (n:=n);omega
theorem FB:∀ {l:List Nat},Small l->(l= []\/aS l (l.length - 1)≠0)->ah (val l)=l
 | [],_,_=>fu
 | [x],h,h2=>by
   have ab:=h.cons.1
   have ak:x≠0:=by
    rcases h2 with h2|h2
    · cases h2
    · exact h2
   have e:val [x]=x:=by simp[val]
   rw[e,qV ak,Nat.mod_eq_of_lt ab,show x/4294967296=0 from Nat.div_eq_of_lt ab,fu]
 | x::y::l,h,h2=>by
   have ab:=h.cons
   have aX:aS (y::l) ((y::l).length - 1)≠0:=by
    rcases h2 with h2|h2
    · cases h2
    · exact h2
   have bC:=FB ab.2 (.inr aX)
   have aR:val (y::l)≠0:=by
    intro aJ
    rw[aJ,fu] at bC
    cases bC
   have e:val (x::y::l)=x+4294967296*val (y::l):=rfl
   rw[e]
   generalize val (y::l)=v at*
   rw[qV (by omega),show (x+4294967296*v)%4294967296=x by omega,show (x+4294967296*v)/4294967296=v by omega,bC]
theorem o2:∀ {l:List Nat},Small l->∀i,aS l i=val l/ay i%4294967296
 | [],_,i=>by simp[Nv,val]
 | x::l,h,0=>by
   have:=h.cons.1
   rw[zF,val,ft];omega
 | x::l,h,i+1=>by
   have ab:=h.cons
   rw[wH,o2 ab.2 i,val,ee,Nat.mul_comm (ay i),<-Nat.div_div_eq_div_mul]
   congr 2
   omega
theorem fV (n i:Nat):aS (ah n) i=n/ay i%4294967296:=by rw[o2 (dO n),dm]
theorem zH:∀ {l:List Nat},Small l->∀i,val (l.drop i)=val l/ay i
 | [],_,i=>by simp[val]
 | x::l,h,0=>by simp[ft]
 | x::l,h,i+1=>by
   have ab:=h.cons
   rw[List.drop_succ_cons,zH ab.2 i,val,ee,Nat.mul_comm (ay i),<-Nat.div_div_eq_div_mul]
   congr 1
   omega
theorem Nx {l:List Nat} (h:Small l) (i:Nat):val (l.take i)=val l%ay i:=by
 by_cases ag:i<=l.length
 · have e:=lO (l.take i) (l.drop i)
   rw[List.take_append_drop,zH h,List.length_take,Nat.min_eq_left ag] at e
   have:=Nat.mod_add_div (val l) (ay i)
   omega
 · rw[List.take_of_length_le (by omega),Nat.mod_eq_of_lt (Nat.lt_of_lt_of_le (o1 h) (l6 (by omega)))]
theorem FC {n:Nat} (h:n≠0):aS (ah n) ((ah n).length - 1)≠0:=by
 induction n using Nat.strongRecOn with
 | _ n bC=>
   by_cases h2:n/4294967296=0
   · have ar:n<4294967296:=by omega
     rw[qV h,h2,fu]
     show n%4294967296≠0
     omega
   · have:=bC _ (Nat.div_lt_self (by omega) (by decide)) h2
     have a4:=mo.2 h2
     rw[qV h,List.length_cons,Nat.add_sub_cancel]
     obtain⟨k,aE⟩:∃k,(ah (n/4294967296)).length=k+1:=⟨_,(Nat.succ_pred_eq_of_pos a4).symm⟩
     rw[aE,wH]
     rw[aE,Nat.add_sub_cancel] at this
     exact this
theorem c5 {n k:Nat}:(ah n).length<=k↔n<ay k:=by
 constructor
 · intro h
   have:=o1 (dO n)
   rw[dm] at this
   exact Nat.lt_of_lt_of_le this (l6 h)
 · intro h
   by_cases ar:n=0
   · subst ar;rw[fu];exact Nat.zero_le _
   · refine Nat.le_of_not_lt fun aE=>FC ar ?_
     rw[fV,Nat.div_eq_of_lt (Nat.lt_of_lt_of_le h (l6 (by omega)))]
theorem zI {n k:Nat}:k<(ah n).length↔ay k<=n:=by
 have:=c5 (n:=n) (k:=k);omega
theorem fW {a b:Nat} (h:a<=b):(ah a).length<=(ah b).length:=c5.2 (Nat.lt_of_le_of_lt h (c5.1 (Nat.le_refl _)))
theorem kk (a b:Nat):(ah (a+b)).length<=max (ah a).length (ah b).length+1:=by
 refine c5.2 ?_
 have ab:a<ay (max (ah a).length (ah b).length):=c5.1 (Nat.le_max_left _ _)
 have h2:b<ay (max (ah a).length (ah b).length):=c5.1 (Nat.le_max_right _ _)
 generalize max (ah a).length (ah b).length=k at*
 rw[ee]
 omega
theorem kP (a b:Nat):(ah (a*b)).length<=(ah a).length+(ah b).length:=by
 refine c5.2 ?_
 rw[gw]
 have ab:a<ay (ah a).length:=c5.1 (Nat.le_refl _)
 have h2:b<ay (ah b).length:=c5.1 (Nat.le_refl _)
 exact Nat.mul_lt_mul'' ab h2
theorem zJ {l:List Nat} (h:Small l) {m:Nat} (hm:m<=l.length) (aP:∀i,m<=i->aS l i=0) (aV:m=0\/aS l (m - 1)≠0):l.take m=ah (val l):=by
 have Ny:∀i,i<m->aS (l.take m) i=aS l i:=fun i ag=>by
  rw[kj (by simp;omega),kj (by omega)];simp
 have e:val (l.take m)=val l:=by
  have bA:∀r:List Nat,(∀i,aS r i=0)->val r=0:=by
   intro r
   induction r with
   | nil=>intro _;rfl
   | cons x r bC=>intro ba;rw[val,bC (fun i=>ba (i+1)),show x=0 from ba 0]
  have:=lO (l.take m) (l.drop m)
  rw[List.take_append_drop,bA (l.drop m) (fun i=>by
   have e:aS (l.drop m) i=aS l (m+i):=by simp[aS,List.getD,List.getElem?_drop]
   rw[e,aP _ (by omega)])] at this
  simpa using this.symm
 rw[<-e,FB (h.take m)]
 by_cases aJ:m=0
 · left;subst aJ;rfl
 · right
   have hlen:(l.take m).length=m:=by simp;omega
   rw[hlen,Ny _ (by omega)]
   exact aV.resolve_left aJ
theorem b2 {a b:List Nat}:((a.map fun n=>J.int .u32 (Z n))=b.map fun n=>J.int .u32 (Z n))↔a=b:=by
 constructor
 · intro h
   refine List.map_inj_right (f:=fun n=>J.int .u32 (Z n)) (fun x y l0=>?_) |>.1 h
   simpa[bY] using l0
 · rintro rfl;rfl
theorem ed (l:List Nat):kN (l.map fun n=>J.int .u32 (Z n))=l.map fun n=>J.int .u32 (Z n):=by
 rw[oZ,List.map_map]
 refine List.map_congr_left fun x _=>?_
 simp[gM]
theorem uW (l:List Nat):(l.map fun n=>J.int .u32 (Z n)).all J.eA=true:=by
 simp[J.eA,J.cells,J.ew]
abbrev aw (n:Nat):J:=cF (ah n) false
theorem FD (l:List Nat) (e:Bool):(cF l e).loose=cF l false:=by rw[fs,ed]
theorem nL:ah 1= [1]:=by rw[qV (by decide),show 1%4294967296=1 from rfl,show 1/4294967296=0 from rfl,fu]
def bK (z:Int):Bool:=decide (z<0)
theorem FE {a b:Int}:(bK a=bK b/\a.natAbs=b.natAbs)↔a=b:=by
 constructor
 · rintro ⟨ab,h2⟩
   simp only[bK,decide_eq_decide] at ab
   omega
 · rintro rfl;exact⟨rfl,rfl⟩
theorem FF (n:Nat):bK (n:Int)=false:=by simp[bK]
theorem Nz {z:Int}:bK z=false↔0<=z:=by simp[bK]
abbrev bk (z:Int):J:= .agg [.bool (bK z),aw z.natAbs]
theorem FG (z:Int) (e:Bool):(J.agg [.bool (bK z),cF (ah z.natAbs) e]).loose=bk z:=by
 rw[gf,fT,fT,gv,gg,FD]
abbrev bF (p:List Int) (e:Bool):J:= .sl (p.map fun z=>bk z) e
theorem cm {a b:Int}:bk a=bk b↔a=b:=by
 constructor
 · intro h
   simp only[J.agg.injEq,List.cons.injEq,J.bool.injEq,J.sl.injEq,b2,b6,and_true] at h
   exact FE.1 h
 · rintro rfl;rfl
theorem cn {a b:List Int}:((a.map fun z=>bk z)=b.map fun z=>bk z)↔a=b:=by
 constructor
 · intro h
   exact List.map_inj_right (f:=fun z=>bk z) (fun x y l0=>cm.1 l0) |>.1 h
 · rintro rfl;rfl
theorem ef (l:List Int):kN (l.map fun z=>bk z)=l.map fun z=>bk z:=by
 rw[oZ,List.map_map]
 refine List.map_congr_left fun x _=>?_
 exact FG x false
end
section
open Go Go.Eng
def G:Nat->Option J:=fun _=>none
end
section
open Go Go.Eng Go.RowKit
def qW:List (String × DataW Unit):=[("ziggurat/ntt.fields",Rows.laid_ziggurat_ntt_fields)]
theorem own:ownKnob Tryz.prog.godebug=none:=by kernel_rfl
theorem lay:laidOutB Tryz.prog=true:=by kernel_rfl
theorem mf (W:World) (NA:Array Value) (V3:laidMetH Tryz.prog qW W):∀g u,G g=some u->bu W (fun _=>True) (fun _=>none) (.eu u) (.pointer (some ⟨g,0,none⟩)):=by
 intro g u bp
 cases bp
theorem NB (os:Os) (args:Array Value):laidMetH Tryz.prog qW ((World.doorLaid Tryz.prog 27 os).forCall (fun _ _=>0) ⟨#[],args,[]⟩).memory:=
 laidMetH_of_parts3 (fuel:=8) (laidMet_of_run' 8 (by kernel_rfl) (by kernel_rfl)) (by kernel_rfl) (by kernel_rfl)
theorem NC (w a_:World) (NA:Array Value) (cY:w.heap=a_.heap) (h:laidMetH Tryz.prog qW w):laidMetH Tryz.prog qW a_:=h.of_heap cY
end
section
open Go Go.Eng Go.RowKit
attribute [local simp] bx.m bx.o bx.n bx.g gZ eQ df c7 dj evalOp.eq_1 evalOp.eq_2 evalOp.eq_3 evalOp.eq_4 evalOp.eq_5 evalOp.eq_6 evalOp.eq_7 evalOp.eq_8 evalOp.eq_9 evalOp.eq_10 evalOp.eq_11 evalOp.eq_12 evalOp.eq_13 evalOp.eq_14 evalOp.eq_15 evalOp.eq_16 evalOp.eq_17 evalOp.eq_18 evalOp.eq_19 evalOp.eq_20 evalOp.eq_21 evalOp.eq_22 evalOp.eq_23 evalOp.eq_24 evalOp.eq_25 evalOp.eq_27 evalOp.eq_28 evalOp.eq_29 jK bf.ev c6 aF aA.new bj J.cells J.c0 J.ew J.eA hF hH hG hI hK hJ iX iY iZ gm gn cut partOf bound elems ja jb jc jd je jf jg jh ji jj jk jl g2 jm jn jo jq jr js jt ju jv jw jx jy jz jA jB jC jD jE jF jG jH jI jJ eP eJ eB fA hL g0 aA.close aA.set hr jL jM jN i' g1 gv fT fs gf hn gM gg ho hp hq fx fy fz fv hM bY hj hN hk hO hP fq hQ fr hR hS hT gd iW hU hV hW hX hY hZ h0 h1 h3 h4 h5 h6 h7 h8 h9 h_ h' ia ib hl ic ie ig ih ij ik il im iq ir iu iv iw ix iy
attribute [local simp high] iT iU iV iz iA iB iC iD iE iF iG iH iI iJ iK iL iM iN iO iP iQ iR iS
attribute [local simp] ed ef
section
noncomputable def ND:FuncId->Option (List J->Option J):=dn []
theorem sG:∀f T,ND f=some T->br Tryz.prog G f T:=dr (by simp)
theorem uX (a b:Nat):g' (fun a b=>if a<b then b else a) [J.int .i64 (Z a),J.int .i64 (Z b)]=some (.int .i64 (Z (max a b))):=by
 simp only[g',if_true]
 congr 2
 by_cases h:a<b
 · rw[if_pos (by simp only[Z];omega),Nat.max_eq_right (by omega)]
 · rw[if_neg (by simp only[Z];omega),Nat.max_eq_left (by omega)]
theorem sH (a b:Nat):g' (fun a b=>if b<a then b else a) [J.int .i64 (Z a),J.int .i64 (Z b)]=some (.int .i64 (Z (min a b))):=by
 simp only[g',if_true]
 congr 2
 by_cases h:b<a
 · rw[if_pos (by simp only[Z];omega),Nat.min_eq_right (by omega)]
 · rw[if_neg (by simp only[Z];omega),Nat.min_eq_left (by omega)]
def kE (n:Nat):Int:=n - 1
theorem qX:kE 0= -1:=rfl
theorem sI (n:Nat):kE (n+1)=Z n:=by simp only[kE,Z];omega
theorem l7 {n:Nat} (h:n<9223372036854775808):IntKind.i64.wrap (Z n - Z 1)=kE n:=by
 rw[wrap_i64 (by simp only[Z];omega) (by simp only[Z];omega)];rfl
noncomputable def sJ:List J->Option J:=cd (fun z:List Nat × Nat=>Small z.1/\z.2<4611686018427387904/\z.1.length<4611686018427387904) (fun z=>[cF z.1 false,bt z.2]) (fun z=>fj (aS z.1 z.2))
theorem qY {l:List Nat} {e:Bool} {i:Nat} (h:Small l) (ag:i<4611686018427387904) (aV:l.length<4611686018427387904):sJ [.sl (l.map fun n=> .int .u32 (Z n)) e,bt i]=some (fj (aS l i)):=
 cU (fun z w h=>by simp[b2] at h;simp[h]) (l,i) ⟨h,ag,aV⟩ (by simp)
theorem FH:br Tryz.prog G 177 sJ:=by
 refine cG mixed sG EV fun z aP=>?_
 obtain⟨l,i⟩:=z
 obtain⟨aG,ag,aV⟩:=aP
 simp only at aG ag aV|-
 have ab:=aG.aS i
 unfold i177
 refine aC (aD aN ?_)
 simp[aJ]
 refine aC (aC (aD aN ?_))
 simp
 refine aL _ rfl (fun I=>?_) (fun I=>?_)
 · have I:l.length<=i:=by simpa using I
   refine aC (aD aN ?_)
   simp
   refine aH ?_
   simp[pV I]
 · have I:i<l.length:=by simpa using I
   refine aM ?_
   simp
   refine aC (aD aN ?_)
   have bp:=oi I
   simp only[List.getElem?_map] at bp
   simp[bp,Nat.mod_eq_of_lt (show aS l i<18446744073709551616 by omega)]
   refine aH ?_
   simp
noncomputable def na:List J->Option J:=cd (fun z:List Nat=>Small z/\z.length<=1073741824) (fun z=>[cF z false]) (fun z=>aw (val z))
theorem pX {l:List Nat} {e:Bool} (h:Small l) (aV:l.length<=1073741824):na [.sl (l.map fun n=> .int .u32 (Z n)) e]=some (aw (val l)):=
 cU (fun z w h=>by simp[b2] at h;simp[h]) l ⟨h,aV⟩ (by simp)
theorem uY:br Tryz.prog G 178 na:=by
 refine cG mixed sG EW fun l aP=>?_
 obtain⟨aG,aV⟩:=aP
 unfold i178
 refine aC (aD aN ?_)
 simp[aJ]
 refine aC (aD aN ?_)
 simp
 refine aC ?_
 refine l4 (id:=0) (fun m s=>m<=l.length/\(∀i,m<=i->aS l i=0)/\s.F 0=cF l false/\s.F 3=bt m)
  (fun s=>∃m,m<=l.length/\(∀i,m<=i->aS l i=0)/\(m=0\/aS l (m - 1)≠0)/\s.F 0=cF l false/\s.F 3=bt m) (fun _=>False) l.length ?_ ?_ ?_ (fun _ h=>h.elim)
 · exact⟨Nat.le_refl _,fun i ag=>pV ag,by simp,by simp⟩
 · rintro m s ⟨hm,aP,f0,f3⟩
   refine aC (aC (aD aN ?_))
   cases m with
   | zero=>
     simp[f0,f3]
     refine aL _ rfl (fun I=>?_) (fun I=>?_)
     · exact absurd I (by decide)
     · refine aQ ?_
       exact⟨rfl,0,by omega,aP,.inl rfl,by simp[f0],by simp[f3]⟩
   | succ m=>
     have bp:=oi (show m<l.length by omega)
     simp only[List.getElem?_map] at bp
     simp[f0,f3,dp (show 1<=m+1 by omega) (show m+1<9223372036854775808 by omega),bp]
     refine aL _ rfl (fun I=>?_) (fun I=>?_)
     · have I:aS l m=0:=by simpa using I
       refine aM ?_
       simp
       refine aO (aD aN ?_)
       simp[f3,dp (show 1<=m+1 by omega) (show m+1<9223372036854775808 by omega)]
       refine⟨m,by omega,by omega,fun i ag=>?_,f0,rfl⟩
       by_cases e:i=m
       · subst e;exact I
       · exact aP i (by omega)
     · have I:aS l m≠0:=by simpa using I
       refine aQ ?_
       exact⟨rfl,m+1,hm,aP,.inr I,by simp[f0],by simp[f3]⟩
 · rintro s ⟨m,hm,aP,hh,f0,f3⟩
   have a7:=zJ aG hm aP hh
   have hlen:(ah (val l)).length=m:=by rw[<-a7];simp;omega
   simp
   refine aC (aD aN ?_)
   have aq:((l.take m).map fun n=>J.int .u32 (Z n))=(ah (val l)).map fun n=>J.int .u32 (Z n):=by rw[a7]
   rw[List.map_take] at aq
   by_cases lz:m=0
   · have NF:ah (val l)= []:=List.length_eq_zero_iff.1 (by omega)
     subst lz
     simp[f0,f3,kd,ki]
     refine aH ?_
     simp[NF]
   · have bP:¬ah (val l)= []:=fun h=>lz (by rw[<-hlen,h];rfl)
     have aB:List.take m ((ah (val l)).map fun n=>J.int .u32 (Z n))=(ah (val l)).map fun n=>J.int .u32 (Z n):=List.take_of_length_le (by simp;omega)
     simp[f0,f3,hm,kd,ki,aq,hlen,bP,lz,show 0<m by omega,show m*4<=35184372088832 by omega]
     refine aH ?_
     simp[hlen,aB]
end
end
section
open Go Go.Eng Go.RowKit
attribute [local simp] bx.m bx.o bx.n bx.g gZ eQ df c7 dj evalOp.eq_1 evalOp.eq_2 evalOp.eq_3 evalOp.eq_4 evalOp.eq_5 evalOp.eq_6 evalOp.eq_7 evalOp.eq_8 evalOp.eq_9 evalOp.eq_10 evalOp.eq_11 evalOp.eq_12 evalOp.eq_13 evalOp.eq_14 evalOp.eq_15 evalOp.eq_16 evalOp.eq_17 evalOp.eq_18 evalOp.eq_19 evalOp.eq_20 evalOp.eq_21 evalOp.eq_22 evalOp.eq_23 evalOp.eq_24 evalOp.eq_25 evalOp.eq_27 evalOp.eq_28 evalOp.eq_29 jK bf.ev c6 aF aA.new bj J.cells J.c0 J.ew J.eA hF hH hG hI hK hJ iX iY iZ gm gn cut partOf bound elems ja jb jc jd je jf jg jh ji jj jk jl g2 jm jn jo jq jr js jt ju jv jw jx jy jz jA jB jC jD jE jF jG jH jI jJ eP eJ eB fA hL g0 aA.close aA.set hr jL jM jN i' g1 gv fT fs gf hn gM gg ho hp hq fx fy fz fv hM bY hj hN hk hO hP fq hQ fr hR hS hT gd iW hU hV hW hX hY hZ h0 h1 h3 h4 h5 h6 h7 h8 h9 h_ h' ia ib hl ic ie ig ih ij ik il im iq ir iu iv iw ix iy
attribute [local simp high] iT iU iV iz iA iB iC iD iE iF iG iH iI iJ iK iL iM iN iO iP iQ iR iS
attribute [local simp] ed ef dm
section
noncomputable def zK:FuncId->Option (List J->Option J):=dn [(177,sJ),(178,na)]
theorem zL:∀f T,zK f=some T->br Tryz.prog G f T:=dr (by simp only[List.forall_mem_cons];exact⟨FH,uY,fun _ h=>absurd h (by simp)⟩)
theorem FI:zK 177=some sJ:=rfl
theorem FJ:zK 178=some na:=rfl
attribute [local simp] FI FJ
theorem val_two {n:Nat} (h:n<18446744073709551616):val [n%4294967296,n/4294967296]=n:=by simp only[val];omega
noncomputable def zM:List J->Option J:=cd (fun z:Nat=>z<18446744073709551616) (fun z=>[fj z]) (fun z=>aw z)
theorem NG:br Tryz.prog G 139 zM:=by
 refine cG mixed zL EN fun n ar=>?_
 unfold i139
 refine aC (aD aN ?_)
 simp[aJ]
 refine aC (aD aN ?_)
 have e:=pX (l:=[n%4294967296,n/4294967296]) (e:=true) (ld.2 ⟨by omega,ld.2 ⟨by omega,Small.nil⟩⟩) (by simp)
 rw[val_two ar] at e
 simp only[List.map_cons,List.map_nil] at e
 simp[Nat.mod_eq_of_lt ar,Nat.mod_eq_of_lt (show n/4294967296<4294967296 by omega),Nat.mod_eq_of_lt (show n/4294967296<18446744073709551616 by omega),e]
 refine aH ?_
 simp
def dV (a b:Nat):Int:=if a<b then -1 else if b<a then 1 else 0
theorem wI {a b k:Nat} (h:a/ay (k+1)=b/ay (k+1)):
 (a/ay k%4294967296<b/ay k%4294967296->a<b)/\(a/ay k%4294967296=b/ay k%4294967296->a/ay k=b/ay k):=by
 rw[pW,pW] at h
 constructor
 · intro aV
   refine Nat.lt_of_not_le fun hle=>?_
   have:=Nat.div_le_div_right (c:=ay k) hle
   omega
 · intro he
   omega
noncomputable def sK:List J->Option J:=cd (fun z:List Nat × List Nat=>Small z.1/\Small z.2/\z.1.length<=1073741824/\z.2.length<=1073741824) (fun z=>[cF z.1 false,cF z.2 false]) (fun z=> .int .i64 (dV (val z.1) (val z.2)))
theorem zN {a b:List Nat} {e e':Bool} (bh:Small a) (aj:Small b) (cE:a.length<=1073741824) (bU:b.length<=1073741824):
 sK [.sl (a.map fun n=> .int .u32 (Z n)) e,.sl (b.map fun n=> .int .u32 (Z n)) e']=some (.int .i64 (dV (val a) (val b))):=
 cU (fun z w h=>by simp[b2] at h;simp[h]) (a,b) ⟨bh,aj,cE,bU⟩ (by simp)
theorem FK:br Tryz.prog G 96 sK:=by
 refine cG mixed zL EB fun z aP=>?_
 obtain⟨a,b⟩:=z
 obtain⟨bh,aj,cE,bU⟩:=aP
 simp only at bh aj cE bU|-
 obtain⟨M,ep⟩:∃M,M=max a.length b.length:=⟨_,rfl⟩
 have FL:M<=1073741824:=by omega
 have aI:val a<ay M:=Nat.lt_of_lt_of_le (o1 bh) (l6 (by omega))
 have a6:val b<ay M:=Nat.lt_of_lt_of_le (o1 aj) (l6 (by omega))
 unfold i96
 refine aC (aD aN ?_)
 simp[aJ]
 refine aC (aC (aD aN ?_))
 simp[uX,<-ep,l7 (show M<9223372036854775808 by omega)]
 refine l4 (id:=0) (fun m s=>m<=M/\val a/ay m=val b/ay m/\s.F 0=cF a false/\s.F 1=cF b false/\s.F 5= .int .i64 (kE m))
  (fun s=>val a=val b) (fun s=>s.F 4= .int .i64 (dV (val a) (val b))) M ?_ ?_ ?_ ?_
 · exact⟨Nat.le_refl _,by rw[Nat.div_eq_of_lt aI,Nat.div_eq_of_lt a6],by simp,by simp,by simp⟩
 · rintro m s ⟨hm,he,f0,f1,f5⟩
   refine aC (aC (aD aN ?_))
   cases m with
   | zero=>
     rw[qX] at f5
     simp[f5]
     refine aL _ rfl (fun I=>?_) (fun I=>?_)
     · exact absurd I (by decide)
     · refine aQ ?_
       exact⟨rfl,by simpa[ft] using he⟩
   | succ m=>
     rw[sI] at f5
     simp[f5]
     refine aL _ rfl (fun I=>?_) (fun I=>(by simp at I))
     refine aM ?_
     simp
     have t1:=qY (e:=false) (i:=m) bh (by omega) (by omega)
     have t2:=qY (e:=false) (i:=m) aj (by omega) (by omega)
     obtain⟨s1,s2⟩:=wI he
     obtain⟨eT,_⟩:=wI he.symm
     rw[<-o2 bh,<-o2 aj] at s1 s2 eT
     refine aC (aO (aC (aC (aD aN ?_))))
     simp[f0,f1,f5,t1,t2]
     refine aL _ rfl (fun I=>?_) (fun I=>?_)
     · have I:aS a m<aS b m:=by simpa using I
       refine aC (aD aN ?_)
       simp
       refine aH ?_
       simp[dV,s1 I]
     · have I:¬aS a m<aS b m:=by simpa using I
       refine aM ?_
       simp
       refine aC (aD aN ?_)
       simp[f0,f1,f5,t1,t2]
       refine aL _ rfl (fun kA=>?_) (fun kA=>?_)
       · have kA:aS b m<aS a m:=by simpa using kA
         have aX:=eT kA
         refine aC (aD aN ?_)
         simp
         refine aH ?_
         simp[dV,aX,Nat.lt_asymm aX]
       · have kA:¬aS b m<aS a m:=by simpa using kA
         refine aM ?_
         simp
         refine aD aN ?_
         simp[f0,f1,f5,l7 (show m<9223372036854775808 by omega)]
         exact⟨m,by omega,by omega,s2 (by omega),rfl⟩
 · intro s h
   simp
   refine aC (aD aN ?_)
   simp
   refine aH ?_
   simp[dV,h]
 · intro s h
   simp[h]
end
section
attribute [local simp] FI FJ
theorem NH (M n:Nat):M*n=M*(n%4294967296)+M*4294967296*(n/4294967296):=by
 conv=>lhs;rw[<-Nat.mod_add_div n 4294967296]
 rw[Nat.mul_add,Nat.mul_assoc]
theorem FM {a b o i c:Nat} (h:o+ay i*c=a%ay i+b%ay i):
 (o+ay i*((a/ay i%4294967296+b/ay i%4294967296+c)%4294967296))+ay (i+1)*((a/ay i%4294967296+b/ay i%4294967296+c)/4294967296)=a%ay (i+1)+b%ay (i+1):=by
 rw[mn,mn,ee]
 have aX:=NH (ay i) (a/ay i%4294967296+b/ay i%4294967296+c)
 rw[Nat.mul_add (ay i),Nat.mul_add (ay i)] at aX
 omega
noncomputable def pY:List J->Option J:=cd (fun z:Nat × Nat=>(ah z.1).length<=1000000000/\(ah z.2).length<=1000000000) (fun z=>[aw z.1,aw z.2]) (fun z=>aw (z.1+z.2))
theorem zO {a b:Nat} {e e':Bool} (bh:(ah a).length<=1000000000) (aj:(ah b).length<=1000000000):
 pY [.sl ((ah a).map fun n=> .int .u32 (Z n)) e,.sl ((ah b).map fun n=> .int .u32 (Z n)) e']=some (aw (a+b)):=
 cU (fun z w h=>by simp[b2,b6] at h;simp[h]) (a,b) ⟨bh,aj⟩ (by simp)
theorem zP:br Tryz.prog G 212 pY:=by
 refine cG mixed zL E9 fun z aP=>?_
 obtain⟨a,b⟩:=z
 obtain⟨cE,bU⟩:=aP
 simp only at cE bU|-
 have bh:=dO a
 have aj:=dO b
 obtain⟨M,ep⟩:∃M,M=max (ah a).length (ah b).length:=⟨_,rfl⟩
 have FL:M<=1000000000:=by omega
 have aI:a<ay (M+1):=c5.1 (by omega)
 have a6:b<ay (M+1):=c5.1 (by omega)
 have FN:a+b<ay (M+1):=c5.1 (by have:=kk a b;omega)
 unfold i212
 refine aC (aD aN ?_)
 simp[aJ]
 refine aC (aD aN ?_)
 simp
 refine aC ?_
 refine aC (aD aN ?_)
 simp
 refine l4 (id:=0) (fun m s=>∃(o:List Nat) (c:Nat),m=M+1 - o.length/\o.length<=M+1/\Small o/\c<=1/\val o+ay o.length*c=a%ay o.length+b%ay o.length/\
  s.F 0=aw a/\s.F 1=aw b/\dh 1 s.h (s.F 5) (o.map fun n=> .int .u32 (Z n))/\s.F 6=fj c/\s.F 7=bt o.length)
  (fun s=>∃o:List Nat,Small o/\o.length=M+1/\val o=a+b/\dh 1 s.h (s.F 5) (o.map fun n=> .int .u32 (Z n))) (fun _=>False) (M+1) ?_ ?_ ?_ (fun _ h=>h.elim)
 · exact⟨[],0,by simp,by simp,Small.nil,by simp,by simp[val,ft,Nat.mod_one],by simp,by simp,by simp;exact dh.nil (by simp),by simp,by simp⟩
 · rintro m s ⟨o,c,rfl,fJ,eZ,pZ,aR,f0,f1,f5,f6,f7⟩
   by_cases hh:o.length=M+1
   · have aq:¬o.length<=(ah a).length:=by omega
     have aB:¬o.length<=(ah b).length:=by omega
     refine aC (aC (aD aN ?_))
     simp[f0,f1,f7,aq,aB]
     refine aL _ rfl (fun I=>?_) (fun I=>?_)
     · exact absurd I (by simp)
     · refine aQ ?_
       rw[hh,Nat.mod_eq_of_lt aI,Nat.mod_eq_of_lt a6] at aR
       have hb:c=0:=by
        rcases Nat.eq_zero_or_pos c with h|h
        · exact h
        · have:=Nat.le_mul_of_pos_right (ay (M+1)) h
          omega
       subst hb
       refine⟨rfl,o,eZ,hh,by simpa using aR,?_⟩
       simp[aF]
       exact f5.mono (fun q _=>rfl) (fun q=>rfl) (by simp)
   · have eS:o.length<=M:=by omega
     refine D4 (fun s=>s.F 0=aw a/\s.F 1=aw b/\dh 1 s.h (s.F 5) (o.map fun n=> .int .u32 (Z n))/\s.F 6=fj c/\s.F 7=bt o.length) ?_ ?_
     · refine aC (aD aN ?_)
       by_cases aq:o.length<=(ah a).length
       · simp[f0,f1,f7,aq]
         refine aL _ rfl (fun I=>?_) (fun I=>absurd I (by simp))
         refine aM ?_
         simp[f0,f1,f6,f7]
         exact f5.mono (fun q _=>rfl) (fun q=>rfl) (by simp)
       · have aB:o.length<=(ah b).length:=by omega
         simp[f0,f1,f7,aq,aB]
         refine aL _ rfl (fun I=>?_) (fun I=>absurd I (by simp))
         refine aM ?_
         simp[f0,f1,f6,f7]
         exact f5.mono (fun q _=>rfl) (fun q=>rfl) (by simp)
     · clear f0 f1 f5 f6 f7
       rintro s ⟨f0,f1,f5,f6,f7⟩
       have t1:=qY (e:=false) (i:=o.length) bh (by omega) (by omega)
       have t2:=qY (e:=false) (i:=o.length) aj (by omega) (by omega)
       have s1:=bh.aS o.length
       have s2:=aj.aS o.length
       have eo:=FM aR
       rw[<-fV,<-fV] at eo
       generalize aS (ah a) o.length=x at*
       generalize aS (ah b) o.length=y at*
       refine aC (aO (aC (aD aN ?_)))
       simp[f0,f1,f6,f7,t1,t2,Nat.mod_eq_of_lt (show x+y<18446744073709551616 by omega),Nat.mod_eq_of_lt (show x+y+c<18446744073709551616 by omega)]
       refine aC (aD aN ?_)
       simp[qT f5,show (o.length+1)*4<=35184372088832 by omega]
       refine aD aN ?_
       simp
       refine aD aN ?_
       simp[f7,eH (show o.length+1<9223372036854775808 by omega)]
       have aK:=f5.app (ys:=[J.int .u32 (Z ((x+y+c)%4294967296))]) (by simp) (by simp) (s.h.next+10+7) (s.h.next+10+7+3+3) (s.h.next+10+5) s.h.bm s.h.bm (by omega) (by omega)
       simp only[List.length_map,List.length_singleton] at aK
       refine⟨M+1 -(o.length+1),by omega,o++ [(x+y+c)%4294967296],by simp,by simp;omega,nK.2 ⟨eZ,ld.2 ⟨by omega,Small.nil⟩⟩,(x+y+c)/4294967296,by omega,?_,f0,f1,by simpa using aK,by omega,by simp⟩
       rw[lO,List.length_append,List.length_singleton]
       simpa[val] using eo
 · rintro s ⟨o,eZ,fJ,aR,f5⟩
   simp
   obtain⟨ids,aK⟩:=f5.out (uW _)
   refine aC (aD aN ?_)
   simp[aK,pX eZ (show o.length<=1073741824 by omega),aR]
   refine aH ?_
   simp
end
section
noncomputable def wJ:FuncId->Option (List J->Option J):=dn [(177,sJ),(178,na),(96,sK)]
theorem FO:∀f T,wJ f=some T->br Tryz.prog G f T:=dr (by simp only[List.forall_mem_cons];exact⟨FH,uY,FK,fun _ h=>absurd h (by simp)⟩)
theorem wK:wJ 177=some sJ:=rfl
theorem wL:wJ 178=some na:=rfl
theorem wM:wJ 96=some sK:=rfl
attribute [local simp] wK wL wM
theorem FP {a b:Nat}:dV a b<0↔a<b:=by
 unfold dV;split
 · simp;omega
 · split<;>simp<;>omega
theorem NI {P B x y c n o u v q r:Nat} (ar:n+y+c=B+x) (bA:n=B*q+r) (bc:q<=1) (h:o+v=u+P*c):o+P*r+(v+P*y)=u+P*x+P*B*(1 - q):=by
 have ab:P*n+P*y+P*c=P*B+P*x:=by rw[<-Nat.mul_add,<-Nat.mul_add,ar,Nat.mul_add]
 have bc:q=0\/q=1:=by omega
 rcases bc with rfl|rfl
 · have:n=r:=by omega
   subst this
   simp only[Nat.sub_zero,Nat.mul_one]
   omega
 · have h2:P*n=P*B+P*r:=by rw[bA,Nat.mul_one,Nat.mul_add]
   simp only[Nat.sub_self,Nat.mul_zero,Nat.add_zero]
   omega
theorem NJ {a b o i c n:Nat} (h:o+b%ay i=a%ay i+ay i*c) (ar:n+(b/ay i%4294967296)+c=4294967296+(a/ay i%4294967296)) (h2:n<8589934592):
 (o+ay i*(n%4294967296))+b%ay (i+1)=a%ay (i+1)+ay (i+1)*(1 - n/4294967296):=by
 rw[mn,mn,ee]
 exact NI ar (Nat.div_add_mod n 4294967296).symm (by omega) h
theorem NK {v P c a b:Nat} (h:v+b=a+P*c) (I:c<=1) (aR:v<P) (e_:b<=a):c=0:=by
 rcases Nat.eq_zero_or_pos c with aJ|aJ
 · exact aJ
 · obtain rfl:c=1:=by omega
   omega
noncomputable def p0:List J->Option J:=cd (fun z:Nat × Nat=>(ah z.1).length<=1000000000/\(ah z.2).length<=1000000000) (fun z=>[aw z.1,aw z.2])
 (fun z=>if z.1<z.2 then .ch [.sl [] false,.bool false] else .ch [aw (z.1 - z.2),.bool true])
theorem wN {a b:Nat} {e e':Bool} (bh:(ah a).length<=1000000000) (aj:(ah b).length<=1000000000):
 p0 [.sl ((ah a).map fun n=> .int .u32 (Z n)) e,.sl ((ah b).map fun n=> .int .u32 (Z n)) e']=some (if a<b then .ch [.sl [] false,.bool false] else .ch [aw (a - b),.bool true]):=
 cU (fun z w h=>by simp[b2,b6] at h;simp[h]) (a,b) ⟨bh,aj⟩ (by simp)
theorem zQ:br Tryz.prog G 213 p0:=by
 refine cG mixed FO E_ fun z aP=>?_
 obtain⟨a,b⟩:=z
 obtain⟨cE,bU⟩:=aP
 simp only at cE bU|-
 have bh:=dO a
 have aj:=dO b
 have t0:=zN (e:=false) (e':=false) bh aj (by omega) (by omega)
 simp only[dm] at t0
 unfold i213
 refine aC (aD aN ?_)
 simp[aJ]
 refine aC (aC (aD aN ?_))
 simp[t0]
 refine aL _ rfl (fun I=>?_) (fun I=>?_)
 · have I:dV a b<0:=of_decide_eq_true I
   have I:=FP.1 I
   refine aC (aD aN ?_)
   simp
   refine aH ?_
   simp[I]
 · have I:¬dV a b<0:=of_decide_eq_false I
   have e_:¬a<b:=fun h=>I (FP.2 h)
   refine aM ?_
   simp
   obtain⟨L,a8⟩:∃L,L=(ah a).length:=⟨_,rfl⟩
   have aI:a<ay L:=c5.1 (by omega)
   refine aC (aD aN ?_)
   simp
   refine aC (aC (aD aN ?_))
   simp
   refine l4 (id:=0) (fun m s=>∃(o:List Nat) (c:Nat),m=L - o.length/\o.length<=L/\Small o/\c<=1/\val o+b%ay o.length=a%ay o.length+ay o.length*c/\
    s.F 0=aw a/\s.F 1=aw b/\dh 1 s.h (s.F 6) (o.map fun n=> .int .u32 (Z n))/\s.F 7=fj c/\s.F 8=bt o.length)
    (fun s=>∃o:List Nat,Small o/\o.length=L/\val o=a - b/\dh 1 s.h (s.F 6) (o.map fun n=> .int .u32 (Z n))) (fun _=>False) L ?_ ?_ ?_ (fun _ h=>h.elim)
   · exact⟨[],0,by simp,by simp,Small.nil,by simp,by simp[val,ft,Nat.mod_one],by simp,by simp,by simp;exact dh.nil (by simp),by simp,by simp⟩
   · rintro m s ⟨o,c,rfl,fJ,eZ,pZ,aR,f0,f1,f6,f7,f8⟩
     refine aC (aC (aD aN ?_))
     simp[f0,f8,<-a8]
     refine aL _ rfl (fun I=>?_) (fun I=>?_)
     · have eS:o.length<L:=by simpa using I
       refine aM ?_
       simp
       have t1:=qY (e:=false) (i:=o.length) bh (by omega) (by omega)
       have t2:=qY (e:=false) (i:=o.length) aj (by omega) (by omega)
       have s1:=bh.aS o.length
       have s2:=aj.aS o.length
       have eo:=fun n=>NJ (n:=n) aR
       rw[<-fV,<-fV] at eo
       generalize aS (ah a) o.length=x at*
       generalize aS (ah b) o.length=y at*
       have eo:=eo (4294967296+x - y - c) (by omega) (by omega)
       refine aC (aO (aC (aD aN ?_)))
       simp[f0,f1,f7,f8,t1,t2,Nat.mod_eq_of_lt (show 4294967296+x<18446744073709551616 by omega),show (4294967296+x+(18446744073709551616 - y%18446744073709551616))%18446744073709551616=4294967296+x - y by omega,
        show (4294967296+x - y+(18446744073709551616 - c%18446744073709551616))%18446744073709551616=4294967296+x - y - c by omega]
       generalize ar:4294967296+x - y - c=n at*
       refine aC (aD aN ?_)
       simp[qT f6,show (o.length+1)*4<=35184372088832 by omega]
       refine aD aN ?_
       simp[Nat.mod_eq_of_lt (show n/4294967296<18446744073709551616 by omega),show (1+(18446744073709551616 - n/4294967296))%18446744073709551616=1 - n/4294967296 by omega]
       refine aD aN ?_
       simp[f8,eH (show o.length+1<9223372036854775808 by omega)]
       have aK:=f6.app (ys:=[J.int .u32 (Z (n%4294967296))]) (by simp) (by simp) (s.h.next+4+11+7) (s.h.next+4+11+7+4+3) (s.h.next+4+11+5) s.h.bm s.h.bm (by omega) (by omega)
       simp only[List.length_map,List.length_singleton] at aK
       refine⟨L -(o.length+1),by omega,o++ [n%4294967296],by simp,by simp;omega,nK.2 ⟨eZ,ld.2 ⟨by omega,Small.nil⟩⟩,1 - n/4294967296,by omega,?_,f0,f1,by simpa using aK,rfl,by simp⟩
       rw[lO,List.length_append,List.length_singleton]
       simpa[val] using eo
     · have hh:o.length=L:=by simp at I;omega
       refine aQ ?_
       rw[hh,Nat.mod_eq_of_lt aI,Nat.mod_eq_of_lt (show b<ay L by omega)] at aR
       have FQ:=o1 eZ
       rw[hh] at FQ
       have hb:=NK aR pZ FQ (by omega)
       subst hb
       refine⟨rfl,o,eZ,hh,by simp at aR;omega,?_⟩
       simp[aF]
       exact f6.mono (fun q _=>rfl) (fun q=>rfl) (by simp)
   · rintro s ⟨o,eZ,fJ,aR,f6⟩
     simp
     obtain⟨ids,aK⟩:=f6.out (uW _)
     refine aC (aD aN ?_)
     simp[aK,pX eZ (show o.length<=1073741824 by omega),aR]
     refine aH ?_
     simp[e_]
end
end
section
open Go Go.Eng Go.RowKit
attribute [local simp] bx.m bx.o bx.n bx.g gZ eQ df c7 dj evalOp.eq_1 evalOp.eq_2 evalOp.eq_3 evalOp.eq_4 evalOp.eq_5 evalOp.eq_6 evalOp.eq_7 evalOp.eq_8 evalOp.eq_9 evalOp.eq_10 evalOp.eq_11 evalOp.eq_12 evalOp.eq_13 evalOp.eq_14 evalOp.eq_15 evalOp.eq_16 evalOp.eq_17 evalOp.eq_18 evalOp.eq_19 evalOp.eq_20 evalOp.eq_21 evalOp.eq_22 evalOp.eq_23 evalOp.eq_24 evalOp.eq_25 evalOp.eq_27 evalOp.eq_28 evalOp.eq_29 jK bf.ev c6 aF aA.new bj J.cells J.c0 J.ew J.eA hF hH hG hI hK hJ iX iY iZ gm gn cut partOf bound elems ja jb jc jd je jf jg jh ji jj jk jl g2 jm jn jo jq jr js jt ju jv jw jx jy jz jA jB jC jD jE jF jG jH jI jJ eP eJ eB fA hL g0 aA.close aA.set hr jL jM jN i' g1 gv fT fs gf hn gM gg ho hp hq fx fy fz fv hM bY hj hN hk hO hP fq hQ fr hR hS hT gd iW hU hV hW hX hY hZ h0 h1 h3 h4 h5 h6 h7 h8 h9 h_ h' ia ib hl ic ie ig ih ij ik il im iq ir iu iv iw ix iy
attribute [local simp high] iT iU iV iz iA iB iC iD iE iF iG iH iI iJ iK iL iM iN iO iP iQ iR iS
section
attribute [local simp] ed ef dm wK wL wM
def dJ (n:Nat):Nat:=if h:n=0 then 0 else dJ (n/2)+1
termination_by n
decreasing_by exact Nat.div_lt_self (by omega) (by decide)
theorem wO:dJ 0=0:=by unfold dJ;simp
theorem wP {n:Nat} (h:n≠0):dJ n=dJ (n/2)+1:=by rw[dJ];simp[h]
theorem oj {n k:Nat}:dJ n<=k↔n<2^k:=by
 induction k generalizing n with
 | zero=>
   by_cases h:n=0
   · subst h;simp[wO]
   · rw[wP h];simp;omega
 | succ k bC=>
   by_cases h:n=0
   · subst h;simp[wO,Nat.pow_pos]
   · rw[wP h,Nat.pow_succ]
     have:=bC (n:=n/2)
     omega
theorem FR {n k:Nat}:k<dJ n↔2^k<=n:=by
 have:=oj (n:=n) (k:=k);omega
theorem NL {n:Nat}:dJ n=0↔n=0:=by
 have:=oj (n:=n) (k:=0);simp at this;omega
theorem FT {n k:Nat} (h:n/2^k≠0):dJ n=k+dJ (n/2^k):=by
 induction k generalizing n with
 | zero=>simp
 | succ k bC=>
   have e:n/2^(k+1)=n/2/2^k:=by rw[Nat.pow_succ,Nat.mul_comm,Nat.div_div_eq_div_mul]
   have ar:n≠0:=by rintro rfl;simp at h
   rw[e] at h|-
   rw[wP ar,bC h];omega
theorem lf:∀k:Nat,ay k=2^(32*k)
 | 0=>ft
 | k+1=>by rw[ee,lf k,Nat.mul_add,Nat.pow_add]
theorem NM {n:Nat} (h:n≠0):dJ n=32*((ah n).length - 1)+dJ (aS (ah n) ((ah n).length - 1)):=by
 obtain⟨k,aE⟩:∃k,k=(ah n).length - 1:=⟨_,rfl⟩
 have a4:=mo.2 h
 have ab:n<ay (k+1):=c5.1 (by omega)
 have h2:=FC h
 rw[<-aE] at h2|-
 rw[fV] at h2|-
 have aX:n/ay k<4294967296:=by
  rw[ee] at ab
  exact Nat.div_lt_of_lt_mul ab
 rw[Nat.mod_eq_of_lt aX] at h2|-
 rw[lf] at h2|-
 exact FT h2
theorem NN {x r:Nat} (h:r<32):x%4294967296/2^r%2=x/2^r%2:=by
 have ab:=Nat.testBit_mod_two_pow x 32 r
 rw[Nat.testBit_eq_decide_div_mod_eq,Nat.testBit_eq_decide_div_mod_eq] at ab
 simp only[h,decide_true,Bool.true_and,decide_eq_decide] at ab
 have e:(2:Nat)^32=4294967296:=rfl
 rw[e] at ab
 omega
theorem NO (a i:Nat):aS (ah a) (i/32)/2^(i%32)%2=a/2^i%2:=by
 rw[fV,NN (Nat.mod_lt _ (by decide)),lf,Nat.div_div_eq_div_mul,<-Nat.pow_add,Nat.div_add_mod]
noncomputable def wQ:List J->Option J:=cd (fun z:Nat=>(ah z).length<=1000000000) (fun z=>[aw z]) (fun z=>bt (dJ z))
theorem NP {a:Nat} {e:Bool} (bh:(ah a).length<=1000000000):wQ [.sl ((ah a).map fun n=> .int .u32 (Z n)) e]=some (bt (dJ a)):=
 cU (fun z w h=>by simp[b2,b6] at h;simp[h]) a bh (by simp)
theorem NQ:br Tryz.prog G 243 wQ:=by
 refine cG mixed sG Fc fun a cE=>?_
 have bh:=dO a
 unfold i243
 refine aC (aD aN ?_)
 simp[aJ]
 refine aC (aC (aD aN ?_))
 simp
 refine aL _ rfl (fun I=>?_) (fun I=>?_)
 · have I:a=0:=by simpa[jO] using I
   refine aC (aD aN ?_)
   simp
   refine aH ?_
   simp[I,wO]
 · have I:a≠0:=by simpa[jO] using I
   have a4:=mo.2 I
   obtain⟨L,a8⟩:∃L,(ah a).length=L+1:=⟨_,(Nat.succ_pred_eq_of_pos a4).symm⟩
   have bp:=(kj (show L<(ah a).length by omega)).symm
   have fR:=NM I
   rw[a8,Nat.add_sub_cancel] at fR
   have a7:=bh.aS L
   refine aM ?_
   simp
   refine aC (aD aN ?_)
   simp[a8,dp (show 1<=L+1 by omega) (show L+1<9223372036854775808 by omega),bp]
   refine⟨by first|decide|rfl,?_⟩
   generalize aS (ah a) L=top at*
   refine aC ?_
   refine l4 (id:=0) (fun m s=>∃n,m<4294967296/\n<=32/\n+dJ m=dJ top/\s.F 0=aw a/\s.F 3=bt n/\s.F 4=bM m) (fun s=>s.F 0=aw a/\s.F 3=bt (dJ top)) (fun _=>False) top ?_ ?_ ?_ (fun _ h=>h.elim)
   · exact⟨0,a7,by omega,by simp,by simp,by simp,by simp⟩
   · rintro m s ⟨n,hm,ar,aj,f0,f3,f4⟩
     refine aC (aC (aD aN ?_))
     simp[f4]
     refine aL _ rfl (fun I=>?_) (fun I=>?_)
     · have I:0<m:=by simpa using I
       have pU:=wP (show m≠0 by omega)
       have NR:dJ top<=32:=oj.2 (by simpa using a7)
       refine aM ?_
       simp
       refine aO (aC (aD aN ?_))
       simp[f4,Nat.mod_eq_of_lt (show m/2<4294967296 by omega)]
       refine aD aN ?_
       simp[f3,eH (show n+1<9223372036854775808 by omega)]
       exact⟨m/2,by omega,by omega,n+1,by omega,by omega,f0,rfl,rfl⟩
     · have I:m=0:=by simpa using I
       subst I
       rw[wO] at aj
       refine aQ ?_
       exact⟨rfl,by simp[f0],by simp[f3];omega⟩
   · rintro s ⟨f0,f3⟩
     have NR:dJ top<=32:=oj.2 (by simpa using a7)
     simp
     refine aC (aD aN ?_)
     simp[f0,f3,a8,dp (show 1<=L+1 by omega) (show L+1<9223372036854775808 by omega),sy (show 32*L<9223372036854775808 by omega),eH (show 32*L+dJ top<9223372036854775808 by omega)]
     refine aH ?_
     simp[fR]
noncomputable def wR:List J->Option J:=cd (fun z:Nat × Nat=>(ah z.1).length<=1000000000/\z.2<4611686018427387904) (fun z=>[aw z.1,bt z.2]) (fun z=>bM (z.1/2^z.2%2))
theorem NS {a i:Nat} {e:Bool} (bh:(ah a).length<=1000000000) (ag:i<4611686018427387904):wR [.sl ((ah a).map fun n=> .int .u32 (Z n)) e,bt i]=some (bM (a/2^i%2)):=
 cU (fun z w h=>by simp[b2,b6] at h;simp[h]) (a,i) ⟨bh,ag⟩ (by simp)
theorem NT:br Tryz.prog G 244 wR:=by
 refine cG mixed sG Fe fun z aP=>?_
 obtain⟨a,i⟩:=z
 obtain⟨cE,ag⟩:=aP
 simp only at cE ag|-
 have bh:=dO a
 have aj:=NO a i
 obtain⟨q,bc⟩:∃q,q=i/32:=⟨_,rfl⟩
 obtain⟨r,ba⟩:∃r,r=i%32:=⟨_,rfl⟩
 have om:r<32:=by omega
 rw[<-bc,<-ba] at aj
 rw[<-aj]
 unfold i244
 refine aC (aD aN ?_)
 simp[aJ]
 refine aC (aC (aD aN ?_))
 simp[fP (show q<9223372036854775808 by omega),<-bc]
 refine aL _ rfl (fun I=>?_) (fun I=>?_)
 · have I:(ah a).length<=q:=by simpa using I
   refine aC (aD aN ?_)
   simp
   refine aH ?_
   simp[pV I]
 · have I:q<(ah a).length:=by simpa using I
   have bp:=oi I
   simp only[List.getElem?_map] at bp
   have a7:=bh.aS q
   generalize aS (ah a) q=x at*
   refine aM ?_
   simp
   refine aC (aD aN ?_)
   simp[fP (show q<9223372036854775808 by omega),<-bc,bp]
   refine aC (aC (aD aN ?_))
   simp
   refine l4 (id:=0) (fun m s=>∃k,m=r - k/\k<=r/\s.F 1=bt i/\s.F 5=bM (x/2^k)/\s.F 6=bt k) (fun s=>s.F 5=bM (x/2^r)) (fun _=>False) r ?_ ?_ ?_ (fun _ h=>h.elim)
   · exact⟨0,by omega,by omega,by simp,by simp,by simp⟩
   · rintro m s ⟨k,rfl,aE,f1,f5,f6⟩
     have ak:x/2^k<4294967296:=Nat.lt_of_le_of_lt (Nat.div_le_self _ _) a7
     refine aC (aC (aD aN ?_))
     simp[f1,f6,<-ba]
     refine aL _ rfl (fun I=>?_) (fun I=>?_)
     · have I:k<r:=by simpa using I
       refine aM ?_
       simp
       refine aC (aO (aD aN ?_))
       have e:x/2^k/2=x/2^(k+1):=by rw[Nat.div_div_eq_div_mul,Nat.pow_succ]
       simp[f5,e,Nat.mod_eq_of_lt (show x/2^(k+1)<4294967296 by omega)]
       refine aD aN ?_
       simp[f6,eH (show k+1<9223372036854775808 by omega)]
       exact⟨r -(k+1),by omega,k+1,rfl,by omega,f1,rfl,rfl⟩
     · have I:k=r:=by simp at I;omega
       refine aQ ?_
       exact⟨rfl,by simp[f5,I]⟩
   · intro s f5
     simp
     refine aC (aD aN ?_)
     simp[f5]
     refine aH ?_
     simp
def p1 (l:List Nat):Bool:=decide (l= []\/(l.length<=65536/\aS l (l.length - 1)≠0))
noncomputable def zR:List J->Option J:=cd (fun z:List Nat=>z.length<=1000000000) (fun z=>[cF z false]) (fun z=> .bool (p1 z))
theorem NU:br Tryz.prog G 211 zR:=by
 refine cG mixed sG Ng fun l aV=>?_
 unfold i211
 refine aC (aD aN ?_)
 simp[aJ]
 refine aC (aD aN ?_)
 by_cases ab:l= []
 · subst ab
   simp
   refine aH ?_
   simp[p1]
 · obtain⟨L,a8⟩:∃L,l.length=L+1:=⟨l.length - 1,by have:=List.length_pos_iff.2 ab;omega⟩
   have bp:=(kj (show L<l.length by omega)).symm
   by_cases h2:L+1<=65536
   · simp[ab,a8,h2,dp (show 1<=L+1 by omega) (show L+1<9223372036854775808 by omega),bp]
     refine aH ?_
     simp[p1,ab,a8,h2,bne]
     rfl
   · simp[ab,a8,h2]
     refine aH ?_
     simp[p1,ab,a8,h2]
end
section
attribute [local simp] ed ef dm wK wL wM
theorem nM:∀ {l:List Nat} {j:Nat} (v:Nat),j<l.length->val (l.set j v)+ay j*aS l j=val l+ay j*v
 | [],j,v,h=>by simp at h
 | x::l,0,v,h=>by simp[val,ft,zF];omega
 | x::l,j+1,v,h=>by
   have bC:=nM (l:=l) v (show j<l.length by simpa using h)
   simp only[List.set_cons_succ,val,wH,ee]
   have aq:ay j*4294967296*aS l j=4294967296*(ay j*aS l j):=by rw[Nat.mul_comm (ay j),Nat.mul_assoc]
   have aB:ay j*4294967296*v=4294967296*(ay j*v):=by rw[Nat.mul_comm (ay j),Nat.mul_assoc]
   rw[aq,aB]
   omega
theorem oo {l:List Nat} {j:Nat} (v i:Nat) (h:j<l.length):aS (l.set j v) i=if i=j then v else aS l i:=by
 simp only[aS,List.getD,List.getElem?_set]
 by_cases e:i=j
 · subst e;simp[h]
 · simp[Ne.symm e,e]
theorem nN {l:List Nat} {j v:Nat} (h:Small l) (aR:v<4294967296):Small (l.set j v):=fun x ak=>by
 rcases List.mem_or_eq_of_mem_set ak with ak|rfl
 · exact h x ak
 · exact aR
theorem map_set (l:List Nat) (j v:Nat):(l.map fun n=>J.int .u32 (Z n)).set j (.int .u32 (Z v))=(l.set j v).map fun n=>J.int .u32 (Z n):=by
 rw[List.map_set]
theorem p2 (n:Nat):Small (List.replicate n 0):=fun x ak=>by
 rw[List.eq_of_mem_replicate ak];decide
theorem wS (n i:Nat):aS (List.replicate n 0) i=0:=by
 by_cases h:i<n
 · rw[kj (by simpa using h)];simp
 · exact pV (by simpa using h)
theorem NV (n:Nat):List.replicate n (J.int .u32 (Z 0))=(List.replicate n 0).map fun n=>J.int .u32 (Z n):=by simp
theorem zS (q:Nat) (o:List Nat):val (List.replicate q 0++o)=ay q*val o:=by
 rw[lO,sF,List.length_replicate,Nat.zero_add]
theorem NW {P B x y c o u X q r:Nat} (lL:X=x*y+c) (bA:X=B*q+r) (h:o+P*c=u*y):(o+P*r)+P*B*q=(u+P*x)*y:=by
 have aq:P*X=P*(x*y)+P*c:=by rw[lL,Nat.mul_add]
 have aB:P*X=P*B*q+P*r:=by rw[bA,Nat.mul_add,Nat.mul_assoc]
 rw[Nat.add_mul,Nat.mul_assoc P x y]
 omega
theorem NX {a o i c sa:Nat} (h:o+ay i*c=a%ay i*sa):
 (o+ay i*(((a/ay i%4294967296)*sa+c)%4294967296))+ay (i+1)*(((a/ay i%4294967296)*sa+c)/4294967296)=a%ay (i+1)*sa:=by
 rw[mn,ee]
 exact NW rfl (Nat.div_add_mod _ _).symm h
theorem NY {v P c n:Nat} (h:v+P*c=n) (ar:n<P):c=0:=by
 rcases Nat.eq_zero_or_pos c with aJ|aJ
 · exact aJ
 · have:=Nat.le_mul_of_pos_right P aJ
   omega
noncomputable def wT:List J->Option J:=cd (fun z:Nat × Nat=>(ah z.1).length<=100000000/\z.2<=100000000) (fun z=>[aw z.1,bt z.2]) (fun z=>aw (z.1*2^z.2))
theorem NZ {a n:Nat} {e:Bool} (bh:(ah a).length<=100000000) (ar:n<=100000000):wT [.sl ((ah a).map fun n=> .int .u32 (Z n)) e,bt n]=some (aw (a*2^n)):=
 cU (fun z w h=>by simp[b2,b6] at h;simp[h]) (a,n) ⟨bh,ar⟩ (by simp)
theorem N0:br Tryz.prog G 186 wT:=by
 refine cG mixed FO E3 fun z aP=>?_
 obtain⟨a,n⟩:=z
 obtain⟨cE,ar⟩:=aP
 simp only at cE ar|-
 have bh:=dO a
 obtain⟨q,bc⟩:∃q,q=n/32:=⟨_,rfl⟩
 obtain⟨r,ba⟩:∃r,r=n%32:=⟨_,rfl⟩
 have om:r<32:=by omega
 have qZ:ay q*(a*2^r)=a*2^n:=by
  rw[lf,Nat.mul_left_comm,<-Nat.pow_add,show 32*q+r=n by omega]
 have uq:2^r<=2147483648:=Nat.pow_le_pow_right (n:=2) (by decide) (show r<=31 by omega)
 obtain⟨L,a8⟩:∃L,L=(ah a).length:=⟨_,rfl⟩
 have aI:a<ay L:=c5.1 (by omega)
 unfold i186
 refine aC (aD aN ?_)
 simp[aJ]
 refine aC (aD aN ?_)
 simp
 refine aC (aC (aD aN ?_))
 simp
 refine l4 (id:=0) (fun m s=>∃i,m=q - i/\i<=q/\s.F 0=aw a/\s.F 1=bt n/\dh 1 s.h (s.F 5) ((List.replicate i 0).map fun n=> .int .u32 (Z n))/\s.F 6=fj 0/\s.F 7=fj 1/\s.F 8=bt i)
  (fun s=>s.F 0=aw a/\s.F 1=bt n/\dh 1 s.h (s.F 5) ((List.replicate q 0).map fun n=> .int .u32 (Z n))/\s.F 6=fj 0/\s.F 7=fj 1) (fun _=>False) q ?_ ?_ ?_ (fun _ h=>h.elim)
 · exact⟨0,by omega,by omega,by simp,by simp,by simp;exact dh.nil (by simp),by simp,by simp,by simp⟩
 · rintro m s ⟨i,rfl,ag,f0,f1,f5,f6,f7,f8⟩
   refine aC (aC (aD aN ?_))
   simp[f1,f8,<-bc,fP (show q<9223372036854775808 by omega)]
   refine aL _ rfl (fun I=>?_) (fun I=>?_)
   · have I:i<q:=by simpa using I
     refine aM ?_
     simp
     refine aC (aO (aD aN ?_))
     have aq:=qT f5 (by decide) (bytes:=4) (by decide) (ys:=[J.int .u32 (Z 0)]) (by simp) (by simp) (by simp;omega)
     have aB:=f5.app (ys:=[J.int .u32 (Z 0)]) (by simp) (by simp)
     have bg:((List.replicate i 0).map fun n=>J.int .u32 (Z n))++ [J.int .u32 (Z 0)]=(List.replicate (i+1) 0).map fun n=>J.int .u32 (Z n):=by simp[List.replicate_succ']
     simp only[bg] at aq aB
     simp[aq]
     refine aD aN ?_
     simp[f8,eH (show i+1<9223372036854775808 by omega)]
     have aK:=aB (s.h.next+4+4) (s.h.next+4+4+3) (s.h.next+4+2) s.h.bm s.h.bm (by omega) (by omega)
     exact⟨q -(i+1),by omega,i+1,rfl,by omega,f0,f1,by simpa using aK,f6,f7,rfl⟩
   · have I:i=q:=by simp at I;omega
     subst I
     refine aQ ?_
     refine⟨rfl,by simp[f0],by simp[f1],?_,by simp[f6],by simp[f7]⟩
     simpa[aF] using f5.bump (s.h.next+4) (by omega)
 · rintro s ⟨f0,f1,f5,f6,f7⟩
   simp
   refine aC (aC (aD aN ?_))
   simp
   refine l4 (id:=2) (fun m s=>∃i,m=r - i/\i<=r/\s.F 0=aw a/\s.F 1=bt n/\dh 1 s.h (s.F 5) ((List.replicate q 0).map fun n=> .int .u32 (Z n))/\s.F 6=fj 0/\s.F 7=fj (2^i)/\s.F 9=bt i)
    (fun s=>s.F 0=aw a/\dh 1 s.h (s.F 5) ((List.replicate q 0).map fun n=> .int .u32 (Z n))/\s.F 6=fj 0/\s.F 7=fj (2^r)) (fun _=>False) r ?_ ?_ ?_ (fun _ h=>h.elim)
   · refine⟨0,by omega,by omega,by simp[f0],by simp[f1],?_,by simp[f6],by simp[f7],by simp⟩
     simpa[aF] using f5.bump (s.h.next+1) (by omega)
   · clear f0 f1 f5 f6 f7 s
     rintro m s ⟨i,rfl,ag,f0,f1,f5,f6,f7,f9⟩
     refine aC (aC (aD aN ?_))
     simp[f1,f9,<-ba]
     refine aL _ rfl (fun I=>?_) (fun I=>?_)
     · have I:i<r:=by simpa using I
       have oq:2*2^i<=2^r:=by
        rw[Nat.mul_comm,<-Nat.pow_succ];exact Nat.pow_le_pow_right (by decide) I
       refine aM ?_
       simp
       refine aC (aO (aD aN ?_))
       simp[f7,Nat.mod_eq_of_lt (show 2*2^i<18446744073709551616 by omega)]
       refine aD aN ?_
       simp[f9,eH (show i+1<9223372036854775808 by omega)]
       refine⟨r -(i+1),by omega,i+1,rfl,by omega,f0,f1,?_,f6,by rw[Nat.pow_succ,Nat.mul_comm],rfl⟩
       simpa using f5.bump (s.h.next+4+3+3) (by omega)
     · have I:i=r:=by simp at I;omega
       subst I
       refine aQ ?_
       refine⟨rfl,by simp[f0],?_,by simp[f6],by simp[f7]⟩
       simpa[aF] using f5.bump (s.h.next+4) (by omega)
   · clear f0 f1 f5 f6 f7 s
     rintro s ⟨f0,f5,f6,f7⟩
     simp
     refine aC (aC (aD aN ?_))
     simp
     generalize a6:2^r=B at*
     refine l4 (id:=4) (fun m s=>∃(o:List Nat) (c:Nat),m=L+1 - o.length/\o.length<=L+1/\Small o/\c<4294967296/\val o+ay o.length*c=a%ay o.length*B/\
      s.F 0=aw a/\dh 1 s.h (s.F 5) ((List.replicate q 0++o).map fun n=> .int .u32 (Z n))/\s.F 6=fj c/\s.F 7=fj B/\s.F 10=bt o.length)
      (fun s=>∃o:List Nat,Small o/\o.length=L+1/\val o=a*B/\dh 1 s.h (s.F 5) ((List.replicate q 0++o).map fun n=> .int .u32 (Z n))) (fun _=>False) (L+1) ?_ ?_ ?_ (fun _ h=>h.elim)
     · refine⟨[],0,by simp,by simp,Small.nil,by simp,by simp[val,ft,Nat.mod_one],by simp[f0],?_,by simp[f6],by simp[f7],by simp⟩
       simpa[aF] using f5.bump (s.h.next+1) (by omega)
     · clear f0 f5 f6 f7 s
       rintro m s ⟨o,c,rfl,fJ,eZ,pZ,aR,f0,f5,f6,f7,f10⟩
       refine aC (aC (aD aN ?_))
       simp[f0,f10,<-a8]
       refine aL _ rfl (fun I=>?_) (fun I=>?_)
       · have eS:o.length<=L:=by simpa using I
         refine aM ?_
         simp
         have t1:=qY (e:=false) (i:=o.length) bh (by omega) (by omega)
         have s1:=bh.aS o.length
         have eo:=NX aR
         rw[<-fV] at eo
         generalize aS (ah a) o.length=x at*
         have V4:x*B<=9223372034707292160:=Nat.mul_le_mul (show x<=4294967295 by omega) uq
         generalize lL:x*B+c=X at*
         refine aC (aO (aC (aD aN ?_)))
         simp[f0,f6,f7,f10,t1,Nat.mod_eq_of_lt (show x*B<18446744073709551616 by omega),lL,Nat.mod_eq_of_lt (show X<18446744073709551616 by omega)]
         have aq:=qT f5 (by decide) (bytes:=4) (by decide) (ys:=[J.int .u32 (Z (X%4294967296))]) (by simp) (by simp) (by simp;omega)
         have aB:=f5.app (ys:=[J.int .u32 (Z (X%4294967296))]) (by simp) (by simp)
         have bg:((List.replicate q 0++o).map fun n=>J.int .u32 (Z n))++ [J.int .u32 (Z (X%4294967296))]=(List.replicate q 0++(o++ [X%4294967296])).map fun n=>J.int .u32 (Z n):=by simp
         simp only[bg] at aq aB
         refine aC (aD aN ?_)
         simp only[List.map_append,List.map_cons,List.map_nil,List.map_replicate] at aq aB
         simp[aq]
         refine aD aN ?_
         simp[Nat.mod_eq_of_lt (show X/4294967296<18446744073709551616 by omega)]
         refine aD aN ?_
         simp[f10,eH (show o.length+1<9223372036854775808 by omega)]
         have aK:=aB (s.h.next+4+8+7) (s.h.next+4+8+7+3+3) (s.h.next+4+8+5) s.h.bm s.h.bm (by omega) (by omega)
         refine⟨L+1 -(o.length+1),by omega,o++ [X%4294967296],by simp,by simp;omega,nK.2 ⟨eZ,ld.2 ⟨by omega,Small.nil⟩⟩,X/4294967296,by omega,?_,f0,by simpa using aK,rfl,f7,by simp⟩
         rw[lO,List.length_append,List.length_singleton]
         simpa[val] using eo
       · have hh:o.length=L+1:=by simp at I;omega
         refine aQ ?_
         have N1:a<ay (L+1):=by have:=g3 L;rw[ee];omega
         have N2:a*B<ay (L+1):=by
          rw[ee]
          exact Nat.mul_lt_mul_of_lt_of_le aI (by omega) (by omega)
         rw[hh,Nat.mod_eq_of_lt N1] at aR
         have hb:=NY aR N2
         subst hb
         refine⟨rfl,o,eZ,hh,by simpa using aR,?_⟩
         simpa[aF] using f5.bump (s.h.next+4) (by omega)
     · clear f0 f5 f6 f7 s
       rintro s ⟨o,eZ,fJ,aR,f5⟩
       simp
       obtain⟨ids,aK⟩:=f5.out (uW _)
       have bW:=pX (l:=List.replicate q 0++o) (e:=decide (((List.replicate q 0++o).map fun n=>J.int .u32 (Z n))= [])) (nK.2 ⟨p2 q,eZ⟩) (by simp;omega)
       rw[zS,aR,qZ] at bW
       refine aC (aD aN ?_)
       generalize ((List.replicate q 0++o).map fun n=>J.int .u32 (Z n))=xs at*
       simp[aK,bW]
       refine aH ?_
       simp
end
end
section
open Go Go.Eng Go.RowKit
attribute [local simp] bx.m bx.o bx.n bx.g gZ eQ df c7 dj evalOp.eq_1 evalOp.eq_2 evalOp.eq_3 evalOp.eq_4 evalOp.eq_5 evalOp.eq_6 evalOp.eq_7 evalOp.eq_8 evalOp.eq_9 evalOp.eq_10 evalOp.eq_11 evalOp.eq_12 evalOp.eq_13 evalOp.eq_14 evalOp.eq_15 evalOp.eq_16 evalOp.eq_17 evalOp.eq_18 evalOp.eq_19 evalOp.eq_20 evalOp.eq_21 evalOp.eq_22 evalOp.eq_23 evalOp.eq_24 evalOp.eq_25 evalOp.eq_27 evalOp.eq_28 evalOp.eq_29 jK bf.ev c6 aF aA.new bj J.cells J.c0 J.ew J.eA hF hH hG hI hK hJ iX iY iZ gm gn cut partOf bound elems ja jb jc jd je jf jg jh ji jj jk jl g2 jm jn jo jq jr js jt ju jv jw jx jy jz jA jB jC jD jE jF jG jH jI jJ eP eJ eB fA hL g0 aA.close aA.set hr jL jM jN i' g1 gv fT fs gf hn gM gg ho hp hq fx fy fz fv hM bY hj hN hk hO hP fq hQ fr hR hS hT gd iW hU hV hW hX hY hZ h0 h1 h3 h4 h5 h6 h7 h8 h9 h_ h' ia ib hl ic ie ig ih ij ik il im iq ir iu iv iw ix iy
attribute [local simp high] iT iU iV iz iA iB iC iD iE iF iG iH iI iJ iK iL iM iN iO iP iQ iR iS
attribute [local simp] ed ef dm
section
noncomputable def q0:FuncId->Option (List J->Option J):=dn [(178,na),(243,wQ),(244,wR),(186,wT),(212,pY),(213,p0)]
theorem N3:∀f T,q0 f=some T->br Tryz.prog G f T:=dr (by simp only[List.forall_mem_cons];exact⟨uY,NQ,NT,N0,zP,zQ,fun _ h=>absurd h (by simp)⟩)
theorem N4:q0 178=some na:=rfl
theorem N5:q0 243=some wQ:=rfl
theorem N6:q0 244=some wR:=rfl
theorem N7:q0 186=some wT:=rfl
theorem N8:q0 212=some pY:=rfl
theorem N9:q0 213=some p0:=rfl
attribute [local simp] N4 N5 N6 N7 N8 N9
theorem N_ {a b m:Nat} (aj:0<b):2*(a/2^(m+1)%b)+a/2^m%2=(if b<=2*(a/2^(m+1)%b)+a/2^m%2 then b else 0)+a/2^m%b/\
 a/2^m/b=2*(a/2^(m+1)/b)+(if b<=2*(a/2^(m+1)%b)+a/2^m%2 then 1 else 0):=by
 have e:a/2^(m+1)=a/2^m/2:=by rw[Nat.pow_succ,Nat.div_div_eq_div_mul]
 rw[e]
 generalize a/2^m=x
 obtain⟨h,cY⟩:∃h,h=x/2:=⟨_,rfl⟩
 have ak:x=2*h+x%2:=by omega
 rw[<-cY]
 generalize x%2=t at*
 have a7:2*h+t=x:=by omega
 have ab:=Nat.div_add_mod h b
 have h2:h%b<b:=Nat.mod_lt _ aj
 generalize bc:h/b=q at*
 generalize ba:h%b=r at*
 have aX:x=b*(2*q)+(2*r+t):=by
  rw[Nat.mul_left_comm];omega
 have jP:t<2:=by omega
 by_cases hle:b<=2*r+t
 · simp only[if_pos hle]
   have aW:x=b*(2*q+1)+(2*r+t - b):=by rw[Nat.mul_add,Nat.mul_one];omega
   have bO:2*r+t - b<b:=by omega
   constructor
   · have:x%b=2*r+t - b:=by rw[aW,Nat.mul_add_mod];exact Nat.mod_eq_of_lt bO
     omega
   · rw[aW,Nat.mul_add_div aj,Nat.div_eq_of_lt bO]
 · simp only[if_neg hle]
   have bO:2*r+t<b:=by omega
   constructor
   · have:x%b=2*r+t:=by rw[aX,Nat.mul_add_mod];exact Nat.mod_eq_of_lt bO
     omega
   · rw[aX,Nat.mul_add_div aj,Nat.div_eq_of_lt bO]
theorem N' {v m:Nat} (h:v%2^(m+1)=0):v/ay (m/32)%4294967296%2^(m%32+1)=0:=by
 obtain⟨c,I⟩:=Nat.dvd_of_mod_eq_zero h
 have e:2^(m+1)=ay (m/32)*2^(m%32+1):=by
  rw[lf,<-Nat.pow_add];congr 1;omega
 rw[I,e,Nat.mul_assoc,Nat.mul_div_cancel_left _ (g3 _)]
 have bA:(2:Nat)^(m%32+1)∣4294967296:=⟨2^(31 - m%32),by
  rw[<-Nat.pow_add,show m%32+1+(31 - m%32)=32 by omega]⟩
 rw[Nat.mod_mod_of_dvd _ bA,Nat.mul_mod_right]
theorem Oa {d k:Nat} (bA:d<4294967296) (aE:k<32) (h:d%2^(k+1)=0):d+2^k<4294967296:=by
 obtain⟨c,I⟩:=Nat.dvd_of_mod_eq_zero h
 have e:4294967296=2^(k+1)*2^(31 - k):=by rw[<-Nat.pow_add,show k+1+(31 - k)=32 by omega]
 have h2:c<2^(31 - k):=by
  rw[I,e] at bA
  exact Nat.lt_of_mul_lt_mul_left bA
 have aX:2^(k+1)*c+2^(k+1)<=2^(k+1)*2^(31 - k):=by rw[<-Nat.mul_succ];exact Nat.mul_le_mul_left _ h2
 rw[<-e,<-I] at aX
 have aW:0<2^k:=Nat.pow_pos (by decide)
 rw[Nat.pow_succ] at aX
 omega
noncomputable def wU:List J->Option J:=cd (fun z:Nat × Nat=>(ah z.1).length<=1000000/\(ah z.2).length<=1000000) (fun z=>[aw z.1,aw z.2])
 (fun z=>if z.2=0 then .ch [.sl [] false,.sl [] false,bt 3] else .ch [aw (z.1/z.2),aw (z.1%z.2),bt 0])
theorem Ob {a b:Nat} {e e':Bool} (bh:(ah a).length<=1000000) (aj:(ah b).length<=1000000):
 wU [.sl ((ah a).map fun n=> .int .u32 (Z n)) e,.sl ((ah b).map fun n=> .int .u32 (Z n)) e']=some (if b=0 then .ch [.sl [] false,.sl [] false,bt 3] else .ch [aw (a/b),aw (a%b),bt 0]):=
 cU (fun z w h=>by simp[b2,b6] at h;simp[h]) (a,b) ⟨bh,aj⟩ (by simp)
structure FU (a b:Nat) (m:Nat) (l:List Nat) (s:a') (q:Nat):Prop where
 len:l.length=(ah a).length
 sL:Small l
 v:val l=a/2^m/b*2^m
 f0:s.F 0=aw a
 f1:s.F 1=aw b
 f7:s.F 7= .ref q 0 (ah a).length (ah a).length
 f8:∃e,s.F 8=cF (ah (a/2^m%b)) e
 f9:s.F 9= .int .i64 (kE m)
 cells:s.h.cells q=some (l.map fun n=> .int .u32 (Z n))
 c1:s.h.shut q=false
 et:q<s.h.next
theorem Oc:br Tryz.prog G 182 wU:=by
 refine cG mixed N3 EZ fun z aP=>?_
 obtain⟨a,b⟩:=z
 obtain⟨cE,bU⟩:=aP
 simp only at cE bU|-
 have bh:=dO a
 unfold i182
 refine aC (aD aN ?_)
 simp[aJ]
 refine aC (aC (aD aN ?_))
 simp
 refine aL _ rfl (fun I=>?_) (fun I=>?_)
 · have I:b=0:=by simpa[jO] using I
   refine aC (aD aN ?_)
   simp
   refine aH ?_
   simp[I]
 · have c_:b≠0:=by simpa[jO] using I
   refine aM ?_
   simp[c_]
   obtain⟨L,a8⟩:∃L,L=(ah a).length:=⟨_,rfl⟩
   have aI:a<ay L:=c5.1 (by omega)
   have FV:a<2^dJ a:=oj.1 (Nat.le_refl _)
   have fR:dJ a<=32*L:=by rw[oj,<-lf];exact aI
   refine aC (aD aN ?_)
   simp[<-a8,show Z L*4<=140737488355328 by simp only[Z];omega]
   refine aC (aC (aD aN ?_))
   simp[NP (a:=a) (e:=false) (by omega),l7 (show dJ a<9223372036854775808 by omega)]
   refine l4 (id:=0) (fun m s=>∃l q,m<=dJ a/\FU a b m l s q) (fun s=>∃l q,FU a b 0 l s q) (fun _=>False) (dJ a) ?_ ?_ ?_ (fun _ h=>h.elim)
   · refine⟨List.replicate L 0,3+3+2,Nat.le_refl _,⟨by simp[a8],p2 _,by rw[sF,Nat.div_eq_of_lt FV];simp,by simp,by simp,by simp[a8],⟨true,by simp[Nat.div_eq_of_lt FV,fu]⟩,by simp,by simp,by simp,by simp⟩⟩
   · rintro m s ⟨l,q,hm,a3⟩
     have f9:=a3.f9
     refine aC (aC (aD aN ?_))
     cases m with
     | zero=>
       rw[qX] at f9
       simp[f9]
       refine aL _ rfl (fun I=>absurd I (by decide)) (fun I=>?_)
       refine aQ ?_
       exact⟨rfl,l,q,⟨a3.len,a3.sL,a3.v,by simp[a3.f0],by simp[a3.f1],by simp[a3.f7],by simpa using a3.f8,by simp[f9,qX],by simp[a3.cells],by simp[a3.c1],by have:=a3.et;simp;omega⟩⟩
     | succ m=>
       rw[sI] at f9
       simp[f9]
       refine aL _ rfl (fun I=>?_) (fun I=>(by simp at I))
       refine aM ?_
       simp
       have ba:=Nat.mod_lt (a/2^(m+1)) (show 0<b by omega)
       obtain⟨d1,d2⟩:=N_ (a:=a) (m:=m) (show 0<b by omega)
       have sM:(ah (a/2^(m+1)%b)).length<=1000000:=Nat.le_trans (fW (Nat.le_of_lt ba)) bU
       have bO:a/2^m%2<2:=Nat.mod_lt _ (by decide)
       have V5:=Nat.mod_lt (a/2^m) (show 0<b by omega)
       have aR:=a3.v
       obtain⟨pM,Od⟩:=a3.f8
       have q1:=a3.et
       generalize wV:a/2^(m+1)%b=r at*
       generalize Oe:a/2^m%2=t at*
       have Of:(ah (2*r+t)).length<=1000001:=Nat.le_trans (fW (show 2*r+t<=b+b by omega)) (Nat.le_trans (kk b b) (by omega))
       have V6:(ah (2*r)).length<=1000001:=Nat.le_trans (fW (by omega)) Of
       refine aC (aO (aC (aD aN ?_)))
       have t1:=NZ (a:=r) (n:=1) (e:=pM) (by omega) (by omega)
       rw[show r*2^1=2*r by omega] at t1
       simp[Od,t1]
       refine D4 (fun ax=>ax.F 8=aw (2*r+t)/\ax.F 0=aw a/\ax.F 1=aw b/\ax.F 7= .ref q 0 L L/\ax.F 9=bt m/\ax.h.cells q=some (l.map fun n=> .int .u32 (Z n))/\ax.h.shut q=false/\q<ax.h.next) ?_ ?_
       · refine aC (aD aN ?_)
         simp[a3.f0,f9,NS (a:=a) (i:=m) (e:=false) (by omega) (by omega),Oe]
         refine aL _ rfl (fun I=>?_) (fun I=>?_)
         · have I:t=1:=by simpa using I
           refine aD aN ?_
           have t2:=zO (a:=2*r) (b:=1) (e:=false) (e':=true) (by omega) (by rw[nL];decide)
           rw[nL] at t2
           simp only[List.map_cons,List.map_nil] at t2
           simp[t2,I,a3.f0,a3.f1,a3.f7,f9,a3.cells,a3.c1,<-a8]
           omega
         · have I:t=0:=by simp at I;omega
           refine aM ?_
           simp[I,a3.f0,a3.f1,a3.f7,f9,a3.cells,a3.c1,<-a8]
           omega
       · rintro ax ⟨j5,kF,bz,kQ,sN,gc,gs,V7⟩
         have t3:=wN (a:=2*r+t) (b:=b) (e:=false) (e':=false) (by omega) (by omega)
         by_cases hle:b<=2*r+t
         · simp only[if_pos hle] at d1 d2
           rw[if_neg (by omega)] at t3
           obtain⟨j,aZ⟩:∃j,j=m/32:=⟨_,rfl⟩
           obtain⟨k,aE⟩:∃k,k=m%32:=⟨_,rfl⟩
           have FW:=N' (v:=val l) (m:=m) (by rw[aR,Nat.mul_mod_left])
           rw[<-o2 a3.sL,<-aZ,<-aE] at FW
           have p3:j<L:=by
            have:=FR.1 (show m<dJ a by omega)
            omega
           have ot:k<32:=by omega
           have FX:=Oa (a3.sL.aS j) ot FW
           have hlen:=a3.len
           have bp:=(kj (show j<l.length by omega)).symm
           have sk:=nM (l:=l) (j:=j) (aS l j+2^k) (by omega)
           have Og:ay j*2^k=2^m:=by rw[lf,<-Nat.pow_add];congr 1;omega
           have Oh:=nN (j:=j) a3.sL FX
           have Oi:=map_set l j (aS l j+2^k)
           rw[Nat.mul_add,Og] at sk
           have Oj:2^k<4294967296:=by omega
           generalize bA:aS l j=d at*
           refine aC (aD aN ?_)
           simp[j5,bz,t3]
           refine aC (aD aN ?_)
           simp
           refine aL _ rfl (fun _=>?_) (fun I=>absurd I (by simp))
           refine aC (aD aN ?_)
           simp
           refine aD aN ?_
           simp[kQ,sN,gc,gs,<-aZ,<-aE,fP (show j<9223372036854775808 by omega),bp,p3,sizedB,hlen,<-a8,show L≠0 by omega,show 0<L by omega,bA,Nat.min_eq_left (Nat.le_of_lt ot),Nat.mod_eq_of_lt Oj,Nat.mod_eq_of_lt FX,show q<ax.h.next+8+1+2 by omega]
           refine⟨by first|decide|rfl,?_⟩
           refine aD aN ?_
           simp[sN,l7 (show m<9223372036854775808 by omega)]
           refine⟨m,by omega,by omega,l.set j (d+2^k),q,⟨by simp[hlen],Oh,?_,by simp[kF],by simp[bz],by simp[kQ,a8],⟨false,by simp[b2,b6];omega⟩,by simp,by simp,by simp[gs],by simp;omega⟩⟩
           have aq:val l=2*(a/2^(m+1)/b)*2^m:=by rw[aR,Nat.pow_succ,Nat.mul_comm (2^m) 2,<-Nat.mul_assoc,Nat.mul_comm _ 2]
           rw[d2,Nat.add_mul,Nat.one_mul,<-aq]
           omega
         · simp only[if_neg hle] at d1 d2
           rw[if_pos (by omega)] at t3
           refine aC (aD aN ?_)
           simp[j5,bz,t3]
           refine aC (aD aN ?_)
           simp
           refine aL _ rfl (fun I=>absurd I (by simp)) (fun _=>?_)
           refine aM ?_
           simp
           refine aD aN ?_
           simp[sN,l7 (show m<9223372036854775808 by omega)]
           refine⟨m,by omega,by omega,l,q,⟨a3.len,a3.sL,?_,by simp[kF],by simp[bz],by simp[kQ,a8],⟨false,by simp[j5,b2,b6];omega⟩,by simp,by simp[gc],by simp[gs],by simp;omega⟩⟩
           rw[aR,d2,Nat.pow_succ 2 m,Nat.mul_comm (2^m) 2,<-Nat.mul_assoc,Nat.mul_comm _ 2,Nat.add_zero]
   · rintro s ⟨l,q,a3⟩
     have aR:=a3.v
     obtain⟨pM,f8⟩:=a3.f8
     have hlen:=a3.len
     simp only[Nat.pow_zero,Nat.div_one,Nat.mul_one] at aR f8
     simp
     refine aC (aD aN ?_)
     have Ok:=Nat.mod_lt a (show 0<b by omega)
     have bW:=pX (e:=false) a3.sL (by omega)
     rw[aR] at bW
     have FY:=pX (e:=pM) (dO (a%b)) (Nat.le_trans (fW (Nat.le_of_lt Ok)) (by omega))
     rw[dm] at FY
     have ey:List.take L (l.map fun n=>J.int .u32 (Z n))=l.map fun n=>J.int .u32 (Z n):=List.take_of_length_le (by simp;omega)
     simp[a3.f7,f8,a3.cells,<-a8,hlen,ey,bW,FY]
     refine aH ?_
     simp
end
end
end Go.Proofs.YtemiagcencajeaaGreatDoor
