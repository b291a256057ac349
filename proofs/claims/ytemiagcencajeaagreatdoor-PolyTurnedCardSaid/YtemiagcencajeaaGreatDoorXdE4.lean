import Derived.Test.YtemiagcencajeaaGreatDoorXdE3
import Derived.ProofKit
import Derived.DataElems
import Derived.LaidMore
import Derived.OpenShut
import Derived.Handed
import Derived.LaidLaws
import Derived.MakeChecks
import Derived.Tactics
set_option linter.unusedSimpArgs false
set_option linter.unusedVariables false
set_option linter.unusedSectionVars false
namespace Go.Eng
open Go Go.RowKit
abbrev mx:=k2->List I->ah->Option (I × ah)
def sQ (a b:mx):Prop:=∀f args h r,a f args h=some r->b f args h=some r
section
variable {G:Nat->Option I} {Φ:FuncId->Option aO} {tab:FuncId->Option (List I->Option I)} {Y:List cJ}
theorem JL {a b:mx} (fL:sQ a b) {aZ r:Nat} {e:aU} {s:aL} {x:aL × eb} (h:cX G tab a aZ r e s=some x):cX G tab b aZ r e s=some x:=by
 unfold cX at h|-
 split at h
 · split at h<;>try(cases h;done)
   · rename_i n first caps bb
     try simp only
     split at h
     · rename_i T cD
       try simp only[cD]
       exact h
     · rename_i cD
       try simp only[cD]
       obtain⟨p,aF,h⟩:=Option.map_eq_some_iff.1 h
       rw[fL _ _ _ _ aF];exact congrArg some h
   · obtain⟨p,aF,h⟩:=Option.map_eq_some_iff.1 h
     try simp only
     rw[fL _ _ _ _ aF];exact congrArg some h
 · exact h
theorem JM {a b:mx} (fL:sQ a b) {aZ r:Nat} {e:aU} {s:aL} {x:aL × eb} (h:cB G tab a aZ r e s=some x):cB G tab b aZ r e s=some x:=by
 unfold cB at h|-
 split at h
 · exact JL fL h
 · split at h
   · split at h
     · rename_i ad
       simp only[if_pos ad]
       exact JL fL h
     · rename_i ad
       simp only[if_neg ad];exact h
   · exact h
   · cases h
theorem DW {a b:mx} (fL:sQ a b) {aZ:Nat}:∀ {L:List (aU × Nat)} {s:aL} {x:aL × List eb},cT G tab a aZ L s=some x->cT G tab b aZ L s=some x
 | [],s,x,h=>h
 | (e,i)::L,s,x,h=>by
   simp only[cT] at h|-
   split at h<;>try(cases h;done)
   rename_i s1 c U
   rw[JM fL U]
   simp only
   obtain⟨p,aF,h⟩:=Option.map_eq_some_iff.1 h
   rw[DW fL aF];exact congrArg some h
theorem TF {a b:mx} (fL:sQ a b) {kx:Bool} {ops:List aU} {e5:List Nat} {s ao:aL} (h:ew G tab a kx ops e5 s=some ao):ew G tab b kx ops e5 s=some ao:=by
 unfold ew at h|-
 split at h<;>try(cases h;done)
 rename_i s1 cs U
 rw[DW fL U];exact h
theorem DX {n:Nat} {f:FuncId} {args:List I} {h:ah} {v:I} {fn:aO} {ex:dg} {ao:aL} (bb:Φ f=some fn) (he:exec G Φ tab n Y fn.body ⟨dQ args,h⟩=some (ex,ao)) (hex:ex= .normal\/ex= .ret) (an:dJ ao.h ao.F fn.res=some v):
 ky G Φ tab n Y f args h=some (v,ao.h):=by
 unfold ky
 rw[bb]
 rcases hex with rfl|rfl<;>simp only[he,an,Option.map_some]
theorem xf {n id:Nat} {args:List I} {h h':ah} {v:I} {L:cJ} {Y':List cJ} {s1:aL} {ex:dg} {ao:aL} (bf:om id Y=some (L,Y')) (hlen:L.ps.length=args.length) (U:exec G Φ tab n Y' L.dI ⟨nh L.F L.ps args,h⟩=some (.normal,s1))
 (aF:s1.h.aV id=some .ready) (h2:exec G Φ tab n Y' L.body ⟨s1.F,s1.h.set id (some .busy)⟩=some (ex,ao)) (ad:ao.h.aV id=some .busy)
 (aA:(ex= .normal/\v= .bool true/\h'=ao.h.set id (some .ready))\/(ex≠ .normal/\v= .bool false/\h'=ao.h.set id (some (.done ex)))):oB G Φ tab n Y id args h=some (v,h'):=by
 unfold oB
 simp only[bf,if_pos hlen,U,aF,h2,ad]
 rcases aA with⟨rfl,rfl,rfl⟩|⟨bP,rfl,rfl⟩
 · rfl
 · cases ex with
   | normal=>exact absurd rfl bP
   | exit i=>rfl
   | ret=>rfl
theorem DY {n:Nat} {f:aS} {ps:List Nat} {dI body:c2} {s:aL} {ex:dg} {g:FuncId} {first caps:List I} {v:I} {h':ah} {p:fT} (bb:f.ev G s.F= .fn g first caps)
 (J:ky G Φ tab n (⟨s.h.next,s.F,ps,dI,body⟩::Y) g (first++ [.gi s.h.next]++caps) {s.h with next:=s.h.next+1,aV:=au s.h.aV s.h.next (some .ready)}=some (v,h'))
 (aF:h'.aV s.h.next=some p) (oC:(p= .ready/\ex= .normal)\/p= .done ex):exec G Φ tab (n+1) Y (.lu f ps dI body) s=some (ex,⟨s.F,h'.set s.h.next none⟩):=by
 obtain⟨fn,e,ao,mZ,he,hex,an,rfl⟩:=rl J
 rw[iF]
 rcases hex with rfl|rfl
 · simp only[bb,mZ,he,an,aF]
   rcases oC with⟨rfl,rfl⟩|rfl<;>rfl
 · simp only[bb,mZ,he,an,aF]
   rcases oC with⟨rfl,rfl⟩|rfl<;>rfl
theorem uX {n2:FuncId->Option aO} (ax:∀f fn,n2 f=some fn->Φ f=some fn):∀(n m:Nat),n<=m->∀(Y:List cJ) (c:c2) (s:aL) (x:dg × aL),exec G n2 tab n Y c s=some x->exec G Φ tab m Y c s=some x
 | 0,_,_,Y,c,s,x,h=>by unfold exec at h;cases h
 | n+1,0,nu,_,_,_,_,_=>absurd nu (by omega)
 | n+1,m+1,nu,Y,c,s,x,h=>by
   have a6:=uX ax n m (by omega)
   have bB:∀ {Y:List cJ} {f:FuncId} {args:List I} {h:ah} {r:I × ah},ky G n2 tab n Y f args h=some r->ky G Φ tab m Y f args h=some r:=by
    intro Y f args h r J
    obtain⟨v,h'⟩:=r
    obtain⟨fn,ex,ao,bb,he,hex,an,rfl⟩:=rl J
    exact DX (ax _ _ bb) (a6 _ _ _ _ he) hex an
   have hle:sQ (kP G n2 tab n Y) (kP G Φ tab m Y):=by
    intro t args h r J
    obtain⟨v,h'⟩:=r
    cases t with
    | fn f=>exact bB J
    | lv id=>
      obtain⟨L,Y',s1,ex,ao,bf,hlen,U,aF,h2,ad,aA⟩:=uS J
      exact xf bf hlen (a6 _ _ _ _ U) aF (a6 _ _ _ _ h2) ad aA
   have aG:=h
   rw[iF] at h
   cases c with
   | skip=>rw[iF];exact h
   | ret=>rw[iF];exact h
   | exit id=>rw[iF];exact h
   | region kx ops e5=>
     rw[iF]
     simp only at h|-
     obtain⟨s1,U,h⟩:=Option.map_eq_some_iff.1 h
     rw[TF hle U];exact congrArg some h
   | seq a b=>
     rw[iF]
     simp only at h|-
     split at h
     · rename_i s1 U
       rw[a6 _ _ _ _ U];exact a6 _ _ _ _ h
     · rename_i bP
       rw[a6 _ _ _ _ h]
       obtain⟨ex,s1⟩:=x
       cases ex with
       | normal=>exact absurd h (bP s1)
       | exit i=>rfl
       | ret=>rfl
   | cond y a b=>
     rw[iF]
     simp only at h|-
     split at h<;>try(cases h;done)
     rename_i t aN
     split at h
     · rename_i sM;simp only[if_pos sM];exact a6 _ _ _ _ h
     · rename_i sM;simp only[if_neg sM];exact a6 _ _ _ _ h
   | block id b=>
     rw[iF]
     simp only at h|-
     split at h
     · rename_i i s1 U
       rw[a6 _ _ _ _ U];exact h
     · rename_i bP
       rw[a6 _ _ _ _ h]
       obtain⟨ex,s1⟩:=x
       cases ex with
       | normal=>rfl
       | exit i=>exact absurd h (bP i s1)
       | ret=>rfl
   | loop b=>
     rw[iF]
     simp only at h|-
     split at h
     · rename_i s1 U
       rw[a6 _ _ _ _ U];exact a6 _ _ _ _ h
     · rename_i bP
       rw[a6 _ _ _ _ h]
       obtain⟨ex,s1⟩:=x
       cases ex with
       | normal=>exact absurd h (bP s1)
       | exit i=>rfl
       | ret=>rfl
   | lu f ps dI body=>
     obtain⟨ex,ao⟩:=x
     obtain⟨g,first,caps,v,h',p,bb,J,aF,oC,rfl⟩:=zw aG
     exact DY bb (bB J) aF oC
theorem uY {n m:Nat} (nu:n<=m) {c:c2} {s:aL} {x:dg × aL} (h:exec G Φ tab n Y c s=some x):exec G Φ tab m Y c s=some x:=uX (fun _ _ h=>h) n m nu Y c s x h
theorem TG {n2:FuncId->Option aO} (ax:∀f fn,n2 f=some fn->Φ f=some fn) {n m:Nat} (nu:n<=m):sQ (kP G n2 tab n Y) (kP G Φ tab m Y):=by
 intro t args h r J
 obtain⟨v,h'⟩:=r
 cases t with
 | fn f=>
   obtain⟨fn,ex,ao,bb,he,hex,an,rfl⟩:=rl J
   exact DX (ax _ _ bb) (uX ax _ _ nu _ _ _ _ he) hex an
 | lv id=>
   obtain⟨L,Y',s1,ex,ao,bf,hlen,U,aF,h2,ad,aA⟩:=uS J
   exact xf bf hlen (uX ax _ _ nu _ _ _ _ U) aF (uX ax _ _ nu _ _ _ _ h2) ad aA
theorem xg {n m:Nat} (nu:n<=m):sQ (kP G Φ tab n Y) (kP G Φ tab m Y):=TG (fun _ _ h=>h) nu
def ba (G:Nat->Option I) (Φ:FuncId->Option aO) (tab:FuncId->Option (List I->Option I)) (Y:List cJ) (c:c2) (s:aL) (Q:dg->aL->Prop):Prop:=∃n ex ao,exec G Φ tab n Y c s=some (ex,ao)/\Q ex ao
def rn (Q:dg->aL->Prop) (K:aL->Prop):dg->aL->Prop
 | .normal,s=>K s
 | ex,s=>Q ex s
theorem gl (Q:dg->aL->Prop) (K:aL->Prop) (s:aL):rn Q K .normal s=K s:=rfl
theorem gm (Q:dg->aL->Prop) (K:aL->Prop) (s:aL):rn Q K .ret s=Q .ret s:=rfl
theorem gn (Q:dg->aL->Prop) (K:aL->Prop) (i:Nat) (s:aL):rn Q K (.exit i) s=Q (.exit i) s:=rfl
def rp (id:Nat) (Q:dg->aL->Prop):dg->aL->Prop
 | .exit i,s=>if i=id then Q .normal s else Q (.exit i) s
 | ex,s=>Q ex s
theorem gp (id:Nat) (Q:dg->aL->Prop) (s:aL):rp id Q .normal s=Q .normal s:=rfl
theorem gq (id:Nat) (Q:dg->aL->Prop) (s:aL):rp id Q .ret s=Q .ret s:=rfl
theorem gr (id i:Nat) (Q:dg->aL->Prop) (s:aL):rp id Q (.exit i) s=if i=id then Q .normal s else Q (.exit i) s:=rfl
theorem ba.mono {c:c2} {s:aL} {Q JN:dg->aL->Prop} (h:ba G Φ tab Y c s Q) (aM:∀ex s,Q ex s->JN ex s):ba G Φ tab Y c s JN:=
 let ⟨n,ex,ao,e,q⟩:=h;⟨n,ex,ao,e,aM _ _ q⟩
theorem iX {s:aL} {Q:dg->aL->Prop} (h:Q .normal s):ba G Φ tab Y .skip s Q:=⟨1,.normal,s,rfl,h⟩
theorem b5 {s:aL} {Q:dg->aL->Prop} (h:Q .ret s):ba G Φ tab Y .ret s Q:=⟨1,.ret,s,rfl,h⟩
theorem c_ {i:Nat} {s:aL} {Q:dg->aL->Prop} (h:Q (.exit i) s):ba G Φ tab Y (.exit i) s Q:=⟨1,.exit i,s,rfl,h⟩
theorem bc {a b:c2} {s:aL} {Q:dg->aL->Prop} (h:ba G Φ tab Y a s (rn Q fun s1=>ba G Φ tab Y b s1 Q)):ba G Φ tab Y (.seq a b) s Q:=by
 obtain⟨n,ex,s1,U,h2⟩:=h
 cases ex with
 | normal=>
   obtain⟨m,ex,s2,aA,aT⟩:=h2
   refine⟨max n m+1,ex,s2,?_,aT⟩
   rw[iF]
   simp only[uY (Nat.le_max_left n m) U]
   exact uY (Nat.le_max_right n m) aA
 | exit i=>exact ⟨n+1,.exit i,s1,by rw[iF];simp only[U],h2⟩
 | ret=>exact ⟨n+1,.ret,s1,by rw[iF];simp only[U],h2⟩
theorem fY {x:aS} {a b:c2} {s:aL} {Q:dg->aL->Prop} (t:Bool) (aN:x.ev G s.F= .bool t) (U:t=true->ba G Φ tab Y a s Q) (h2:t=false->ba G Φ tab Y b s Q):ba G Φ tab Y (.cond x a b) s Q:=by
 cases t with
 | true=>
   obtain⟨n,ex,s1,e,q⟩:=U rfl
   exact ⟨n+1,ex,s1,by rw[iF];simp only[aN,if_true];exact e,q⟩
 | false=>
   obtain⟨n,ex,s1,e,q⟩:=h2 rfl
   exact ⟨n+1,ex,s1,by rw[iF];simp only[aN,Bool.false_eq_true,if_false];exact e,q⟩
theorem jW {id:Nat} {b:c2} {s:aL} {Q:dg->aL->Prop} (h:ba G Φ tab Y b s (rp id Q)):ba G Φ tab Y (.block id b) s Q:=by
 obtain⟨n,ex,s1,e,q⟩:=h
 cases ex with
 | normal=>exact ⟨n+1,.normal,s1,by rw[iF];simp only[e],q⟩
 | ret=>exact ⟨n+1,.ret,s1,by rw[iF];simp only[e],q⟩
 | exit i=>
   by_cases ab:i=id
   · exact ⟨n+1,.normal,s1,by rw[iF];simp only[e,if_pos ab],by simpa[rp,ab] using q⟩
   · exact ⟨n+1,.exit i,s1,by rw[iF];simp only[e,if_neg ab],by simpa[rp,ab] using q⟩
theorem TH {b:c2} {Q:dg->aL->Prop} (aj:Nat->aL->Prop) (round:∀k s,aj k s->ba G Φ tab Y b s (rn Q fun s1=>∃j,j<k/\aj j s1)):∀(k:Nat) (s:aL),aj k s->ba G Φ tab Y (.loop b) s Q:=by
 intro k
 induction k using Nat.strongRecOn with
 | _ k a6=>
   intro s qk
   obtain⟨n,ex,s1,e,q⟩:=round k s qk
   cases ex with
   | normal=>
     obtain⟨j,aB,TI⟩:=q
     obtain⟨m,ex,s2,av,dc⟩:=a6 j aB s1 TI
     refine⟨max n m+1,ex,s2,?_,dc⟩
     rw[iF]
     simp only[uY (Nat.le_max_left n m) e]
     exact uY (Nat.le_max_right n m) av
   | exit i=>exact ⟨n+1,.exit i,s1,by rw[iF];simp only[e],q⟩
   | ret=>exact ⟨n+1,.ret,s1,by rw[iF];simp only[e],q⟩
def zE:mx:=fun _ _ _=>none
def xh (G:Nat->Option I) (Φ:FuncId->Option aO) (tab:FuncId->Option (List I->Option I)) (Y:List cJ) (eF:mx):Prop:=∀t args h r,eF t args h=some r->∃n,kP G Φ tab n Y t args h=some r
theorem bC:xh G Φ tab Y zE:=fun _ _ _ _ h=>by cases h
theorem JO {eF:mx} (sR:xh G Φ tab Y eF) {aZ:Nat}:∀ {L:List (aU × Nat)} {s:aL} {x:aL × List eb},cT G tab eF aZ L s=some x->∃n,cT G tab (kP G Φ tab n Y) aZ L s=some x
 | [],s,x,h=>⟨0,h⟩
 | (e,i)::L,s,x,h=>by
   simp only[cT] at h
   split at h<;>try(cases h;done)
   rename_i s1 c U
   obtain⟨p,aF,ae⟩:=Option.map_eq_some_iff.1 h
   obtain⟨n,ak⟩:=JO sR aF
   have one:∃m,cB G tab (kP G Φ tab m Y) aZ (aZ+i) e s=some (s1,c):=by
    have go:∀ {y:aL × eb},cX G tab eF aZ (aZ+i) e s=some y->∃m,cX G tab (kP G Φ tab m Y) aZ (aZ+i) e s=some y:=by
     intro y aQ
     unfold cX at aQ
     split at aQ
     · rename_i f args he
       split at aQ<;>try(cases aQ;done)
       · rename_i q first caps bb
         split at aQ
         · rename_i T cD
           refine⟨0,?_⟩
           unfold cX;simp only[he,bb,cD];exact aQ
         · rename_i cD
           obtain⟨v,an,aQ⟩:=Option.map_eq_some_iff.1 aQ
           obtain⟨m,hm⟩:=sR _ _ _ _ an
           refine⟨m,?_⟩
           unfold cX;simp only[he,bb,cD,hm];exact congrArg some aQ
       · rename_i id bb
         obtain⟨v,an,aQ⟩:=Option.map_eq_some_iff.1 aQ
         obtain⟨m,hm⟩:=sR _ _ _ _ an
         refine⟨m,?_⟩
         unfold cX;simp only[he,bb,hm];exact congrArg some aQ
     · rename_i bP
       refine⟨0,?_⟩
       unfold cX
       split
       · rename_i f as he;exact absurd he (bP f as)
       · exact aQ
    unfold cB at U
    split at U
    · rename_i aY
      obtain⟨m,hm⟩:=go U
      exact ⟨m,by unfold cB;rw[aY];exact hm⟩
    · rename_i t want aY
      split at U<;>try(cases U;done)
      rotate_left
      · rename_i ad
        exact ⟨0,by unfold cB;simp only[aY,ad];exact U⟩
      rename_i b ad
      split at U
      · rename_i ox
        obtain⟨m,hm⟩:=go U
        exact ⟨m,by unfold cB;simp only[aY,ad,if_pos ox];exact hm⟩
      · rename_i ox
        exact ⟨0,by unfold cB;simp only[aY,ad,if_neg ox];exact U⟩
   obtain⟨m,hm⟩:=one
   refine⟨max m n,?_⟩
   simp only[cT,JM (xg (Nat.le_max_left m n)) hm]
   rw[DW (xg (Nat.le_max_right m n)) ak]
   exact congrArg some ae
theorem TJ {eF:mx} (sR:xh G Φ tab Y eF) {kx:Bool} {ops:List aU} {e5:List Nat} {s:aL} {Q:dg->aL->Prop} (ao:aL) (h:ew G tab eF kx ops e5 s=some ao) (aM:Q .normal ao):ba G Φ tab Y (.region kx ops e5) s Q:=by
 unfold ew at h
 split at h<;>try(cases h;done)
 rename_i s1 cs U
 split at h<;>try(cases h;done)
 rename_i kh
 cases h
 obtain⟨n,ak⟩:=JO sR U
 refine⟨n+1,.normal,_,?_,aM⟩
 rw[iF]
 simp only[ew,ak,if_pos kh,Option.map_some]
def e7 (G:Nat->Option I) (tab:FuncId->Option (List I->Option I)) (eF:mx) (kx:Bool) (ops:List aU) (e5:List Nat) (s:aL) (K:aL->Prop):Prop:=
 match cT G tab eF s.h.next ops.zipIdx ⟨s.F,{s.h with next:=s.h.next+ops.length}⟩ with
 | some (ao,cs)=>(kx=true->uo cs e5=true)/\K ao
 | none=>False
theorem bm {eF:mx} (sR:xh G Φ tab Y eF) {kx:Bool} {ops:List aU} {e5:List Nat} {s:aL} {Q:dg->aL->Prop} (h:e7 G tab eF kx ops e5 s (Q .normal)):ba G Φ tab Y (.region kx ops e5) s Q:=by
 unfold e7 at h
 split at h
 · rename_i ao cs U
   refine TJ sR ao ?_ h.2
   unfold ew
   rw[U]
   have:(!kx||uo cs e5)=true:=by
    cases kx with
    | false=>rfl
    | true=>simpa using h.1 rfl
   simp only[this,if_true]
 · exact h.elim
def gu (res:List mT) (v:I) (ex:dg) (s:aL):Prop:=
 (match ex with
  | .exit _=>False
  | _=>True)/\((dJ s.h s.F res).bind fun u=>(jw s.h u).map (·.1))=some v
def TK (id:Nat) (F:Nat->I) (res:List mT) (Q:dg->aL->Prop) (ex:dg) (s:aL):Prop:=
 (match ex with
  | .exit _=>False
  | _=>True)/\(∃v,dJ s.h s.F res=some v)/\(match s.h.aV id with
  | some .ready=>Q .normal ⟨F,s.h.set id none⟩
  | some (.done e)=>Q e ⟨F,s.h.set id none⟩
  | _=>False)
theorem DZ {f:aS} {ps:List Nat} {dI body:c2} {s:aL} {Q:dg->aL->Prop} {g:FuncId} {first caps:List I} {fn:aO} (bb:f.ev G s.F= .fn g first caps) (aY:Φ g=some fn)
 (h:ba G Φ tab (⟨s.h.next,s.F,ps,dI,body⟩::Y) fn.body ⟨dQ (first++ [.gi s.h.next]++caps),{s.h with next:=s.h.next+1,aV:=au s.h.aV s.h.next (some .ready)}⟩ (TK s.h.next s.F fn.res Q)):ba G Φ tab Y (.lu f ps dI body) s Q:=by
 obtain⟨n,ex,ao,e,db,⟨v,an⟩,fK⟩:=h
 have hex:ex= .normal\/ex= .ret:=by
  cases ex with
  | normal=>exact .inl rfl
  | ret=>exact .inr rfl
  | exit i=>exact db.elim
 have J:=DX aY e hex an
 split at fK
 · rename_i aF
   exact ⟨n+1,.normal,_,DY bb J aF (.inl ⟨rfl,rfl⟩),fK⟩
 · rename_i e' aF
   exact ⟨n+1,e',_,DY bb J aF (.inr rfl),fK⟩
 · exact fK.elim
end
def cf (l:List (FuncId × (List I->Option I))):FuncId->Option (List I->Option I):=fun f=>l.lookup f
theorem cg {P:Program} {G:Nat->Option I}:∀ {l:List (FuncId × (List I->Option I))},(∀p∈l,aH P G p.1 p.2)->∀f T,cf l f=some T->aH P G f T
 | [],_,f,T,h=>by cases h
 | (g,jF)::l,az,f,T,h=>by
   unfold cf at h
   rw[List.lookup_cons] at h
   by_cases e:f=g
   · subst e
     simp only[BEq.rfl] at h
     cases h
     exact az (f,jF) (by simp)
   · have:(f == g)=false:=by simpa using e
     simp only[this] at h
     exact cg (fun p aF=>az p (by simp[aF])) f T h
end Go.Eng
namespace Go.Eng
open Go Go.RowKit
section
variable {G:Nat->Option I} {Φ n2:FuncId->Option aO} {tab:FuncId->Option (List I->Option I)} {Y:List cJ}
theorem JP (ax:∀f fn,n2 f=some fn->Φ f=some fn) (n:Nat) (Y:List cJ) (c:c2) (s:aL) (x:dg × aL) (h:exec G n2 tab n Y c s=some x):exec G Φ tab n Y c s=some x:=uX ax n n (Nat.le_refl _) Y c s x h
theorem JQ (ax:∀f fn,n2 f=some fn->Φ f=some fn) {n:Nat} {f:FuncId} {args:List I} {v:I} (h:mV G n2 tab n f args=some v):mV G Φ tab n f args=some v:=by
 unfold mV at h|-
 obtain⟨p,U,h2⟩:=Option.bind_eq_some_iff.1 h
 unfold yX at U|-
 split at U<;>try(cases U;done)
 rename_i fn bb
 simp only[ax _ _ bb]
 split at U
 · rename_i ao he
   rw[JP ax _ _ _ _ _ he];simp only[U];exact h2
 · rename_i ao he
   rw[JP ax _ _ _ _ _ he];simp only[U];exact h2
 · cases U
noncomputable def eP (G:Nat->Option I) (Φ:FuncId->Option aO) (tab:FuncId->Option (List I->Option I)) (Y:List cJ):mx:=fun f args h=>
 open Classical in if ae:∃r n,kP G Φ tab n Y f args h=some r then some (Classical.choose ae) else none
theorem n3:xh G Φ tab Y (eP G Φ tab Y):=by
 intro f args h r aR
 unfold eP at aR
 split at aR
 · rename_i ae
   cases aR
   exact Classical.choose_spec ae
 · cases aR
theorem zF {f:k2} {args:List I} {h:ah} {r:I × ah} {n:Nat} (ak:kP G Φ tab n Y f args h=some r):eP G Φ tab Y f args h=some r:=by
 have ae:∃r n,kP G Φ tab n Y f args h=some r:=⟨r,n,ak⟩
 unfold eP
 rw[dif_pos ae]
 obtain⟨m,hm⟩:=Classical.choose_spec ae
 congr 1
 have a:=xg (Nat.le_max_left n m) _ _ _ _ ak
 have b:=xg (Nat.le_max_right n m) _ _ _ _ hm
 rw[a] at b
 exact (Option.some.inj b).symm
def jG (res:List mT) (R:I->ah->Prop) (ex:dg) (s:aL):Prop:=
 (match ex with
  | .exit _=>False
  | _=>True)/\∃v,dJ s.h s.F res=some v/\R v s.h
theorem jX {f:FuncId} {fn:aO} (bb:Φ f=some fn) {args:List I} {h:ah} {R:I->ah->Prop} (he:ba G Φ tab Y fn.body ⟨dQ args,h⟩ (jG fn.res R)):∃v h',eP G Φ tab Y (.fn f) args h=some (v,h')/\R v h':=by
 obtain⟨n,ex,ao,e,db,v,dc,fK⟩:=he
 refine⟨v,ao.h,zF (n:=n) ?_,fK⟩
 show ky G Φ tab n Y f args h=_
 unfold ky
 simp only[bb,e]
 cases ex with
 | exit i=>exact db.elim
 | normal=>simp only[dc,Option.map_some]
 | ret=>simp only[dc,Option.map_some]
theorem D0 {id:Nat} {args:List I} {h:ah} {R:I->ah->Prop} {L:cJ} {Y':List cJ} (bf:om id Y=some (L,Y')) (hlen:L.ps.length=args.length)
 (he:ba G Φ tab Y' L.dI ⟨nh L.F L.ps args,h⟩ (fun ex s1=>ex= .normal/\s1.h.aV id=some .ready/\ba G Φ tab Y' L.body ⟨s1.F,s1.h.set id (some .busy)⟩ (fun ex ao=>ao.h.aV id=some .busy/\
   (match ex with
    | .normal=>R (.bool true) (ao.h.set id (some .ready))
    | e=>R (.bool false) (ao.h.set id (some (.done e))))))):∃v h',eP G Φ tab Y (.lv id) args h=some (v,h')/\R v h':=by
 obtain⟨n,ex,s1,aq,rfl,aF,m,TL,ao,av,ad,e0⟩:=he
 have a1:=uY (Nat.le_max_left n m) aq
 have eZ:=uY (Nat.le_max_right n m) av
 cases TL with
 | normal=>exact ⟨_,_,zF (f:= .lv id) (n:=max n m) (xf bf hlen a1 aF eZ ad (.inl ⟨rfl,rfl,rfl⟩)),e0⟩
 | exit i=>exact ⟨_,_,zF (f:= .lv id) (n:=max n m) (xf bf hlen a1 aF eZ ad (.inr ⟨by simp,rfl,rfl⟩)),e0⟩
 | ret=>exact ⟨_,_,zF (f:= .lv id) (n:=max n m) (xf bf hlen a1 aF eZ ad (.inr ⟨by simp,rfl,rfl⟩)),e0⟩
end
def JR (b:Bool):Option I->Bool
 | some (.bool c)=>c == b
 | _=>false
theorem TM {b:Bool} {x:Option I} (h:JR b x=true):x=some (.bool b):=by
 unfold JR at h
 split at h
 · simp at h;rw[h]
 · cases h
def D1 (l:List (FuncId × aO)):FuncId->Option aO:=fun f=>l.lookup f
theorem D2 {Φ:FuncId->Option aO}:∀ {l:List (FuncId × aO)},(∀p∈l,Φ p.1=some p.2)->∀f fn,D1 l f=some fn->Φ f=some fn
 | [],_,f,fn,h=>by cases h
 | (g,jF)::l,az,f,fn,h=>by
   unfold D1 at h
   rw[List.lookup_cons] at h
   by_cases e:f=g
   · subst e
     simp only[BEq.rfl] at h
     cases h
     exact az (f,jF) (by simp)
   · have:(f == g)=false:=by simpa using e
     simp only[this] at h
     exact D2 (fun p aF=>az p (by simp[aF])) f fn h
end Go.Eng
namespace Go.Eng
open Go Go.RowKit
def Z (n:Nat):Int:=n
theorem gv (n:Nat):(n:Int)=Z n:=rfl
theorem bj {a b:Nat}:Z a=Z b↔a=b:=by simp only[Z];omega
theorem fZ (a b:Nat):(Z a == Z b)=(a == b):=by
 rw[Bool.eq_iff_iff,beq_iff_eq,beq_iff_eq];exact bj
theorem gw (a b:Nat):(Z a != Z b)=(a != b):=by simp only[bne,fZ]
theorem f_ {a b:Nat}:Z a<Z b↔a<b:=by simp only[Z];omega
theorem gx {a b:Nat}:Z a<=Z b↔a<=b:=by simp only[Z];omega
theorem gy (a:Nat):0<=Z a:=by simp only[Z];omega
theorem eQ (a:Nat):¬Z a<0:=by simp only[Z];omega
theorem gz {a:Nat}:Z a=0↔a=0:=by simp only[Z];omega
theorem eR (a:Nat):(Z a).toNat=a:=rfl
theorem gA {a b:Nat}:Z a<(b:Int)↔a<b:=f_
theorem gB (a b:Nat):(Z a).tmod (Z b)=Z (a%b):=rfl
theorem gC (a b:Nat):(Z a).tdiv (Z b)=Z (a/b):=rfl
theorem fs (a n:Nat):(Z a).fdiv (2^n)=Z (a/2^n):=by
 simp only[Z]
 rw[Int.fdiv_eq_ediv_of_nonneg _ (by exact Int.le_of_lt (Int.pow_pos (by decide)))]
 norm_cast
theorem JS {k:IntKind} (ag:k.signed=false) (x:Int):k.wrap x=x%2^k.bits:=by
 cases k<;>first|(simp[IntKind.signed] at ag;done)|(simp[IntKind.wrap,IntKind.signed,IntKind.bits])
theorem pq {k:IntKind} (ag:k.signed=false) (a:Nat):k.wrap (Z a)=Z (a%2^k.bits):=by
 rw[JS ag];simp only[Z];norm_cast
theorem zG {k:IntKind} (ag:k.signed=false) (a b:Nat):k.wrap (Z a+Z b)=Z ((a+b)%2^k.bits):=pq ag (a+b)
theorem zH {k:IntKind} (ag:k.signed=false) (a b:Nat):k.wrap (Z a*Z b)=Z (a*b%2^k.bits):=by
 rw[<-pq ag];simp only[Z];norm_cast
theorem rq {k:IntKind} (ag:k.signed=false) (a n:Nat):k.wrap (Z a*2^n)=Z (a*2^n%2^k.bits):=by
 rw[<-pq ag];simp only[Z];norm_cast
theorem zI {k:IntKind} (ag:k.signed=false) (a b:Nat):k.wrap (Z a - Z b)=Z ((a+(2^k.bits - b%2^k.bits))%2^k.bits):=by
 rw[JS ag]
 simp only[Z]
 have h:b%2^k.bits<2^k.bits:=Nat.mod_lt _ (Nat.pow_pos (by decide))
 generalize lN:2^k.bits=M at*
 have:((2:Int)^k.bits)=(M:Int):=by rw[<-lN];norm_cast
 rw[this]
 rw[Int.natCast_emod,Int.natCast_add,Int.natCast_sub (Nat.le_of_lt h),Int.natCast_emod]
 rw[show ((a:Int) - b)=a+(M - b%M)+M*(-1 - b/M) by
  have:=Int.emod_add_mul_ediv (b:Int) M
  rw[Int.mul_sub];omega]
 exact Int.add_mul_emod_self_left _ _ _
theorem zJ {k:IntKind} (ag:k.signed=false) (a b:Nat):k.wrap ((BitVec.ofInt k.bits (Z a)|||BitVec.ofInt k.bits (Z b)).toNat:Int)=Z ((a|||b)%2^k.bits):=by
 show k.wrap (Z _)=_
 rw[pq ag]
 simp only[Z,BitVec.ofInt_natCast,<-BitVec.ofNat_or,BitVec.toNat_ofNat,Nat.mod_mod]
theorem zK {k:IntKind} (ag:k.signed=false) (a b:Nat):k.wrap ((BitVec.ofInt k.bits (Z a)&&&BitVec.ofInt k.bits (Z b)).toNat:Int)=Z ((a&&&b)%2^k.bits):=by
 show k.wrap (Z _)=_
 rw[pq ag]
 simp only[Z,BitVec.ofInt_natCast,<-BitVec.ofNat_and,BitVec.toNat_ofNat,Nat.mod_mod]
theorem zL {k:IntKind} (ag:k.signed=false) (a b:Nat):k.wrap ((BitVec.ofInt k.bits (Z a) ^^^ BitVec.ofInt k.bits (Z b)).toNat:Int)=Z ((a ^^^ b)%2^k.bits):=by
 show k.wrap (Z _)=_
 rw[pq ag]
 simp only[Z,BitVec.ofInt_natCast,<-BitVec.ofNat_xor,BitVec.toNat_ofNat,Nat.mod_mod]
theorem wrap_i64 {x:Int} (U: -9223372036854775808<=x) (h2:x<9223372036854775808):IntKind.i64.wrap x=x:=by
 simp[IntKind.wrap,IntKind.signed,IntKind.bits]
 split<;>omega
theorem fe {a:Nat} (h:a<9223372036854775808):IntKind.i64.wrap (Z a)=Z a:=wrap_i64 (by simp only[Z];omega) (by simp only[Z];omega)
theorem dw {a b:Nat} (h:a+b<9223372036854775808):IntKind.i64.wrap (Z a+Z b)=Z (a+b):=fe h
theorem cM {a b:Nat} (U:b<=a) (h2:a<9223372036854775808):IntKind.i64.wrap (Z a - Z b)=Z (a - b):=by
 rw[wrap_i64 (by simp only[Z];omega) (by simp only[Z];omega)];simp only[Z];omega
theorem ql {a b:Nat} (h:a*b<9223372036854775808):IntKind.i64.wrap (Z a*Z b)=Z (a*b):=by
 rw[show Z a*Z b=Z (a*b) by simp only[Z];norm_cast];exact fe h
theorem gD:IntKind.u8.bits=8:=rfl
theorem gE (a:Nat):IntKind.u8.wrap (Z a)=Z (a%256):=pq rfl a
theorem gF (a b:Nat):IntKind.u8.wrap (Z a+Z b)=Z ((a+b)%256):=zG rfl a b
theorem gG (a b:Nat):IntKind.u8.wrap (Z a - Z b)=Z ((a+(256 - b%256))%256):=zI rfl a b
theorem gH (a b:Nat):IntKind.u8.wrap (Z a*Z b)=Z (a*b%256):=zH rfl a b
theorem gI (a n:Nat):IntKind.u8.wrap (Z a*2^n)=Z (a*2^n%256):=rq rfl a n
theorem gJ:IntKind.u16.bits=16:=rfl
theorem gK (a:Nat):IntKind.u16.wrap (Z a)=Z (a%65536):=pq rfl a
theorem gL (a b:Nat):IntKind.u16.wrap (Z a+Z b)=Z ((a+b)%65536):=zG rfl a b
theorem gM (a b:Nat):IntKind.u16.wrap (Z a - Z b)=Z ((a+(65536 - b%65536))%65536):=zI rfl a b
theorem gN (a b:Nat):IntKind.u16.wrap (Z a*Z b)=Z (a*b%65536):=zH rfl a b
theorem gO (a n:Nat):IntKind.u16.wrap (Z a*2^n)=Z (a*2^n%65536):=rq rfl a n
theorem gP:IntKind.u32.bits=32:=rfl
theorem gQ (a:Nat):IntKind.u32.wrap (Z a)=Z (a%4294967296):=pq rfl a
theorem gR (a b:Nat):IntKind.u32.wrap (Z a+Z b)=Z ((a+b)%4294967296):=zG rfl a b
theorem gS (a b:Nat):IntKind.u32.wrap (Z a - Z b)=Z ((a+(4294967296 - b%4294967296))%4294967296):=zI rfl a b
theorem gT (a b:Nat):IntKind.u32.wrap (Z a*Z b)=Z (a*b%4294967296):=zH rfl a b
theorem gU (a n:Nat):IntKind.u32.wrap (Z a*2^n)=Z (a*2^n%4294967296):=rq rfl a n
theorem gV:IntKind.u64.bits=64:=rfl
theorem fz (a:Nat):IntKind.u64.wrap (Z a)=Z (a%18446744073709551616):=pq rfl a
theorem gW (a b:Nat):IntKind.u64.wrap (Z a+Z b)=Z ((a+b)%18446744073709551616):=zG rfl a b
theorem gX (a b:Nat):IntKind.u64.wrap (Z a - Z b)=Z ((a+(18446744073709551616 - b%18446744073709551616))%18446744073709551616):=zI rfl a b
theorem gY (a b:Nat):IntKind.u64.wrap (Z a*Z b)=Z (a*b%18446744073709551616):=zH rfl a b
theorem gZ (a n:Nat):IntKind.u64.wrap (Z a*2^n)=Z (a*2^n%18446744073709551616):=rq rfl a n
theorem g0 (k:IntKind) (a b:Int):jb .add k a b=some (.int k (k.wrap (a+b))):=rfl
theorem g1 (k:IntKind) (a b:Int):jb .sub k a b=some (.int k (k.wrap (a - b))):=rfl
theorem g2 (k:IntKind) (a b:Int):jb .mul k a b=some (.int k (k.wrap (a*b))):=rfl
theorem g3 (k:IntKind) (a b:Int):jb .quo k a b=if b=0 then none else some (.int k (k.wrap (a.tdiv b))):=rfl
theorem g4 (k:IntKind) (a b:Int):jb .rem k a b=if b=0 then none else some (.int k (a.tmod b)):=rfl
theorem g5 (k:IntKind) (a b:Int):jb .eql k a b=some (.bool (a == b)):=rfl
theorem g6 (k:IntKind) (a b:Int):jb .neq k a b=some (.bool (a != b)):=rfl
theorem g7 (k:IntKind) (a b:Int):jb .lss k a b=some (.bool (decide (a<b))):=rfl
theorem g8 (k:IntKind) (a b:Int):jb .leq k a b=some (.bool (decide (a<=b))):=rfl
theorem g9 (k:IntKind) (a b:Int):jb .gtr k a b=some (.bool (decide (a>b))):=rfl
theorem g_ (k:IntKind) (a b:Int):jb .geq k a b=some (.bool (decide (a>=b))):=rfl
theorem TN:IntKind.i64.bits=64:=rfl
theorem g' (a b:Nat):jb .and .u8 (Z a) (Z b)=some (.int .u8 (Z ((a&&&b)%256))):=congrArg (fun x=>some (I.int .u8 x)) (zK (k:= .u8) rfl a b)
theorem ha (a b:Nat):jb .or .u8 (Z a) (Z b)=some (.int .u8 (Z ((a|||b)%256))):=congrArg (fun x=>some (I.int .u8 x)) (zJ (k:= .u8) rfl a b)
theorem hb (a b:Nat):jb .xor .u8 (Z a) (Z b)=some (.int .u8 (Z ((a ^^^ b)%256))):=congrArg (fun x=>some (I.int .u8 x)) (zL (k:= .u8) rfl a b)
theorem hc (a b:Nat):iT .shr .u8 (Z a) (Z b)=some (.int .u8 (Z (a/2^min b 8))):=by
 simp only[iT,if_neg (eQ b),eR,fs];rfl
theorem hd (a b:Nat):iT .shl .u8 (Z a) (Z b)=some (.int .u8 (Z (a*2^min b 8%256))):=by
 simp only[iT,if_neg (eQ b),eR,rq (k:= .u8) rfl];rfl
theorem hf (a b:Nat):jb .and .u16 (Z a) (Z b)=some (.int .u16 (Z ((a&&&b)%65536))):=congrArg (fun x=>some (I.int .u16 x)) (zK (k:= .u16) rfl a b)
theorem hg (a b:Nat):jb .or .u16 (Z a) (Z b)=some (.int .u16 (Z ((a|||b)%65536))):=congrArg (fun x=>some (I.int .u16 x)) (zJ (k:= .u16) rfl a b)
theorem hh (a b:Nat):jb .xor .u16 (Z a) (Z b)=some (.int .u16 (Z ((a ^^^ b)%65536))):=congrArg (fun x=>some (I.int .u16 x)) (zL (k:= .u16) rfl a b)
theorem hi (a b:Nat):iT .shr .u16 (Z a) (Z b)=some (.int .u16 (Z (a/2^min b 16))):=by
 simp only[iT,if_neg (eQ b),eR,fs];rfl
theorem hj (a b:Nat):iT .shl .u16 (Z a) (Z b)=some (.int .u16 (Z (a*2^min b 16%65536))):=by
 simp only[iT,if_neg (eQ b),eR,rq (k:= .u16) rfl];rfl
theorem hk (a b:Nat):jb .and .u32 (Z a) (Z b)=some (.int .u32 (Z ((a&&&b)%4294967296))):=congrArg (fun x=>some (I.int .u32 x)) (zK (k:= .u32) rfl a b)
theorem hl (a b:Nat):jb .or .u32 (Z a) (Z b)=some (.int .u32 (Z ((a|||b)%4294967296))):=congrArg (fun x=>some (I.int .u32 x)) (zJ (k:= .u32) rfl a b)
theorem hn (a b:Nat):jb .xor .u32 (Z a) (Z b)=some (.int .u32 (Z ((a ^^^ b)%4294967296))):=congrArg (fun x=>some (I.int .u32 x)) (zL (k:= .u32) rfl a b)
theorem ho (a b:Nat):iT .shr .u32 (Z a) (Z b)=some (.int .u32 (Z (a/2^min b 32))):=by
 simp only[iT,if_neg (eQ b),eR,fs];rfl
theorem hp (a b:Nat):iT .shl .u32 (Z a) (Z b)=some (.int .u32 (Z (a*2^min b 32%4294967296))):=by
 simp only[iT,if_neg (eQ b),eR,rq (k:= .u32) rfl];rfl
theorem hq (a b:Nat):jb .and .u64 (Z a) (Z b)=some (.int .u64 (Z ((a&&&b)%18446744073709551616))):=congrArg (fun x=>some (I.int .u64 x)) (zK (k:= .u64) rfl a b)
theorem hr (a b:Nat):jb .or .u64 (Z a) (Z b)=some (.int .u64 (Z ((a|||b)%18446744073709551616))):=congrArg (fun x=>some (I.int .u64 x)) (zJ (k:= .u64) rfl a b)
theorem hs (a b:Nat):jb .xor .u64 (Z a) (Z b)=some (.int .u64 (Z ((a ^^^ b)%18446744073709551616))):=congrArg (fun x=>some (I.int .u64 x)) (zL (k:= .u64) rfl a b)
theorem ht (a b:Nat):iT .shr .u64 (Z a) (Z b)=some (.int .u64 (Z (a/2^min b 64))):=by
 simp only[iT,if_neg (eQ b),eR,fs];rfl
theorem hv (a b:Nat):iT .shl .u64 (Z a) (Z b)=some (.int .u64 (Z (a*2^min b 64%18446744073709551616))):=by
 simp only[iT,if_neg (eQ b),eR,rq (k:= .u64) rfl];rfl
theorem hx (a b:Nat):iT .shr .i64 (Z a) (Z b)=some (.int .i64 (Z (a/2^min b 64))):=by
 simp only[iT,if_neg (eQ b),eR,fs];rfl
theorem hy {a b:Nat} (h:a*2^min b 64<9223372036854775808):iT .shl .i64 (Z a) (Z b)=some (.int .i64 (Z (a*2^min b 64))):=by
 have e:Z a*2^min b 64=Z (a*2^min b 64):=by simp only[Z];norm_cast
 simp only[iT,if_neg (eQ b),eR,TN,e,fe h]
theorem hz {a b:Nat} (aC:a<9223372036854775808):jb .and .i64 (Z a) (Z b)=some (.int .i64 (Z (a&&&b%18446744073709551616))):=by
 have U:(BitVec.ofInt 64 (Z a)&&&BitVec.ofInt 64 (Z b)).toNat=a&&&b%18446744073709551616:=by
  simp only[Z,BitVec.ofInt_natCast,BitVec.toNat_and,BitVec.toNat_ofNat];rw[Nat.mod_eq_of_lt (a:=a) (by omega)]
 show some (I.int .i64 (IntKind.i64.wrap (Z _)))=_
 rw[show (BitVec.ofInt IntKind.i64.bits (Z a)&&&BitVec.ofInt IntKind.i64.bits (Z b)).toNat=_ from U]
 rw[fe (Nat.lt_of_le_of_lt Nat.and_le_left aC)]
theorem hA:IntKind.i64.bits=64:=rfl
section
variable {G:Nat->Option I} {Φ:FuncId->Option aO} {tab:FuncId->Option (List I->Option I)} {Y:List cJ}
def uZ (id k:Nat) (aj:Nat->aL->Prop) (E R:aL->Prop):dg->aL->Prop
 | .normal,s=>∃j,j<k/\aj j s
 | .exit i,s=>i=id/\E s
 | .ret,s=>R s
theorem hB (id k:Nat) (aj:Nat->aL->Prop) (E R:aL->Prop) (s:aL):uZ id k aj E R .normal s=∃j,j<k/\aj j s:=rfl
theorem hC (id k i:Nat) (aj:Nat->aL->Prop) (E R:aL->Prop) (s:aL):uZ id k aj E R (.exit i) s=(i=id/\E s):=rfl
theorem hD (id k:Nat) (aj:Nat->aL->Prop) (E R:aL->Prop) (s:aL):uZ id k aj E R .ret s=R s:=rfl
theorem lO {id:Nat} {b:c2} {Q:dg->aL->Prop} (aj:Nat->aL->Prop) (E R:aL->Prop) (k:Nat) {s:aL} (aG:aj k s) (round:∀k s,aj k s->ba G Φ tab Y b s (uZ id k aj E R))
 (fin:∀s,E s->Q .normal s) (ret:∀s,R s->Q .ret s):ba G Φ tab Y (.block id (.loop b)) s Q:=by
 refine jW (TH aj (fun k s qk=>(round k s qk).mono fun ex s1 h=>?_) k s aG)
 cases ex with
 | normal=>exact h
 | exit i=>obtain⟨rfl,h⟩:=h;simp only[rn,rp,if_true];exact fin _ h
 | ret=>exact ret _ h
theorem JT {a b:c2} {s:aL} {Q:dg->aL->Prop} (K:aL->Prop) (h:ba G Φ tab Y a s (rn Q K)) (h2:∀s1,K s1->ba G Φ tab Y b s1 Q):ba G Φ tab Y (.seq a b) s Q:=
 bc (h.mono fun ex s1 aM=>by
  cases ex with
  | normal=>exact h2 _ aM
  | exit i=>exact aM
  | ret=>exact aM)
end
noncomputable def xi {A:Type} (pre:A->Prop) (enc:A->List I) (out:A->I):List I->Option I:=fun args=>
 open Classical in if h:∃a,pre a/\enc a=args then some (out (Classical.choose h)) else none
theorem u0 {A:Type} {pre:A->Prop} {enc:A->List I} {out:A->I} {args:List I} {v:I} (h:xi pre enc out args=some v):∃a,pre a/\enc a=args/\out a=v:=by
 unfold xi at h
 split at h
 · rename_i ae
   cases h
   exact ⟨_,(Classical.choose_spec ae).1,(Classical.choose_spec ae).2,rfl⟩
 · cases h
theorem TO {A:Type} {pre:A->Prop} {enc:A->List I} {out:A->I} (inj:∀a b,pre a->pre b->enc a=enc b->out a=out b) (a:A) (h:pre a):xi pre enc out (enc a)=some (out a):=by
 unfold xi
 have ae:∃b,pre b/\enc b=enc a:=⟨a,h,rfl⟩
 rw[dif_pos ae]
 obtain⟨U,h2⟩:=Classical.choose_spec ae
 rw[inj _ _ U h h2]
end Go.Eng
namespace Go.Eng
open Go Go.RowKit Go.ChangeShapes Go.WideShapes
inductive dv where
 | int (k:IntKind)
 | bool
 | str
 | sl (e:dv)
 | bS (b9:List dv)
mutual
def dv.size:dv->Nat
 | .bS b9=>dv.sS b9
 | _=>1
def dv.sS:List dv->Nat
 | []=>0
 | f::b9=>f.size+dv.sS b9
end
def dv.one (s:dv) (cs:List I):I:=match s with
 | .bS _=> .agg cs
 | _=>cs.headD .undef
def xj (P:Program) (cc:TypeId->Option dv):Nat->List Field->Option (List dv)
 | _,[]=>some []
 | o,f::b9=>if f.offset=o then (cc f.type).bind fun s=>if P.cellsOf f.type=s.size then (xj P cc (o+s.size) b9).map (s:: ·) else none else none
def shape (P:Program):Nat->TypeId->Option dv
 | 0,_=>none
 | n+1,t=>match P.underlying t with
   | some .bool=>some .bool
   | some (.int k)=>some (.int k)
   | some .string=>some .str
   | some (.slice e)=>(shape P n e).bind fun s=>if P.cellsOf e=s.size/\0<s.size then some (.sl s) else none
   | some (.struct b9)=>(xj P (shape P n) 0 b9.toList).bind fun l=>if P.cellsOf t=dv.sS l then some (.bS l) else none
   | some (.array k e)=>(shape P n e).bind fun s=>if P.cellsOf e=s.size/\P.cellsOf t=k*s.size then some (.bS (List.replicate k s)) else none
   | _=>none
def dv.zero:dv->List Value
 | .int k=>[.int k 0]
 | .bool=>[.bool false]
 | .str=>[.string ByteArray.empty]
 | .sl _=>[.slice none 0 0]
 | .bS b9=>JU b9
where JU:List dv->List Value
 | []=>[]
 | f::b9=>f.zero++JU b9
section
variable {H:Type}
mutual
def n4:dv->List I->DataW H->Prop
 | .int k,cs,d=>∃n,cs= [.int k n]/\d= .lit (.int k n)/\(Lit.int k n).wf=true
 | .bool,cs,d=>∃b,cs= [.bool b]/\d= .lit (.bool b)
 | .str,cs,d=>∃s:ByteArray,cs= [.str s]/\d= .lit (.string s.data.toList)/\s.size<=maxLen
 | .sl e,cs,d=>∃xs,cs= [.sl xs false]/\xs.length<=maxLen/\
     ((d= .nil/\xs= [])\/∃cH rest,d= .slice cH rest/\cH.length=xs.length/\∀i (h:i<xs.length) (h':i<cH.length),∃cs,xs[i]=e.one cs/\cs.length=e.size/\n4 e cs cH[i])
 | .bS b9,cs,d=>∃cH,d= .agg cH/\kQ b9 cs cH
def kQ:List dv->List I->List (DataW H)->Prop
 | [],cs,cH=>cs= []/\cH= []
 | f::b9,cs,cH=>∃a b d jg,cs=a++b/\cH=d::jg/\n4 f a d/\kQ b9 b jg
end
mutual
theorem n4.length:∀ {s:dv} {cs:List I} {d:DataW H},n4 s cs d->cs.length=s.size
 | .int k,_,_,h=>by obtain⟨n,rfl,_⟩:=h;rfl
 | .bool,_,_,h=>by obtain⟨n,rfl,_⟩:=h;rfl
 | .str,_,_,h=>by obtain⟨n,rfl,_⟩:=h;rfl
 | .sl e,_,_,h=>by obtain⟨n,rfl,_⟩:=h;rfl
 | .bS b9,_,_,h=>by obtain⟨cH,_,h⟩:=h;exact kQ.length h
theorem kQ.length:∀ {s:List dv} {cs:List I} {d:List (DataW H)},kQ s cs d->cs.length=dv.sS s
 | [],_,_,h=>by obtain⟨rfl,_⟩:=h;rfl
 | f::b9,_,_,h=>by
   obtain⟨a,b,d,jg,rfl,_,U,h2⟩:=h
   rw[List.length_append,U.length,h2.length];rfl
end
theorem dv.D3 {s:dv} {cs:List I} {d:DataW H} (h:n4 s cs d):(s.one cs).cells=cs:=by
 cases s with
 | int k=>obtain⟨n,rfl,_⟩:=h;rfl
 | bool=>obtain⟨n,rfl,_⟩:=h;rfl
 | str=>obtain⟨n,rfl,_⟩:=h;rfl
 | sl e=>obtain⟨n,rfl,_⟩:=h;rfl
 | bS b9=>rfl
variable {enc:TypeId × Value->H} {P:Program} {w:World} {spare:Nat->Bool} {held:Bool} {ok:Nat->Prop}
def m2 (w:World) (ok:Nat->Prop) (cs:List I) (vs:List Value):Prop:=
 vs.length=cs.length/\∀i (h:i<cs.length) (h':i<vs.length),du w ok cs[i] vs[i]
theorem m2.append {a b:List I} {x y:List Value} (h:m2 w ok a x) (k:m2 w ok b y):m2 w ok (a++b) (x++y):=by
 refine⟨by simp[h.1,k.1],fun i ab bV=>?_⟩
 by_cases J:i<a.length
 · rw[List.getElem_append_left J,List.getElem_append_left (by rw[h.1];exact J)]
   exact h.2 i J _
 · rw[List.getElem_append_right (by omega),List.getElem_append_right (by rw[h.1];omega)]
   simp only[h.1]
   exact k.2 (i - a.length) (by simp at ab;omega) _
theorem m2.one {a:I} {x:Value} (h:du w ok a x):m2 w ok [a] [x]:=
 ⟨rfl,fun i ab bV=>by
   have:i=0:=by simpa using ab
   subst this;exact h⟩
theorem JV {cc:TypeId->Option dv} {n:Nat} {cs:List Value}
 (c4:∀t s vs x,cc t=some s->DataW.trod enc P w 0 spare held n t vs=some x->∃as,n4 s as x.1/\m2 w ok as vs):
 ∀(b9:List Field) (o:Nat) (l:List dv) (xs:List (DataW H × List MemPlace)),xj P cc o b9=some l->xs.length=b9.length->o+dv.sS l=cs.length->
  (∀(i:Nat) (f:Field),b9[i]? =some f->DataW.trod enc P w 0 spare held n f.type ((cs.drop f.offset).take (P.cellsOf f.type))=xs[i]?)->
  ∃as,kQ l as (xs.map (·.1))/\m2 w ok as (cs.drop o)
 | [],o,l,xs,h,az,ay,ae=>by
   simp only[xj,Option.some.injEq] at h
   subst h
   obtain rfl:xs= []:=by simpa using az
   refine⟨[],⟨rfl,rfl⟩,?_,fun i ab=>by simp at ab⟩
   simp[dv.sS] at ay|-;omega
 | f::b9,o,l,xs,h,az,ay,ae=>by
   simp only[xj] at h
   split at h<;>try(cases h;done)
   rename_i TP
   obtain⟨s,ax,h⟩:=Option.bind_eq_some_iff.1 h
   split at h<;>try(cases h;done)
   rename_i J
   obtain⟨l3,q',rfl⟩:=Option.map_eq_some_iff.1 h
   match xs,az with
   | x::xs,az=>
     have aG:=ae 0 f rfl
     simp only[List.getElem?_cons_zero] at aG
     obtain⟨as,u1,D4⟩:=c4 _ _ _ _ ax aG
     simp only[dv.sS] at ay
     obtain⟨sn,lx,rr⟩:=JV (cs:=cs) c4 b9 (o+s.size) l3 xs q' (by simpa using az) (by omega) (fun i f bb=>by simpa using ae (i+1) f (by simpa using bb))
     refine⟨as++sn,⟨as,sn,x.1,xs.map (·.1),rfl,by simp,u1,lx⟩,?_⟩
     have e:cs.drop o=(cs.drop f.offset).take (P.cellsOf f.type)++cs.drop (o+s.size):=by
      rw[TP,J,<-List.drop_drop,List.take_append_drop]
     rw[e]
     exact D4.append rr
theorem JW {cc:dv} {n:Nat} {e:TypeId} {cs:List Value}
 (c4:∀vs x,DataW.trod enc P w 0 spare held n e vs=some x->∃as,n4 cc as x.1/\m2 w ok as vs) (J:P.cellsOf e=cc.size):
 ∀(k o:Nat) (xs:List (DataW H × List MemPlace)),xs.length=k->(o+k)*cc.size=cs.length->
  (∀i,i<k->DataW.trod enc P w 0 spare held n e ((cs.drop ((o+i)*P.cellsOf e)).take (P.cellsOf e))=xs[i]?)->
  ∃as,kQ (List.replicate k cc) as (xs.map (·.1))/\m2 w ok as (cs.drop (o*cc.size))
 | 0,o,xs,az,ay,ae=>by
   obtain rfl:xs= []:=by simpa using az
   refine⟨[],⟨rfl,rfl⟩,?_,fun i ab=>by simp at ab⟩
   simp at ay|-;omega
 | k+1,o,xs,az,ay,ae=>by
   match xs,az with
   | x::xs,az=>
     have aG:=ae 0 (by omega)
     simp only[List.getElem?_cons_zero,Nat.add_zero] at aG
     obtain⟨as,u1,D4⟩:=c4 _ _ aG
     obtain⟨sn,lx,rr⟩:=JW (cs:=cs) c4 J k (o+1) xs (by simpa using az) (by rw[<-ay];congr 1;omega) (fun i ab=>by
      have:=ae (i+1) (by omega)
      simp only[List.getElem?_cons_succ] at this
      rw[<-this]
      congr 3;congr 1;omega)
     refine⟨as++sn,⟨as,sn,x.1,xs.map (·.1),rfl,by simp,u1,lx⟩,?_⟩
     have e:cs.drop (o*cc.size)=(cs.drop (o*P.cellsOf e)).take (P.cellsOf e)++cs.drop ((o+1)*cc.size):=by
      rw[J,show (o+1)*cc.size=o*cc.size+cc.size by rw[Nat.add_mul];simp,<-List.drop_drop,List.take_append_drop]
     rw[e]
     exact D4.append rr
theorem JX (kh:∀b,b<w.heap.size->ok b):∀(m:Nat) (fuel:Nat) (t:TypeId) (s:dv) (cs:List Value) (x:DataW H × List MemPlace),shape P m t=some s->
 DataW.trod enc P w 0 spare held fuel t cs=some x->∃as,n4 s as x.1/\m2 w ok as cs
 | 0,_,_,_,_,_,h,_=>by cases h
 | m+1,fuel,t,s,cs,x,h,ae=>by
   have a6:=JX kh m
   unfold shape at h
   split at h
   · rename_i aN
     cases h
     obtain⟨b,rfl,rfl⟩:=DataW.trod_bool aN ae
     exact ⟨[.bool b],⟨b,rfl,rfl⟩,.one (.bool b)⟩
   · rename_i k aN
     cases h
     obtain⟨n,rfl,rfl,hw⟩:=DataW.trod_int aN ae
     exact ⟨[.int k n],⟨n,rfl,rfl,hw⟩,.one (.int k n)⟩
   · rename_i aN
     cases h
     obtain⟨z,rfl,rfl,hw⟩:=DataW.trod_string aN ae
     exact ⟨[.str z],⟨z,rfl,rfl,hw⟩,.one (.str z)⟩
   · rename_i e aN
     obtain⟨ao,ax,h⟩:=Option.bind_eq_some_iff.1 h
     split at h<;>try(cases h;done)
     rename_i J
     cases h
     rcases DataW.trod_slice aN ae with⟨rfl,rfl⟩|⟨a,len,cap,elems,rest,n,_,rfl,rfl,ad,az,hm,hlen,k3,_,_⟩
     · refine⟨[.sl [] false],⟨[],rfl,by simp,.inl ⟨rfl,rfl⟩⟩,.one ?_⟩
       exact .sl [] false none 0 1 (fun _ _=> .nilFunc) (Nat.le_refl _) (fun h=>by cases h) (fun i ab=>by simp at ab) (fun i j ab=>by simp at ab) (fun h=>by simp at h) (fun i ab=>by simp at ab)
     · have each:∀i:Fin len,∃p:List Value × List I,w.cells? 0 (a.add (i.1*P.cellsOf e)) (P.cellsOf e)=some p.1/\m2 w ok p.2 p.1/\∃h:i.1<elems.length,n4 ao p.2 (elems[i.1]).1:=by
        intro i
        have:=k3 i.1 i.2
        rw[List.getElem?_eq_getElem (by rw[hlen];exact i.2)] at this
        obtain⟨vs,U,h2⟩:=Option.bind_eq_some_iff.1 this
        obtain⟨as,aC,aR⟩:=a6 _ _ _ _ _ ax h2
        exact ⟨(vs,as),U,aR,by rw[hlen];exact i.2,aC⟩
       let g:Fin len->List Value × List I:=fun i=>Classical.choose (each i)
       have aY:∀i:Fin len,w.cells? 0 (a.add (i.1*P.cellsOf e)) (P.cellsOf e)=some (g i).1/\m2 w ok (g i).2 (g i).1/\∃h:i.1<elems.length,n4 ao (g i).2 (elems[i.1]).1:=fun i=>Classical.choose_spec (each i)
       refine⟨[.sl (List.ofFn fun i=>ao.one (g i).2) false],⟨_,rfl,by simp;omega,.inr ⟨_,_,rfl,by simp[hlen],fun i ab bV=>?_⟩⟩,.one ?_⟩
       · simp only[List.length_ofFn] at ab
         obtain⟨_,_,he,a3⟩:=aY ⟨i,ab⟩
         exact ⟨(g ⟨i,ab⟩).2,by simp,a3.length,by simpa using a3⟩
       · have key:=du.sl (w:=w) (ok:=ok) (List.ofFn fun i=>ao.one (g i).2) false (some a) cap ao.size
          (fun i j=>if h:i<len then (g ⟨i,h⟩).1.getD j .nilFunc else .nilFunc) (by simpa using az) (fun h=>by cases h)
          (fun i ab=>by
            simp only[List.length_ofFn] at ab
            obtain⟨_,_,he,a3⟩:=aY ⟨i,ab⟩
            simp only[List.getElem_ofFn]
            rw[dv.D3 a3,a3.length])
          (fun i j ab aB=>by
            simp only[List.length_ofFn] at ab
            obtain⟨U,_,_⟩:=aY ⟨i,ab⟩
            obtain⟨_,h2,aA⟩:=World.cells?_some U
            have:=aA j (by rw[J.1];exact aB)
            rw[List.getElem?_eq_getElem (by rw[h2,J.1];exact aB),Go.Addr.add_add] at this
            refine⟨a,rfl,?_,?_⟩
            · have ot:=World.block_lt_of_cell? w _ this
              rw[Addr.q6] at ot
              exact kh _ ot
            · rw[show i*ao.size+j=i*P.cellsOf e+j by rw[J.1]]
              rw[show w.cell? (a.add (i*P.cellsOf e+j))=_ from this]
              simp[ab,h2,J.1,aB])
          (fun _=>rfl)
          (fun i ab j aB=>by
            simp only[List.length_ofFn] at ab
            obtain⟨_,h2,he,a3⟩:=aY ⟨i,ab⟩
            simp only[List.getElem_ofFn,dv.D3 a3] at aB|-
            simp only[ab,dif_pos]
            have ks:j<(g ⟨i,ab⟩).1.length:=by rw[h2.1];exact aB
            rw[show (g ⟨i,ab⟩).1.getD j .nilFunc=(g ⟨i,ab⟩).1[j] by simp[List.getD,ks]]
            exact h2.2 j aB ks)
         simpa using key
   · rename_i b9 aN
     obtain⟨l,az,h⟩:=Option.bind_eq_some_iff.1 h
     split at h<;>try(cases h;done)
     rename_i J
     cases h
     obtain⟨xs,n,_,rfl,nR,p8,bb⟩:=DataW.trod_struct aN ae
     obtain⟨as,U,h2⟩:=JV (ok:=ok) (cs:=cs) (fun t s vs x ax ae=>a6 _ _ _ _ _ ax ae) b9.toList 0 l xs az (by simpa using p8) (by rw[nR,J];omega) (fun i f ab=>bb i f (by simpa using ab))
     exact ⟨as,⟨_,rfl,U⟩,by simpa using h2⟩
   · rename_i k e aN
     obtain⟨ao,ax,h⟩:=Option.bind_eq_some_iff.1 h
     split at h<;>try(cases h;done)
     rename_i J
     cases h
     obtain⟨xs,n,_,rfl,nR,p8,bb⟩:=DataW.trod_array aN ae
     obtain⟨as,U,h2⟩:=JW (ok:=ok) (cs:=cs) (fun vs x ae=>a6 _ _ _ _ _ ax ae) J.1 k 0 xs p8 (by rw[nR,J.2];simp) (fun i ab=>by simpa using bb i ab)
     exact ⟨as,⟨_,rfl,U⟩,by simpa using h2⟩
   · cases h
end
section rows
variable {H:Type} {enc:TypeId × Value->H} {P:Program} {w:World} {spare:Nat->Bool} {held:Bool} {ok:Nat->Prop}
theorem TQ {s:dv} {as:List I} {d:DataW H} {v:Value} (h:n4 s as d) (an:(∃b9,s= .bS b9)->∃cs,v= .agg cs) (ak:(∃cs,v= .agg cs)->∃b9,s= .bS b9) (aR:m2 w ok as v.cells.toList):du w ok (s.one as) v:=by
 cases s with
 | bS b9=>
   obtain⟨cs,rfl⟩:=an ⟨b9,rfl⟩
   exact .agg as cs (by simpa[Value.cells] using aR.1) fun i h h'=>by
    have:=aR.2 i h (by simpa[Value.cells] using h')
    simpa[Value.cells] using this
 | _=>
   have J:v.cells= #[v]:=by
    cases v<;>first|rfl|(obtain⟨b9,e⟩:=ak ⟨_,rfl⟩;cases e)
   have U:=h.length
   rw[J] at aR
   match as,U,aR with
   | [a],_,aR=>exact aR.2 0 (by simp) (by simp)
def l5 (s:dv) (a:I):Prop:=∃(H:Type) (as:List I) (d:DataW H),a=s.one as/\n4 s as d
def sT:List dv->List I->Prop
 | [],as=>as= []
 | s::ss,as=>∃a CT,as=a::CT/\l5 s a/\sT ss CT
theorem TR {m:Nat} {t:TypeId} {s:dv} {r:Reach} {b0:Nat} {v:Value} (h:shape P m t=some s) (an:Value.okWide P w r b0 t v):((∃b9,s= .bS b9)->∃cs,v= .agg cs)/\((∃cs,v= .agg cs)->∃b9,s= .bS b9):=by
 cases m with
 | zero=>cases h
 | succ m=>
   unfold shape at h
   split at h
   · rename_i aN;cases h
     obtain⟨b,rfl⟩:=okWide_bool aN an
     exact ⟨(by rintro ⟨b9,e⟩;cases e),(by rintro ⟨b9,e⟩;cases e)⟩
   · rename_i k aN;cases h
     obtain⟨b,rfl⟩:=okWide_int aN an
     exact ⟨(by rintro ⟨b9,e⟩;cases e),(by rintro ⟨b9,e⟩;cases e)⟩
   · rename_i aN;cases h
     obtain⟨b,rfl⟩:=okWide_string aN an
     exact ⟨(by rintro ⟨b9,e⟩;cases e),(by rintro ⟨b9,e⟩;cases e)⟩
   · rename_i e aN
     obtain⟨ao,ax,h⟩:=Option.bind_eq_some_iff.1 h
     split at h<;>try(cases h;done)
     cases h
     obtain⟨a,b,c,rfl⟩:=okWide_slice aN an
     exact ⟨(by rintro ⟨b9,e⟩;cases e),(by rintro ⟨b9,e⟩;cases e)⟩
   · rename_i b9 aN
     obtain⟨ao,ax,h⟩:=Option.bind_eq_some_iff.1 h
     split at h<;>try(cases h;done)
     cases h
     obtain⟨a,rfl,_⟩:=okWide_struct aN an
     exact ⟨fun _=>⟨_,rfl⟩,fun _=>⟨_,rfl⟩⟩
   · rename_i k e aN
     obtain⟨ao,ax,h⟩:=Option.bind_eq_some_iff.1 h
     split at h<;>try(cases h;done)
     cases h
     have aC:∃cs,v= .agg cs:=by
      simp only[Value.okWide,aN] at an
      obtain⟨cs,U,_⟩:=an
      exact ⟨cs,U⟩
     exact ⟨fun _=>aC,fun _=>⟨_,rfl⟩⟩
   · cases h
theorem JY {r:Reach} {b0:Nat} (kh:∀b,b<w.heap.size->ok b) {m:Nat}:∀ {dR:List TypeId} {ss:List dv} {vs:List Value} {cH:List (DataW H)} {ps:List MemPlace},dR.mapM (shape P m)=some ss->
 DataW.TrodAll enc P w 0 spare held dR vs cH ps->(∀(j:Nat) t v,dR[j]? =some t->vs[j]? =some v->Value.okWide P w r b0 t v)->
 ∃as,sT ss as/\vs.length=as.length/\∀i (h:i<as.length) (h':i<vs.length),du w ok as[i] vs[i]
 | [],ss,vs,cH,ps,ax,h,_=>by
   obtain⟨rfl,rfl,rfl⟩:=trodAll_nil h
   obtain rfl: []=ss:=by simpa using ax
   exact ⟨[],rfl,rfl,fun i ab=>by simp at ab⟩
 | t::dR,ss,vs,cH,ps,ax,h,an=>by
   obtain⟨v,mU,d,jg,p,q,rfl,rfl,rfl,⟨fuel,aG⟩,U⟩:=trodAll_cons h
   rw[List.mapM_cons] at ax
   obtain⟨s,u2,ax⟩:=Option.bind_eq_some_iff.1 ax
   obtain⟨ajg,o8,ax⟩:=Option.bind_eq_some_iff.1 ax
   cases ax
   obtain⟨as,h2,aA,aT⟩:=JY kh o8 U (fun j TS kg aN TT=>an (j+1) TS kg (by simpa using aN) (by simpa using TT))
   obtain⟨cs,b8,bQ⟩:=JX kh _ _ _ _ _ _ u2 aG
   obtain⟨j3,dz⟩:=TR u2 (an 0 t v rfl rfl)
   refine⟨s.one cs::as,⟨_,_,rfl,⟨H,cs,d,rfl,b8⟩,h2⟩,by simp[aA],fun i ab bV=>?_⟩
   cases i with
   | zero=>exact TQ b8 j3 dz bQ
   | succ i=>exact aT i _ _
theorem JZ (az:laidOutB P=true) {aP:World} (ad:Below w.heap.size w aP):∀ {dR:List TypeId} {vs:List Value} {cH:List (DataW H)} {ps:List MemPlace},
 (dR.all fun t=>P.readableRec t&&decide (t<P.types.size))=true->
 DataW.TrodAll enc P w 0 (fun _=>true) true dR vs cH ps->DataW.TrodAll enc P aP 0 (fun b=>decide (b<w.heap.size)) true dR vs cH ps
 | [],vs,cH,ps,_,h=>by
   obtain⟨rfl,rfl,rfl⟩:=trodAll_nil h
   exact trodAll_mk0
 | t::dR,vs,cH,ps,aC,h=>by
   obtain⟨v,mU,d,jg,p,q,rfl,rfl,rfl,aG,U⟩:=trodAll_cons h
   simp only[List.all_cons,Bool.and_eq_true,decide_eq_true_eq] at aC
   obtain⟨m,hm⟩:=aG
   exact trodAll_cons_mk (Below.trod az aC.1.1 aC.1.2 ⟨m,hm⟩ ad (fun x ae=>DataW.trod_lt m _ _ _ hm x ae)) (JZ az ad aC.2 U)
theorem lifted {C:Checked} {os:Os} {f:FuncId} {fn:Func} {s:ChangeSpec} {m:Nat} {ss:List dv} {T:List I->Option I} {G:Nat->Option I} {X:World->Array Value->Prop} {J0:TypeId} {body:Code}
 (mw:∀(w aP:World) (args:Array Value),w.heap=aP.heap->X w args->X aP args)
 (own:ownKnob C.prog.godebug=none) (started:os.Started) (TU:C.prog.inits.idxOf? f=none) (mZ:C.prog.funcs[f]? =some fn)
 (witness:∃(w:World) (tape:Tape) (i:Input),w.os=os/\(w.forCall tape i).Shaped C.prog/\i.vars= []/\Input.okWide C.prog (w.forCall tape i) .any w.heap.size f i/\
   ((s.pre enc C.prog fn [] false (w.forCall tape i).memory i.args/\X (w.forCall tape i).memory i.args)/\sizedMet enc C.prog fn (OpenSpec.ofChange s) false (w.forCall tape i).memory i.args)/\({}:Assume).holds C.prog (lone (Frame.enter C.prog f i.args .normal) [] (w.forCall tape i)))
 (az:laidOutB C.prog=true)
 (ax:fn.params.toList.mapM (shape C.prog m)=some ss) (TV:(fn.params.toList.all fun t=>C.prog.readableRec t&&decide (t<C.prog.types.size))=true)
 (TW:fn.body=some body) (DL:fn.name≠ "runtime.NumGoroutine")
 (DK:fn.resultTypes= #[J0]) (C2:C.prog.underlying J0=some .bool) (J1:s.vars= [])
 (D5:∀cH:List (DataW H),cH.length=fn.params.size->s.fn H cH= {results:=[.lit (.bool true)],args:=cH})
 (TX:∀W args,X W args->∀g u,G g=some u->a4 W (fun _=>True) (fun _=>none) (.e4 u) (.pointer (some ⟨g,0,none⟩)))
 (J:aH C.prog G f T) (cD:∀as,sT ss as->T as=some (.bool true)):
 ReturnsInHanded {} C os f .any (fun w args=>(s.pre enc C.prog fn [] false w args/\X w args)/\sizedMet enc C.prog fn (OpenSpec.ofChange s) false w args) (s.post enc C.prog fn false true false false):=by
 refine returnsInHanded_of_change_and mw own started TU mZ witness ?_
 intro W base args cH gs before l2 lB _ _ ae _
 have TY:=lB
 obtain⟨p,q,a5,J2,rfl,ajh,pk⟩:=lB
 rw[J1] at J2
 obtain⟨rfl,rfl⟩:=trodVars_none J2
 obtain⟨as,U,h2,aA⟩:=JY (ok:=fun _=>True) (fun _ _=>trivial) ax a5 (fun j t v aN an=>l2 j t v (by simpa using aN) (by simpa using an))
 have D:=J as _ (cD as U) (fun _=>True) W args (by simpa using h2) (fun i h h'=>by have:=aA i h (by simpa using h');rwa [Array.getElem_toList] at this) (TX W args ae)
 have D6:cH.length=fn.params.size:=by
  have:∀ {dR:List TypeId} {vs:List Value} {cH:List (DataW H)} {ps:List MemPlace},DataW.TrodAll enc C.prog W 0 (fun _=>true) true dR vs cH ps->cH.length=dR.length:=by
   intro dR
   induction dR with
   | nil=>intro vs cH ps h;obtain⟨_,rfl,_⟩:=trodAll_nil h;rfl
   | cons t dR a6=>
     intro vs cH ps h
     obtain⟨v,mU,d,jg,p,q,rfl,rfl,rfl,aG,U⟩:=trodAll_cons h
     simp[a6 U]
  simpa using this a5
 have fin:∀cv aP,du aP (fun b=>True\/W.heap.size<=b) (.bool true) cv/\Below W.heap.size W aP->s.post enc C.prog fn false true false false W args cv aP:=by
  rintro cv aP ⟨aR,ad⟩
  cases aR
  refine⟨cH,[],_,[],p,[],TY,?_,?_,?_,ad.frame _,fun h=>by cases h⟩
  · rw[List.append_nil,D5 cH D6,DK]
    exact trodAll_mk1 (shut_bool C2 _)
  · rw[List.append_nil,D5 cH D6]
    exact JZ az ad TV a5
  · rw[J1,List.append_nil,D5 cH D6]
    rfl
 rcases D with⟨_,d2⟩|⟨cv,aP,d1,_⟩
 · refine d2.mono fun e aP ⟨cv,he,e0⟩=>⟨cv,he,fin cv aP e0⟩
 · have:=zu mZ TW DL args W
   rw[this] at d1
   cases d1
end rows
end Go.Eng
namespace Go.Eng
open Go Go.RowKit
theorem J3 {k:IntKind} {n:Int} (h:(Lit.int k n).wf=true):k.min<=n/\n<=k.max:=by
 simpa[Lit.wf] using h
theorem J4 {k:IntKind} {a:I} (h:l5 (.int k) a):∃n:Int,a= .int k n/\k.min<=n/\n<=k.max:=by
 obtain⟨H,zs,d,rfl,n,rfl,_,hw⟩:=h
 exact ⟨n,rfl,(J3 hw).1,(J3 hw).2⟩
theorem TZ {a:I} (h:l5 .bool a):∃b,a= .bool b:=by
 obtain⟨H,zs,d,rfl,b,rfl,_⟩:=h
 exact ⟨b,rfl⟩
theorem J5 {e:dv} {a:I} (h:l5 (.sl e) a):∃xs,a= .sl xs false/\xs.length<=maxLen/\∀x∈xs,l5 e x:=by
 obtain⟨H,zs,d,rfl,xs,rfl,hm,a3⟩:=h
 refine⟨xs,rfl,hm,fun x ae=>?_⟩
 rcases a3 with⟨_,rfl⟩|⟨cH,rest,_,az,T0⟩
 · cases ae
 · obtain⟨i,ab,rfl⟩:=List.mem_iff_getElem.1 ae
   obtain⟨cs,U,_,h2⟩:=T0 i ab (by omega)
   exact ⟨H,cs,_,U,h2⟩
theorem J6 {b9:List dv} {a:I} (h:l5 (.bS b9) a):∃(H:Type) (cs:List I) (cH:List (DataW H)),a= .agg cs/\kQ b9 cs cH:=by
 obtain⟨H,zs,d,rfl,cH,rfl,a3⟩:=h
 exact ⟨H,zs,cH,rfl,a3⟩
theorem T1 {a:I} (h:l5 (.int .u32) a):∃n,a= .int .u32 (Z n)/\n<4294967296:=by
 obtain⟨n,rfl,U,h2⟩:=J4 h
 simp[IntKind.min,IntKind.max,IntKind.signed,IntKind.bits] at U h2
 obtain⟨n,rfl⟩:=Int.eq_ofNat_of_zero_le U
 exact ⟨n,rfl,by omega⟩
theorem T2 {a:I} (h:l5 (.sl (.int .u32)) a):∃l:List Nat,a= .sl (l.map fun n=> .int .u32 (Z n)) false/\l.length<=maxLen/\∀x∈l,x<4294967296:=by
 obtain⟨xs,rfl,hm,ae⟩:=J5 h
 have:∃l:List Nat,xs=l.map (fun n=> .int .u32 (Z n))/\∀x∈l,x<4294967296:=by
  clear hm h
  induction xs with
  | nil=>exact ⟨[],rfl,fun x ae=>by cases ae⟩
  | cons x xs a6=>
    obtain⟨n,rfl,ak⟩:=T1 (ae x (by simp))
    obtain⟨l,rfl,az⟩:=a6 (fun y aQ=>ae y (by simp[aQ]))
    exact ⟨n::l,rfl,fun y aQ=>by
     rcases List.mem_cons.1 aQ with rfl|aQ
     · exact ak
     · exact az y aQ⟩
 obtain⟨l,rfl,az⟩:=this
 exact ⟨l,rfl,by simpa using hm,az⟩
theorem T3 {H:Type} {f:dv} {b9:List dv} {cs:List I} {cH:List (DataW H)} (h:kQ (f::b9) cs cH):∃(a b:List I) (jg:List (DataW H)),cs=a++b/\l5 f (f.one a)/\(f.one a).cells=a/\kQ b9 b jg:=by
 obtain⟨a,b,d,jg,rfl,_,U,h2⟩:=h
 exact ⟨a,b,jg,rfl,⟨H,a,d,rfl,U⟩,dv.D3 U,h2⟩
theorem D7 {H:Type} {cs:List I} {cH:List (DataW H)} (h:kQ [] cs cH):cs= []:=h.1
theorem D8 {s:dv} {ss:List dv} {l:List I} (h:sT (s::ss) l):∃a l3,l=a::l3/\l5 s a/\sT ss l3:=h
theorem T4 {l:List I} (h:sT [] l):l= []:=h
end Go.Eng
namespace Go.Eng
open Go Go.RowKit
mutual
def I.loose:I->I
 | .sl xs _=> .sl (k7 xs) false
 | .agg cs=> .agg (k7 cs)
 | .bK vs=> .bK (k7 vs)
 | v=>v
def k7:List I->List I
 | []=>[]
 | v::vs=>v.loose::k7 vs
end
theorem qm:∀l:List I,k7 l=l.map I.loose
 | []=>rfl
 | v::l=>by simp only[k7,List.map_cons,qm l]
theorem e8:k7 []= []:=rfl
theorem eS (v:I) (l:List I):k7 (v::l)=v.loose::k7 l:=rfl
theorem dt (xs:List I) (e:Bool):(I.sl xs e).loose= .sl (k7 xs) false:=by simp only[I.loose]
theorem e1 (xs:List I):(I.agg xs).loose= .agg (k7 xs):=by simp only[I.loose]
theorem f' (xs:List I):(I.bK xs).loose= .bK (k7 xs):=by simp only[I.loose]
theorem ft (k:IntKind) (n:Int):(I.int k n).loose= .int k n:=by simp only[I.loose]
theorem e2 (b:Bool):(I.bool b).loose= .bool b:=by simp only[I.loose]
theorem ga (b:ByteArray):(I.str b).loose= .str b:=by simp only[I.loose]
theorem gb:I.nilfn.loose= .nilfn:=by simp only[I.loose]
theorem gd (m:List (Int × FuncId)):(I.mp m).loose= .mp m:=by simp only[I.loose]
theorem T5 (f:FuncId) (a b:List I):(I.fn f a b).loose= .fn f a b:=by simp only[I.loose]
theorem D9 (v:I):v.loose.cells=v.cells.map I.loose:=by
 cases v<;>simp[I.loose,I.cells,qm]
theorem du.loose {w:World} {ok:Nat->Prop} {v:I} {cv:Value} (h:du w ok v cv):du w ok v.loose cv:=by
 induction h with
 | int k n=>rw[ft];exact .int k n
 | bool b=>rw[e2];exact .bool b
 | str s=>rw[ga];exact .str s
 | nilfn=>rw[gb];exact .nilfn
 | fn f=>rw[T5];exact .fn f
 | mp m r es clock U h2 aA aT=>rw[gd];exact .mp m r es clock U h2 aA aT
 | sl xs ex A c sz ey U h2 aA aT cj ei a6=>
   rw[dt,qm]
   have R:=du.sl (w:=w) (ok:=ok) (xs.map I.loose) false A c sz ey (by simpa using U) (fun h=>by cases h) (fun i h=>by
    have ab:i<xs.length:=by simpa using h
    rw[List.getElem_map,D9,List.length_map];exact aA i ab) (fun i j ab aB=>aT i j (by simpa using ab) aB) (fun aF=>cj (by simpa using aF)) (fun i ab j aB=>by
    have bV:i<xs.length:=by simpa using ab
    have ks:j<xs[i].cells.length:=by
     rw[List.getElem_map,D9,List.length_map] at aB;exact aB
    have e:((xs.map I.loose)[i]'ab).cells[j]=(xs[i].cells[j]).loose:=by
     simp[D9]
    rw[e]
    exact a6 i bV j ks)
   simpa using R
 | agg cs vs az h a6=>
   rw[e1,qm]
   refine .agg _ vs (by simpa using az) fun i ab bV=>?_
   rw[List.getElem_map]
   exact a6 i (by simpa using ab) bV
 | bK cs vs az h a6=>
   rw[f',qm]
   refine .bK _ vs (by simpa using az) fun i ab bV=>?_
   rw[List.getElem_map]
   exact a6 i (by simpa using ab) bV
theorem T6 {P:Program} {G:Nat->Option I} {f:FuncId} {T J7:List I->Option I} (h:aH P G f T) (cD:∀args v,J7 args=some v->∃kg,T (args.map I.loose)=some kg/\kg.loose=v):aH P G f J7:=by
 intro args v an ok w dm c3 fy qf
 obtain⟨kg,U,rfl⟩:=cD args v an
 have D:=h _ _ U ok w dm (by simpa using c3) (fun i ab bV=>by
  rw[List.getElem_map]
  exact (fy i (by simpa using ab) bV).loose) qf
 rcases D with⟨d1,d2⟩|⟨cv,aP,d1,d2,d3⟩
 · exact .inl ⟨d1,d2.mono fun e aP ⟨cv,he,e0,ad⟩=>⟨cv,he,e0.loose,ad⟩⟩
 · exact .inr ⟨cv,aP,d1,d2.loose,d3⟩
def fM (res:List mT) (v:I) (ex:dg) (s:aL):Prop:=
 (match ex with
  | .exit _=>False
  | _=>True)/\((dJ s.h s.F res).bind fun u=>(jw s.h u).map fun p=>p.1.loose)=some v
theorem T7 {G:Nat->Option I} {Φ:FuncId->Option aO} {tab:FuncId->Option (List I->Option I)} {f:FuncId} {fn:aO} (bb:Φ f=some fn) {args:List I} {v:I} (h:ba G Φ tab [] fn.body ⟨dQ args,aG⟩ (fM fn.res v)):
 ∃kg,kg.loose=v/\∃n,mV G Φ tab n f args=some kg:=by
 obtain⟨n,ex,ao,e,db,dc⟩:=h
 obtain⟨u,hu,dc⟩:=Option.bind_eq_some_iff.1 dc
 obtain⟨p,aF,rfl⟩:=Option.map_eq_some_iff.1 dc
 refine⟨p.1,rfl,n,?_⟩
 unfold mV yX
 simp only[bb,e]
 cases ex with
 | exit i=>exact db.elim
 | normal=>simp only[hu,Option.map_some,Option.bind_some,aF]
 | ret=>simp only[hu,Option.map_some,Option.bind_some,aF]
noncomputable def a9 {A:Type} (pre:A->Prop) (enc:A->List I) (out:A->I):List I->Option I:=fun args=>xi pre enc out (args.map I.loose)
theorem bk {A:Type} {pre:A->Prop} {enc:A->List I} {out:A->I} (inj:∀a b,enc a=enc b->out a=out b) (a:A) (h:pre a) {args:List I} (he:args.map I.loose=enc a):a9 pre enc out args=some (out a):=by
 unfold a9
 rw[he]
 exact TO (fun a b _ _ h=>inj a b h) a h
theorem bg {P:Program} {G:Nat->Option I} {tab:FuncId->Option (List I->Option I)} (hm:P.follows .mixedOrders=true) (lA:∀f T,tab f=some T->aH P G f T) {f:FuncId} {fn:aO} (bb:aI P f=some fn)
 {A:Type} {pre:A->Prop} {enc:A->List I} {out:A->I} (h:∀a,pre a->ba G (aI P) tab [] fn.body ⟨dQ (enc a),aG⟩ (fM fn.res (out a))):aH P G f (a9 pre enc out):=by
 have J:aH P G f (fun args=>open Classical in if h:∃v,∃n,mV G (aI P) tab n f args=some v then some (Classical.choose h) else none):=
  zD hm lA fun args v cD=>by
   split at cD
   · rename_i ae
     cases cD
     exact Classical.choose_spec ae
   · cases cD
 refine T6 J fun args v cD=>?_
 obtain⟨a,U,h2,rfl⟩:=u0 cD
 obtain⟨kg,aA,n,aT⟩:=T7 bb (h a U)
 rw[<-h2]
 have ae:∃v,∃n,mV G (aI P) tab n f (enc a)=some v:=⟨kg,n,aT⟩
 refine⟨kg,?_,aA⟩
 rw[dif_pos ae]
 congr 1
 obtain⟨m,cj⟩:=Classical.choose_spec ae
 have mono:∀ {n m:Nat} {v:I},n<=m->mV G (aI P) tab n f (enc a)=some v->mV G (aI P) tab m f (enc a)=some v:=by
  intro n m v nu an
  unfold mV at an|-
  obtain⟨p,U,h2⟩:=Option.bind_eq_some_iff.1 an
  rw[DV] at U
  have:=xg (Y:=[]) nu (.fn f) (enc a) aG p U
  rw[DV,show ky G (aI P) tab m [] f (enc a) aG=some p from this]
  exact h2
 have a1:=mono (Nat.le_max_left n m) aT
 have eZ:=mono (Nat.le_max_right n m) cj
 rw[a1] at eZ
 exact (Option.some.inj eZ).symm
theorem hE (k:IntKind):I.int k 0=I.int k (Z 0):=rfl
theorem fN (k:IntKind):I.int k 1=I.int k (Z 1):=rfl
theorem hF (h:ah) (k:IntKind) (n:Int):dE h (.int k n)=some (.int k n,[]):=rfl
theorem hG (h:ah) (k:IntKind) (n:Int):iU h (.int k n)=dE h (.int k n):=rfl
theorem hH (h:ah) (k:IntKind) (n:Int):jw h (.int k n)=dE h (.int k n):=rfl
theorem hI (h:ah) (b:Bool):dE h (.bool b)=some (.bool b,[]):=rfl
theorem hJ (h:ah) (b:Bool):iU h (.bool b)=dE h (.bool b):=rfl
theorem hK (h:ah) (b:Bool):jw h (.bool b)=dE h (.bool b):=rfl
theorem hL (h:ah) (b:ByteArray):dE h (.str b)=some (.str b,[]):=rfl
theorem hM (h:ah) (b:ByteArray):iU h (.str b)=dE h (.str b):=rfl
theorem hN (h:ah) (b:ByteArray):jw h (.str b)=dE h (.str b):=rfl
theorem hO (h:ah) (xs:List I) (e:Bool):dE h (.sl xs e)=some (.sl xs e,[]):=rfl
theorem hP (h:ah) (xs:List I) (e:Bool):iU h (.sl xs e)=dE h (.sl xs e):=rfl
theorem hQ (h:ah) (xs:List I) (e:Bool):jw h (.sl xs e)=dE h (.sl xs e):=rfl
theorem fF (h:ah) (i o l c:Nat):dE h (.ref i o l c)=match h.cells i with
 | some blk=>if o+l<=blk.length/\(blk.all I.ea)=true then some (.sl ((blk.drop o).take l) false,[i]) else none
 | none=>none:=rfl
theorem hR (h:ah) (i o l c:Nat):iU h (.ref i o l c)=dE h (.ref i o l c):=rfl
theorem hS (h:ah) (i o l c:Nat):jw h (.ref i o l c)=dE h (.ref i o l c):=rfl
theorem hT (h:ah):dE h (.nilfn)=some (.nilfn,[]):=rfl
theorem hU (h:ah):iU h (.nilfn)=dE h (.nilfn):=rfl
theorem hV (h:ah):jw h (.nilfn)=dE h (.nilfn):=rfl
theorem hW (h:ah) (m:List (Int × FuncId)):dE h (.mp m)=some (.mp m,[]):=rfl
theorem hX (h:ah) (m:List (Int × FuncId)):iU h (.mp m)=dE h (.mp m):=rfl
theorem hY (h:ah) (m:List (Int × FuncId)):jw h (.mp m)=dE h (.mp m):=rfl
theorem hZ (h:ah) (f:FuncId) (x y:List I):dE h (.fn f x y)=none:=rfl
theorem h0 (h:ah) (f:FuncId) (x y:List I):iU h (.fn f x y)=dE h (.fn f x y):=rfl
theorem h1 (h:ah) (f:FuncId) (x y:List I):jw h (.fn f x y)=dE h (.fn f x y):=rfl
theorem h3 (h:ah) (i j k:Nat):dE h (.ptr i j k)=none:=rfl
theorem h4 (h:ah) (i j k:Nat):iU h (.ptr i j k)=dE h (.ptr i j k):=rfl
theorem h5 (h:ah) (i j k:Nat):jw h (.ptr i j k)=dE h (.ptr i j k):=rfl
theorem h6 (h:ah) (v:I):dE h (.e4 v)=none:=rfl
theorem h7 (h:ah) (v:I):iU h (.e4 v)=dE h (.e4 v):=rfl
theorem h8 (h:ah) (v:I):jw h (.e4 v)=dE h (.e4 v):=rfl
theorem h9 (h:ah):dE h (.undef)=none:=rfl
theorem h_ (h:ah):iU h (.undef)=dE h (.undef):=rfl
theorem ia (h:ah):jw h (.undef)=dE h (.undef):=rfl
theorem ib (h:ah) (cs:List I):iU h (.agg cs)=(eu h cs).map fun(jO,a)=>(.agg jO,a):=rfl
theorem ic (h:ah) (cs:List I):jw h (.agg cs)=(eu h cs).map fun(jO,a)=>(.agg jO,a):=rfl
theorem ie (h:ah) (cs:List I):jw h (.bK cs)=(eh h cs).map fun(jO,a)=>(.bK jO,a):=rfl
def kR (r sz bytes:Nat) (h:ah) (x y:I):Option (I × ah × eb):=(elems h y).bind fun ys=>
    if 0<sz/\0<bytes/\(ys.all fun e=>e.cells.length == sz&&e.cells.all I.cd)=true then
     match x with
     | .sl xs ex=>if ys.length=0 then some (.sl xs ex,h,if kG y then .pure else .wr) else if ex=true/\(xs.length+ys.length)*bytes<=35184372088832/\0<ys.length/\(xs.all fun e=>e.cells.length == sz)=true
         then some (.ref r 0 (xs.length+ys.length) (xs.length+ys.length),h.new r (xs++ys),if kG y then .jv else .wr) else none
     | .ref id off len cap=>if ys.length=0 then some (.ref id off len cap,h,if kG y then .pure else .wr) else if h.shut id=true then none else (h.cells id).bind fun blk=>
         if off+len<=blk.length/\(len+ys.length)*bytes<=35184372088832/\0<ys.length/\(blk.all fun e=>e.cells.length == sz)=true then
          if len+ys.length<=cap then
           if off+cap<=blk.length then some (.ref id off (len+ys.length) cap,h.new id (blk.take (off+len)++ys++blk.drop (off+len+ys.length)),.wr) else none
          else if off=0/\0<len then some (.ref r 0 (len+ys.length) (len+ys.length),{h with cells:=au (au h.cells id none) r (some (blk.take len++ys))},.wr) else none
         else none
     | _=>none
    else none
theorem ig (aZ r:Nat) (a':aS->I) (h:ah) (sz bytes:Nat) (x y:aS):evalOp aZ r a' h (.app sz bytes x y)=kR r sz bytes h (a' x) (a' y):=by rfl
def bH (sz:Nat) (h:ah) (v:I) (xs:List I):Prop:=
 (∀j,h.next<=j->h.shut j=false)/\
 ((xs= []/\v= .sl [] true)\/(0<xs.length/\∃q,v= .ref q 0 xs.length xs.length/\h.cells q=some xs/\h.shut q=false/\q<h.next/\(xs.all fun e=>e.cells.length == sz)=true))
def k8 (r:Nat) (h:ah) (v:I) (zs:List I):ah:=match v with
 | .ref q _ _ _=>{h with cells:=au (au h.cells q none) r (some zs)}
 | _=>h.new r zs
def D_ (v:I):eb:=match v with
 | .ref .. => .wr
 | _=> .jv
theorem gf (r:Nat) (h:ah) (v:I) (zs:List I):(k8 r h v zs).cells r=some zs:=by
 unfold k8;split<;>simp[ah.new,au]
theorem ih (r:Nat) (h:ah) (v:I) (zs:List I):(k8 r h v zs).next=h.next:=by
 unfold k8;split<;>rfl
theorem ij (r:Nat) (h:ah) (v:I) (zs:List I):(k8 r h v zs).shut=h.shut:=by
 unfold k8;split<;>rfl
theorem ik (r:Nat) (h:ah) (v:I) (zs:List I):(k8 r h v zs).aV=h.aV:=by
 unfold k8;split<;>rfl
theorem T8 {r:Nat} {h:ah} {v:I} {zs:List I} {q:Nat} (U:q≠r) (h2:∀a b c,v≠ .ref q a b c):(k8 r h v zs).cells q=h.cells q:=by
 unfold k8
 split
 · rename_i nq a b c
   have:q≠nq:=fun e=>h2 a b c (by rw[e])
   simp[au,U,this]
 · simp[ah.new,au,U]
theorem ru {sz:Nat} {h:ah} {v:I} {xs:List I} (T9:bH sz h v xs) (c3:0<sz) {bytes:Nat} (ad:0<bytes) {ys:List I} (e6:0<ys.length) (aQ:(ys.all fun e=>e.cells.length == sz&&e.cells.all I.cd)=true)
 (az:(xs.length+ys.length)*bytes<=35184372088832) (m r:Nat) (e:Bool):
 kR r sz bytes ⟨h.cells,h.shut,m,h.aV⟩ v (.sl ys e)=some (.ref r 0 (xs.length+ys.length) (xs.length+ys.length),k8 r ⟨h.cells,h.shut,m,h.aV⟩ v (xs++ys),D_ v):=by
 have aG:¬ys.length=0:=by omega
 unfold kR
 simp only[elems,Option.bind_some,if_pos (And.intro c3 (And.intro ad aQ))]
 rcases T9.2 with⟨rfl,rfl⟩|⟨U,q,rfl,h2,aA,aT,cj⟩
 · simp only[if_neg aG,kG,if_true]
   rw[if_pos ⟨trivial,az,e6,rfl⟩]
   rfl
 · have ei:¬xs.length+ys.length<=xs.length:=by omega
   simp only[if_neg aG,aA,Bool.false_eq_true,if_false,h2,Option.bind_some]
   rw[if_pos ⟨by omega,az,e6,cj⟩,if_neg ei,if_pos ⟨trivial,U⟩]
   simp only[List.take_length,k8,D_]
theorem bH.mono {sz:Nat} {h h':ah} {v:I} {xs:List I} (o:bH sz h v xs) (J:∀q,q<h.next->h'.cells q=h.cells q) (ax:∀q,h'.shut q=h.shut q) (ak:h.next<=h'.next):bH sz h' v xs:=by
 refine⟨fun j aB=>by rw[ax];exact o.1 j (by omega),?_⟩
 rcases o.2 with o|⟨U,q,h2,aA,aT,cj,ei⟩
 · exact .inl o
 · exact .inr ⟨U,q,h2,by rw[J q cj];exact aA,by rw[ax q];exact aT,by omega,ei⟩
theorem bH.bump {sz:Nat} {h:ah} {v:I} {xs:List I} (o:bH sz h v xs) (m:Nat) (hm:h.next<=m):bH sz ⟨h.cells,h.shut,m,h.aV⟩ v xs:=o.mono (fun _ _=>rfl) (fun _=>rfl) hm
theorem bH.nil {sz:Nat} {h:ah} (ax:∀j,h.next<=j->h.shut j=false):bH sz h (.sl [] true) []:=⟨ax,.inl ⟨rfl,rfl⟩⟩
theorem bH.app {sz:Nat} {h:ah} {v:I} {xs:List I} (o:bH sz h v xs) {ys:List I} (e6:0<ys.length) (aQ:(ys.all fun e=>e.cells.length == sz)=true) (m ng r:Nat) (p nZ:Nat->Option fT) (aR:h.next<=r) (hm:r<ng):
 bH sz ⟨(k8 r ⟨h.cells,h.shut,m,p⟩ v (xs++ys)).cells,h.shut,ng,nZ⟩ (.ref r 0 (xs.length+ys.length) (xs.length+ys.length)) (xs++ys):=by
 refine⟨fun j aB=>o.1 j (Nat.le_trans (Nat.le_trans aR (Nat.le_of_lt hm)) aB),.inr ⟨by simp;omega,r,by simp,gf ..,o.1 r aR,hm,?_⟩⟩
 rw[List.all_append,aQ]
 rcases o.2 with⟨rfl,_⟩|⟨_,_,_,_,_,_,ei⟩
 · rfl
 · rw[ei];rfl
theorem bH.other {sz:Nat} {h:ah} {v:I} {xs:List I} (o:bH sz h v xs) {m:Nat} {p:Nat->Option fT} {r q:Nat} {zs:List I} (U:q≠r) (h2:∀a b c,v≠ .ref q a b c):(k8 r ⟨h.cells,h.shut,m,p⟩ v zs).cells q=h.cells q:=T8 U h2
theorem bH.out {sz:Nat} {h:ah} {v:I} {xs:List I} (o:bH sz h v xs) (ad:(xs.all I.ea)=true):∃ids,∀m p,iU ⟨h.cells,h.shut,m,p⟩ v=some (.sl xs (decide (xs= [])),ids)/\jw ⟨h.cells,h.shut,m,p⟩ v=some (.sl xs (decide (xs= [])),ids)/\dE ⟨h.cells,h.shut,m,p⟩ v=some (.sl xs (decide (xs= [])),ids):=by
 rcases o.2 with⟨rfl,rfl⟩|⟨U,q,rfl,aA,aT,cj,ei⟩
 · exact ⟨[],fun m p=>⟨rfl,rfl,rfl⟩⟩
 · refine⟨[q],fun m p=>?_⟩
   have:xs≠ []:=by rintro rfl;simp at U
   simp only[iU,dE,jw,aA]
   rw[if_pos ⟨by omega,ad⟩]
   simp[this]
theorem bH.len {sz:Nat} {h:ah} {v:I} {xs:List I} (o:bH sz h v xs) (aZ r:Nat) (a':aS->I) (h':ah) (x:aS) (ae:a' x=v):evalOp aZ r a' h' (.len false x)=some (.int .i64 xs.length,h',.pure):=by
 rcases o.2 with⟨rfl,rfl⟩|⟨U,q,rfl,aA,aT,cj,ei⟩<;>simp[evalOp,ae]
section hand
variable {P:Program} {ops:Array Oper} {Q:Exit->Act->World->Prop} {a:Act} {w aP:World} {rest:List Oper} {o:Oper}
end hand
end Go.Eng
