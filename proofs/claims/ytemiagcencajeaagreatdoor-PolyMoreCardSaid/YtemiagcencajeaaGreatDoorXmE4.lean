import Derived.Test.YtemiagcencajeaaGreatDoorXmE3
import Derived.ProofKit
import Derived.DataElems
import Derived.LaidMore
import Derived.OpenShut
import Derived.Handed
import Derived.LaidLaws
import Derived.MakeChecks
import Derived.Tactics
set_option linter.unusedSimpArgs false
set_option linter.unusedVariables false
set_option linter.unusedSectionVars false
namespace Go.Eng
open Go Go.RowKit
abbrev l5:=kM->List I->ai->Option (I × ai)
def r_ (a b:l5):Prop:=∀f args h r,a f args h=some r->b f args h=some r
section
variable {G:Nat->Option I} {Φ:FuncId->Option aP} {tab:FuncId->Option (List I->Option I)} {Y:List cy}
theorem IF {a b:l5} (fp:r_ a b) {aZ r:Nat} {e:aY} {s:aK} {x:aK × dN} (h:c4 G tab a aZ r e s=some x):c4 G tab b aZ r e s=some x:=by
 unfold c4 at h|-
 split at h
 · split at h<;>try(cases h;done)
   · rename_i n first caps a_
     try simp only
     split at h
     · rename_i T ct
       try simp only[ct]
       exact h
     · rename_i ct
       try simp only[ct]
       obtain⟨p,aE,h⟩:=Option.map_eq_some_iff.1 h
       rw[fp _ _ _ _ aE];exact congrArg some h
   · obtain⟨p,aE,h⟩:=Option.map_eq_some_iff.1 h
     try simp only
     rw[fp _ _ _ _ aE];exact congrArg some h
 · exact h
theorem IG {a b:l5} (fp:r_ a b) {aZ r:Nat} {e:aY} {s:aK} {x:aK × dN} (h:cJ G tab a aZ r e s=some x):cJ G tab b aZ r e s=some x:=by
 unfold cJ at h|-
 split at h
 · exact IF fp h
 · split at h
   · split at h
     · rename_i ad
       simp only[if_pos ad]
       exact IF fp h
     · rename_i ad
       simp only[if_neg ad];exact h
   · exact h
   · cases h
theorem CD {a b:l5} (fp:r_ a b) {aZ:Nat}:∀ {L:List (aY × Nat)} {s:aK} {x:aK × List dN},cV G tab a aZ L s=some x->cV G tab b aZ L s=some x
 | [],s,x,h=>h
 | (e,i)::L,s,x,h=>by
   simp only[cV] at h|-
   split at h<;>try(cases h;done)
   rename_i s1 c U
   rw[IG fp U]
   simp only
   obtain⟨p,aE,h⟩:=Option.map_eq_some_iff.1 h
   rw[CD fp aE];exact congrArg some h
theorem So {a b:l5} (fp:r_ a b) {kg:Bool} {ops:List aY} {eK:List Nat} {s an:aK} (h:eF G tab a kg ops eK s=some an):eF G tab b kg ops eK s=some an:=by
 unfold eF at h|-
 split at h<;>try(cases h;done)
 rename_i s1 cs U
 rw[CD fp U];exact h
theorem CE {n:Nat} {f:FuncId} {args:List I} {h:ai} {v:I} {fn:aP} {ex:da} {an:aK} (a_:Φ f=some fn) (he:exec G Φ tab n Y fn.body ⟨ec args,h⟩=some (ex,an)) (hex:ex= .normal\/ex= .ret) (al:dZ an.h an.F fn.res=some v):
 kh G Φ tab n Y f args h=some (v,an.h):=by
 unfold kh
 rw[a_]
 rcases hex with rfl|rfl<;>simp only[he,al,Option.map_some]
theorem wb {n id:Nat} {args:List I} {h h':ai} {v:I} {L:cy} {Y':List cy} {s1:aK} {ex:da} {an:aK} (bd:nU id Y=some (L,Y')) (hlen:L.ps.length=args.length) (U:exec G Φ tab n Y' L.dt ⟨mM L.F L.ps args,h⟩=some (.normal,s1))
 (aE:s1.h.aU id=some .ready) (h2:exec G Φ tab n Y' L.body ⟨s1.F,s1.h.set id (some .busy)⟩=some (ex,an)) (ad:an.h.aU id=some .busy)
 (aB:(ex= .normal/\v= .bool true/\h'=an.h.set id (some .ready))\/(ex≠ .normal/\v= .bool false/\h'=an.h.set id (some (.done ex)))):n5 G Φ tab n Y id args h=some (v,h'):=by
 unfold n5
 simp only[bd,if_pos hlen,U,aE,h2,ad]
 rcases aB with⟨rfl,rfl,rfl⟩|⟨bO,rfl,rfl⟩
 · rfl
 · cases ex with
   | normal=>exact absurd rfl bO
   | exit i=>rfl
   | ret=>rfl
theorem CF {n:Nat} {f:aR} {ps:List Nat} {dt body:cU} {s:aK} {ex:da} {g:FuncId} {first caps:List I} {v:I} {h':ai} {p:fu} (a_:f.ev G s.F= .fn g first caps)
 (J:kh G Φ tab n (⟨s.h.next,s.F,ps,dt,body⟩::Y) g (first++ [.fD s.h.next]++caps) {s.h with next:=s.h.next+1,aU:=ar s.h.aU s.h.next (some .ready)}=some (v,h'))
 (aE:h'.aU s.h.next=some p) (n6:(p= .ready/\ex= .normal)\/p= .done ex):exec G Φ tab (n+1) Y (.k6 f ps dt body) s=some (ex,⟨s.F,h'.set s.h.next none⟩):=by
 obtain⟨fn,e,an,mm,he,hex,al,rfl⟩:=qK J
 rw[fW]
 rcases hex with rfl|rfl
 · simp only[a_,mm,he,al,aE]
   rcases n6 with⟨rfl,rfl⟩|rfl<;>rfl
 · simp only[a_,mm,he,al,aE]
   rcases n6 with⟨rfl,rfl⟩|rfl<;>rfl
theorem ua {nB:FuncId->Option aP} (aw:∀f fn,nB f=some fn->Φ f=some fn):∀(n m:Nat),n<=m->∀(Y:List cy) (c:cU) (s:aK) (x:da × aK),exec G nB tab n Y c s=some x->exec G Φ tab m Y c s=some x
 | 0,_,_,Y,c,s,x,h=>by unfold exec at h;cases h
 | n+1,0,mY,_,_,_,_,_=>absurd mY (by omega)
 | n+1,m+1,mY,Y,c,s,x,h=>by
   have a8:=ua aw n m (by omega)
   have bw:∀ {Y:List cy} {f:FuncId} {args:List I} {h:ai} {r:I × ai},kh G nB tab n Y f args h=some r->kh G Φ tab m Y f args h=some r:=by
    intro Y f args h r J
    obtain⟨v,h'⟩:=r
    obtain⟨fn,ex,an,a_,he,hex,al,rfl⟩:=qK J
    exact CE (aw _ _ a_) (a8 _ _ _ _ he) hex al
   have hle:r_ (kt G nB tab n Y) (kt G Φ tab m Y):=by
    intro t args h r J
    obtain⟨v,h'⟩:=r
    cases t with
    | fn f=>exact bw J
    | k7 id=>
      obtain⟨L,Y',s1,ex,an,bd,hlen,U,aE,h2,ad,aB⟩:=tX J
      exact wb bd hlen (a8 _ _ _ _ U) aE (a8 _ _ _ _ h2) ad aB
   have aF:=h
   rw[fW] at h
   cases c with
   | skip=>rw[fW];exact h
   | ret=>rw[fW];exact h
   | exit id=>rw[fW];exact h
   | region kg ops eK=>
     rw[fW]
     simp only at h|-
     obtain⟨s1,U,h⟩:=Option.map_eq_some_iff.1 h
     rw[So hle U];exact congrArg some h
   | seq a b=>
     rw[fW]
     simp only at h|-
     split at h
     · rename_i s1 U
       rw[a8 _ _ _ _ U];exact a8 _ _ _ _ h
     · rename_i bO
       rw[a8 _ _ _ _ h]
       obtain⟨ex,s1⟩:=x
       cases ex with
       | normal=>exact absurd h (bO s1)
       | exit i=>rfl
       | ret=>rfl
   | cond y a b=>
     rw[fW]
     simp only at h|-
     split at h<;>try(cases h;done)
     rename_i t aL
     split at h
     · rename_i r6;simp only[if_pos r6];exact a8 _ _ _ _ h
     · rename_i r6;simp only[if_neg r6];exact a8 _ _ _ _ h
   | block id b=>
     rw[fW]
     simp only at h|-
     split at h
     · rename_i i s1 U
       rw[a8 _ _ _ _ U];exact h
     · rename_i bO
       rw[a8 _ _ _ _ h]
       obtain⟨ex,s1⟩:=x
       cases ex with
       | normal=>rfl
       | exit i=>exact absurd h (bO i s1)
       | ret=>rfl
   | loop b=>
     rw[fW]
     simp only at h|-
     split at h
     · rename_i s1 U
       rw[a8 _ _ _ _ U];exact a8 _ _ _ _ h
     · rename_i bO
       rw[a8 _ _ _ _ h]
       obtain⟨ex,s1⟩:=x
       cases ex with
       | normal=>exact absurd h (bO s1)
       | exit i=>rfl
       | ret=>rfl
   | k6 f ps dt body=>
     obtain⟨ex,an⟩:=x
     obtain⟨g,first,caps,v,h',p,a_,J,aE,n6,rfl⟩:=yv aF
     exact CF a_ (bw J) aE n6
theorem ub {n m:Nat} (mY:n<=m) {c:cU} {s:aK} {x:da × aK} (h:exec G Φ tab n Y c s=some x):exec G Φ tab m Y c s=some x:=ua (fun _ _ h=>h) n m mY Y c s x h
theorem Sp {nB:FuncId->Option aP} (aw:∀f fn,nB f=some fn->Φ f=some fn) {n m:Nat} (mY:n<=m):r_ (kt G nB tab n Y) (kt G Φ tab m Y):=by
 intro t args h r J
 obtain⟨v,h'⟩:=r
 cases t with
 | fn f=>
   obtain⟨fn,ex,an,a_,he,hex,al,rfl⟩:=qK J
   exact CE (aw _ _ a_) (ua aw _ _ mY _ _ _ _ he) hex al
 | k7 id=>
   obtain⟨L,Y',s1,ex,an,bd,hlen,U,aE,h2,ad,aB⟩:=tX J
   exact wb bd hlen (ua aw _ _ mY _ _ _ _ U) aE (ua aw _ _ mY _ _ _ _ h2) ad aB
theorem wc {n m:Nat} (mY:n<=m):r_ (kt G Φ tab n Y) (kt G Φ tab m Y):=Sp (fun _ _ h=>h) mY
def a' (G:Nat->Option I) (Φ:FuncId->Option aP) (tab:FuncId->Option (List I->Option I)) (Y:List cy) (c:cU) (s:aK) (Q:da->aK->Prop):Prop:=∃n ex an,exec G Φ tab n Y c s=some (ex,an)/\Q ex an
def qM (Q:da->aK->Prop) (K:aK->Prop):da->aK->Prop
 | .normal,s=>K s
 | ex,s=>Q ex s
theorem gL (Q:da->aK->Prop) (K:aK->Prop) (s:aK):qM Q K .normal s=K s:=rfl
theorem gM (Q:da->aK->Prop) (K:aK->Prop) (s:aK):qM Q K .ret s=Q .ret s:=rfl
theorem gN (Q:da->aK->Prop) (K:aK->Prop) (i:Nat) (s:aK):qM Q K (.exit i) s=Q (.exit i) s:=rfl
def qN (id:Nat) (Q:da->aK->Prop):da->aK->Prop
 | .exit i,s=>if i=id then Q .normal s else Q (.exit i) s
 | ex,s=>Q ex s
theorem gO (id:Nat) (Q:da->aK->Prop) (s:aK):qN id Q .normal s=Q .normal s:=rfl
theorem gP (id:Nat) (Q:da->aK->Prop) (s:aK):qN id Q .ret s=Q .ret s:=rfl
theorem gQ (id i:Nat) (Q:da->aK->Prop) (s:aK):qN id Q (.exit i) s=if i=id then Q .normal s else Q (.exit i) s:=rfl
theorem a'.mono {c:cU} {s:aK} {Q IH:da->aK->Prop} (h:a' G Φ tab Y c s Q) (aN:∀ex s,Q ex s->IH ex s):a' G Φ tab Y c s IH:=
 let ⟨n,ex,an,e,q⟩:=h;⟨n,ex,an,e,aN _ _ q⟩
theorem gp {s:aK} {Q:da->aK->Prop} (h:Q .normal s):a' G Φ tab Y .skip s Q:=⟨1,.normal,s,rfl,h⟩
theorem bU {s:aK} {Q:da->aK->Prop} (h:Q .ret s):a' G Φ tab Y .ret s Q:=⟨1,.ret,s,rfl,h⟩
theorem c5 {i:Nat} {s:aK} {Q:da->aK->Prop} (h:Q (.exit i) s):a' G Φ tab Y (.exit i) s Q:=⟨1,.exit i,s,rfl,h⟩
theorem ba {a b:cU} {s:aK} {Q:da->aK->Prop} (h:a' G Φ tab Y a s (qM Q fun s1=>a' G Φ tab Y b s1 Q)):a' G Φ tab Y (.seq a b) s Q:=by
 obtain⟨n,ex,s1,U,h2⟩:=h
 cases ex with
 | normal=>
   obtain⟨m,ex,s2,aB,aS⟩:=h2
   refine⟨max n m+1,ex,s2,?_,aS⟩
   rw[fW]
   simp only[ub (Nat.le_max_left n m) U]
   exact ub (Nat.le_max_right n m) aB
 | exit i=>exact ⟨n+1,.exit i,s1,by rw[fW];simp only[U],h2⟩
 | ret=>exact ⟨n+1,.ret,s1,by rw[fW];simp only[U],h2⟩
theorem fy {x:aR} {a b:cU} {s:aK} {Q:da->aK->Prop} (t:Bool) (aL:x.ev G s.F= .bool t) (U:t=true->a' G Φ tab Y a s Q) (h2:t=false->a' G Φ tab Y b s Q):a' G Φ tab Y (.cond x a b) s Q:=by
 cases t with
 | true=>
   obtain⟨n,ex,s1,e,q⟩:=U rfl
   exact ⟨n+1,ex,s1,by rw[fW];simp only[aL,if_true];exact e,q⟩
 | false=>
   obtain⟨n,ex,s1,e,q⟩:=h2 rfl
   exact ⟨n+1,ex,s1,by rw[fW];simp only[aL,Bool.false_eq_true,if_false];exact e,q⟩
theorem jA {id:Nat} {b:cU} {s:aK} {Q:da->aK->Prop} (h:a' G Φ tab Y b s (qN id Q)):a' G Φ tab Y (.block id b) s Q:=by
 obtain⟨n,ex,s1,e,q⟩:=h
 cases ex with
 | normal=>exact ⟨n+1,.normal,s1,by rw[fW];simp only[e],q⟩
 | ret=>exact ⟨n+1,.ret,s1,by rw[fW];simp only[e],q⟩
 | exit i=>
   by_cases ab:i=id
   · exact ⟨n+1,.normal,s1,by rw[fW];simp only[e,if_pos ab],by simpa[qN,ab] using q⟩
   · exact ⟨n+1,.exit i,s1,by rw[fW];simp only[e,if_neg ab],by simpa[qN,ab] using q⟩
theorem Sq {b:cU} {Q:da->aK->Prop} (ah:Nat->aK->Prop) (round:∀k s,ah k s->a' G Φ tab Y b s (qM Q fun s1=>∃j,j<k/\ah j s1)):∀(k:Nat) (s:aK),ah k s->a' G Φ tab Y (.loop b) s Q:=by
 intro k
 induction k using Nat.strongRecOn with
 | _ k a8=>
   intro s pY
   obtain⟨n,ex,s1,e,q⟩:=round k s pY
   cases ex with
   | normal=>
     obtain⟨j,aA,Sr⟩:=q
     obtain⟨m,ex,s2,au,c8⟩:=a8 j aA s1 Sr
     refine⟨max n m+1,ex,s2,?_,c8⟩
     rw[fW]
     simp only[ub (Nat.le_max_left n m) e]
     exact ub (Nat.le_max_right n m) au
   | exit i=>exact ⟨n+1,.exit i,s1,by rw[fW];simp only[e],q⟩
   | ret=>exact ⟨n+1,.ret,s1,by rw[fW];simp only[e],q⟩
def yD:l5:=fun _ _ _=>none
def we (G:Nat->Option I) (Φ:FuncId->Option aP) (tab:FuncId->Option (List I->Option I)) (Y:List cy) (eM:l5):Prop:=∀t args h r,eM t args h=some r->∃n,kt G Φ tab n Y t args h=some r
theorem bx:we G Φ tab Y yD:=fun _ _ _ _ h=>by cases h
theorem II {eM:l5} (r':we G Φ tab Y eM) {aZ:Nat}:∀ {L:List (aY × Nat)} {s:aK} {x:aK × List dN},cV G tab eM aZ L s=some x->∃n,cV G tab (kt G Φ tab n Y) aZ L s=some x
 | [],s,x,h=>⟨0,h⟩
 | (e,i)::L,s,x,h=>by
   simp only[cV] at h
   split at h<;>try(cases h;done)
   rename_i s1 c U
   obtain⟨p,aE,ae⟩:=Option.map_eq_some_iff.1 h
   obtain⟨n,ak⟩:=II r' aE
   have one:∃m,cJ G tab (kt G Φ tab m Y) aZ (aZ+i) e s=some (s1,c):=by
    have go:∀ {y:aK × dN},c4 G tab eM aZ (aZ+i) e s=some y->∃m,c4 G tab (kt G Φ tab m Y) aZ (aZ+i) e s=some y:=by
     intro y aQ
     unfold c4 at aQ
     split at aQ
     · rename_i f args he
       split at aQ<;>try(cases aQ;done)
       · rename_i q first caps a_
         split at aQ
         · rename_i T ct
           refine⟨0,?_⟩
           unfold c4;simp only[he,a_,ct];exact aQ
         · rename_i ct
           obtain⟨v,al,aQ⟩:=Option.map_eq_some_iff.1 aQ
           obtain⟨m,hm⟩:=r' _ _ _ _ al
           refine⟨m,?_⟩
           unfold c4;simp only[he,a_,ct,hm];exact congrArg some aQ
       · rename_i id a_
         obtain⟨v,al,aQ⟩:=Option.map_eq_some_iff.1 aQ
         obtain⟨m,hm⟩:=r' _ _ _ _ al
         refine⟨m,?_⟩
         unfold c4;simp only[he,a_,hm];exact congrArg some aQ
     · rename_i bO
       refine⟨0,?_⟩
       unfold c4
       split
       · rename_i f as he;exact absurd he (bO f as)
       · exact aQ
    unfold cJ at U
    split at U
    · rename_i aW
      obtain⟨m,hm⟩:=go U
      exact ⟨m,by unfold cJ;rw[aW];exact hm⟩
    · rename_i t want aW
      split at U<;>try(cases U;done)
      rotate_left
      · rename_i ad
        exact ⟨0,by unfold cJ;simp only[aW,ad];exact U⟩
      rename_i b ad
      split at U
      · rename_i n1
        obtain⟨m,hm⟩:=go U
        exact ⟨m,by unfold cJ;simp only[aW,ad,if_pos n1];exact hm⟩
      · rename_i n1
        exact ⟨0,by unfold cJ;simp only[aW,ad,if_neg n1];exact U⟩
   obtain⟨m,hm⟩:=one
   refine⟨max m n,?_⟩
   simp only[cV,IG (wc (Nat.le_max_left m n)) hm]
   rw[CD (wc (Nat.le_max_right m n)) ak]
   exact congrArg some ae
theorem Ss {eM:l5} (r':we G Φ tab Y eM) {kg:Bool} {ops:List aY} {eK:List Nat} {s:aK} {Q:da->aK->Prop} (an:aK) (h:eF G tab eM kg ops eK s=some an) (aN:Q .normal an):a' G Φ tab Y (.region kg ops eK) s Q:=by
 unfold eF at h
 split at h<;>try(cases h;done)
 rename_i s1 cs U
 split at h<;>try(cases h;done)
 rename_i j2
 cases h
 obtain⟨n,ak⟩:=II r' U
 refine⟨n+1,.normal,_,?_,aN⟩
 rw[fW]
 simp only[eF,ak,if_pos j2,Option.map_some]
def fg (G:Nat->Option I) (tab:FuncId->Option (List I->Option I)) (eM:l5) (kg:Bool) (ops:List aY) (eK:List Nat) (s:aK) (K:aK->Prop):Prop:=
 match cV G tab eM s.h.next ops.zipIdx ⟨s.F,{s.h with next:=s.h.next+ops.length}⟩ with
 | some (an,cs)=>(kg=true->tw cs eK=true)/\K an
 | none=>False
theorem bg {eM:l5} (r':we G Φ tab Y eM) {kg:Bool} {ops:List aY} {eK:List Nat} {s:aK} {Q:da->aK->Prop} (h:fg G tab eM kg ops eK s (Q .normal)):a' G Φ tab Y (.region kg ops eK) s Q:=by
 unfold fg at h
 split at h
 · rename_i an cs U
   refine Ss r' an ?_ h.2
   unfold eF
   rw[U]
   have:(!kg||tw cs eK)=true:=by
    cases kg with
    | false=>rfl
    | true=>simpa using h.1 rfl
   simp only[this,if_true]
 · exact h.elim
def gR (res:List mg) (v:I) (ex:da) (s:aK):Prop:=
 (match ex with
  | .exit _=>False
  | _=>True)/\((dZ s.h s.F res).bind fun u=>(js s.h u).map (·.1))=some v
def St (id:Nat) (F:Nat->I) (res:List mg) (Q:da->aK->Prop) (ex:da) (s:aK):Prop:=
 (match ex with
  | .exit _=>False
  | _=>True)/\(∃v,dZ s.h s.F res=some v)/\(match s.h.aU id with
  | some .ready=>Q .normal ⟨F,s.h.set id none⟩
  | some (.done e)=>Q e ⟨F,s.h.set id none⟩
  | _=>False)
theorem CG {f:aR} {ps:List Nat} {dt body:cU} {s:aK} {Q:da->aK->Prop} {g:FuncId} {first caps:List I} {fn:aP} (a_:f.ev G s.F= .fn g first caps) (aW:Φ g=some fn)
 (h:a' G Φ tab (⟨s.h.next,s.F,ps,dt,body⟩::Y) fn.body ⟨ec (first++ [.fD s.h.next]++caps),{s.h with next:=s.h.next+1,aU:=ar s.h.aU s.h.next (some .ready)}⟩ (St s.h.next s.F fn.res Q)):a' G Φ tab Y (.k6 f ps dt body) s Q:=by
 obtain⟨n,ex,an,e,c7,⟨v,al⟩,fo⟩:=h
 have hex:ex= .normal\/ex= .ret:=by
  cases ex with
  | normal=>exact .inl rfl
  | ret=>exact .inr rfl
  | exit i=>exact c7.elim
 have J:=CE aW e hex al
 split at fo
 · rename_i aE
   exact ⟨n+1,.normal,_,CF a_ J aE (.inl ⟨rfl,rfl⟩),fo⟩
 · rename_i e' aE
   exact ⟨n+1,e',_,CF a_ J aE (.inr rfl),fo⟩
 · exact fo.elim
end
def cf (l:List (FuncId × (List I->Option I))):FuncId->Option (List I->Option I):=fun f=>l.lookup f
theorem cg {P:Program} {G:Nat->Option I}:∀ {l:List (FuncId × (List I->Option I))},(∀p∈l,aG P G p.1 p.2)->∀f T,cf l f=some T->aG P G f T
 | [],_,f,T,h=>by cases h
 | (g,jk)::l,az,f,T,h=>by
   unfold cf at h
   rw[List.lookup_cons] at h
   by_cases e:f=g
   · subst e
     simp only[BEq.rfl] at h
     cases h
     exact az (f,jk) (by simp)
   · have:(f == g)=false:=by simpa using e
     simp only[this] at h
     exact cg (fun p aE=>az p (by simp[aE])) f T h
end Go.Eng
namespace Go.Eng
open Go Go.RowKit
section
variable {G:Nat->Option I} {Φ nB:FuncId->Option aP} {tab:FuncId->Option (List I->Option I)} {Y:List cy}
theorem IJ (aw:∀f fn,nB f=some fn->Φ f=some fn) (n:Nat) (Y:List cy) (c:cU) (s:aK) (x:da × aK) (h:exec G nB tab n Y c s=some x):exec G Φ tab n Y c s=some x:=ua aw n n (Nat.le_refl _) Y c s x h
theorem IK (aw:∀f fn,nB f=some fn->Φ f=some fn) {n:Nat} {f:FuncId} {args:List I} {v:I} (h:mi G nB tab n f args=some v):mi G Φ tab n f args=some v:=by
 unfold mi at h|-
 obtain⟨p,U,h2⟩:=Option.bind_eq_some_iff.1 h
 unfold xV at U|-
 split at U<;>try(cases U;done)
 rename_i fn a_
 simp only[aw _ _ a_]
 split at U
 · rename_i an he
   rw[IJ aw _ _ _ _ _ he];simp only[U];exact h2
 · rename_i an he
   rw[IJ aw _ _ _ _ _ he];simp only[U];exact h2
 · cases U
noncomputable def eB (G:Nat->Option I) (Φ:FuncId->Option aP) (tab:FuncId->Option (List I->Option I)) (Y:List cy):l5:=fun f args h=>
 open Classical in if ae:∃r n,kt G Φ tab n Y f args h=some r then some (Classical.choose ae) else none
theorem nC:we G Φ tab Y (eB G Φ tab Y):=by
 intro f args h r aT
 unfold eB at aT
 split at aT
 · rename_i ae
   cases aT
   exact Classical.choose_spec ae
 · cases aT
theorem yE {f:kM} {args:List I} {h:ai} {r:I × ai} {n:Nat} (ak:kt G Φ tab n Y f args h=some r):eB G Φ tab Y f args h=some r:=by
 have ae:∃r n,kt G Φ tab n Y f args h=some r:=⟨r,n,ak⟩
 unfold eB
 rw[dif_pos ae]
 obtain⟨m,hm⟩:=Classical.choose_spec ae
 congr 1
 have a:=wc (Nat.le_max_left n m) _ _ _ _ ak
 have b:=wc (Nat.le_max_right n m) _ _ _ _ hm
 rw[a] at b
 exact (Option.some.inj b).symm
def jl (res:List mg) (R:I->ai->Prop) (ex:da) (s:aK):Prop:=
 (match ex with
  | .exit _=>False
  | _=>True)/\∃v,dZ s.h s.F res=some v/\R v s.h
theorem jB {f:FuncId} {fn:aP} (a_:Φ f=some fn) {args:List I} {h:ai} {R:I->ai->Prop} (he:a' G Φ tab Y fn.body ⟨ec args,h⟩ (jl fn.res R)):∃v h',eB G Φ tab Y (.fn f) args h=some (v,h')/\R v h':=by
 obtain⟨n,ex,an,e,c7,v,c8,fo⟩:=he
 refine⟨v,an.h,yE (n:=n) ?_,fo⟩
 show kh G Φ tab n Y f args h=_
 unfold kh
 simp only[a_,e]
 cases ex with
 | exit i=>exact c7.elim
 | normal=>simp only[c8,Option.map_some]
 | ret=>simp only[c8,Option.map_some]
theorem CH {id:Nat} {args:List I} {h:ai} {R:I->ai->Prop} {L:cy} {Y':List cy} (bd:nU id Y=some (L,Y')) (hlen:L.ps.length=args.length)
 (he:a' G Φ tab Y' L.dt ⟨mM L.F L.ps args,h⟩ (fun ex s1=>ex= .normal/\s1.h.aU id=some .ready/\a' G Φ tab Y' L.body ⟨s1.F,s1.h.set id (some .busy)⟩ (fun ex an=>an.h.aU id=some .busy/\
   (match ex with
    | .normal=>R (.bool true) (an.h.set id (some .ready))
    | e=>R (.bool false) (an.h.set id (some (.done e))))))):∃v h',eB G Φ tab Y (.k7 id) args h=some (v,h')/\R v h':=by
 obtain⟨n,ex,s1,aq,rfl,aE,m,Su,an,au,ad,eH⟩:=he
 have a1:=ub (Nat.le_max_left n m) aq
 have eG:=ub (Nat.le_max_right n m) au
 cases Su with
 | normal=>exact ⟨_,_,yE (f:= .k7 id) (n:=max n m) (wb bd hlen a1 aE eG ad (.inl ⟨rfl,rfl,rfl⟩)),eH⟩
 | exit i=>exact ⟨_,_,yE (f:= .k7 id) (n:=max n m) (wb bd hlen a1 aE eG ad (.inr ⟨by simp,rfl,rfl⟩)),eH⟩
 | ret=>exact ⟨_,_,yE (f:= .k7 id) (n:=max n m) (wb bd hlen a1 aE eG ad (.inr ⟨by simp,rfl,rfl⟩)),eH⟩
end
def IL (b:Bool):Option I->Bool
 | some (.bool c)=>c == b
 | _=>false
theorem Sv {b:Bool} {x:Option I} (h:IL b x=true):x=some (.bool b):=by
 unfold IL at h
 split at h
 · simp at h;rw[h]
 · cases h
def CI (l:List (FuncId × aP)):FuncId->Option aP:=fun f=>l.lookup f
theorem CJ {Φ:FuncId->Option aP}:∀ {l:List (FuncId × aP)},(∀p∈l,Φ p.1=some p.2)->∀f fn,CI l f=some fn->Φ f=some fn
 | [],_,f,fn,h=>by cases h
 | (g,jk)::l,az,f,fn,h=>by
   unfold CI at h
   rw[List.lookup_cons] at h
   by_cases e:f=g
   · subst e
     simp only[BEq.rfl] at h
     cases h
     exact az (f,jk) (by simp)
   · have:(f == g)=false:=by simpa using e
     simp only[this] at h
     exact CJ (fun p aE=>az p (by simp[aE])) f fn h
end Go.Eng
namespace Go.Eng
open Go Go.RowKit
def Z (n:Nat):Int:=n
theorem gS (n:Nat):(n:Int)=Z n:=rfl
theorem bp {a b:Nat}:Z a=Z b↔a=b:=by simp only[Z];omega
theorem gq (a b:Nat):(Z a == Z b)=(a == b):=by
 rw[Bool.eq_iff_iff,beq_iff_eq,beq_iff_eq];exact bp
theorem gT (a b:Nat):(Z a != Z b)=(a != b):=by simp only[bne,gq]
theorem gr {a b:Nat}:Z a<Z b↔a<b:=by simp only[Z];omega
theorem gU {a b:Nat}:Z a<=Z b↔a<=b:=by simp only[Z];omega
theorem gV (a:Nat):0<=Z a:=by simp only[Z];omega
theorem eW (a:Nat):¬Z a<0:=by simp only[Z];omega
theorem gW {a:Nat}:Z a=0↔a=0:=by simp only[Z];omega
theorem eX (a:Nat):(Z a).toNat=a:=rfl
theorem gX {a b:Nat}:Z a<(b:Int)↔a<b:=gr
theorem gY (a b:Nat):(Z a).tmod (Z b)=Z (a%b):=rfl
theorem gZ (a b:Nat):(Z a).tdiv (Z b)=Z (a/b):=rfl
theorem fG (a n:Nat):(Z a).fdiv (2^n)=Z (a/2^n):=by
 simp only[Z]
 rw[Int.fdiv_eq_ediv_of_nonneg _ (by exact Int.le_of_lt (Int.pow_pos (by decide)))]
 norm_cast
theorem IM {k:IntKind} (ag:k.signed=false) (x:Int):k.wrap x=x%2^k.bits:=by
 cases k<;>first|(simp[IntKind.signed] at ag;done)|(simp[IntKind.wrap,IntKind.signed,IntKind.bits])
theorem oX {k:IntKind} (ag:k.signed=false) (a:Nat):k.wrap (Z a)=Z (a%2^k.bits):=by
 rw[IM ag];simp only[Z];norm_cast
theorem yF {k:IntKind} (ag:k.signed=false) (a b:Nat):k.wrap (Z a+Z b)=Z ((a+b)%2^k.bits):=oX ag (a+b)
theorem yG {k:IntKind} (ag:k.signed=false) (a b:Nat):k.wrap (Z a*Z b)=Z (a*b%2^k.bits):=by
 rw[<-oX ag];simp only[Z];norm_cast
theorem qO {k:IntKind} (ag:k.signed=false) (a n:Nat):k.wrap (Z a*2^n)=Z (a*2^n%2^k.bits):=by
 rw[<-oX ag];simp only[Z];norm_cast
theorem yH {k:IntKind} (ag:k.signed=false) (a b:Nat):k.wrap (Z a - Z b)=Z ((a+(2^k.bits - b%2^k.bits))%2^k.bits):=by
 rw[IM ag]
 simp only[Z]
 have h:b%2^k.bits<2^k.bits:=Nat.mod_lt _ (Nat.pow_pos (by decide))
 generalize ll:2^k.bits=M at*
 have:((2:Int)^k.bits)=(M:Int):=by rw[<-ll];norm_cast
 rw[this]
 rw[Int.natCast_emod,Int.natCast_add,Int.natCast_sub (Nat.le_of_lt h),Int.natCast_emod]
 rw[show ((a:Int) - b)=a+(M - b%M)+M*(-1 - b/M) by
  have:=Int.emod_add_mul_ediv (b:Int) M
  rw[Int.mul_sub];omega]
 exact Int.add_mul_emod_self_left _ _ _
theorem yI {k:IntKind} (ag:k.signed=false) (a b:Nat):k.wrap ((BitVec.ofInt k.bits (Z a)|||BitVec.ofInt k.bits (Z b)).toNat:Int)=Z ((a|||b)%2^k.bits):=by
 show k.wrap (Z _)=_
 rw[oX ag]
 simp only[Z,BitVec.ofInt_natCast,<-BitVec.ofNat_or,BitVec.toNat_ofNat,Nat.mod_mod]
theorem yJ {k:IntKind} (ag:k.signed=false) (a b:Nat):k.wrap ((BitVec.ofInt k.bits (Z a)&&&BitVec.ofInt k.bits (Z b)).toNat:Int)=Z ((a&&&b)%2^k.bits):=by
 show k.wrap (Z _)=_
 rw[oX ag]
 simp only[Z,BitVec.ofInt_natCast,<-BitVec.ofNat_and,BitVec.toNat_ofNat,Nat.mod_mod]
theorem yK {k:IntKind} (ag:k.signed=false) (a b:Nat):k.wrap ((BitVec.ofInt k.bits (Z a) ^^^ BitVec.ofInt k.bits (Z b)).toNat:Int)=Z ((a ^^^ b)%2^k.bits):=by
 show k.wrap (Z _)=_
 rw[oX ag]
 simp only[Z,BitVec.ofInt_natCast,<-BitVec.ofNat_xor,BitVec.toNat_ofNat,Nat.mod_mod]
theorem wrap_i64 {x:Int} (U: -9223372036854775808<=x) (h2:x<9223372036854775808):IntKind.i64.wrap x=x:=by
 simp[IntKind.wrap,IntKind.signed,IntKind.bits]
 split<;>omega
theorem fq {a:Nat} (h:a<9223372036854775808):IntKind.i64.wrap (Z a)=Z a:=wrap_i64 (by simp only[Z];omega) (by simp only[Z];omega)
theorem dD {a b:Nat} (h:a+b<9223372036854775808):IntKind.i64.wrap (Z a+Z b)=Z (a+b):=fq h
theorem cQ {a b:Nat} (U:b<=a) (h2:a<9223372036854775808):IntKind.i64.wrap (Z a - Z b)=Z (a - b):=by
 rw[wrap_i64 (by simp only[Z];omega) (by simp only[Z];omega)];simp only[Z];omega
theorem pZ {a b:Nat} (h:a*b<9223372036854775808):IntKind.i64.wrap (Z a*Z b)=Z (a*b):=by
 rw[show Z a*Z b=Z (a*b) by simp only[Z];norm_cast];exact fq h
theorem g0:IntKind.u8.bits=8:=rfl
theorem g1 (a:Nat):IntKind.u8.wrap (Z a)=Z (a%256):=oX rfl a
theorem g2 (a b:Nat):IntKind.u8.wrap (Z a+Z b)=Z ((a+b)%256):=yF rfl a b
theorem g3 (a b:Nat):IntKind.u8.wrap (Z a - Z b)=Z ((a+(256 - b%256))%256):=yH rfl a b
theorem g4 (a b:Nat):IntKind.u8.wrap (Z a*Z b)=Z (a*b%256):=yG rfl a b
theorem g5 (a n:Nat):IntKind.u8.wrap (Z a*2^n)=Z (a*2^n%256):=qO rfl a n
theorem g6:IntKind.u16.bits=16:=rfl
theorem g7 (a:Nat):IntKind.u16.wrap (Z a)=Z (a%65536):=oX rfl a
theorem g8 (a b:Nat):IntKind.u16.wrap (Z a+Z b)=Z ((a+b)%65536):=yF rfl a b
theorem g9 (a b:Nat):IntKind.u16.wrap (Z a - Z b)=Z ((a+(65536 - b%65536))%65536):=yH rfl a b
theorem g_ (a b:Nat):IntKind.u16.wrap (Z a*Z b)=Z (a*b%65536):=yG rfl a b
theorem g' (a n:Nat):IntKind.u16.wrap (Z a*2^n)=Z (a*2^n%65536):=qO rfl a n
theorem ha:IntKind.u32.bits=32:=rfl
theorem hb (a:Nat):IntKind.u32.wrap (Z a)=Z (a%4294967296):=oX rfl a
theorem hc (a b:Nat):IntKind.u32.wrap (Z a+Z b)=Z ((a+b)%4294967296):=yF rfl a b
theorem hd (a b:Nat):IntKind.u32.wrap (Z a - Z b)=Z ((a+(4294967296 - b%4294967296))%4294967296):=yH rfl a b
theorem hf (a b:Nat):IntKind.u32.wrap (Z a*Z b)=Z (a*b%4294967296):=yG rfl a b
theorem hg (a n:Nat):IntKind.u32.wrap (Z a*2^n)=Z (a*2^n%4294967296):=qO rfl a n
theorem hh:IntKind.u64.bits=64:=rfl
theorem fP (a:Nat):IntKind.u64.wrap (Z a)=Z (a%18446744073709551616):=oX rfl a
theorem hi (a b:Nat):IntKind.u64.wrap (Z a+Z b)=Z ((a+b)%18446744073709551616):=yF rfl a b
theorem hj (a b:Nat):IntKind.u64.wrap (Z a - Z b)=Z ((a+(18446744073709551616 - b%18446744073709551616))%18446744073709551616):=yH rfl a b
theorem hk (a b:Nat):IntKind.u64.wrap (Z a*Z b)=Z (a*b%18446744073709551616):=yG rfl a b
theorem hl (a n:Nat):IntKind.u64.wrap (Z a*2^n)=Z (a*2^n%18446744073709551616):=qO rfl a n
theorem hn (k:IntKind) (a b:Int):gE .add k a b=some (.int k (k.wrap (a+b))):=rfl
theorem ho (k:IntKind) (a b:Int):gE .sub k a b=some (.int k (k.wrap (a - b))):=rfl
theorem hp (k:IntKind) (a b:Int):gE .mul k a b=some (.int k (k.wrap (a*b))):=rfl
theorem hq (k:IntKind) (a b:Int):gE .quo k a b=if b=0 then none else some (.int k (k.wrap (a.tdiv b))):=rfl
theorem hr (k:IntKind) (a b:Int):gE .rem k a b=if b=0 then none else some (.int k (a.tmod b)):=rfl
theorem hs (k:IntKind) (a b:Int):gE .eql k a b=some (.bool (a == b)):=rfl
theorem ht (k:IntKind) (a b:Int):gE .neq k a b=some (.bool (a != b)):=rfl
theorem hv (k:IntKind) (a b:Int):gE .lss k a b=some (.bool (decide (a<b))):=rfl
theorem hx (k:IntKind) (a b:Int):gE .leq k a b=some (.bool (decide (a<=b))):=rfl
theorem hy (k:IntKind) (a b:Int):gE .gtr k a b=some (.bool (decide (a>b))):=rfl
theorem hz (k:IntKind) (a b:Int):gE .geq k a b=some (.bool (decide (a>=b))):=rfl
theorem Sw:IntKind.i64.bits=64:=rfl
theorem hA (a b:Nat):gE .and .u8 (Z a) (Z b)=some (.int .u8 (Z ((a&&&b)%256))):=congrArg (fun x=>some (I.int .u8 x)) (yJ (k:= .u8) rfl a b)
theorem hB (a b:Nat):gE .or .u8 (Z a) (Z b)=some (.int .u8 (Z ((a|||b)%256))):=congrArg (fun x=>some (I.int .u8 x)) (yI (k:= .u8) rfl a b)
theorem hC (a b:Nat):gE .xor .u8 (Z a) (Z b)=some (.int .u8 (Z ((a ^^^ b)%256))):=congrArg (fun x=>some (I.int .u8 x)) (yK (k:= .u8) rfl a b)
theorem hD (a b:Nat):fU .shr .u8 (Z a) (Z b)=some (.int .u8 (Z (a/2^min b 8))):=by
 simp only[fU,if_neg (eW b),eX,fG];rfl
theorem hE (a b:Nat):fU .shl .u8 (Z a) (Z b)=some (.int .u8 (Z (a*2^min b 8%256))):=by
 simp only[fU,if_neg (eW b),eX,qO (k:= .u8) rfl];rfl
theorem hF (a b:Nat):gE .and .u16 (Z a) (Z b)=some (.int .u16 (Z ((a&&&b)%65536))):=congrArg (fun x=>some (I.int .u16 x)) (yJ (k:= .u16) rfl a b)
theorem hG (a b:Nat):gE .or .u16 (Z a) (Z b)=some (.int .u16 (Z ((a|||b)%65536))):=congrArg (fun x=>some (I.int .u16 x)) (yI (k:= .u16) rfl a b)
theorem hH (a b:Nat):gE .xor .u16 (Z a) (Z b)=some (.int .u16 (Z ((a ^^^ b)%65536))):=congrArg (fun x=>some (I.int .u16 x)) (yK (k:= .u16) rfl a b)
theorem hI (a b:Nat):fU .shr .u16 (Z a) (Z b)=some (.int .u16 (Z (a/2^min b 16))):=by
 simp only[fU,if_neg (eW b),eX,fG];rfl
theorem hJ (a b:Nat):fU .shl .u16 (Z a) (Z b)=some (.int .u16 (Z (a*2^min b 16%65536))):=by
 simp only[fU,if_neg (eW b),eX,qO (k:= .u16) rfl];rfl
theorem hK (a b:Nat):gE .and .u32 (Z a) (Z b)=some (.int .u32 (Z ((a&&&b)%4294967296))):=congrArg (fun x=>some (I.int .u32 x)) (yJ (k:= .u32) rfl a b)
theorem hL (a b:Nat):gE .or .u32 (Z a) (Z b)=some (.int .u32 (Z ((a|||b)%4294967296))):=congrArg (fun x=>some (I.int .u32 x)) (yI (k:= .u32) rfl a b)
theorem hM (a b:Nat):gE .xor .u32 (Z a) (Z b)=some (.int .u32 (Z ((a ^^^ b)%4294967296))):=congrArg (fun x=>some (I.int .u32 x)) (yK (k:= .u32) rfl a b)
theorem hN (a b:Nat):fU .shr .u32 (Z a) (Z b)=some (.int .u32 (Z (a/2^min b 32))):=by
 simp only[fU,if_neg (eW b),eX,fG];rfl
theorem hO (a b:Nat):fU .shl .u32 (Z a) (Z b)=some (.int .u32 (Z (a*2^min b 32%4294967296))):=by
 simp only[fU,if_neg (eW b),eX,qO (k:= .u32) rfl];rfl
theorem hP (a b:Nat):gE .and .u64 (Z a) (Z b)=some (.int .u64 (Z ((a&&&b)%18446744073709551616))):=congrArg (fun x=>some (I.int .u64 x)) (yJ (k:= .u64) rfl a b)
theorem hQ (a b:Nat):gE .or .u64 (Z a) (Z b)=some (.int .u64 (Z ((a|||b)%18446744073709551616))):=congrArg (fun x=>some (I.int .u64 x)) (yI (k:= .u64) rfl a b)
theorem hR (a b:Nat):gE .xor .u64 (Z a) (Z b)=some (.int .u64 (Z ((a ^^^ b)%18446744073709551616))):=congrArg (fun x=>some (I.int .u64 x)) (yK (k:= .u64) rfl a b)
theorem hS (a b:Nat):fU .shr .u64 (Z a) (Z b)=some (.int .u64 (Z (a/2^min b 64))):=by
 simp only[fU,if_neg (eW b),eX,fG];rfl
theorem hT (a b:Nat):fU .shl .u64 (Z a) (Z b)=some (.int .u64 (Z (a*2^min b 64%18446744073709551616))):=by
 simp only[fU,if_neg (eW b),eX,qO (k:= .u64) rfl];rfl
theorem hU (a b:Nat):fU .shr .i64 (Z a) (Z b)=some (.int .i64 (Z (a/2^min b 64))):=by
 simp only[fU,if_neg (eW b),eX,fG];rfl
theorem hV {a b:Nat} (h:a*2^min b 64<9223372036854775808):fU .shl .i64 (Z a) (Z b)=some (.int .i64 (Z (a*2^min b 64))):=by
 have e:Z a*2^min b 64=Z (a*2^min b 64):=by simp only[Z];norm_cast
 simp only[fU,if_neg (eW b),eX,Sw,e,fq h]
theorem hW {a b:Nat} (aC:a<9223372036854775808):gE .and .i64 (Z a) (Z b)=some (.int .i64 (Z (a&&&b%18446744073709551616))):=by
 have U:(BitVec.ofInt 64 (Z a)&&&BitVec.ofInt 64 (Z b)).toNat=a&&&b%18446744073709551616:=by
  simp only[Z,BitVec.ofInt_natCast,BitVec.toNat_and,BitVec.toNat_ofNat];rw[Nat.mod_eq_of_lt (a:=a) (by omega)]
 show some (I.int .i64 (IntKind.i64.wrap (Z _)))=_
 rw[show (BitVec.ofInt IntKind.i64.bits (Z a)&&&BitVec.ofInt IntKind.i64.bits (Z b)).toNat=_ from U]
 rw[fq (Nat.lt_of_le_of_lt Nat.and_le_left aC)]
theorem hX:IntKind.i64.bits=64:=rfl
section
variable {G:Nat->Option I} {Φ:FuncId->Option aP} {tab:FuncId->Option (List I->Option I)} {Y:List cy}
def uc (id k:Nat) (ah:Nat->aK->Prop) (E R:aK->Prop):da->aK->Prop
 | .normal,s=>∃j,j<k/\ah j s
 | .exit i,s=>i=id/\E s
 | .ret,s=>R s
theorem hY (id k:Nat) (ah:Nat->aK->Prop) (E R:aK->Prop) (s:aK):uc id k ah E R .normal s=∃j,j<k/\ah j s:=rfl
theorem hZ (id k i:Nat) (ah:Nat->aK->Prop) (E R:aK->Prop) (s:aK):uc id k ah E R (.exit i) s=(i=id/\E s):=rfl
theorem h0 (id k:Nat) (ah:Nat->aK->Prop) (E R:aK->Prop) (s:aK):uc id k ah E R .ret s=R s:=rfl
theorem ln {id:Nat} {b:cU} {Q:da->aK->Prop} (ah:Nat->aK->Prop) (E R:aK->Prop) (k:Nat) {s:aK} (aF:ah k s) (round:∀k s,ah k s->a' G Φ tab Y b s (uc id k ah E R))
 (fin:∀s,E s->Q .normal s) (ret:∀s,R s->Q .ret s):a' G Φ tab Y (.block id (.loop b)) s Q:=by
 refine jA (Sq ah (fun k s pY=>(round k s pY).mono fun ex s1 h=>?_) k s aF)
 cases ex with
 | normal=>exact h
 | exit i=>obtain⟨rfl,h⟩:=h;simp only[qM,qN,if_true];exact fin _ h
 | ret=>exact ret _ h
theorem IN {a b:cU} {s:aK} {Q:da->aK->Prop} (K:aK->Prop) (h:a' G Φ tab Y a s (qM Q K)) (h2:∀s1,K s1->a' G Φ tab Y b s1 Q):a' G Φ tab Y (.seq a b) s Q:=
 ba (h.mono fun ex s1 aN=>by
  cases ex with
  | normal=>exact h2 _ aN
  | exit i=>exact aN
  | ret=>exact aN)
end
noncomputable def wg {A:Type} (pre:A->Prop) (enc:A->List I) (out:A->I):List I->Option I:=fun args=>
 open Classical in if h:∃a,pre a/\enc a=args then some (out (Classical.choose h)) else none
theorem ud {A:Type} {pre:A->Prop} {enc:A->List I} {out:A->I} {args:List I} {v:I} (h:wg pre enc out args=some v):∃a,pre a/\enc a=args/\out a=v:=by
 unfold wg at h
 split at h
 · rename_i ae
   cases h
   exact ⟨_,(Classical.choose_spec ae).1,(Classical.choose_spec ae).2,rfl⟩
 · cases h
theorem Sx {A:Type} {pre:A->Prop} {enc:A->List I} {out:A->I} (inj:∀a b,pre a->pre b->enc a=enc b->out a=out b) (a:A) (h:pre a):wg pre enc out (enc a)=some (out a):=by
 unfold wg
 have ae:∃b,pre b/\enc b=enc a:=⟨a,h,rfl⟩
 rw[dif_pos ae]
 obtain⟨U,h2⟩:=Classical.choose_spec ae
 rw[inj _ _ U h h2]
end Go.Eng
namespace Go.Eng
open Go Go.RowKit Go.ChangeShapes Go.WideShapes
inductive di where
 | int (k:IntKind)
 | bool
 | str
 | sl (e:di)
 | bQ (b2:List di)
mutual
def di.size:di->Nat
 | .bQ b2=>di.sa b2
 | _=>1
def di.sa:List di->Nat
 | []=>0
 | f::b2=>f.size+di.sa b2
end
def di.one (s:di) (cs:List I):I:=match s with
 | .bQ _=> .agg cs
 | _=>cs.headD .undef
def wh (P:Program) (cp:TypeId->Option di):Nat->List Field->Option (List di)
 | _,[]=>some []
 | o,f::b2=>if f.offset=o then (cp f.type).bind fun s=>if P.cellsOf f.type=s.size then (wh P cp (o+s.size) b2).map (s:: ·) else none else none
def shape (P:Program):Nat->TypeId->Option di
 | 0,_=>none
 | n+1,t=>match P.underlying t with
   | some .bool=>some .bool
   | some (.int k)=>some (.int k)
   | some .string=>some .str
   | some (.slice e)=>(shape P n e).bind fun s=>if P.cellsOf e=s.size/\0<s.size then some (.sl s) else none
   | some (.struct b2)=>(wh P (shape P n) 0 b2.toList).bind fun l=>if P.cellsOf t=di.sa l then some (.bQ l) else none
   | some (.array k e)=>(shape P n e).bind fun s=>if P.cellsOf e=s.size/\P.cellsOf t=k*s.size then some (.bQ (List.replicate k s)) else none
   | _=>none
def di.zero:di->List Value
 | .int k=>[.int k 0]
 | .bool=>[.bool false]
 | .str=>[.string ByteArray.empty]
 | .sl _=>[.slice none 0 0]
 | .bQ b2=>IP b2
where IP:List di->List Value
 | []=>[]
 | f::b2=>f.zero++IP b2
section
variable {H:Type}
mutual
def nD:di->List I->DataW H->Prop
 | .int k,cs,d=>∃n,cs= [.int k n]/\d= .lit (.int k n)/\(Lit.int k n).wf=true
 | .bool,cs,d=>∃b,cs= [.bool b]/\d= .lit (.bool b)
 | .str,cs,d=>∃s:ByteArray,cs= [.str s]/\d= .lit (.string s.data.toList)/\s.size<=maxLen
 | .sl e,cs,d=>∃xs,cs= [.sl xs false]/\xs.length<=maxLen/\
     ((d= .nil/\xs= [])\/∃cx rest,d= .slice cx rest/\cx.length=xs.length/\∀i (h:i<xs.length) (h':i<cx.length),∃cs,xs[i]=e.one cs/\cs.length=e.size/\nD e cs cx[i])
 | .bQ b2,cs,d=>∃cx,d= .agg cx/\ku b2 cs cx
def ku:List di->List I->List (DataW H)->Prop
 | [],cs,cx=>cs= []/\cx= []
 | f::b2,cs,cx=>∃a b d h1,cs=a++b/\cx=d::h1/\nD f a d/\ku b2 b h1
end
mutual
theorem nD.length:∀ {s:di} {cs:List I} {d:DataW H},nD s cs d->cs.length=s.size
 | .int k,_,_,h=>by obtain⟨n,rfl,_⟩:=h;rfl
 | .bool,_,_,h=>by obtain⟨n,rfl,_⟩:=h;rfl
 | .str,_,_,h=>by obtain⟨n,rfl,_⟩:=h;rfl
 | .sl e,_,_,h=>by obtain⟨n,rfl,_⟩:=h;rfl
 | .bQ b2,_,_,h=>by obtain⟨cx,_,h⟩:=h;exact ku.length h
theorem ku.length:∀ {s:List di} {cs:List I} {d:List (DataW H)},ku s cs d->cs.length=di.sa s
 | [],_,_,h=>by obtain⟨rfl,_⟩:=h;rfl
 | f::b2,_,_,h=>by
   obtain⟨a,b,d,h1,rfl,_,U,h2⟩:=h
   rw[List.length_append,U.length,h2.length];rfl
end
theorem di.CK {s:di} {cs:List I} {d:DataW H} (h:nD s cs d):(s.one cs).cells=cs:=by
 cases s with
 | int k=>obtain⟨n,rfl,_⟩:=h;rfl
 | bool=>obtain⟨n,rfl,_⟩:=h;rfl
 | str=>obtain⟨n,rfl,_⟩:=h;rfl
 | sl e=>obtain⟨n,rfl,_⟩:=h;rfl
 | bQ b2=>rfl
variable {enc:TypeId × Value->H} {P:Program} {w:World} {spare:Nat->Bool} {held:Bool} {ok:Nat->Prop}
def mq (w:World) (ok:Nat->Prop) (cs:List I) (vs:List Value):Prop:=
 vs.length=cs.length/\∀i (h:i<cs.length) (h':i<vs.length),dh w ok cs[i] vs[i]
theorem mq.append {a b:List I} {x y:List Value} (h:mq w ok a x) (k:mq w ok b y):mq w ok (a++b) (x++y):=by
 refine⟨by simp[h.1,k.1],fun i ab bS=>?_⟩
 by_cases J:i<a.length
 · rw[List.getElem_append_left J,List.getElem_append_left (by rw[h.1];exact J)]
   exact h.2 i J _
 · rw[List.getElem_append_right (by omega),List.getElem_append_right (by rw[h.1];omega)]
   simp only[h.1]
   exact k.2 (i - a.length) (by simp at ab;omega) _
theorem mq.one {a:I} {x:Value} (h:dh w ok a x):mq w ok [a] [x]:=
 ⟨rfl,fun i ab bS=>by
   have:i=0:=by simpa using ab
   subst this;exact h⟩
theorem IQ {cp:TypeId->Option di} {n:Nat} {cs:List Value}
 (cX:∀t s vs x,cp t=some s->DataW.trod enc P w 0 spare held n t vs=some x->∃as,nD s as x.1/\mq w ok as vs):
 ∀(b2:List Field) (o:Nat) (l:List di) (xs:List (DataW H × List MemPlace)),wh P cp o b2=some l->xs.length=b2.length->o+di.sa l=cs.length->
  (∀(i:Nat) (f:Field),b2[i]? =some f->DataW.trod enc P w 0 spare held n f.type ((cs.drop f.offset).take (P.cellsOf f.type))=xs[i]?)->
  ∃as,ku l as (xs.map (·.1))/\mq w ok as (cs.drop o)
 | [],o,l,xs,h,az,ay,ae=>by
   simp only[wh,Option.some.injEq] at h
   subst h
   obtain rfl:xs= []:=by simpa using az
   refine⟨[],⟨rfl,rfl⟩,?_,fun i ab=>by simp at ab⟩
   simp[di.sa] at ay|-;omega
 | f::b2,o,l,xs,h,az,ay,ae=>by
   simp only[wh] at h
   split at h<;>try(cases h;done)
   rename_i Sy
   obtain⟨s,aw,h⟩:=Option.bind_eq_some_iff.1 h
   split at h<;>try(cases h;done)
   rename_i J
   obtain⟨lD,qB,rfl⟩:=Option.map_eq_some_iff.1 h
   match xs,az with
   | x::xs,az=>
     have aF:=ae 0 f rfl
     simp only[List.getElem?_cons_zero] at aF
     obtain⟨as,ue,CL⟩:=cX _ _ _ _ aw aF
     simp only[di.sa] at ay
     obtain⟨rJ,k8,qP⟩:=IQ (cs:=cs) cX b2 (o+s.size) lD xs qB (by simpa using az) (by omega) (fun i f a_=>by simpa using ae (i+1) f (by simpa using a_))
     refine⟨as++rJ,⟨as,rJ,x.1,xs.map (·.1),rfl,by simp,ue,k8⟩,?_⟩
     have e:cs.drop o=(cs.drop f.offset).take (P.cellsOf f.type)++cs.drop (o+s.size):=by
      rw[Sy,J,<-List.drop_drop,List.take_append_drop]
     rw[e]
     exact CL.append qP
theorem IS {cp:di} {n:Nat} {e:TypeId} {cs:List Value}
 (cX:∀vs x,DataW.trod enc P w 0 spare held n e vs=some x->∃as,nD cp as x.1/\mq w ok as vs) (J:P.cellsOf e=cp.size):
 ∀(k o:Nat) (xs:List (DataW H × List MemPlace)),xs.length=k->(o+k)*cp.size=cs.length->
  (∀i,i<k->DataW.trod enc P w 0 spare held n e ((cs.drop ((o+i)*P.cellsOf e)).take (P.cellsOf e))=xs[i]?)->
  ∃as,ku (List.replicate k cp) as (xs.map (·.1))/\mq w ok as (cs.drop (o*cp.size))
 | 0,o,xs,az,ay,ae=>by
   obtain rfl:xs= []:=by simpa using az
   refine⟨[],⟨rfl,rfl⟩,?_,fun i ab=>by simp at ab⟩
   simp at ay|-;omega
 | k+1,o,xs,az,ay,ae=>by
   match xs,az with
   | x::xs,az=>
     have aF:=ae 0 (by omega)
     simp only[List.getElem?_cons_zero,Nat.add_zero] at aF
     obtain⟨as,ue,CL⟩:=cX _ _ aF
     obtain⟨rJ,k8,qP⟩:=IS (cs:=cs) cX J k (o+1) xs (by simpa using az) (by rw[<-ay];congr 1;omega) (fun i ab=>by
      have:=ae (i+1) (by omega)
      simp only[List.getElem?_cons_succ] at this
      rw[<-this]
      congr 3;congr 1;omega)
     refine⟨as++rJ,⟨as,rJ,x.1,xs.map (·.1),rfl,by simp,ue,k8⟩,?_⟩
     have e:cs.drop (o*cp.size)=(cs.drop (o*P.cellsOf e)).take (P.cellsOf e)++cs.drop ((o+1)*cp.size):=by
      rw[J,show (o+1)*cp.size=o*cp.size+cp.size by rw[Nat.add_mul];simp,<-List.drop_drop,List.take_append_drop]
     rw[e]
     exact CL.append qP
theorem IT (j2:∀b,b<w.heap.size->ok b):∀(m:Nat) (fuel:Nat) (t:TypeId) (s:di) (cs:List Value) (x:DataW H × List MemPlace),shape P m t=some s->
 DataW.trod enc P w 0 spare held fuel t cs=some x->∃as,nD s as x.1/\mq w ok as cs
 | 0,_,_,_,_,_,h,_=>by cases h
 | m+1,fuel,t,s,cs,x,h,ae=>by
   have a8:=IT j2 m
   unfold shape at h
   split at h
   · rename_i aL
     cases h
     obtain⟨b,rfl,rfl⟩:=DataW.trod_bool aL ae
     exact ⟨[.bool b],⟨b,rfl,rfl⟩,.one (.bool b)⟩
   · rename_i k aL
     cases h
     obtain⟨n,rfl,rfl,hw⟩:=DataW.trod_int aL ae
     exact ⟨[.int k n],⟨n,rfl,rfl,hw⟩,.one (.int k n)⟩
   · rename_i aL
     cases h
     obtain⟨z,rfl,rfl,hw⟩:=DataW.trod_string aL ae
     exact ⟨[.str z],⟨z,rfl,rfl,hw⟩,.one (.str z)⟩
   · rename_i e aL
     obtain⟨an,aw,h⟩:=Option.bind_eq_some_iff.1 h
     split at h<;>try(cases h;done)
     rename_i J
     cases h
     rcases DataW.trod_slice aL ae with⟨rfl,rfl⟩|⟨a,len,cap,elems,rest,n,_,rfl,rfl,ad,az,hm,hlen,kN,_,_⟩
     · refine⟨[.sl [] false],⟨[],rfl,by simp,.inl ⟨rfl,rfl⟩⟩,.one ?_⟩
       exact .sl [] false none 0 1 (fun _ _=> .nilFunc) (Nat.le_refl _) (fun h=>by cases h) (fun i ab=>by simp at ab) (fun i j ab=>by simp at ab) (fun h=>by simp at h) (fun i ab=>by simp at ab)
     · have each:∀i:Fin len,∃p:List Value × List I,w.cells? 0 (a.add (i.1*P.cellsOf e)) (P.cellsOf e)=some p.1/\mq w ok p.2 p.1/\∃h:i.1<elems.length,nD an p.2 (elems[i.1]).1:=by
        intro i
        have:=kN i.1 i.2
        rw[List.getElem?_eq_getElem (by rw[hlen];exact i.2)] at this
        obtain⟨vs,U,h2⟩:=Option.bind_eq_some_iff.1 this
        obtain⟨as,aC,aT⟩:=a8 _ _ _ _ _ aw h2
        exact ⟨(vs,as),U,aT,by rw[hlen];exact i.2,aC⟩
       let g:Fin len->List Value × List I:=fun i=>Classical.choose (each i)
       have aW:∀i:Fin len,w.cells? 0 (a.add (i.1*P.cellsOf e)) (P.cellsOf e)=some (g i).1/\mq w ok (g i).2 (g i).1/\∃h:i.1<elems.length,nD an (g i).2 (elems[i.1]).1:=fun i=>Classical.choose_spec (each i)
       refine⟨[.sl (List.ofFn fun i=>an.one (g i).2) false],⟨_,rfl,by simp;omega,.inr ⟨_,_,rfl,by simp[hlen],fun i ab bS=>?_⟩⟩,.one ?_⟩
       · simp only[List.length_ofFn] at ab
         obtain⟨_,_,he,a3⟩:=aW ⟨i,ab⟩
         exact ⟨(g ⟨i,ab⟩).2,by simp,a3.length,by simpa using a3⟩
       · have key:=dh.sl (w:=w) (ok:=ok) (List.ofFn fun i=>an.one (g i).2) false (some a) cap an.size
          (fun i j=>if h:i<len then (g ⟨i,h⟩).1.getD j .nilFunc else .nilFunc) (by simpa using az) (fun h=>by cases h)
          (fun i ab=>by
            simp only[List.length_ofFn] at ab
            obtain⟨_,_,he,a3⟩:=aW ⟨i,ab⟩
            simp only[List.getElem_ofFn]
            rw[di.CK a3,a3.length])
          (fun i j ab aA=>by
            simp only[List.length_ofFn] at ab
            obtain⟨U,_,_⟩:=aW ⟨i,ab⟩
            obtain⟨_,h2,aB⟩:=World.cells?_some U
            have:=aB j (by rw[J.1];exact aA)
            rw[List.getElem?_eq_getElem (by rw[h2,J.1];exact aA),Go.Addr.add_add] at this
            refine⟨a,rfl,?_,?_⟩
            · have nX:=World.block_lt_of_cell? w _ this
              rw[Addr.qw] at nX
              exact j2 _ nX
            · rw[show i*an.size+j=i*P.cellsOf e+j by rw[J.1]]
              rw[show w.cell? (a.add (i*P.cellsOf e+j))=_ from this]
              simp[ab,h2,J.1,aA])
          (fun _=>rfl)
          (fun i ab j aA=>by
            simp only[List.length_ofFn] at ab
            obtain⟨_,h2,he,a3⟩:=aW ⟨i,ab⟩
            simp only[List.getElem_ofFn,di.CK a3] at aA|-
            simp only[ab,dif_pos]
            have kd:j<(g ⟨i,ab⟩).1.length:=by rw[h2.1];exact aA
            rw[show (g ⟨i,ab⟩).1.getD j .nilFunc=(g ⟨i,ab⟩).1[j] by simp[List.getD,kd]]
            exact h2.2 j aA kd)
         simpa using key
   · rename_i b2 aL
     obtain⟨l,az,h⟩:=Option.bind_eq_some_iff.1 h
     split at h<;>try(cases h;done)
     rename_i J
     cases h
     obtain⟨xs,n,_,rfl,nr,pL,a_⟩:=DataW.trod_struct aL ae
     obtain⟨as,U,h2⟩:=IQ (ok:=ok) (cs:=cs) (fun t s vs x aw ae=>a8 _ _ _ _ _ aw ae) b2.toList 0 l xs az (by simpa using pL) (by rw[nr,J];omega) (fun i f ab=>a_ i f (by simpa using ab))
     exact ⟨as,⟨_,rfl,U⟩,by simpa using h2⟩
   · rename_i k e aL
     obtain⟨an,aw,h⟩:=Option.bind_eq_some_iff.1 h
     split at h<;>try(cases h;done)
     rename_i J
     cases h
     obtain⟨xs,n,_,rfl,nr,pL,a_⟩:=DataW.trod_array aL ae
     obtain⟨as,U,h2⟩:=IS (ok:=ok) (cs:=cs) (fun vs x ae=>a8 _ _ _ _ _ aw ae) J.1 k 0 xs pL (by rw[nr,J.2];simp) (fun i ab=>by simpa using a_ i ab)
     exact ⟨as,⟨_,rfl,U⟩,by simpa using h2⟩
   · cases h
end
section rows
variable {H:Type} {enc:TypeId × Value->H} {P:Program} {w:World} {spare:Nat->Bool} {held:Bool} {ok:Nat->Prop}
theorem Sz {s:di} {as:List I} {d:DataW H} {v:Value} (h:nD s as d) (al:(∃b2,s= .bQ b2)->∃cs,v= .agg cs) (ak:(∃cs,v= .agg cs)->∃b2,s= .bQ b2) (aT:mq w ok as v.cells.toList):dh w ok (s.one as) v:=by
 cases s with
 | bQ b2=>
   obtain⟨cs,rfl⟩:=al ⟨b2,rfl⟩
   exact .agg as cs (by simpa[Value.cells] using aT.1) fun i h h'=>by
    have:=aT.2 i h (by simpa[Value.cells] using h')
    simpa[Value.cells] using this
 | _=>
   have J:v.cells= #[v]:=by
    cases v<;>first|rfl|(obtain⟨b2,e⟩:=ak ⟨_,rfl⟩;cases e)
   have U:=h.length
   rw[J] at aT
   match as,U,aT with
   | [a],_,aT=>exact aT.2 0 (by simp) (by simp)
def lF (s:di) (a:I):Prop:=∃(H:Type) (as:List I) (d:DataW H),a=s.one as/\nD s as d
def sb:List di->List I->Prop
 | [],as=>as= []
 | s::ss,as=>∃a BB,as=a::BB/\lF s a/\sb ss BB
theorem SA {m:Nat} {t:TypeId} {s:di} {r:Reach} {b0:Nat} {v:Value} (h:shape P m t=some s) (al:Value.okWide P w r b0 t v):((∃b2,s= .bQ b2)->∃cs,v= .agg cs)/\((∃cs,v= .agg cs)->∃b2,s= .bQ b2):=by
 cases m with
 | zero=>cases h
 | succ m=>
   unfold shape at h
   split at h
   · rename_i aL;cases h
     obtain⟨b,rfl⟩:=okWide_bool aL al
     exact ⟨(by rintro ⟨b2,e⟩;cases e),(by rintro ⟨b2,e⟩;cases e)⟩
   · rename_i k aL;cases h
     obtain⟨b,rfl⟩:=okWide_int aL al
     exact ⟨(by rintro ⟨b2,e⟩;cases e),(by rintro ⟨b2,e⟩;cases e)⟩
   · rename_i aL;cases h
     obtain⟨b,rfl⟩:=okWide_string aL al
     exact ⟨(by rintro ⟨b2,e⟩;cases e),(by rintro ⟨b2,e⟩;cases e)⟩
   · rename_i e aL
     obtain⟨an,aw,h⟩:=Option.bind_eq_some_iff.1 h
     split at h<;>try(cases h;done)
     cases h
     obtain⟨a,b,c,rfl⟩:=okWide_slice aL al
     exact ⟨(by rintro ⟨b2,e⟩;cases e),(by rintro ⟨b2,e⟩;cases e)⟩
   · rename_i b2 aL
     obtain⟨an,aw,h⟩:=Option.bind_eq_some_iff.1 h
     split at h<;>try(cases h;done)
     cases h
     obtain⟨a,rfl,_⟩:=okWide_struct aL al
     exact ⟨fun _=>⟨_,rfl⟩,fun _=>⟨_,rfl⟩⟩
   · rename_i k e aL
     obtain⟨an,aw,h⟩:=Option.bind_eq_some_iff.1 h
     split at h<;>try(cases h;done)
     cases h
     have aC:∃cs,v= .agg cs:=by
      simp only[Value.okWide,aL] at al
      obtain⟨cs,U,_⟩:=al
      exact ⟨cs,U⟩
     exact ⟨fun _=>aC,fun _=>⟨_,rfl⟩⟩
   · cases h
theorem IU {r:Reach} {b0:Nat} (j2:∀b,b<w.heap.size->ok b) {m:Nat}:∀ {dB:List TypeId} {ss:List di} {vs:List Value} {cx:List (DataW H)} {ps:List MemPlace},dB.mapM (shape P m)=some ss->
 DataW.TrodAll enc P w 0 spare held dB vs cx ps->(∀(j:Nat) t v,dB[j]? =some t->vs[j]? =some v->Value.okWide P w r b0 t v)->
 ∃as,sb ss as/\vs.length=as.length/\∀i (h:i<as.length) (h':i<vs.length),dh w ok as[i] vs[i]
 | [],ss,vs,cx,ps,aw,h,_=>by
   obtain⟨rfl,rfl,rfl⟩:=trodAll_nil h
   obtain rfl: []=ss:=by simpa using aw
   exact ⟨[],rfl,rfl,fun i ab=>by simp at ab⟩
 | t::dB,ss,vs,cx,ps,aw,h,al=>by
   obtain⟨v,mh,d,h1,p,q,rfl,rfl,rfl,⟨fuel,aF⟩,U⟩:=trodAll_cons h
   rw[List.mapM_cons] at aw
   obtain⟨s,yL,aw⟩:=Option.bind_eq_some_iff.1 aw
   obtain⟨ag3,oH,aw⟩:=Option.bind_eq_some_iff.1 aw
   cases aw
   obtain⟨as,h2,aB,aS⟩:=IU j2 oH U (fun j SB j1 aL SC=>al (j+1) SB j1 (by simpa using aL) (by simpa using SC))
   obtain⟨cs,bY,bP⟩:=IT j2 _ _ _ _ _ _ yL aF
   obtain⟨jJ,dj⟩:=SA yL (al 0 t v rfl rfl)
   refine⟨s.one cs::as,⟨_,_,rfl,⟨H,cs,d,rfl,bY⟩,h2⟩,by simp[aB],fun i ab bS=>?_⟩
   cases i with
   | zero=>exact Sz bY jJ dj bP
   | succ i=>exact aS i _ _
theorem IV (az:laidOutB P=true) {aO:World} (ad:Below w.heap.size w aO):∀ {dB:List TypeId} {vs:List Value} {cx:List (DataW H)} {ps:List MemPlace},
 (dB.all fun t=>P.readableRec t&&decide (t<P.types.size))=true->
 DataW.TrodAll enc P w 0 (fun _=>true) true dB vs cx ps->DataW.TrodAll enc P aO 0 (fun b=>decide (b<w.heap.size)) true dB vs cx ps
 | [],vs,cx,ps,_,h=>by
   obtain⟨rfl,rfl,rfl⟩:=trodAll_nil h
   exact trodAll_mk0
 | t::dB,vs,cx,ps,aC,h=>by
   obtain⟨v,mh,d,h1,p,q,rfl,rfl,rfl,aF,U⟩:=trodAll_cons h
   simp only[List.all_cons,Bool.and_eq_true,decide_eq_true_eq] at aC
   obtain⟨m,hm⟩:=aF
   exact trodAll_cons_mk (Below.trod az aC.1.1 aC.1.2 ⟨m,hm⟩ ad (fun x ae=>DataW.trod_lt m _ _ _ hm x ae)) (IV az ad aC.2 U)
theorem lifted {C:Checked} {os:Os} {f:FuncId} {fn:Func} {s:ChangeSpec} {m:Nat} {ss:List di} {T:List I->Option I} {G:Nat->Option I} {X:World->Array Value->Prop} {IW:TypeId} {body:Code}
 (l4:∀(w aO:World) (args:Array Value),w.heap=aO.heap->X w args->X aO args)
 (own:ownKnob C.prog.godebug=none) (started:os.Started) (SD:C.prog.inits.idxOf? f=none) (mm:C.prog.funcs[f]? =some fn)
 (witness:∃(w:World) (tape:Tape) (i:Input),w.os=os/\(w.forCall tape i).Shaped C.prog/\i.vars= []/\Input.okWide C.prog (w.forCall tape i) .any w.heap.size f i/\
   ((s.pre enc C.prog fn [] false (w.forCall tape i).memory i.args/\X (w.forCall tape i).memory i.args)/\sizedMet enc C.prog fn (OpenSpec.ofChange s) false (w.forCall tape i).memory i.args)/\({}:Assume).holds C.prog (lone (Frame.enter C.prog f i.args .normal) [] (w.forCall tape i)))
 (az:laidOutB C.prog=true)
 (aw:fn.params.toList.mapM (shape C.prog m)=some ss) (SE:(fn.params.toList.all fun t=>C.prog.readableRec t&&decide (t<C.prog.types.size))=true)
 (SF:fn.body=some body) (Cs:fn.name≠ "runtime.NumGoroutine")
 (Cr:fn.resultTypes= #[IW]) (BK:C.prog.underlying IW=some .bool) (IX:s.vars= [])
 (CM:∀cx:List (DataW H),cx.length=fn.params.size->s.fn H cx= {results:=[.lit (.bool true)],args:=cx})
 (SG:∀W args,X W args->∀g u,G g=some u->a2 W (fun _=>True) (fun _=>none) (.eJ u) (.pointer (some ⟨g,0,none⟩)))
 (J:aG C.prog G f T) (ct:∀as,sb ss as->T as=some (.bool true)):
 ReturnsInHanded {} C os f .any (fun w args=>(s.pre enc C.prog fn [] false w args/\X w args)/\sizedMet enc C.prog fn (OpenSpec.ofChange s) false w args) (s.post enc C.prog fn false true false false):=by
 refine returnsInHanded_of_change_and l4 own started SD mm witness ?_
 intro W base args cx gs before lC lb _ _ ae _
 have SH:=lb
 obtain⟨p,q,a4,IY,rfl,ag4,oU⟩:=lb
 rw[IX] at IY
 obtain⟨rfl,rfl⟩:=trodVars_none IY
 obtain⟨as,U,h2,aB⟩:=IU (ok:=fun _=>True) (fun _ _=>trivial) aw a4 (fun j t v aL al=>lC j t v (by simpa using aL) (by simpa using al))
 have D:=J as _ (ct as U) (fun _=>True) W args (by simpa using h2) (fun i h h'=>by have:=aB i h (by simpa using h');rwa [Array.getElem_toList] at this) (SG W args ae)
 have CN:cx.length=fn.params.size:=by
  have:∀ {dB:List TypeId} {vs:List Value} {cx:List (DataW H)} {ps:List MemPlace},DataW.TrodAll enc C.prog W 0 (fun _=>true) true dB vs cx ps->cx.length=dB.length:=by
   intro dB
   induction dB with
   | nil=>intro vs cx ps h;obtain⟨_,rfl,_⟩:=trodAll_nil h;rfl
   | cons t dB a8=>
     intro vs cx ps h
     obtain⟨v,mh,d,h1,p,q,rfl,rfl,rfl,aF,U⟩:=trodAll_cons h
     simp[a8 U]
  simpa using this a4
 have fin:∀cv aO,dh aO (fun b=>True\/W.heap.size<=b) (.bool true) cv/\Below W.heap.size W aO->s.post enc C.prog fn false true false false W args cv aO:=by
  rintro cv aO ⟨aT,ad⟩
  cases aT
  refine⟨cx,[],_,[],p,[],SH,?_,?_,?_,ad.frame _,fun h=>by cases h⟩
  · rw[List.append_nil,CM cx CN,Cr]
    exact trodAll_mk1 (shut_bool BK _)
  · rw[List.append_nil,CM cx CN]
    exact IV az ad SE a4
  · rw[IX,List.append_nil,CM cx CN]
    rfl
 rcases D with⟨_,d2⟩|⟨cv,aO,d1,_⟩
 · refine d2.mono fun e aO ⟨cv,he,eH⟩=>⟨cv,he,fin cv aO eH⟩
 · have:=yt mm SF Cs args W
   rw[this] at d1
   cases d1
end rows
end Go.Eng
namespace Go.Eng
open Go Go.RowKit
theorem IZ {k:IntKind} {n:Int} (h:(Lit.int k n).wf=true):k.min<=n/\n<=k.max:=by
 simpa[Lit.wf] using h
theorem SI {k:IntKind} {a:I} (h:lF (.int k) a):∃n:Int,a= .int k n/\k.min<=n/\n<=k.max:=by
 obtain⟨H,zs,d,rfl,n,rfl,_,hw⟩:=h
 exact ⟨n,rfl,(IZ hw).1,(IZ hw).2⟩
theorem SJ {a:I} (h:lF .bool a):∃b,a= .bool b:=by
 obtain⟨H,zs,d,rfl,b,rfl,_⟩:=h
 exact ⟨b,rfl⟩
theorem I0 {e:di} {a:I} (h:lF (.sl e) a):∃xs,a= .sl xs false/\xs.length<=maxLen/\∀x∈xs,lF e x:=by
 obtain⟨H,zs,d,rfl,xs,rfl,hm,a3⟩:=h
 refine⟨xs,rfl,hm,fun x ae=>?_⟩
 rcases a3 with⟨_,rfl⟩|⟨cx,rest,_,az,SK⟩
 · cases ae
 · obtain⟨i,ab,rfl⟩:=List.mem_iff_getElem.1 ae
   obtain⟨cs,U,_,h2⟩:=SK i ab (by omega)
   exact ⟨H,cs,_,U,h2⟩
theorem I1 {b2:List di} {a:I} (h:lF (.bQ b2) a):∃(H:Type) (cs:List I) (cx:List (DataW H)),a= .agg cs/\ku b2 cs cx:=by
 obtain⟨H,zs,d,rfl,cx,rfl,a3⟩:=h
 exact ⟨H,zs,cx,rfl,a3⟩
theorem SL {a:I} (h:lF (.int .u32) a):∃n,a= .int .u32 (Z n)/\n<4294967296:=by
 obtain⟨n,rfl,U,h2⟩:=SI h
 simp[IntKind.min,IntKind.max,IntKind.signed,IntKind.bits] at U h2
 obtain⟨n,rfl⟩:=Int.eq_ofNat_of_zero_le U
 exact ⟨n,rfl,by omega⟩
theorem SM {a:I} (h:lF (.sl (.int .u32)) a):∃l:List Nat,a= .sl (l.map fun n=> .int .u32 (Z n)) false/\l.length<=maxLen/\∀x∈l,x<4294967296:=by
 obtain⟨xs,rfl,hm,ae⟩:=I0 h
 have:∃l:List Nat,xs=l.map (fun n=> .int .u32 (Z n))/\∀x∈l,x<4294967296:=by
  clear hm h
  induction xs with
  | nil=>exact ⟨[],rfl,fun x ae=>by cases ae⟩
  | cons x xs a8=>
    obtain⟨n,rfl,ak⟩:=SL (ae x (by simp))
    obtain⟨l,rfl,az⟩:=a8 (fun y aQ=>ae y (by simp[aQ]))
    exact ⟨n::l,rfl,fun y aQ=>by
     rcases List.mem_cons.1 aQ with rfl|aQ
     · exact ak
     · exact az y aQ⟩
 obtain⟨l,rfl,az⟩:=this
 exact ⟨l,rfl,by simpa using hm,az⟩
theorem SN {H:Type} {f:di} {b2:List di} {cs:List I} {cx:List (DataW H)} (h:ku (f::b2) cs cx):∃(a b:List I) (h1:List (DataW H)),cs=a++b/\lF f (f.one a)/\(f.one a).cells=a/\ku b2 b h1:=by
 obtain⟨a,b,d,h1,rfl,_,U,h2⟩:=h
 exact ⟨a,b,h1,rfl,⟨H,a,d,rfl,U⟩,di.CK U,h2⟩
theorem CO {H:Type} {cs:List I} {cx:List (DataW H)} (h:ku [] cs cx):cs= []:=h.1
theorem CP {s:di} {ss:List di} {l:List I} (h:sb (s::ss) l):∃a lD,l=a::lD/\lF s a/\sb ss lD:=h
theorem SO {l:List I} (h:sb [] l):l= []:=h
end Go.Eng
namespace Go.Eng
open Go Go.RowKit
mutual
def I.loose:I->I
 | .sl xs _=> .sl (kS xs) false
 | .agg cs=> .agg (kS cs)
 | .bL vs=> .bL (kS vs)
 | v=>v
def kS:List I->List I
 | []=>[]
 | v::vs=>v.loose::kS vs
end
theorem p0:∀l:List I,kS l=l.map I.loose
 | []=>rfl
 | v::l=>by simp only[kS,List.map_cons,p0 l]
theorem fh:kS []= []:=rfl
theorem eY (v:I) (l:List I):kS (v::l)=v.loose::kS l:=rfl
theorem dv (xs:List I) (e:Bool):(I.sl xs e).loose= .sl (kS xs) false:=by simp only[I.loose]
theorem e8 (xs:List I):(I.agg xs).loose= .agg (kS xs):=by simp only[I.loose]
theorem gu (xs:List I):(I.bL xs).loose= .bL (kS xs):=by simp only[I.loose]
theorem fQ (k:IntKind) (n:Int):(I.int k n).loose= .int k n:=by simp only[I.loose]
theorem e9 (b:Bool):(I.bool b).loose= .bool b:=by simp only[I.loose]
theorem gv (b:ByteArray):(I.str b).loose= .str b:=by simp only[I.loose]
theorem gw:I.nilfn.loose= .nilfn:=by simp only[I.loose]
theorem gx (m:List (Int × FuncId)):(I.mp m).loose= .mp m:=by simp only[I.loose]
theorem SP (f:FuncId) (a b:List I):(I.fn f a b).loose= .fn f a b:=by simp only[I.loose]
theorem CQ (v:I):v.loose.cells=v.cells.map I.loose:=by
 cases v<;>simp[I.loose,I.cells,p0]
theorem dh.loose {w:World} {ok:Nat->Prop} {v:I} {cv:Value} (h:dh w ok v cv):dh w ok v.loose cv:=by
 induction h with
 | int k n=>rw[fQ];exact .int k n
 | bool b=>rw[e9];exact .bool b
 | str s=>rw[gv];exact .str s
 | nilfn=>rw[gw];exact .nilfn
 | fn f=>rw[SP];exact .fn f
 | mp m r es clock U h2 aB aS=>rw[gx];exact .mp m r es clock U h2 aB aS
 | sl xs ex A c sz d_ U h2 aB aS ck ep a8=>
   rw[dv,p0]
   have R:=dh.sl (w:=w) (ok:=ok) (xs.map I.loose) false A c sz d_ (by simpa using U) (fun h=>by cases h) (fun i h=>by
    have ab:i<xs.length:=by simpa using h
    rw[List.getElem_map,CQ,List.length_map];exact aB i ab) (fun i j ab aA=>aS i j (by simpa using ab) aA) (fun aE=>ck (by simpa using aE)) (fun i ab j aA=>by
    have bS:i<xs.length:=by simpa using ab
    have kd:j<xs[i].cells.length:=by
     rw[List.getElem_map,CQ,List.length_map] at aA;exact aA
    have e:((xs.map I.loose)[i]'ab).cells[j]=(xs[i].cells[j]).loose:=by
     simp[CQ]
    rw[e]
    exact a8 i bS j kd)
   simpa using R
 | agg cs vs az h a8=>
   rw[e8,p0]
   refine .agg _ vs (by simpa using az) fun i ab bS=>?_
   rw[List.getElem_map]
   exact a8 i (by simpa using ab) bS
 | bL cs vs az h a8=>
   rw[gu,p0]
   refine .bL _ vs (by simpa using az) fun i ab bS=>?_
   rw[List.getElem_map]
   exact a8 i (by simpa using ab) bS
theorem SQ {P:Program} {G:Nat->Option I} {f:FuncId} {T I2:List I->Option I} (h:aG P G f T) (ct:∀args v,I2 args=some v->∃j1,T (args.map I.loose)=some j1/\j1.loose=v):aG P G f I2:=by
 intro args v al ok w dd cW e7 pT
 obtain⟨j1,U,rfl⟩:=ct args v al
 have D:=h _ _ U ok w dd (by simpa using cW) (fun i ab bS=>by
  rw[List.getElem_map]
  exact (e7 i (by simpa using ab) bS).loose) pT
 rcases D with⟨d1,d2⟩|⟨cv,aO,d1,d2,d3⟩
 · exact .inl ⟨d1,d2.mono fun e aO ⟨cv,he,eH,ad⟩=>⟨cv,he,eH.loose,ad⟩⟩
 · exact .inr ⟨cv,aO,d1,d2.loose,d3⟩
def gf (res:List mg) (v:I) (ex:da) (s:aK):Prop:=
 (match ex with
  | .exit _=>False
  | _=>True)/\((dZ s.h s.F res).bind fun u=>(js s.h u).map fun p=>p.1.loose)=some v
theorem SR {G:Nat->Option I} {Φ:FuncId->Option aP} {tab:FuncId->Option (List I->Option I)} {f:FuncId} {fn:aP} (a_:Φ f=some fn) {args:List I} {v:I} (h:a' G Φ tab [] fn.body ⟨ec args,aF⟩ (gf fn.res v)):
 ∃j1,j1.loose=v/\∃n,mi G Φ tab n f args=some j1:=by
 obtain⟨n,ex,an,e,c7,c8⟩:=h
 obtain⟨u,hu,c8⟩:=Option.bind_eq_some_iff.1 c8
 obtain⟨p,aE,rfl⟩:=Option.map_eq_some_iff.1 c8
 refine⟨p.1,rfl,n,?_⟩
 unfold mi xV
 simp only[a_,e]
 cases ex with
 | exit i=>exact c7.elim
 | normal=>simp only[hu,Option.map_some,Option.bind_some,aE]
 | ret=>simp only[hu,Option.map_some,Option.bind_some,aE]
noncomputable def a7 {A:Type} (pre:A->Prop) (enc:A->List I) (out:A->I):List I->Option I:=fun args=>wg pre enc out (args.map I.loose)
theorem bk {A:Type} {pre:A->Prop} {enc:A->List I} {out:A->I} (inj:∀a b,enc a=enc b->out a=out b) (a:A) (h:pre a) {args:List I} (he:args.map I.loose=enc a):a7 pre enc out args=some (out a):=by
 unfold a7
 rw[he]
 exact Sx (fun a b _ _ h=>inj a b h) a h
theorem bj {P:Program} {G:Nat->Option I} {tab:FuncId->Option (List I->Option I)} (hm:P.follows .mixedOrders=true) (la:∀f T,tab f=some T->aG P G f T) {f:FuncId} {fn:aP} (a_:aH P f=some fn)
 {A:Type} {pre:A->Prop} {enc:A->List I} {out:A->I} (h:∀a,pre a->a' G (aH P) tab [] fn.body ⟨ec (enc a),aF⟩ (gf fn.res (out a))):aG P G f (a7 pre enc out):=by
 have J:aG P G f (fun args=>open Classical in if h:∃v,∃n,mi G (aH P) tab n f args=some v then some (Classical.choose h) else none):=
  yC hm la fun args v ct=>by
   split at ct
   · rename_i ae
     cases ct
     exact Classical.choose_spec ae
   · cases ct
 refine SQ J fun args v ct=>?_
 obtain⟨a,U,h2,rfl⟩:=ud ct
 obtain⟨j1,aB,n,aS⟩:=SR a_ (h a U)
 rw[<-h2]
 have ae:∃v,∃n,mi G (aH P) tab n f (enc a)=some v:=⟨j1,n,aS⟩
 refine⟨j1,?_,aB⟩
 rw[dif_pos ae]
 congr 1
 obtain⟨m,ck⟩:=Classical.choose_spec ae
 have mono:∀ {n m:Nat} {v:I},n<=m->mi G (aH P) tab n f (enc a)=some v->mi G (aH P) tab m f (enc a)=some v:=by
  intro n m v mY al
  unfold mi at al|-
  obtain⟨p,U,h2⟩:=Option.bind_eq_some_iff.1 al
  rw[CC] at U
  have:=wc (Y:=[]) mY (.fn f) (enc a) aF p U
  rw[CC,show kh G (aH P) tab m [] f (enc a) aF=some p from this]
  exact h2
 have a1:=mono (Nat.le_max_left n m) aS
 have eG:=mono (Nat.le_max_right n m) ck
 rw[a1] at eG
 exact (Option.some.inj eG).symm
theorem h3 (k:IntKind):I.int k 0=I.int k (Z 0):=rfl
theorem gg (k:IntKind):I.int k 1=I.int k (Z 1):=rfl
theorem h4 (h:ai) (k:IntKind) (n:Int):dz h (.int k n)=some (.int k n,[]):=rfl
theorem h5 (h:ai) (k:IntKind) (n:Int):gF h (.int k n)=dz h (.int k n):=rfl
theorem h6 (h:ai) (k:IntKind) (n:Int):js h (.int k n)=dz h (.int k n):=rfl
theorem h7 (h:ai) (b:Bool):dz h (.bool b)=some (.bool b,[]):=rfl
theorem h8 (h:ai) (b:Bool):gF h (.bool b)=dz h (.bool b):=rfl
theorem h9 (h:ai) (b:Bool):js h (.bool b)=dz h (.bool b):=rfl
theorem h_ (h:ai) (b:ByteArray):dz h (.str b)=some (.str b,[]):=rfl
theorem ia (h:ai) (b:ByteArray):gF h (.str b)=dz h (.str b):=rfl
theorem ib (h:ai) (b:ByteArray):js h (.str b)=dz h (.str b):=rfl
theorem ic (h:ai) (xs:List I) (e:Bool):dz h (.sl xs e)=some (.sl xs e,[]):=rfl
theorem ie (h:ai) (xs:List I) (e:Bool):gF h (.sl xs e)=dz h (.sl xs e):=rfl
theorem ig (h:ai) (xs:List I) (e:Bool):js h (.sl xs e)=dz h (.sl xs e):=rfl
theorem gh (h:ai) (i o l c:Nat):dz h (.ref i o l c)=match h.cells i with
 | some blk=>if o+l<=blk.length/\(blk.all I.ei)=true then some (.sl ((blk.drop o).take l) false,[i]) else none
 | none=>none:=rfl
theorem ih (h:ai) (i o l c:Nat):gF h (.ref i o l c)=dz h (.ref i o l c):=rfl
theorem ij (h:ai) (i o l c:Nat):js h (.ref i o l c)=dz h (.ref i o l c):=rfl
theorem ik (h:ai):dz h (.nilfn)=some (.nilfn,[]):=rfl
theorem il (h:ai):gF h (.nilfn)=dz h (.nilfn):=rfl
theorem im (h:ai):js h (.nilfn)=dz h (.nilfn):=rfl
theorem iq (h:ai) (m:List (Int × FuncId)):dz h (.mp m)=some (.mp m,[]):=rfl
theorem ir (h:ai) (m:List (Int × FuncId)):gF h (.mp m)=dz h (.mp m):=rfl
theorem iu (h:ai) (m:List (Int × FuncId)):js h (.mp m)=dz h (.mp m):=rfl
theorem iv (h:ai) (f:FuncId) (x y:List I):dz h (.fn f x y)=none:=rfl
theorem iw (h:ai) (f:FuncId) (x y:List I):gF h (.fn f x y)=dz h (.fn f x y):=rfl
theorem ix (h:ai) (f:FuncId) (x y:List I):js h (.fn f x y)=dz h (.fn f x y):=rfl
theorem iy (h:ai) (i j k:Nat):dz h (.ptr i j k)=none:=rfl
theorem iz (h:ai) (i j k:Nat):gF h (.ptr i j k)=dz h (.ptr i j k):=rfl
theorem iA (h:ai) (i j k:Nat):js h (.ptr i j k)=dz h (.ptr i j k):=rfl
theorem iB (h:ai) (v:I):dz h (.eJ v)=none:=rfl
theorem iC (h:ai) (v:I):gF h (.eJ v)=dz h (.eJ v):=rfl
theorem iD (h:ai) (v:I):js h (.eJ v)=dz h (.eJ v):=rfl
theorem iE (h:ai):dz h (.undef)=none:=rfl
theorem iF (h:ai):gF h (.undef)=dz h (.undef):=rfl
theorem iG (h:ai):js h (.undef)=dz h (.undef):=rfl
theorem iH (h:ai) (cs:List I):gF h (.agg cs)=(eE h cs).map fun(jr,a)=>(.agg jr,a):=rfl
theorem iI (h:ai) (cs:List I):js h (.agg cs)=(eE h cs).map fun(jr,a)=>(.agg jr,a):=rfl
theorem iJ (h:ai) (cs:List I):js h (.bL cs)=(eo h cs).map fun(jr,a)=>(.bL jr,a):=rfl
def kv (r sz bytes:Nat) (h:ai) (x y:I):Option (I × ai × dN):=(elems h y).bind fun ys=>
    if 0<sz/\0<bytes/\(ys.all fun e=>e.cells.length == sz&&e.cells.all I.cb)=true then
     match x with
     | .sl xs ex=>if ys.length=0 then some (.sl xs ex,h,if kl y then .pure else .wr) else if ex=true/\(xs.length+ys.length)*bytes<=35184372088832/\0<ys.length/\(xs.all fun e=>e.cells.length == sz)=true
         then some (.ref r 0 (xs.length+ys.length) (xs.length+ys.length),h.new r (xs++ys),if kl y then .jb else .wr) else none
     | .ref id off len cap=>if ys.length=0 then some (.ref id off len cap,h,if kl y then .pure else .wr) else if h.shut id=true then none else (h.cells id).bind fun blk=>
         if off+len<=blk.length/\(len+ys.length)*bytes<=35184372088832/\0<ys.length/\(blk.all fun e=>e.cells.length == sz)=true then
          if len+ys.length<=cap then
           if off+cap<=blk.length then some (.ref id off (len+ys.length) cap,h.new id (blk.take (off+len)++ys++blk.drop (off+len+ys.length)),.wr) else none
          else if off=0/\0<len then some (.ref r 0 (len+ys.length) (len+ys.length),{h with cells:=ar (ar h.cells id none) r (some (blk.take len++ys))},.wr) else none
         else none
     | _=>none
    else none
theorem iK (aZ r:Nat) (a6:aR->I) (h:ai) (sz bytes:Nat) (x y:aR):evalOp aZ r a6 h (.app sz bytes x y)=kv r sz bytes h (a6 x) (a6 y):=by rfl
def bD (sz:Nat) (h:ai) (v:I) (xs:List I):Prop:=
 (∀j,h.next<=j->h.shut j=false)/\
 ((xs= []/\v= .sl [] true)\/(0<xs.length/\∃q,v= .ref q 0 xs.length xs.length/\h.cells q=some xs/\h.shut q=false/\q<h.next/\(xs.all fun e=>e.cells.length == sz)=true))
def kT (r:Nat) (h:ai) (v:I) (zs:List I):ai:=match v with
 | .ref q _ _ _=>{h with cells:=ar (ar h.cells q none) r (some zs)}
 | _=>h.new r zs
def CR (v:I):dN:=match v with
 | .ref .. => .wr
 | _=> .jb
theorem gy (r:Nat) (h:ai) (v:I) (zs:List I):(kT r h v zs).cells r=some zs:=by
 unfold kT;split<;>simp[ai.new,ar]
theorem iL (r:Nat) (h:ai) (v:I) (zs:List I):(kT r h v zs).next=h.next:=by
 unfold kT;split<;>rfl
theorem iM (r:Nat) (h:ai) (v:I) (zs:List I):(kT r h v zs).shut=h.shut:=by
 unfold kT;split<;>rfl
theorem iN (r:Nat) (h:ai) (v:I) (zs:List I):(kT r h v zs).aU=h.aU:=by
 unfold kT;split<;>rfl
theorem SS {r:Nat} {h:ai} {v:I} {zs:List I} {q:Nat} (U:q≠r) (h2:∀a b c,v≠ .ref q a b c):(kT r h v zs).cells q=h.cells q:=by
 unfold kT
 split
 · rename_i mU a b c
   have:q≠mU:=fun e=>h2 a b c (by rw[e])
   simp[ar,U,this]
 · simp[ai.new,ar,U]
theorem qQ {sz:Nat} {h:ai} {v:I} {xs:List I} (SU:bD sz h v xs) (cW:0<sz) {bytes:Nat} (ad:0<bytes) {ys:List I} (eL:0<ys.length) (aQ:(ys.all fun e=>e.cells.length == sz&&e.cells.all I.cb)=true)
 (az:(xs.length+ys.length)*bytes<=35184372088832) (m r:Nat) (e:Bool):
 kv r sz bytes ⟨h.cells,h.shut,m,h.aU⟩ v (.sl ys e)=some (.ref r 0 (xs.length+ys.length) (xs.length+ys.length),kT r ⟨h.cells,h.shut,m,h.aU⟩ v (xs++ys),CR v):=by
 have aF:¬ys.length=0:=by omega
 unfold kv
 simp only[elems,Option.bind_some,if_pos (And.intro cW (And.intro ad aQ))]
 rcases SU.2 with⟨rfl,rfl⟩|⟨U,q,rfl,h2,aB,aS,ck⟩
 · simp only[if_neg aF,kl,if_true]
   rw[if_pos ⟨trivial,az,eL,rfl⟩]
   rfl
 · have ep:¬xs.length+ys.length<=xs.length:=by omega
   simp only[if_neg aF,aB,Bool.false_eq_true,if_false,h2,Option.bind_some]
   rw[if_pos ⟨by omega,az,eL,ck⟩,if_neg ep,if_pos ⟨trivial,U⟩]
   simp only[List.take_length,kT,CR]
theorem bD.mono {sz:Nat} {h h':ai} {v:I} {xs:List I} (o:bD sz h v xs) (J:∀q,q<h.next->h'.cells q=h.cells q) (aw:∀q,h'.shut q=h.shut q) (ak:h.next<=h'.next):bD sz h' v xs:=by
 refine⟨fun j aA=>by rw[aw];exact o.1 j (by omega),?_⟩
 rcases o.2 with o|⟨U,q,h2,aB,aS,ck,ep⟩
 · exact .inl o
 · exact .inr ⟨U,q,h2,by rw[J q ck];exact aB,by rw[aw q];exact aS,by omega,ep⟩
theorem bD.bump {sz:Nat} {h:ai} {v:I} {xs:List I} (o:bD sz h v xs) (m:Nat) (hm:h.next<=m):bD sz ⟨h.cells,h.shut,m,h.aU⟩ v xs:=o.mono (fun _ _=>rfl) (fun _=>rfl) hm
theorem bD.nil {sz:Nat} {h:ai} (aw:∀j,h.next<=j->h.shut j=false):bD sz h (.sl [] true) []:=⟨aw,.inl ⟨rfl,rfl⟩⟩
theorem bD.app {sz:Nat} {h:ai} {v:I} {xs:List I} (o:bD sz h v xs) {ys:List I} (eL:0<ys.length) (aQ:(ys.all fun e=>e.cells.length == sz)=true) (m mL r:Nat) (p ny:Nat->Option fu) (aT:h.next<=r) (hm:r<mL):
 bD sz ⟨(kT r ⟨h.cells,h.shut,m,p⟩ v (xs++ys)).cells,h.shut,mL,ny⟩ (.ref r 0 (xs.length+ys.length) (xs.length+ys.length)) (xs++ys):=by
 refine⟨fun j aA=>o.1 j (Nat.le_trans (Nat.le_trans aT (Nat.le_of_lt hm)) aA),.inr ⟨by simp;omega,r,by simp,gy ..,o.1 r aT,hm,?_⟩⟩
 rw[List.all_append,aQ]
 rcases o.2 with⟨rfl,_⟩|⟨_,_,_,_,_,_,ep⟩
 · rfl
 · rw[ep];rfl
theorem bD.other {sz:Nat} {h:ai} {v:I} {xs:List I} (o:bD sz h v xs) {m:Nat} {p:Nat->Option fu} {r q:Nat} {zs:List I} (U:q≠r) (h2:∀a b c,v≠ .ref q a b c):(kT r ⟨h.cells,h.shut,m,p⟩ v zs).cells q=h.cells q:=SS U h2
theorem bD.out {sz:Nat} {h:ai} {v:I} {xs:List I} (o:bD sz h v xs) (ad:(xs.all I.ei)=true):∃ids,∀m p,gF ⟨h.cells,h.shut,m,p⟩ v=some (.sl xs (decide (xs= [])),ids)/\js ⟨h.cells,h.shut,m,p⟩ v=some (.sl xs (decide (xs= [])),ids)/\dz ⟨h.cells,h.shut,m,p⟩ v=some (.sl xs (decide (xs= [])),ids):=by
 rcases o.2 with⟨rfl,rfl⟩|⟨U,q,rfl,aB,aS,ck,ep⟩
 · exact ⟨[],fun m p=>⟨rfl,rfl,rfl⟩⟩
 · refine⟨[q],fun m p=>?_⟩
   have:xs≠ []:=by rintro rfl;simp at U
   simp only[gF,dz,js,aB]
   rw[if_pos ⟨by omega,ad⟩]
   simp[this]
theorem bD.len {sz:Nat} {h:ai} {v:I} {xs:List I} (o:bD sz h v xs) (aZ r:Nat) (a6:aR->I) (h':ai) (x:aR) (ae:a6 x=v):evalOp aZ r a6 h' (.len false x)=some (.int .i64 xs.length,h',.pure):=by
 rcases o.2 with⟨rfl,rfl⟩|⟨U,q,rfl,aB,aS,ck,ep⟩<;>simp[evalOp,ae]
section hand
variable {P:Program} {ops:Array Oper} {Q:Exit->Act->World->Prop} {a:Act} {w aO:World} {rest:List Oper} {o:Oper}
end hand
end Go.Eng
