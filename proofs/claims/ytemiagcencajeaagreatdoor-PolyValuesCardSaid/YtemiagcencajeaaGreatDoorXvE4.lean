import Derived.Test.YtemiagcencajeaaGreatDoorXvE3
import Derived.ProofKit
import Derived.DataElems
import Derived.LaidMore
import Derived.OpenShut
import Derived.Handed
import Derived.LaidLaws
import Derived.MakeChecks
import Derived.Tactics
set_option linter.unusedSimpArgs false
set_option linter.unusedVariables false
set_option linter.unusedSectionVars false
namespace Go.Eng
open Go Go.RowKit
abbrev ml:=kV->List I->ah->Option (I × ah)
def sL (a b:ml):Prop:=∀f args h r,a f args h=some r->b f args h=some r
section
variable {G:Nat->Option I} {Φ:FuncId->Option aP} {tab:FuncId->Option (List I->Option I)} {Y:List cy}
theorem JG {a b:ml} (fJ:sL a b) {aZ r:Nat} {e:aU} {s:aL} {x:aL × eb} (h:cW G tab a aZ r e s=some x):cW G tab b aZ r e s=some x:=by
 unfold cW at h|-
 split at h
 · split at h<;>try(cases h;done)
   · rename_i n first caps bc
     try simp only
     split at h
     · rename_i T cA
       try simp only[cA]
       exact h
     · rename_i cA
       try simp only[cA]
       obtain⟨p,aF,h⟩:=Option.map_eq_some_iff.1 h
       rw[fJ _ _ _ _ aF];exact congrArg some h
   · obtain⟨p,aF,h⟩:=Option.map_eq_some_iff.1 h
     try simp only
     rw[fJ _ _ _ _ aF];exact congrArg some h
 · exact h
theorem JH {a b:ml} (fJ:sL a b) {aZ r:Nat} {e:aU} {s:aL} {x:aL × eb} (h:cx G tab a aZ r e s=some x):cx G tab b aZ r e s=some x:=by
 unfold cx at h|-
 split at h
 · exact JG fJ h
 · split at h
   · split at h
     · rename_i ad
       simp only[if_pos ad]
       exact JG fJ h
     · rename_i ad
       simp only[if_neg ad];exact h
   · exact h
   · cases h
theorem DT {a b:ml} (fJ:sL a b) {aZ:Nat}:∀ {L:List (aU × Nat)} {s:aL} {x:aL × List eb},cR G tab a aZ L s=some x->cR G tab b aZ L s=some x
 | [],s,x,h=>h
 | (e,i)::L,s,x,h=>by
   simp only[cR] at h|-
   split at h<;>try(cases h;done)
   rename_i s1 c U
   rw[JH fJ U]
   simp only
   obtain⟨p,aF,h⟩:=Option.map_eq_some_iff.1 h
   rw[DT fJ aF];exact congrArg some h
theorem TL {a b:ml} (fJ:sL a b) {ku:Bool} {ops:List aU} {e3:List Nat} {s ar:aL} (h:ej G tab a ku ops e3 s=some ar):ej G tab b ku ops e3 s=some ar:=by
 unfold ej at h|-
 split at h<;>try(cases h;done)
 rename_i s1 cs U
 rw[DT fJ U];exact h
theorem DU {n:Nat} {f:FuncId} {args:List I} {h:ah} {v:I} {fn:aP} {ex:dd} {ar:aL} (bc:Φ f=some fn) (he:exec G Φ tab n Y fn.body ⟨dM args,h⟩=some (ex,ar)) (hex:ex= .normal\/ex= .ret) (al:dE ar.h ar.F fn.res=some v):
 kv G Φ tab n Y f args h=some (v,ar.h):=by
 unfold kv
 rw[bc]
 rcases hex with rfl|rfl<;>simp only[he,al,Option.map_some]
theorem w_ {n id:Nat} {args:List I} {h h':ah} {v:I} {L:cy} {Y':List cy} {s1:aL} {ex:dd} {ar:aL} (bh:oe id Y=some (L,Y')) (hlen:L.ps.length=args.length) (U:exec G Φ tab n Y' L.dL ⟨nc L.F L.ps args,h⟩=some (.normal,s1))
 (aF:s1.h.aV id=some .ready) (h2:exec G Φ tab n Y' L.body ⟨s1.F,s1.h.set id (some .busy)⟩=some (ex,ar)) (ad:ar.h.aV id=some .busy)
 (aB:(ex= .normal/\v= .bool true/\h'=ar.h.set id (some .ready))\/(ex≠ .normal/\v= .bool false/\h'=ar.h.set id (some (.done ex)))):ow G Φ tab n Y id args h=some (v,h'):=by
 unfold ow
 simp only[bh,if_pos hlen,U,aF,h2,ad]
 rcases aB with⟨rfl,rfl,rfl⟩|⟨bP,rfl,rfl⟩
 · rfl
 · cases ex with
   | normal=>exact absurd rfl bP
   | exit i=>rfl
   | ret=>rfl
theorem DV {n:Nat} {f:aT} {ps:List Nat} {dL body:c5} {s:aL} {ex:dd} {g:FuncId} {first caps:List I} {v:I} {h':ah} {p:fX} (bc:f.ev G s.F= .fn g first caps)
 (J:kv G Φ tab n (⟨s.h.next,s.F,ps,dL,body⟩::Y) g (first++ [.ie s.h.next]++caps) {s.h with next:=s.h.next+1,aV:=au s.h.aV s.h.next (some .ready)}=some (v,h'))
 (aF:h'.aV s.h.next=some p) (ox:(p= .ready/\ex= .normal)\/p= .done ex):exec G Φ tab (n+1) Y (.lj f ps dL body) s=some (ex,⟨s.F,h'.set s.h.next none⟩):=by
 obtain⟨fn,e,ar,mU,he,hex,al,rfl⟩:=rf J
 rw[iD]
 rcases hex with rfl|rfl
 · simp only[bc,mU,he,al,aF]
   rcases ox with⟨rfl,rfl⟩|rfl<;>rfl
 · simp only[bc,mU,he,al,aF]
   rcases ox with⟨rfl,rfl⟩|rfl<;>rfl
theorem uV {nV:FuncId->Option aP} (aw:∀f fn,nV f=some fn->Φ f=some fn):∀(n m:Nat),n<=m->∀(Y:List cy) (c:c5) (s:aL) (x:dd × aL),exec G nV tab n Y c s=some x->exec G Φ tab m Y c s=some x
 | 0,_,_,Y,c,s,x,h=>by unfold exec at h;cases h
 | n+1,0,nr,_,_,_,_,_=>absurd nr (by omega)
 | n+1,m+1,nr,Y,c,s,x,h=>by
   have a8:=uV aw n m (by omega)
   have bC:∀ {Y:List cy} {f:FuncId} {args:List I} {h:ah} {r:I × ah},kv G nV tab n Y f args h=some r->kv G Φ tab m Y f args h=some r:=by
    intro Y f args h r J
    obtain⟨v,h'⟩:=r
    obtain⟨fn,ex,ar,bc,he,hex,al,rfl⟩:=rf J
    exact DU (aw _ _ bc) (a8 _ _ _ _ he) hex al
   have hle:sL (kI G nV tab n Y) (kI G Φ tab m Y):=by
    intro t args h r J
    obtain⟨v,h'⟩:=r
    cases t with
    | fn f=>exact bC J
    | lk id=>
      obtain⟨L,Y',s1,ex,ar,bh,hlen,U,aF,h2,ad,aB⟩:=uQ J
      exact w_ bh hlen (a8 _ _ _ _ U) aF (a8 _ _ _ _ h2) ad aB
   have aD:=h
   rw[iD] at h
   cases c with
   | skip=>rw[iD];exact h
   | ret=>rw[iD];exact h
   | exit id=>rw[iD];exact h
   | region ku ops e3=>
     rw[iD]
     simp only at h|-
     obtain⟨s1,U,h⟩:=Option.map_eq_some_iff.1 h
     rw[TL hle U];exact congrArg some h
   | seq a b=>
     rw[iD]
     simp only at h|-
     split at h
     · rename_i s1 U
       rw[a8 _ _ _ _ U];exact a8 _ _ _ _ h
     · rename_i bP
       rw[a8 _ _ _ _ h]
       obtain⟨ex,s1⟩:=x
       cases ex with
       | normal=>exact absurd h (bP s1)
       | exit i=>rfl
       | ret=>rfl
   | cond y a b=>
     rw[iD]
     simp only at h|-
     split at h<;>try(cases h;done)
     rename_i t aO
     split at h
     · rename_i sH;simp only[if_pos sH];exact a8 _ _ _ _ h
     · rename_i sH;simp only[if_neg sH];exact a8 _ _ _ _ h
   | block id b=>
     rw[iD]
     simp only at h|-
     split at h
     · rename_i i s1 U
       rw[a8 _ _ _ _ U];exact h
     · rename_i bP
       rw[a8 _ _ _ _ h]
       obtain⟨ex,s1⟩:=x
       cases ex with
       | normal=>rfl
       | exit i=>exact absurd h (bP i s1)
       | ret=>rfl
   | loop b=>
     rw[iD]
     simp only at h|-
     split at h
     · rename_i s1 U
       rw[a8 _ _ _ _ U];exact a8 _ _ _ _ h
     · rename_i bP
       rw[a8 _ _ _ _ h]
       obtain⟨ex,s1⟩:=x
       cases ex with
       | normal=>exact absurd h (bP s1)
       | exit i=>rfl
       | ret=>rfl
   | lj f ps dL body=>
     obtain⟨ex,ar⟩:=x
     obtain⟨g,first,caps,v,h',p,bc,J,aF,ox,rfl⟩:=zp aD
     exact DV bc (bC J) aF ox
theorem uW {n m:Nat} (nr:n<=m) {c:c5} {s:aL} {x:dd × aL} (h:exec G Φ tab n Y c s=some x):exec G Φ tab m Y c s=some x:=uV (fun _ _ h=>h) n m nr Y c s x h
theorem TM {nV:FuncId->Option aP} (aw:∀f fn,nV f=some fn->Φ f=some fn) {n m:Nat} (nr:n<=m):sL (kI G nV tab n Y) (kI G Φ tab m Y):=by
 intro t args h r J
 obtain⟨v,h'⟩:=r
 cases t with
 | fn f=>
   obtain⟨fn,ex,ar,bc,he,hex,al,rfl⟩:=rf J
   exact DU (aw _ _ bc) (uV aw _ _ nr _ _ _ _ he) hex al
 | lk id=>
   obtain⟨L,Y',s1,ex,ar,bh,hlen,U,aF,h2,ad,aB⟩:=uQ J
   exact w_ bh hlen (uV aw _ _ nr _ _ _ _ U) aF (uV aw _ _ nr _ _ _ _ h2) ad aB
theorem w' {n m:Nat} (nr:n<=m):sL (kI G Φ tab n Y) (kI G Φ tab m Y):=TM (fun _ _ h=>h) nr
def ba (G:Nat->Option I) (Φ:FuncId->Option aP) (tab:FuncId->Option (List I->Option I)) (Y:List cy) (c:c5) (s:aL) (Q:dd->aL->Prop):Prop:=∃n ex ar,exec G Φ tab n Y c s=some (ex,ar)/\Q ex ar
def ri (Q:dd->aL->Prop) (K:aL->Prop):dd->aL->Prop
 | .normal,s=>K s
 | ex,s=>Q ex s
theorem ga (Q:dd->aL->Prop) (K:aL->Prop) (s:aL):ri Q K .normal s=K s:=rfl
theorem gb (Q:dd->aL->Prop) (K:aL->Prop) (s:aL):ri Q K .ret s=Q .ret s:=rfl
theorem gd (Q:dd->aL->Prop) (K:aL->Prop) (i:Nat) (s:aL):ri Q K (.exit i) s=Q (.exit i) s:=rfl
def rj (id:Nat) (Q:dd->aL->Prop):dd->aL->Prop
 | .exit i,s=>if i=id then Q .normal s else Q (.exit i) s
 | ex,s=>Q ex s
theorem gf (id:Nat) (Q:dd->aL->Prop) (s:aL):rj id Q .normal s=Q .normal s:=rfl
theorem gg (id:Nat) (Q:dd->aL->Prop) (s:aL):rj id Q .ret s=Q .ret s:=rfl
theorem gh (id i:Nat) (Q:dd->aL->Prop) (s:aL):rj id Q (.exit i) s=if i=id then Q .normal s else Q (.exit i) s:=rfl
theorem ba.mono {c:c5} {s:aL} {Q JI:dd->aL->Prop} (h:ba G Φ tab Y c s Q) (aM:∀ex s,Q ex s->JI ex s):ba G Φ tab Y c s JI:=
 let ⟨n,ex,ar,e,q⟩:=h;⟨n,ex,ar,e,aM _ _ q⟩
theorem iU {s:aL} {Q:dd->aL->Prop} (h:Q .normal s):ba G Φ tab Y .skip s Q:=⟨1,.normal,s,rfl,h⟩
theorem b3 {s:aL} {Q:dd->aL->Prop} (h:Q .ret s):ba G Φ tab Y .ret s Q:=⟨1,.ret,s,rfl,h⟩
theorem c_ {i:Nat} {s:aL} {Q:dd->aL->Prop} (h:Q (.exit i) s):ba G Φ tab Y (.exit i) s Q:=⟨1,.exit i,s,rfl,h⟩
theorem bd {a b:c5} {s:aL} {Q:dd->aL->Prop} (h:ba G Φ tab Y a s (ri Q fun s1=>ba G Φ tab Y b s1 Q)):ba G Φ tab Y (.seq a b) s Q:=by
 obtain⟨n,ex,s1,U,h2⟩:=h
 cases ex with
 | normal=>
   obtain⟨m,ex,s2,aB,aS⟩:=h2
   refine⟨max n m+1,ex,s2,?_,aS⟩
   rw[iD]
   simp only[uW (Nat.le_max_left n m) U]
   exact uW (Nat.le_max_right n m) aB
 | exit i=>exact ⟨n+1,.exit i,s1,by rw[iD];simp only[U],h2⟩
 | ret=>exact ⟨n+1,.ret,s1,by rw[iD];simp only[U],h2⟩
theorem gi {x:aT} {a b:c5} {s:aL} {Q:dd->aL->Prop} (t:Bool) (aO:x.ev G s.F= .bool t) (U:t=true->ba G Φ tab Y a s Q) (h2:t=false->ba G Φ tab Y b s Q):ba G Φ tab Y (.cond x a b) s Q:=by
 cases t with
 | true=>
   obtain⟨n,ex,s1,e,q⟩:=U rfl
   exact ⟨n+1,ex,s1,by rw[iD];simp only[aO,if_true];exact e,q⟩
 | false=>
   obtain⟨n,ex,s1,e,q⟩:=h2 rfl
   exact ⟨n+1,ex,s1,by rw[iD];simp only[aO,Bool.false_eq_true,if_false];exact e,q⟩
theorem jX {id:Nat} {b:c5} {s:aL} {Q:dd->aL->Prop} (h:ba G Φ tab Y b s (rj id Q)):ba G Φ tab Y (.block id b) s Q:=by
 obtain⟨n,ex,s1,e,q⟩:=h
 cases ex with
 | normal=>exact ⟨n+1,.normal,s1,by rw[iD];simp only[e],q⟩
 | ret=>exact ⟨n+1,.ret,s1,by rw[iD];simp only[e],q⟩
 | exit i=>
   by_cases ab:i=id
   · exact ⟨n+1,.normal,s1,by rw[iD];simp only[e,if_pos ab],by simpa[rj,ab] using q⟩
   · exact ⟨n+1,.exit i,s1,by rw[iD];simp only[e,if_neg ab],by simpa[rj,ab] using q⟩
theorem TN {b:c5} {Q:dd->aL->Prop} (ak:Nat->aL->Prop) (round:∀k s,ak k s->ba G Φ tab Y b s (ri Q fun s1=>∃j,j<k/\ak j s1)):∀(k:Nat) (s:aL),ak k s->ba G Φ tab Y (.loop b) s Q:=by
 intro k
 induction k using Nat.strongRecOn with
 | _ k a8=>
   intro s ql
   obtain⟨n,ex,s1,e,q⟩:=round k s ql
   cases ex with
   | normal=>
     obtain⟨j,aC,TO⟩:=q
     obtain⟨m,ex,s2,av,db⟩:=a8 j aC s1 TO
     refine⟨max n m+1,ex,s2,?_,db⟩
     rw[iD]
     simp only[uW (Nat.le_max_left n m) e]
     exact uW (Nat.le_max_right n m) av
   | exit i=>exact ⟨n+1,.exit i,s1,by rw[iD];simp only[e],q⟩
   | ret=>exact ⟨n+1,.ret,s1,by rw[iD];simp only[e],q⟩
def zy:ml:=fun _ _ _=>none
def xa (G:Nat->Option I) (Φ:FuncId->Option aP) (tab:FuncId->Option (List I->Option I)) (Y:List cy) (eC:ml):Prop:=∀t args h r,eC t args h=some r->∃n,kI G Φ tab n Y t args h=some r
theorem bD:xa G Φ tab Y zy:=fun _ _ _ _ h=>by cases h
theorem JJ {eC:ml} (sM:xa G Φ tab Y eC) {aZ:Nat}:∀ {L:List (aU × Nat)} {s:aL} {x:aL × List eb},cR G tab eC aZ L s=some x->∃n,cR G tab (kI G Φ tab n Y) aZ L s=some x
 | [],s,x,h=>⟨0,h⟩
 | (e,i)::L,s,x,h=>by
   simp only[cR] at h
   split at h<;>try(cases h;done)
   rename_i s1 c U
   obtain⟨p,aF,ae⟩:=Option.map_eq_some_iff.1 h
   obtain⟨n,ai⟩:=JJ sM aF
   have one:∃m,cx G tab (kI G Φ tab m Y) aZ (aZ+i) e s=some (s1,c):=by
    have go:∀ {y:aL × eb},cW G tab eC aZ (aZ+i) e s=some y->∃m,cW G tab (kI G Φ tab m Y) aZ (aZ+i) e s=some y:=by
     intro y aN
     unfold cW at aN
     split at aN
     · rename_i f args he
       split at aN<;>try(cases aN;done)
       · rename_i q first caps bc
         split at aN
         · rename_i T cA
           refine⟨0,?_⟩
           unfold cW;simp only[he,bc,cA];exact aN
         · rename_i cA
           obtain⟨v,al,aN⟩:=Option.map_eq_some_iff.1 aN
           obtain⟨m,hm⟩:=sM _ _ _ _ al
           refine⟨m,?_⟩
           unfold cW;simp only[he,bc,cA,hm];exact congrArg some aN
       · rename_i id bc
         obtain⟨v,al,aN⟩:=Option.map_eq_some_iff.1 aN
         obtain⟨m,hm⟩:=sM _ _ _ _ al
         refine⟨m,?_⟩
         unfold cW;simp only[he,bc,hm];exact congrArg some aN
     · rename_i bP
       refine⟨0,?_⟩
       unfold cW
       split
       · rename_i f as he;exact absurd he (bP f as)
       · exact aN
    unfold cx at U
    split at U
    · rename_i aX
      obtain⟨m,hm⟩:=go U
      exact ⟨m,by unfold cx;rw[aX];exact hm⟩
    · rename_i t want aX
      split at U<;>try(cases U;done)
      rotate_left
      · rename_i ad
        exact ⟨0,by unfold cx;simp only[aX,ad];exact U⟩
      rename_i b ad
      split at U
      · rename_i oq
        obtain⟨m,hm⟩:=go U
        exact ⟨m,by unfold cx;simp only[aX,ad,if_pos oq];exact hm⟩
      · rename_i oq
        exact ⟨0,by unfold cx;simp only[aX,ad,if_neg oq];exact U⟩
   obtain⟨m,hm⟩:=one
   refine⟨max m n,?_⟩
   simp only[cR,JH (w' (Nat.le_max_left m n)) hm]
   rw[DT (w' (Nat.le_max_right m n)) ai]
   exact congrArg some ae
theorem TP {eC:ml} (sM:xa G Φ tab Y eC) {ku:Bool} {ops:List aU} {e3:List Nat} {s:aL} {Q:dd->aL->Prop} (ar:aL) (h:ej G tab eC ku ops e3 s=some ar) (aM:Q .normal ar):ba G Φ tab Y (.region ku ops e3) s Q:=by
 unfold ej at h
 split at h<;>try(cases h;done)
 rename_i s1 cs U
 split at h<;>try(cases h;done)
 rename_i i_
 cases h
 obtain⟨n,ai⟩:=JJ sM U
 refine⟨n+1,.normal,_,?_,aM⟩
 rw[iD]
 simp only[ej,ai,if_pos i_,Option.map_some]
def eZ (G:Nat->Option I) (tab:FuncId->Option (List I->Option I)) (eC:ml) (ku:Bool) (ops:List aU) (e3:List Nat) (s:aL) (K:aL->Prop):Prop:=
 match cR G tab eC s.h.next ops.zipIdx ⟨s.F,{s.h with next:=s.h.next+ops.length}⟩ with
 | some (ar,cs)=>(ku=true->uk cs e3=true)/\K ar
 | none=>False
theorem bl {eC:ml} (sM:xa G Φ tab Y eC) {ku:Bool} {ops:List aU} {e3:List Nat} {s:aL} {Q:dd->aL->Prop} (h:eZ G tab eC ku ops e3 s (Q .normal)):ba G Φ tab Y (.region ku ops e3) s Q:=by
 unfold eZ at h
 split at h
 · rename_i ar cs U
   refine TP sM ar ?_ h.2
   unfold ej
   rw[U]
   have:(!ku||uk cs e3)=true:=by
    cases ku with
    | false=>rfl
    | true=>simpa using h.1 rfl
   simp only[this,if_true]
 · exact h.elim
def gj (res:List mO) (v:I) (ex:dd) (s:aL):Prop:=
 (match ex with
  | .exit _=>False
  | _=>True)/\((dE s.h s.F res).bind fun u=>(jw s.h u).map (·.1))=some v
def TQ (id:Nat) (F:Nat->I) (res:List mO) (Q:dd->aL->Prop) (ex:dd) (s:aL):Prop:=
 (match ex with
  | .exit _=>False
  | _=>True)/\(∃v,dE s.h s.F res=some v)/\(match s.h.aV id with
  | some .ready=>Q .normal ⟨F,s.h.set id none⟩
  | some (.done e)=>Q e ⟨F,s.h.set id none⟩
  | _=>False)
theorem DW {f:aT} {ps:List Nat} {dL body:c5} {s:aL} {Q:dd->aL->Prop} {g:FuncId} {first caps:List I} {fn:aP} (bc:f.ev G s.F= .fn g first caps) (aX:Φ g=some fn)
 (h:ba G Φ tab (⟨s.h.next,s.F,ps,dL,body⟩::Y) fn.body ⟨dM (first++ [.ie s.h.next]++caps),{s.h with next:=s.h.next+1,aV:=au s.h.aV s.h.next (some .ready)}⟩ (TQ s.h.next s.F fn.res Q)):ba G Φ tab Y (.lj f ps dL body) s Q:=by
 obtain⟨n,ex,ar,e,da,⟨v,al⟩,fI⟩:=h
 have hex:ex= .normal\/ex= .ret:=by
  cases ex with
  | normal=>exact .inl rfl
  | ret=>exact .inr rfl
  | exit i=>exact da.elim
 have J:=DU aX e hex al
 split at fI
 · rename_i aF
   exact ⟨n+1,.normal,_,DV bc J aF (.inl ⟨rfl,rfl⟩),fI⟩
 · rename_i e' aF
   exact ⟨n+1,e',_,DV bc J aF (.inr rfl),fI⟩
 · exact fI.elim
end
def cf (l:List (FuncId × (List I->Option I))):FuncId->Option (List I->Option I):=fun f=>l.lookup f
theorem cg {P:Program} {G:Nat->Option I}:∀ {l:List (FuncId × (List I->Option I))},(∀p∈l,aH P G p.1 p.2)->∀f T,cf l f=some T->aH P G f T
 | [],_,f,T,h=>by cases h
 | (g,jG)::l,ay,f,T,h=>by
   unfold cf at h
   rw[List.lookup_cons] at h
   by_cases e:f=g
   · subst e
     simp only[BEq.rfl] at h
     cases h
     exact ay (f,jG) (by simp)
   · have:(f == g)=false:=by simpa using e
     simp only[this] at h
     exact cg (fun p aF=>ay p (by simp[aF])) f T h
end Go.Eng
namespace Go.Eng
open Go Go.RowKit
section
variable {G:Nat->Option I} {Φ nV:FuncId->Option aP} {tab:FuncId->Option (List I->Option I)} {Y:List cy}
theorem JK (aw:∀f fn,nV f=some fn->Φ f=some fn) (n:Nat) (Y:List cy) (c:c5) (s:aL) (x:dd × aL) (h:exec G nV tab n Y c s=some x):exec G Φ tab n Y c s=some x:=uV aw n n (Nat.le_refl _) Y c s x h
theorem JL (aw:∀f fn,nV f=some fn->Φ f=some fn) {n:Nat} {f:FuncId} {args:List I} {v:I} (h:mQ G nV tab n f args=some v):mQ G Φ tab n f args=some v:=by
 unfold mQ at h|-
 obtain⟨p,U,h2⟩:=Option.bind_eq_some_iff.1 h
 unfold yS at U|-
 split at U<;>try(cases U;done)
 rename_i fn bc
 simp only[aw _ _ bc]
 split at U
 · rename_i ar he
   rw[JK aw _ _ _ _ _ he];simp only[U];exact h2
 · rename_i ar he
   rw[JK aw _ _ _ _ _ he];simp only[U];exact h2
 · cases U
noncomputable def ey (G:Nat->Option I) (Φ:FuncId->Option aP) (tab:FuncId->Option (List I->Option I)) (Y:List cy):ml:=fun f args h=>
 open Classical in if ae:∃r n,kI G Φ tab n Y f args h=some r then some (Classical.choose ae) else none
theorem nW:xa G Φ tab Y (ey G Φ tab Y):=by
 intro f args h r aR
 unfold ey at aR
 split at aR
 · rename_i ae
   cases aR
   exact Classical.choose_spec ae
 · cases aR
theorem zz {f:kV} {args:List I} {h:ah} {r:I × ah} {n:Nat} (ai:kI G Φ tab n Y f args h=some r):ey G Φ tab Y f args h=some r:=by
 have ae:∃r n,kI G Φ tab n Y f args h=some r:=⟨r,n,ai⟩
 unfold ey
 rw[dif_pos ae]
 obtain⟨m,hm⟩:=Classical.choose_spec ae
 congr 1
 have a:=w' (Nat.le_max_left n m) _ _ _ _ ai
 have b:=w' (Nat.le_max_right n m) _ _ _ _ hm
 rw[a] at b
 exact (Option.some.inj b).symm
def iM (res:List mO) (R:I->ah->Prop) (ex:dd) (s:aL):Prop:=
 (match ex with
  | .exit _=>False
  | _=>True)/\∃v,dE s.h s.F res=some v/\R v s.h
theorem je {f:FuncId} {fn:aP} (bc:Φ f=some fn) {args:List I} {h:ah} {R:I->ah->Prop} (he:ba G Φ tab Y fn.body ⟨dM args,h⟩ (iM fn.res R)):∃v h',ey G Φ tab Y (.fn f) args h=some (v,h')/\R v h':=by
 obtain⟨n,ex,ar,e,da,v,db,fI⟩:=he
 refine⟨v,ar.h,zz (n:=n) ?_,fI⟩
 show kv G Φ tab n Y f args h=_
 unfold kv
 simp only[bc,e]
 cases ex with
 | exit i=>exact da.elim
 | normal=>simp only[db,Option.map_some]
 | ret=>simp only[db,Option.map_some]
theorem DX {id:Nat} {args:List I} {h:ah} {R:I->ah->Prop} {L:cy} {Y':List cy} (bh:oe id Y=some (L,Y')) (hlen:L.ps.length=args.length)
 (he:ba G Φ tab Y' L.dL ⟨nc L.F L.ps args,h⟩ (fun ex s1=>ex= .normal/\s1.h.aV id=some .ready/\ba G Φ tab Y' L.body ⟨s1.F,s1.h.set id (some .busy)⟩ (fun ex ar=>ar.h.aV id=some .busy/\
   (match ex with
    | .normal=>R (.bool true) (ar.h.set id (some .ready))
    | e=>R (.bool false) (ar.h.set id (some (.done e))))))):∃v h',ey G Φ tab Y (.lk id) args h=some (v,h')/\R v h':=by
 obtain⟨n,ex,s1,ao,rfl,aF,m,TR,ar,av,ad,eY⟩:=he
 have a1:=uW (Nat.le_max_left n m) ao
 have eX:=uW (Nat.le_max_right n m) av
 cases TR with
 | normal=>exact ⟨_,_,zz (f:= .lk id) (n:=max n m) (w_ bh hlen a1 aF eX ad (.inl ⟨rfl,rfl,rfl⟩)),eY⟩
 | exit i=>exact ⟨_,_,zz (f:= .lk id) (n:=max n m) (w_ bh hlen a1 aF eX ad (.inr ⟨by simp,rfl,rfl⟩)),eY⟩
 | ret=>exact ⟨_,_,zz (f:= .lk id) (n:=max n m) (w_ bh hlen a1 aF eX ad (.inr ⟨by simp,rfl,rfl⟩)),eY⟩
end
def JM (b:Bool):Option I->Bool
 | some (.bool c)=>c == b
 | _=>false
theorem TS {b:Bool} {x:Option I} (h:JM b x=true):x=some (.bool b):=by
 unfold JM at h
 split at h
 · simp at h;rw[h]
 · cases h
def DY (l:List (FuncId × aP)):FuncId->Option aP:=fun f=>l.lookup f
theorem DZ {Φ:FuncId->Option aP}:∀ {l:List (FuncId × aP)},(∀p∈l,Φ p.1=some p.2)->∀f fn,DY l f=some fn->Φ f=some fn
 | [],_,f,fn,h=>by cases h
 | (g,jG)::l,ay,f,fn,h=>by
   unfold DY at h
   rw[List.lookup_cons] at h
   by_cases e:f=g
   · subst e
     simp only[BEq.rfl] at h
     cases h
     exact ay (f,jG) (by simp)
   · have:(f == g)=false:=by simpa using e
     simp only[this] at h
     exact DZ (fun p aF=>ay p (by simp[aF])) f fn h
end Go.Eng
namespace Go.Eng
open Go Go.RowKit
def Z (n:Nat):Int:=n
theorem gk (n:Nat):(n:Int)=Z n:=rfl
theorem bj {a b:Nat}:Z a=Z b↔a=b:=by simp only[Z];omega
theorem fK (a b:Nat):(Z a == Z b)=(a == b):=by
 rw[Bool.eq_iff_iff,beq_iff_eq,beq_iff_eq];exact bj
theorem gl (a b:Nat):(Z a != Z b)=(a != b):=by simp only[bne,fK]
theorem fL {a b:Nat}:Z a<Z b↔a<b:=by simp only[Z];omega
theorem gm {a b:Nat}:Z a<=Z b↔a<=b:=by simp only[Z];omega
theorem gn (a:Nat):0<=Z a:=by simp only[Z];omega
theorem eH (a:Nat):¬Z a<0:=by simp only[Z];omega
theorem gp {a:Nat}:Z a=0↔a=0:=by simp only[Z];omega
theorem eI (a:Nat):(Z a).toNat=a:=rfl
theorem gq {a b:Nat}:Z a<(b:Int)↔a<b:=fL
theorem gr (a b:Nat):(Z a).tmod (Z b)=Z (a%b):=rfl
theorem gu (a b:Nat):(Z a).tdiv (Z b)=Z (a/b):=rfl
theorem ff (a n:Nat):(Z a).fdiv (2^n)=Z (a/2^n):=by
 simp only[Z]
 rw[Int.fdiv_eq_ediv_of_nonneg _ (by exact Int.le_of_lt (Int.pow_pos (by decide)))]
 norm_cast
theorem JN {k:IntKind} (ag:k.signed=false) (x:Int):k.wrap x=x%2^k.bits:=by
 cases k<;>first|(simp[IntKind.signed] at ag;done)|(simp[IntKind.wrap,IntKind.signed,IntKind.bits])
theorem pk {k:IntKind} (ag:k.signed=false) (a:Nat):k.wrap (Z a)=Z (a%2^k.bits):=by
 rw[JN ag];simp only[Z];norm_cast
theorem zA {k:IntKind} (ag:k.signed=false) (a b:Nat):k.wrap (Z a+Z b)=Z ((a+b)%2^k.bits):=pk ag (a+b)
theorem zB {k:IntKind} (ag:k.signed=false) (a b:Nat):k.wrap (Z a*Z b)=Z (a*b%2^k.bits):=by
 rw[<-pk ag];simp only[Z];norm_cast
theorem rk {k:IntKind} (ag:k.signed=false) (a n:Nat):k.wrap (Z a*2^n)=Z (a*2^n%2^k.bits):=by
 rw[<-pk ag];simp only[Z];norm_cast
theorem zC {k:IntKind} (ag:k.signed=false) (a b:Nat):k.wrap (Z a - Z b)=Z ((a+(2^k.bits - b%2^k.bits))%2^k.bits):=by
 rw[JN ag]
 simp only[Z]
 have h:b%2^k.bits<2^k.bits:=Nat.mod_lt _ (Nat.pow_pos (by decide))
 generalize lC:2^k.bits=M at*
 have:((2:Int)^k.bits)=(M:Int):=by rw[<-lC];norm_cast
 rw[this]
 rw[Int.natCast_emod,Int.natCast_add,Int.natCast_sub (Nat.le_of_lt h),Int.natCast_emod]
 rw[show ((a:Int) - b)=a+(M - b%M)+M*(-1 - b/M) by
  have:=Int.emod_add_mul_ediv (b:Int) M
  rw[Int.mul_sub];omega]
 exact Int.add_mul_emod_self_left _ _ _
theorem zD {k:IntKind} (ag:k.signed=false) (a b:Nat):k.wrap ((BitVec.ofInt k.bits (Z a)|||BitVec.ofInt k.bits (Z b)).toNat:Int)=Z ((a|||b)%2^k.bits):=by
 show k.wrap (Z _)=_
 rw[pk ag]
 simp only[Z,BitVec.ofInt_natCast,<-BitVec.ofNat_or,BitVec.toNat_ofNat,Nat.mod_mod]
theorem zE {k:IntKind} (ag:k.signed=false) (a b:Nat):k.wrap ((BitVec.ofInt k.bits (Z a)&&&BitVec.ofInt k.bits (Z b)).toNat:Int)=Z ((a&&&b)%2^k.bits):=by
 show k.wrap (Z _)=_
 rw[pk ag]
 simp only[Z,BitVec.ofInt_natCast,<-BitVec.ofNat_and,BitVec.toNat_ofNat,Nat.mod_mod]
theorem zF {k:IntKind} (ag:k.signed=false) (a b:Nat):k.wrap ((BitVec.ofInt k.bits (Z a) ^^^ BitVec.ofInt k.bits (Z b)).toNat:Int)=Z ((a ^^^ b)%2^k.bits):=by
 show k.wrap (Z _)=_
 rw[pk ag]
 simp only[Z,BitVec.ofInt_natCast,<-BitVec.ofNat_xor,BitVec.toNat_ofNat,Nat.mod_mod]
theorem wrap_i64 {x:Int} (U: -9223372036854775808<=x) (h2:x<9223372036854775808):IntKind.i64.wrap x=x:=by
 simp[IntKind.wrap,IntKind.signed,IntKind.bits]
 split<;>omega
theorem e5 {a:Nat} (h:a<9223372036854775808):IntKind.i64.wrap (Z a)=Z a:=wrap_i64 (by simp only[Z];omega) (by simp only[Z];omega)
theorem dp {a b:Nat} (h:a+b<9223372036854775808):IntKind.i64.wrap (Z a+Z b)=Z (a+b):=e5 h
theorem cB {a b:Nat} (U:b<=a) (h2:a<9223372036854775808):IntKind.i64.wrap (Z a - Z b)=Z (a - b):=by
 rw[wrap_i64 (by simp only[Z];omega) (by simp only[Z];omega)];simp only[Z];omega
theorem pn {a b:Nat} (h:a*b<9223372036854775808):IntKind.i64.wrap (Z a*Z b)=Z (a*b):=by
 rw[show Z a*Z b=Z (a*b) by simp only[Z];norm_cast];exact e5 h
theorem gv:IntKind.u8.bits=8:=rfl
theorem gw (a:Nat):IntKind.u8.wrap (Z a)=Z (a%256):=pk rfl a
theorem gx (a b:Nat):IntKind.u8.wrap (Z a+Z b)=Z ((a+b)%256):=zA rfl a b
theorem gy (a b:Nat):IntKind.u8.wrap (Z a - Z b)=Z ((a+(256 - b%256))%256):=zC rfl a b
theorem gz (a b:Nat):IntKind.u8.wrap (Z a*Z b)=Z (a*b%256):=zB rfl a b
theorem gA (a n:Nat):IntKind.u8.wrap (Z a*2^n)=Z (a*2^n%256):=rk rfl a n
theorem gB:IntKind.u16.bits=16:=rfl
theorem gC (a:Nat):IntKind.u16.wrap (Z a)=Z (a%65536):=pk rfl a
theorem gD (a b:Nat):IntKind.u16.wrap (Z a+Z b)=Z ((a+b)%65536):=zA rfl a b
theorem gE (a b:Nat):IntKind.u16.wrap (Z a - Z b)=Z ((a+(65536 - b%65536))%65536):=zC rfl a b
theorem gF (a b:Nat):IntKind.u16.wrap (Z a*Z b)=Z (a*b%65536):=zB rfl a b
theorem gG (a n:Nat):IntKind.u16.wrap (Z a*2^n)=Z (a*2^n%65536):=rk rfl a n
theorem gH:IntKind.u32.bits=32:=rfl
theorem gI (a:Nat):IntKind.u32.wrap (Z a)=Z (a%4294967296):=pk rfl a
theorem gJ (a b:Nat):IntKind.u32.wrap (Z a+Z b)=Z ((a+b)%4294967296):=zA rfl a b
theorem gK (a b:Nat):IntKind.u32.wrap (Z a - Z b)=Z ((a+(4294967296 - b%4294967296))%4294967296):=zC rfl a b
theorem gL (a b:Nat):IntKind.u32.wrap (Z a*Z b)=Z (a*b%4294967296):=zB rfl a b
theorem gM (a n:Nat):IntKind.u32.wrap (Z a*2^n)=Z (a*2^n%4294967296):=rk rfl a n
theorem gN:IntKind.u64.bits=64:=rfl
theorem fl (a:Nat):IntKind.u64.wrap (Z a)=Z (a%18446744073709551616):=pk rfl a
theorem gO (a b:Nat):IntKind.u64.wrap (Z a+Z b)=Z ((a+b)%18446744073709551616):=zA rfl a b
theorem gP (a b:Nat):IntKind.u64.wrap (Z a - Z b)=Z ((a+(18446744073709551616 - b%18446744073709551616))%18446744073709551616):=zC rfl a b
theorem gQ (a b:Nat):IntKind.u64.wrap (Z a*Z b)=Z (a*b%18446744073709551616):=zB rfl a b
theorem gR (a n:Nat):IntKind.u64.wrap (Z a*2^n)=Z (a*2^n%18446744073709551616):=rk rfl a n
theorem gS (k:IntKind) (a b:Int):iZ .add k a b=some (.int k (k.wrap (a+b))):=rfl
theorem gT (k:IntKind) (a b:Int):iZ .sub k a b=some (.int k (k.wrap (a - b))):=rfl
theorem gU (k:IntKind) (a b:Int):iZ .mul k a b=some (.int k (k.wrap (a*b))):=rfl
theorem gV (k:IntKind) (a b:Int):iZ .quo k a b=if b=0 then none else some (.int k (k.wrap (a.tdiv b))):=rfl
theorem gW (k:IntKind) (a b:Int):iZ .rem k a b=if b=0 then none else some (.int k (a.tmod b)):=rfl
theorem gX (k:IntKind) (a b:Int):iZ .eql k a b=some (.bool (a == b)):=rfl
theorem gY (k:IntKind) (a b:Int):iZ .neq k a b=some (.bool (a != b)):=rfl
theorem gZ (k:IntKind) (a b:Int):iZ .lss k a b=some (.bool (decide (a<b))):=rfl
theorem g0 (k:IntKind) (a b:Int):iZ .leq k a b=some (.bool (decide (a<=b))):=rfl
theorem g1 (k:IntKind) (a b:Int):iZ .gtr k a b=some (.bool (decide (a>b))):=rfl
theorem g2 (k:IntKind) (a b:Int):iZ .geq k a b=some (.bool (decide (a>=b))):=rfl
theorem TT:IntKind.i64.bits=64:=rfl
theorem g3 (a b:Nat):iZ .and .u8 (Z a) (Z b)=some (.int .u8 (Z ((a&&&b)%256))):=congrArg (fun x=>some (I.int .u8 x)) (zE (k:= .u8) rfl a b)
theorem g4 (a b:Nat):iZ .or .u8 (Z a) (Z b)=some (.int .u8 (Z ((a|||b)%256))):=congrArg (fun x=>some (I.int .u8 x)) (zD (k:= .u8) rfl a b)
theorem g5 (a b:Nat):iZ .xor .u8 (Z a) (Z b)=some (.int .u8 (Z ((a ^^^ b)%256))):=congrArg (fun x=>some (I.int .u8 x)) (zF (k:= .u8) rfl a b)
theorem g6 (a b:Nat):iA .shr .u8 (Z a) (Z b)=some (.int .u8 (Z (a/2^min b 8))):=by
 simp only[iA,if_neg (eH b),eI,ff];rfl
theorem g7 (a b:Nat):iA .shl .u8 (Z a) (Z b)=some (.int .u8 (Z (a*2^min b 8%256))):=by
 simp only[iA,if_neg (eH b),eI,rk (k:= .u8) rfl];rfl
theorem g8 (a b:Nat):iZ .and .u16 (Z a) (Z b)=some (.int .u16 (Z ((a&&&b)%65536))):=congrArg (fun x=>some (I.int .u16 x)) (zE (k:= .u16) rfl a b)
theorem g9 (a b:Nat):iZ .or .u16 (Z a) (Z b)=some (.int .u16 (Z ((a|||b)%65536))):=congrArg (fun x=>some (I.int .u16 x)) (zD (k:= .u16) rfl a b)
theorem g_ (a b:Nat):iZ .xor .u16 (Z a) (Z b)=some (.int .u16 (Z ((a ^^^ b)%65536))):=congrArg (fun x=>some (I.int .u16 x)) (zF (k:= .u16) rfl a b)
theorem g' (a b:Nat):iA .shr .u16 (Z a) (Z b)=some (.int .u16 (Z (a/2^min b 16))):=by
 simp only[iA,if_neg (eH b),eI,ff];rfl
theorem ha (a b:Nat):iA .shl .u16 (Z a) (Z b)=some (.int .u16 (Z (a*2^min b 16%65536))):=by
 simp only[iA,if_neg (eH b),eI,rk (k:= .u16) rfl];rfl
theorem hb (a b:Nat):iZ .and .u32 (Z a) (Z b)=some (.int .u32 (Z ((a&&&b)%4294967296))):=congrArg (fun x=>some (I.int .u32 x)) (zE (k:= .u32) rfl a b)
theorem hc (a b:Nat):iZ .or .u32 (Z a) (Z b)=some (.int .u32 (Z ((a|||b)%4294967296))):=congrArg (fun x=>some (I.int .u32 x)) (zD (k:= .u32) rfl a b)
theorem hd (a b:Nat):iZ .xor .u32 (Z a) (Z b)=some (.int .u32 (Z ((a ^^^ b)%4294967296))):=congrArg (fun x=>some (I.int .u32 x)) (zF (k:= .u32) rfl a b)
theorem hf (a b:Nat):iA .shr .u32 (Z a) (Z b)=some (.int .u32 (Z (a/2^min b 32))):=by
 simp only[iA,if_neg (eH b),eI,ff];rfl
theorem hg (a b:Nat):iA .shl .u32 (Z a) (Z b)=some (.int .u32 (Z (a*2^min b 32%4294967296))):=by
 simp only[iA,if_neg (eH b),eI,rk (k:= .u32) rfl];rfl
theorem hh (a b:Nat):iZ .and .u64 (Z a) (Z b)=some (.int .u64 (Z ((a&&&b)%18446744073709551616))):=congrArg (fun x=>some (I.int .u64 x)) (zE (k:= .u64) rfl a b)
theorem hi (a b:Nat):iZ .or .u64 (Z a) (Z b)=some (.int .u64 (Z ((a|||b)%18446744073709551616))):=congrArg (fun x=>some (I.int .u64 x)) (zD (k:= .u64) rfl a b)
theorem hj (a b:Nat):iZ .xor .u64 (Z a) (Z b)=some (.int .u64 (Z ((a ^^^ b)%18446744073709551616))):=congrArg (fun x=>some (I.int .u64 x)) (zF (k:= .u64) rfl a b)
theorem hk (a b:Nat):iA .shr .u64 (Z a) (Z b)=some (.int .u64 (Z (a/2^min b 64))):=by
 simp only[iA,if_neg (eH b),eI,ff];rfl
theorem hl (a b:Nat):iA .shl .u64 (Z a) (Z b)=some (.int .u64 (Z (a*2^min b 64%18446744073709551616))):=by
 simp only[iA,if_neg (eH b),eI,rk (k:= .u64) rfl];rfl
theorem hn (a b:Nat):iA .shr .i64 (Z a) (Z b)=some (.int .i64 (Z (a/2^min b 64))):=by
 simp only[iA,if_neg (eH b),eI,ff];rfl
theorem ho {a b:Nat} (h:a*2^min b 64<9223372036854775808):iA .shl .i64 (Z a) (Z b)=some (.int .i64 (Z (a*2^min b 64))):=by
 have e:Z a*2^min b 64=Z (a*2^min b 64):=by simp only[Z];norm_cast
 simp only[iA,if_neg (eH b),eI,TT,e,e5 h]
theorem hp {a b:Nat} (aA:a<9223372036854775808):iZ .and .i64 (Z a) (Z b)=some (.int .i64 (Z (a&&&b%18446744073709551616))):=by
 have U:(BitVec.ofInt 64 (Z a)&&&BitVec.ofInt 64 (Z b)).toNat=a&&&b%18446744073709551616:=by
  simp only[Z,BitVec.ofInt_natCast,BitVec.toNat_and,BitVec.toNat_ofNat];rw[Nat.mod_eq_of_lt (a:=a) (by omega)]
 show some (I.int .i64 (IntKind.i64.wrap (Z _)))=_
 rw[show (BitVec.ofInt IntKind.i64.bits (Z a)&&&BitVec.ofInt IntKind.i64.bits (Z b)).toNat=_ from U]
 rw[e5 (Nat.lt_of_le_of_lt Nat.and_le_left aA)]
theorem hq:IntKind.i64.bits=64:=rfl
section
variable {G:Nat->Option I} {Φ:FuncId->Option aP} {tab:FuncId->Option (List I->Option I)} {Y:List cy}
def uX (id k:Nat) (ak:Nat->aL->Prop) (E R:aL->Prop):dd->aL->Prop
 | .normal,s=>∃j,j<k/\ak j s
 | .exit i,s=>i=id/\E s
 | .ret,s=>R s
theorem hr (id k:Nat) (ak:Nat->aL->Prop) (E R:aL->Prop) (s:aL):uX id k ak E R .normal s=∃j,j<k/\ak j s:=rfl
theorem hs (id k i:Nat) (ak:Nat->aL->Prop) (E R:aL->Prop) (s:aL):uX id k ak E R (.exit i) s=(i=id/\E s):=rfl
theorem ht (id k:Nat) (ak:Nat->aL->Prop) (E R:aL->Prop) (s:aL):uX id k ak E R .ret s=R s:=rfl
theorem lD {id:Nat} {b:c5} {Q:dd->aL->Prop} (ak:Nat->aL->Prop) (E R:aL->Prop) (k:Nat) {s:aL} (aD:ak k s) (round:∀k s,ak k s->ba G Φ tab Y b s (uX id k ak E R))
 (fin:∀s,E s->Q .normal s) (ret:∀s,R s->Q .ret s):ba G Φ tab Y (.block id (.loop b)) s Q:=by
 refine jX (TN ak (fun k s ql=>(round k s ql).mono fun ex s1 h=>?_) k s aD)
 cases ex with
 | normal=>exact h
 | exit i=>obtain⟨rfl,h⟩:=h;simp only[ri,rj,if_true];exact fin _ h
 | ret=>exact ret _ h
theorem JO {a b:c5} {s:aL} {Q:dd->aL->Prop} (K:aL->Prop) (h:ba G Φ tab Y a s (ri Q K)) (h2:∀s1,K s1->ba G Φ tab Y b s1 Q):ba G Φ tab Y (.seq a b) s Q:=
 bd (h.mono fun ex s1 aM=>by
  cases ex with
  | normal=>exact h2 _ aM
  | exit i=>exact aM
  | ret=>exact aM)
end
noncomputable def xb {A:Type} (pre:A->Prop) (enc:A->List I) (out:A->I):List I->Option I:=fun args=>
 open Classical in if h:∃a,pre a/\enc a=args then some (out (Classical.choose h)) else none
theorem uY {A:Type} {pre:A->Prop} {enc:A->List I} {out:A->I} {args:List I} {v:I} (h:xb pre enc out args=some v):∃a,pre a/\enc a=args/\out a=v:=by
 unfold xb at h
 split at h
 · rename_i ae
   cases h
   exact ⟨_,(Classical.choose_spec ae).1,(Classical.choose_spec ae).2,rfl⟩
 · cases h
theorem TU {A:Type} {pre:A->Prop} {enc:A->List I} {out:A->I} (inj:∀a b,pre a->pre b->enc a=enc b->out a=out b) (a:A) (h:pre a):xb pre enc out (enc a)=some (out a):=by
 unfold xb
 have ae:∃b,pre b/\enc b=enc a:=⟨a,h,rfl⟩
 rw[dif_pos ae]
 obtain⟨U,h2⟩:=Classical.choose_spec ae
 rw[inj _ _ U h h2]
end Go.Eng
namespace Go.Eng
open Go Go.RowKit Go.ChangeShapes Go.WideShapes
inductive dr where
 | int (k:IntKind)
 | bool
 | str
 | sl (e:dr)
 | bT (b9:List dr)
mutual
def dr.size:dr->Nat
 | .bT b9=>dr.sN b9
 | _=>1
def dr.sN:List dr->Nat
 | []=>0
 | f::b9=>f.size+dr.sN b9
end
def dr.one (s:dr) (cs:List I):I:=match s with
 | .bT _=> .agg cs
 | _=>cs.headD .undef
def xc (P:Program) (cc:TypeId->Option dr):Nat->List Field->Option (List dr)
 | _,[]=>some []
 | o,f::b9=>if f.offset=o then (cc f.type).bind fun s=>if P.cellsOf f.type=s.size then (xc P cc (o+s.size) b9).map (s:: ·) else none else none
def shape (P:Program):Nat->TypeId->Option dr
 | 0,_=>none
 | n+1,t=>match P.underlying t with
   | some .bool=>some .bool
   | some (.int k)=>some (.int k)
   | some .string=>some .str
   | some (.slice e)=>(shape P n e).bind fun s=>if P.cellsOf e=s.size/\0<s.size then some (.sl s) else none
   | some (.struct b9)=>(xc P (shape P n) 0 b9.toList).bind fun l=>if P.cellsOf t=dr.sN l then some (.bT l) else none
   | some (.array k e)=>(shape P n e).bind fun s=>if P.cellsOf e=s.size/\P.cellsOf t=k*s.size then some (.bT (List.replicate k s)) else none
   | _=>none
def dr.zero:dr->List Value
 | .int k=>[.int k 0]
 | .bool=>[.bool false]
 | .str=>[.string ByteArray.empty]
 | .sl _=>[.slice none 0 0]
 | .bT b9=>JP b9
where JP:List dr->List Value
 | []=>[]
 | f::b9=>f.zero++JP b9
section
variable {H:Type}
mutual
def nX:dr->List I->DataW H->Prop
 | .int k,cs,d=>∃n,cs= [.int k n]/\d= .lit (.int k n)/\(Lit.int k n).wf=true
 | .bool,cs,d=>∃b,cs= [.bool b]/\d= .lit (.bool b)
 | .str,cs,d=>∃s:ByteArray,cs= [.str s]/\d= .lit (.string s.data.toList)/\s.size<=maxLen
 | .sl e,cs,d=>∃xs,cs= [.sl xs false]/\xs.length<=maxLen/\
     ((d= .nil/\xs= [])\/∃cG rest,d= .slice cG rest/\cG.length=xs.length/\∀i (h:i<xs.length) (h':i<cG.length),∃cs,xs[i]=e.one cs/\cs.length=e.size/\nX e cs cG[i])
 | .bT b9,cs,d=>∃cG,d= .agg cG/\kJ b9 cs cG
def kJ:List dr->List I->List (DataW H)->Prop
 | [],cs,cG=>cs= []/\cG= []
 | f::b9,cs,cG=>∃a b d jf,cs=a++b/\cG=d::jf/\nX f a d/\kJ b9 b jf
end
mutual
theorem nX.length:∀ {s:dr} {cs:List I} {d:DataW H},nX s cs d->cs.length=s.size
 | .int k,_,_,h=>by obtain⟨n,rfl,_⟩:=h;rfl
 | .bool,_,_,h=>by obtain⟨n,rfl,_⟩:=h;rfl
 | .str,_,_,h=>by obtain⟨n,rfl,_⟩:=h;rfl
 | .sl e,_,_,h=>by obtain⟨n,rfl,_⟩:=h;rfl
 | .bT b9,_,_,h=>by obtain⟨cG,_,h⟩:=h;exact kJ.length h
theorem kJ.length:∀ {s:List dr} {cs:List I} {d:List (DataW H)},kJ s cs d->cs.length=dr.sN s
 | [],_,_,h=>by obtain⟨rfl,_⟩:=h;rfl
 | f::b9,_,_,h=>by
   obtain⟨a,b,d,jf,rfl,_,U,h2⟩:=h
   rw[List.length_append,U.length,h2.length];rfl
end
theorem dr.D0 {s:dr} {cs:List I} {d:DataW H} (h:nX s cs d):(s.one cs).cells=cs:=by
 cases s with
 | int k=>obtain⟨n,rfl,_⟩:=h;rfl
 | bool=>obtain⟨n,rfl,_⟩:=h;rfl
 | str=>obtain⟨n,rfl,_⟩:=h;rfl
 | sl e=>obtain⟨n,rfl,_⟩:=h;rfl
 | bT b9=>rfl
variable {enc:TypeId × Value->H} {P:Program} {w:World} {spare:Nat->Bool} {held:Bool} {ok:Nat->Prop}
def mX (w:World) (ok:Nat->Prop) (cs:List I) (vs:List Value):Prop:=
 vs.length=cs.length/\∀i (h:i<cs.length) (h':i<vs.length),dq w ok cs[i] vs[i]
theorem mX.append {a b:List I} {x y:List Value} (h:mX w ok a x) (k:mX w ok b y):mX w ok (a++b) (x++y):=by
 refine⟨by simp[h.1,k.1],fun i ab bY=>?_⟩
 by_cases J:i<a.length
 · rw[List.getElem_append_left J,List.getElem_append_left (by rw[h.1];exact J)]
   exact h.2 i J _
 · rw[List.getElem_append_right (by omega),List.getElem_append_right (by rw[h.1];omega)]
   simp only[h.1]
   exact k.2 (i - a.length) (by simp at ab;omega) _
theorem mX.one {a:I} {x:Value} (h:dq w ok a x):mX w ok [a] [x]:=
 ⟨rfl,fun i ab bY=>by
   have:i=0:=by simpa using ab
   subst this;exact h⟩
theorem JQ {cc:TypeId->Option dr} {n:Nat} {cs:List Value}
 (cZ:∀t s vs x,cc t=some s->DataW.trod enc P w 0 spare held n t vs=some x->∃as,nX s as x.1/\mX w ok as vs):
 ∀(b9:List Field) (o:Nat) (l:List dr) (xs:List (DataW H × List MemPlace)),xc P cc o b9=some l->xs.length=b9.length->o+dr.sN l=cs.length->
  (∀(i:Nat) (f:Field),b9[i]? =some f->DataW.trod enc P w 0 spare held n f.type ((cs.drop f.offset).take (P.cellsOf f.type))=xs[i]?)->
  ∃as,kJ l as (xs.map (·.1))/\mX w ok as (cs.drop o)
 | [],o,l,xs,h,ay,az,ae=>by
   simp only[xc,Option.some.injEq] at h
   subst h
   obtain rfl:xs= []:=by simpa using ay
   refine⟨[],⟨rfl,rfl⟩,?_,fun i ab=>by simp at ab⟩
   simp[dr.sN] at az|-;omega
 | f::b9,o,l,xs,h,ay,az,ae=>by
   simp only[xc] at h
   split at h<;>try(cases h;done)
   rename_i TV
   obtain⟨s,aw,h⟩:=Option.bind_eq_some_iff.1 h
   split at h<;>try(cases h;done)
   rename_i J
   obtain⟨lQ,q6,rfl⟩:=Option.map_eq_some_iff.1 h
   match xs,ay with
   | x::xs,ay=>
     have aD:=ae 0 f rfl
     simp only[List.getElem?_cons_zero] at aD
     obtain⟨as,uZ,D1⟩:=cZ _ _ _ _ aw aD
     simp only[dr.sN] at az
     obtain⟨sg,ll,rl⟩:=JQ (cs:=cs) cZ b9 (o+s.size) lQ xs q6 (by simpa using ay) (by omega) (fun i f bc=>by simpa using ae (i+1) f (by simpa using bc))
     refine⟨as++sg,⟨as,sg,x.1,xs.map (·.1),rfl,by simp,uZ,ll⟩,?_⟩
     have e:cs.drop o=(cs.drop f.offset).take (P.cellsOf f.type)++cs.drop (o+s.size):=by
      rw[TV,J,<-List.drop_drop,List.take_append_drop]
     rw[e]
     exact D1.append rl
theorem JR {cc:dr} {n:Nat} {e:TypeId} {cs:List Value}
 (cZ:∀vs x,DataW.trod enc P w 0 spare held n e vs=some x->∃as,nX cc as x.1/\mX w ok as vs) (J:P.cellsOf e=cc.size):
 ∀(k o:Nat) (xs:List (DataW H × List MemPlace)),xs.length=k->(o+k)*cc.size=cs.length->
  (∀i,i<k->DataW.trod enc P w 0 spare held n e ((cs.drop ((o+i)*P.cellsOf e)).take (P.cellsOf e))=xs[i]?)->
  ∃as,kJ (List.replicate k cc) as (xs.map (·.1))/\mX w ok as (cs.drop (o*cc.size))
 | 0,o,xs,ay,az,ae=>by
   obtain rfl:xs= []:=by simpa using ay
   refine⟨[],⟨rfl,rfl⟩,?_,fun i ab=>by simp at ab⟩
   simp at az|-;omega
 | k+1,o,xs,ay,az,ae=>by
   match xs,ay with
   | x::xs,ay=>
     have aD:=ae 0 (by omega)
     simp only[List.getElem?_cons_zero,Nat.add_zero] at aD
     obtain⟨as,uZ,D1⟩:=cZ _ _ aD
     obtain⟨sg,ll,rl⟩:=JR (cs:=cs) cZ J k (o+1) xs (by simpa using ay) (by rw[<-az];congr 1;omega) (fun i ab=>by
      have:=ae (i+1) (by omega)
      simp only[List.getElem?_cons_succ] at this
      rw[<-this]
      congr 3;congr 1;omega)
     refine⟨as++sg,⟨as,sg,x.1,xs.map (·.1),rfl,by simp,uZ,ll⟩,?_⟩
     have e:cs.drop (o*cc.size)=(cs.drop (o*P.cellsOf e)).take (P.cellsOf e)++cs.drop ((o+1)*cc.size):=by
      rw[J,show (o+1)*cc.size=o*cc.size+cc.size by rw[Nat.add_mul];simp,<-List.drop_drop,List.take_append_drop]
     rw[e]
     exact D1.append rl
theorem JS (i_:∀b,b<w.heap.size->ok b):∀(m:Nat) (fuel:Nat) (t:TypeId) (s:dr) (cs:List Value) (x:DataW H × List MemPlace),shape P m t=some s->
 DataW.trod enc P w 0 spare held fuel t cs=some x->∃as,nX s as x.1/\mX w ok as cs
 | 0,_,_,_,_,_,h,_=>by cases h
 | m+1,fuel,t,s,cs,x,h,ae=>by
   have a8:=JS i_ m
   unfold shape at h
   split at h
   · rename_i aO
     cases h
     obtain⟨b,rfl,rfl⟩:=DataW.trod_bool aO ae
     exact ⟨[.bool b],⟨b,rfl,rfl⟩,.one (.bool b)⟩
   · rename_i k aO
     cases h
     obtain⟨n,rfl,rfl,hw⟩:=DataW.trod_int aO ae
     exact ⟨[.int k n],⟨n,rfl,rfl,hw⟩,.one (.int k n)⟩
   · rename_i aO
     cases h
     obtain⟨z,rfl,rfl,hw⟩:=DataW.trod_string aO ae
     exact ⟨[.str z],⟨z,rfl,rfl,hw⟩,.one (.str z)⟩
   · rename_i e aO
     obtain⟨ar,aw,h⟩:=Option.bind_eq_some_iff.1 h
     split at h<;>try(cases h;done)
     rename_i J
     cases h
     rcases DataW.trod_slice aO ae with⟨rfl,rfl⟩|⟨a,len,cap,elems,rest,n,_,rfl,rfl,ad,ay,hm,hlen,kW,_,_⟩
     · refine⟨[.sl [] false],⟨[],rfl,by simp,.inl ⟨rfl,rfl⟩⟩,.one ?_⟩
       exact .sl [] false none 0 1 (fun _ _=> .nilFunc) (Nat.le_refl _) (fun h=>by cases h) (fun i ab=>by simp at ab) (fun i j ab=>by simp at ab) (fun h=>by simp at h) (fun i ab=>by simp at ab)
     · have each:∀i:Fin len,∃p:List Value × List I,w.cells? 0 (a.add (i.1*P.cellsOf e)) (P.cellsOf e)=some p.1/\mX w ok p.2 p.1/\∃h:i.1<elems.length,nX ar p.2 (elems[i.1]).1:=by
        intro i
        have:=kW i.1 i.2
        rw[List.getElem?_eq_getElem (by rw[hlen];exact i.2)] at this
        obtain⟨vs,U,h2⟩:=Option.bind_eq_some_iff.1 this
        obtain⟨as,aA,aR⟩:=a8 _ _ _ _ _ aw h2
        exact ⟨(vs,as),U,aR,by rw[hlen];exact i.2,aA⟩
       let g:Fin len->List Value × List I:=fun i=>Classical.choose (each i)
       have aX:∀i:Fin len,w.cells? 0 (a.add (i.1*P.cellsOf e)) (P.cellsOf e)=some (g i).1/\mX w ok (g i).2 (g i).1/\∃h:i.1<elems.length,nX ar (g i).2 (elems[i.1]).1:=fun i=>Classical.choose_spec (each i)
       refine⟨[.sl (List.ofFn fun i=>ar.one (g i).2) false],⟨_,rfl,by simp;omega,.inr ⟨_,_,rfl,by simp[hlen],fun i ab bY=>?_⟩⟩,.one ?_⟩
       · simp only[List.length_ofFn] at ab
         obtain⟨_,_,he,a3⟩:=aX ⟨i,ab⟩
         exact ⟨(g ⟨i,ab⟩).2,by simp,a3.length,by simpa using a3⟩
       · have key:=dq.sl (w:=w) (ok:=ok) (List.ofFn fun i=>ar.one (g i).2) false (some a) cap ar.size
          (fun i j=>if h:i<len then (g ⟨i,h⟩).1.getD j .nilFunc else .nilFunc) (by simpa using ay) (fun h=>by cases h)
          (fun i ab=>by
            simp only[List.length_ofFn] at ab
            obtain⟨_,_,he,a3⟩:=aX ⟨i,ab⟩
            simp only[List.getElem_ofFn]
            rw[dr.D0 a3,a3.length])
          (fun i j ab aC=>by
            simp only[List.length_ofFn] at ab
            obtain⟨U,_,_⟩:=aX ⟨i,ab⟩
            obtain⟨_,h2,aB⟩:=World.cells?_some U
            have:=aB j (by rw[J.1];exact aC)
            rw[List.getElem?_eq_getElem (by rw[h2,J.1];exact aC),Go.Addr.add_add] at this
            refine⟨a,rfl,?_,?_⟩
            · have oi:=World.block_lt_of_cell? w _ this
              rw[Addr.q1] at oi
              exact i_ _ oi
            · rw[show i*ar.size+j=i*P.cellsOf e+j by rw[J.1]]
              rw[show w.cell? (a.add (i*P.cellsOf e+j))=_ from this]
              simp[ab,h2,J.1,aC])
          (fun _=>rfl)
          (fun i ab j aC=>by
            simp only[List.length_ofFn] at ab
            obtain⟨_,h2,he,a3⟩:=aX ⟨i,ab⟩
            simp only[List.getElem_ofFn,dr.D0 a3] at aC|-
            simp only[ab,dif_pos]
            have kr:j<(g ⟨i,ab⟩).1.length:=by rw[h2.1];exact aC
            rw[show (g ⟨i,ab⟩).1.getD j .nilFunc=(g ⟨i,ab⟩).1[j] by simp[List.getD,kr]]
            exact h2.2 j aC kr)
         simpa using key
   · rename_i b9 aO
     obtain⟨l,ay,h⟩:=Option.bind_eq_some_iff.1 h
     split at h<;>try(cases h;done)
     rename_i J
     cases h
     obtain⟨xs,n,_,rfl,nL,p_,bc⟩:=DataW.trod_struct aO ae
     obtain⟨as,U,h2⟩:=JQ (ok:=ok) (cs:=cs) (fun t s vs x aw ae=>a8 _ _ _ _ _ aw ae) b9.toList 0 l xs ay (by simpa using p_) (by rw[nL,J];omega) (fun i f ab=>bc i f (by simpa using ab))
     exact ⟨as,⟨_,rfl,U⟩,by simpa using h2⟩
   · rename_i k e aO
     obtain⟨ar,aw,h⟩:=Option.bind_eq_some_iff.1 h
     split at h<;>try(cases h;done)
     rename_i J
     cases h
     obtain⟨xs,n,_,rfl,nL,p_,bc⟩:=DataW.trod_array aO ae
     obtain⟨as,U,h2⟩:=JR (ok:=ok) (cs:=cs) (fun vs x ae=>a8 _ _ _ _ _ aw ae) J.1 k 0 xs p_ (by rw[nL,J.2];simp) (fun i ab=>by simpa using bc i ab)
     exact ⟨as,⟨_,rfl,U⟩,by simpa using h2⟩
   · cases h
end
section rows
variable {H:Type} {enc:TypeId × Value->H} {P:Program} {w:World} {spare:Nat->Bool} {held:Bool} {ok:Nat->Prop}
theorem TW {s:dr} {as:List I} {d:DataW H} {v:Value} (h:nX s as d) (al:(∃b9,s= .bT b9)->∃cs,v= .agg cs) (ai:(∃cs,v= .agg cs)->∃b9,s= .bT b9) (aR:mX w ok as v.cells.toList):dq w ok (s.one as) v:=by
 cases s with
 | bT b9=>
   obtain⟨cs,rfl⟩:=al ⟨b9,rfl⟩
   exact .agg as cs (by simpa[Value.cells] using aR.1) fun i h h'=>by
    have:=aR.2 i h (by simpa[Value.cells] using h')
    simpa[Value.cells] using this
 | _=>
   have J:v.cells= #[v]:=by
    cases v<;>first|rfl|(obtain⟨b9,e⟩:=ai ⟨_,rfl⟩;cases e)
   have U:=h.length
   rw[J] at aR
   match as,U,aR with
   | [a],_,aR=>exact aR.2 0 (by simp) (by simp)
def lS (s:dr) (a:I):Prop:=∃(H:Type) (as:List I) (d:DataW H),a=s.one as/\nX s as d
def sO:List dr->List I->Prop
 | [],as=>as= []
 | s::ss,as=>∃a CQ,as=a::CQ/\lS s a/\sO ss CQ
theorem TX {m:Nat} {t:TypeId} {s:dr} {r:Reach} {b0:Nat} {v:Value} (h:shape P m t=some s) (al:Value.okWide P w r b0 t v):((∃b9,s= .bT b9)->∃cs,v= .agg cs)/\((∃cs,v= .agg cs)->∃b9,s= .bT b9):=by
 cases m with
 | zero=>cases h
 | succ m=>
   unfold shape at h
   split at h
   · rename_i aO;cases h
     obtain⟨b,rfl⟩:=okWide_bool aO al
     exact ⟨(by rintro ⟨b9,e⟩;cases e),(by rintro ⟨b9,e⟩;cases e)⟩
   · rename_i k aO;cases h
     obtain⟨b,rfl⟩:=okWide_int aO al
     exact ⟨(by rintro ⟨b9,e⟩;cases e),(by rintro ⟨b9,e⟩;cases e)⟩
   · rename_i aO;cases h
     obtain⟨b,rfl⟩:=okWide_string aO al
     exact ⟨(by rintro ⟨b9,e⟩;cases e),(by rintro ⟨b9,e⟩;cases e)⟩
   · rename_i e aO
     obtain⟨ar,aw,h⟩:=Option.bind_eq_some_iff.1 h
     split at h<;>try(cases h;done)
     cases h
     obtain⟨a,b,c,rfl⟩:=okWide_slice aO al
     exact ⟨(by rintro ⟨b9,e⟩;cases e),(by rintro ⟨b9,e⟩;cases e)⟩
   · rename_i b9 aO
     obtain⟨ar,aw,h⟩:=Option.bind_eq_some_iff.1 h
     split at h<;>try(cases h;done)
     cases h
     obtain⟨a,rfl,_⟩:=okWide_struct aO al
     exact ⟨fun _=>⟨_,rfl⟩,fun _=>⟨_,rfl⟩⟩
   · rename_i k e aO
     obtain⟨ar,aw,h⟩:=Option.bind_eq_some_iff.1 h
     split at h<;>try(cases h;done)
     cases h
     have aA:∃cs,v= .agg cs:=by
      simp only[Value.okWide,aO] at al
      obtain⟨cs,U,_⟩:=al
      exact ⟨cs,U⟩
     exact ⟨fun _=>aA,fun _=>⟨_,rfl⟩⟩
   · cases h
theorem JT {r:Reach} {b0:Nat} (i_:∀b,b<w.heap.size->ok b) {m:Nat}:∀ {dS:List TypeId} {ss:List dr} {vs:List Value} {cG:List (DataW H)} {ps:List MemPlace},dS.mapM (shape P m)=some ss->
 DataW.TrodAll enc P w 0 spare held dS vs cG ps->(∀(j:Nat) t v,dS[j]? =some t->vs[j]? =some v->Value.okWide P w r b0 t v)->
 ∃as,sO ss as/\vs.length=as.length/\∀i (h:i<as.length) (h':i<vs.length),dq w ok as[i] vs[i]
 | [],ss,vs,cG,ps,aw,h,_=>by
   obtain⟨rfl,rfl,rfl⟩:=trodAll_nil h
   obtain rfl: []=ss:=by simpa using aw
   exact ⟨[],rfl,rfl,fun i ab=>by simp at ab⟩
 | t::dS,ss,vs,cG,ps,aw,h,al=>by
   obtain⟨v,mP,d,jf,p,q,rfl,rfl,rfl,⟨fuel,aD⟩,U⟩:=trodAll_cons h
   rw[List.mapM_cons] at aw
   obtain⟨s,sP,aw⟩:=Option.bind_eq_some_iff.1 aw
   obtain⟨ajg,o4,aw⟩:=Option.bind_eq_some_iff.1 aw
   cases aw
   obtain⟨as,h2,aB,aS⟩:=JT i_ o4 U (fun j TY kh aO TZ=>al (j+1) TY kh (by simpa using aO) (by simpa using TZ))
   obtain⟨cs,b8,bQ⟩:=JS i_ _ _ _ _ _ _ sP aD
   obtain⟨j7,du⟩:=TX sP (al 0 t v rfl rfl)
   refine⟨s.one cs::as,⟨_,_,rfl,⟨H,cs,d,rfl,b8⟩,h2⟩,by simp[aB],fun i ab bY=>?_⟩
   cases i with
   | zero=>exact TW b8 j7 du bQ
   | succ i=>exact aS i _ _
theorem JU (ay:laidOutB P=true) {aQ:World} (ad:Below w.heap.size w aQ):∀ {dS:List TypeId} {vs:List Value} {cG:List (DataW H)} {ps:List MemPlace},
 (dS.all fun t=>P.readableRec t&&decide (t<P.types.size))=true->
 DataW.TrodAll enc P w 0 (fun _=>true) true dS vs cG ps->DataW.TrodAll enc P aQ 0 (fun b=>decide (b<w.heap.size)) true dS vs cG ps
 | [],vs,cG,ps,_,h=>by
   obtain⟨rfl,rfl,rfl⟩:=trodAll_nil h
   exact trodAll_mk0
 | t::dS,vs,cG,ps,aA,h=>by
   obtain⟨v,mP,d,jf,p,q,rfl,rfl,rfl,aD,U⟩:=trodAll_cons h
   simp only[List.all_cons,Bool.and_eq_true,decide_eq_true_eq] at aA
   obtain⟨m,hm⟩:=aD
   exact trodAll_cons_mk (Below.trod ay aA.1.1 aA.1.2 ⟨m,hm⟩ ad (fun x ae=>DataW.trod_lt m _ _ _ hm x ae)) (JU ay ad aA.2 U)
theorem lifted {C:Checked} {os:Os} {f:FuncId} {fn:Func} {s:ChangeSpec} {m:Nat} {ss:List dr} {T:List I->Option I} {G:Nat->Option I} {X:World->Array Value->Prop} {JV:TypeId} {body:Code}
 (mj:∀(w aQ:World) (args:Array Value),w.heap=aQ.heap->X w args->X aQ args)
 (own:ownKnob C.prog.godebug=none) (started:os.Started) (T0:C.prog.inits.idxOf? f=none) (mU:C.prog.funcs[f]? =some fn)
 (witness:∃(w:World) (tape:Tape) (i:Input),w.os=os/\(w.forCall tape i).Shaped C.prog/\i.vars= []/\Input.okWide C.prog (w.forCall tape i) .any w.heap.size f i/\
   ((s.pre enc C.prog fn [] false (w.forCall tape i).memory i.args/\X (w.forCall tape i).memory i.args)/\sizedMet enc C.prog fn (OpenSpec.ofChange s) false (w.forCall tape i).memory i.args)/\({}:Assume).holds C.prog (lone (Frame.enter C.prog f i.args .normal) [] (w.forCall tape i)))
 (ay:laidOutB C.prog=true)
 (aw:fn.params.toList.mapM (shape C.prog m)=some ss) (T1:(fn.params.toList.all fun t=>C.prog.readableRec t&&decide (t<C.prog.types.size))=true)
 (T2:fn.body=some body) (DI:fn.name≠ "runtime.NumGoroutine")
 (DH:fn.resultTypes= #[JV]) (CZ:C.prog.underlying JV=some .bool) (JW:s.vars= [])
 (D2:∀cG:List (DataW H),cG.length=fn.params.size->s.fn H cG= {results:=[.lit (.bool true)],args:=cG})
 (T3:∀W args,X W args->∀g u,G g=some u->a5 W (fun _=>True) (fun _=>none) (.e2 u) (.pointer (some ⟨g,0,none⟩)))
 (J:aH C.prog G f T) (cA:∀as,sO ss as->T as=some (.bool true)):
 ReturnsInHanded {} C os f .any (fun w args=>(s.pre enc C.prog fn [] false w args/\X w args)/\sizedMet enc C.prog fn (OpenSpec.ofChange s) false w args) (s.post enc C.prog fn false true false false):=by
 refine returnsInHanded_of_change_and mj own started T0 mU witness ?_
 intro W base args cG gs before lP lq _ _ ae _
 have T4:=lq
 obtain⟨p,q,a6,JX,rfl,ajh,pg⟩:=lq
 rw[JW] at JX
 obtain⟨rfl,rfl⟩:=trodVars_none JX
 obtain⟨as,U,h2,aB⟩:=JT (ok:=fun _=>True) (fun _ _=>trivial) aw a6 (fun j t v aO al=>lP j t v (by simpa using aO) (by simpa using al))
 have D:=J as _ (cA as U) (fun _=>True) W args (by simpa using h2) (fun i h h'=>by have:=aB i h (by simpa using h');rwa [Array.getElem_toList] at this) (T3 W args ae)
 have D3:cG.length=fn.params.size:=by
  have:∀ {dS:List TypeId} {vs:List Value} {cG:List (DataW H)} {ps:List MemPlace},DataW.TrodAll enc C.prog W 0 (fun _=>true) true dS vs cG ps->cG.length=dS.length:=by
   intro dS
   induction dS with
   | nil=>intro vs cG ps h;obtain⟨_,rfl,_⟩:=trodAll_nil h;rfl
   | cons t dS a8=>
     intro vs cG ps h
     obtain⟨v,mP,d,jf,p,q,rfl,rfl,rfl,aD,U⟩:=trodAll_cons h
     simp[a8 U]
  simpa using this a6
 have fin:∀cv aQ,dq aQ (fun b=>True\/W.heap.size<=b) (.bool true) cv/\Below W.heap.size W aQ->s.post enc C.prog fn false true false false W args cv aQ:=by
  rintro cv aQ ⟨aR,ad⟩
  cases aR
  refine⟨cG,[],_,[],p,[],T4,?_,?_,?_,ad.frame _,fun h=>by cases h⟩
  · rw[List.append_nil,D2 cG D3,DH]
    exact trodAll_mk1 (shut_bool CZ _)
  · rw[List.append_nil,D2 cG D3]
    exact JU ay ad T1 a6
  · rw[JW,List.append_nil,D2 cG D3]
    rfl
 rcases D with⟨_,d2⟩|⟨cv,aQ,d1,_⟩
 · refine d2.mono fun e aQ ⟨cv,he,eY⟩=>⟨cv,he,fin cv aQ eY⟩
 · have:=zn mU T2 DI args W
   rw[this] at d1
   cases d1
end rows
end Go.Eng
namespace Go.Eng
open Go Go.RowKit
theorem JY {k:IntKind} {n:Int} (h:(Lit.int k n).wf=true):k.min<=n/\n<=k.max:=by
 simpa[Lit.wf] using h
theorem T5 {k:IntKind} {a:I} (h:lS (.int k) a):∃n:Int,a= .int k n/\k.min<=n/\n<=k.max:=by
 obtain⟨H,zs,d,rfl,n,rfl,_,hw⟩:=h
 exact ⟨n,rfl,(JY hw).1,(JY hw).2⟩
theorem T6 {a:I} (h:lS .bool a):∃b,a= .bool b:=by
 obtain⟨H,zs,d,rfl,b,rfl,_⟩:=h
 exact ⟨b,rfl⟩
theorem JZ {e:dr} {a:I} (h:lS (.sl e) a):∃xs,a= .sl xs false/\xs.length<=maxLen/\∀x∈xs,lS e x:=by
 obtain⟨H,zs,d,rfl,xs,rfl,hm,a3⟩:=h
 refine⟨xs,rfl,hm,fun x ae=>?_⟩
 rcases a3 with⟨_,rfl⟩|⟨cG,rest,_,ay,T7⟩
 · cases ae
 · obtain⟨i,ab,rfl⟩:=List.mem_iff_getElem.1 ae
   obtain⟨cs,U,_,h2⟩:=T7 i ab (by omega)
   exact ⟨H,cs,_,U,h2⟩
theorem J0 {b9:List dr} {a:I} (h:lS (.bT b9) a):∃(H:Type) (cs:List I) (cG:List (DataW H)),a= .agg cs/\kJ b9 cs cG:=by
 obtain⟨H,zs,d,rfl,cG,rfl,a3⟩:=h
 exact ⟨H,zs,cG,rfl,a3⟩
theorem T8 {a:I} (h:lS (.int .u32) a):∃n,a= .int .u32 (Z n)/\n<4294967296:=by
 obtain⟨n,rfl,U,h2⟩:=T5 h
 simp[IntKind.min,IntKind.max,IntKind.signed,IntKind.bits] at U h2
 obtain⟨n,rfl⟩:=Int.eq_ofNat_of_zero_le U
 exact ⟨n,rfl,by omega⟩
theorem T9 {a:I} (h:lS (.sl (.int .u32)) a):∃l:List Nat,a= .sl (l.map fun n=> .int .u32 (Z n)) false/\l.length<=maxLen/\∀x∈l,x<4294967296:=by
 obtain⟨xs,rfl,hm,ae⟩:=JZ h
 have:∃l:List Nat,xs=l.map (fun n=> .int .u32 (Z n))/\∀x∈l,x<4294967296:=by
  clear hm h
  induction xs with
  | nil=>exact ⟨[],rfl,fun x ae=>by cases ae⟩
  | cons x xs a8=>
    obtain⟨n,rfl,ai⟩:=T8 (ae x (by simp))
    obtain⟨l,rfl,ay⟩:=a8 (fun y aN=>ae y (by simp[aN]))
    exact ⟨n::l,rfl,fun y aN=>by
     rcases List.mem_cons.1 aN with rfl|aN
     · exact ai
     · exact ay y aN⟩
 obtain⟨l,rfl,ay⟩:=this
 exact ⟨l,rfl,by simpa using hm,ay⟩
theorem T_ {H:Type} {f:dr} {b9:List dr} {cs:List I} {cG:List (DataW H)} (h:kJ (f::b9) cs cG):∃(a b:List I) (jf:List (DataW H)),cs=a++b/\lS f (f.one a)/\(f.one a).cells=a/\kJ b9 b jf:=by
 obtain⟨a,b,d,jf,rfl,_,U,h2⟩:=h
 exact ⟨a,b,jf,rfl,⟨H,a,d,rfl,U⟩,dr.D0 U,h2⟩
theorem D4 {H:Type} {cs:List I} {cG:List (DataW H)} (h:kJ [] cs cG):cs= []:=h.1
theorem D5 {s:dr} {ss:List dr} {l:List I} (h:sO (s::ss) l):∃a lQ,l=a::lQ/\lS s a/\sO ss lQ:=h
theorem T' {l:List I} (h:sO [] l):l= []:=h
end Go.Eng
namespace Go.Eng
open Go Go.RowKit
mutual
def I.loose:I->I
 | .sl xs _=> .sl (k2 xs) false
 | .agg cs=> .agg (k2 cs)
 | .bL vs=> .bL (k2 vs)
 | v=>v
def k2:List I->List I
 | []=>[]
 | v::vs=>v.loose::k2 vs
end
theorem qm:∀l:List I,k2 l=l.map I.loose
 | []=>rfl
 | v::l=>by simp only[k2,List.map_cons,qm l]
theorem e0:k2 []= []:=rfl
theorem eJ (v:I) (l:List I):k2 (v::l)=v.loose::k2 l:=rfl
theorem dj (xs:List I) (e:Bool):(I.sl xs e).loose= .sl (k2 xs) false:=by simp only[I.loose]
theorem eV (xs:List I):(I.agg xs).loose= .agg (k2 xs):=by simp only[I.loose]
theorem fM (xs:List I):(I.bL xs).loose= .bL (k2 xs):=by simp only[I.loose]
theorem fm (k:IntKind) (n:Int):(I.int k n).loose= .int k n:=by simp only[I.loose]
theorem eW (b:Bool):(I.bool b).loose= .bool b:=by simp only[I.loose]
theorem fN (b:ByteArray):(I.str b).loose= .str b:=by simp only[I.loose]
theorem fO:I.nilfn.loose= .nilfn:=by simp only[I.loose]
theorem fP (m:List (Int × FuncId)):(I.mp m).loose= .mp m:=by simp only[I.loose]
theorem Ua (f:FuncId) (a b:List I):(I.fn f a b).loose= .fn f a b:=by simp only[I.loose]
theorem D6 (v:I):v.loose.cells=v.cells.map I.loose:=by
 cases v<;>simp[I.loose,I.cells,qm]
theorem dq.loose {w:World} {ok:Nat->Prop} {v:I} {cv:Value} (h:dq w ok v cv):dq w ok v.loose cv:=by
 induction h with
 | int k n=>rw[fm];exact .int k n
 | bool b=>rw[eW];exact .bool b
 | str s=>rw[fN];exact .str s
 | nilfn=>rw[fO];exact .nilfn
 | fn f=>rw[Ua];exact .fn f
 | mp m r es clock U h2 aB aS=>rw[fP];exact .mp m r es clock U h2 aB aS
 | sl xs ex A c sz ep U h2 aB aS cd ee a8=>
   rw[dj,qm]
   have R:=dq.sl (w:=w) (ok:=ok) (xs.map I.loose) false A c sz ep (by simpa using U) (fun h=>by cases h) (fun i h=>by
    have ab:i<xs.length:=by simpa using h
    rw[List.getElem_map,D6,List.length_map];exact aB i ab) (fun i j ab aC=>aS i j (by simpa using ab) aC) (fun aF=>cd (by simpa using aF)) (fun i ab j aC=>by
    have bY:i<xs.length:=by simpa using ab
    have kr:j<xs[i].cells.length:=by
     rw[List.getElem_map,D6,List.length_map] at aC;exact aC
    have e:((xs.map I.loose)[i]'ab).cells[j]=(xs[i].cells[j]).loose:=by
     simp[D6]
    rw[e]
    exact a8 i bY j kr)
   simpa using R
 | agg cs vs ay h a8=>
   rw[eV,qm]
   refine .agg _ vs (by simpa using ay) fun i ab bY=>?_
   rw[List.getElem_map]
   exact a8 i (by simpa using ab) bY
 | bL cs vs ay h a8=>
   rw[fM,qm]
   refine .bL _ vs (by simpa using ay) fun i ab bY=>?_
   rw[List.getElem_map]
   exact a8 i (by simpa using ab) bY
theorem Ub {P:Program} {G:Nat->Option I} {f:FuncId} {T J1:List I->Option I} (h:aH P G f T) (cA:∀args v,J1 args=some v->∃kh,T (args.map I.loose)=some kh/\kh.loose=v):aH P G f J1:=by
 intro args v al ok w dh c6 fr qg
 obtain⟨kh,U,rfl⟩:=cA args v al
 have D:=h _ _ U ok w dh (by simpa using c6) (fun i ab bY=>by
  rw[List.getElem_map]
  exact (fr i (by simpa using ab) bY).loose) qg
 rcases D with⟨d1,d2⟩|⟨cv,aQ,d1,d2,d3⟩
 · exact .inl ⟨d1,d2.mono fun e aQ ⟨cv,he,eY,ad⟩=>⟨cv,he,eY.loose,ad⟩⟩
 · exact .inr ⟨cv,aQ,d1,d2.loose,d3⟩
def fA (res:List mO) (v:I) (ex:dd) (s:aL):Prop:=
 (match ex with
  | .exit _=>False
  | _=>True)/\((dE s.h s.F res).bind fun u=>(jw s.h u).map fun p=>p.1.loose)=some v
theorem Uc {G:Nat->Option I} {Φ:FuncId->Option aP} {tab:FuncId->Option (List I->Option I)} {f:FuncId} {fn:aP} (bc:Φ f=some fn) {args:List I} {v:I} (h:ba G Φ tab [] fn.body ⟨dM args,aD⟩ (fA fn.res v)):
 ∃kh,kh.loose=v/\∃n,mQ G Φ tab n f args=some kh:=by
 obtain⟨n,ex,ar,e,da,db⟩:=h
 obtain⟨u,hu,db⟩:=Option.bind_eq_some_iff.1 db
 obtain⟨p,aF,rfl⟩:=Option.map_eq_some_iff.1 db
 refine⟨p.1,rfl,n,?_⟩
 unfold mQ yS
 simp only[bc,e]
 cases ex with
 | exit i=>exact da.elim
 | normal=>simp only[hu,Option.map_some,Option.bind_some,aF]
 | ret=>simp only[hu,Option.map_some,Option.bind_some,aF]
noncomputable def a9 {A:Type} (pre:A->Prop) (enc:A->List I) (out:A->I):List I->Option I:=fun args=>xb pre enc out (args.map I.loose)
theorem bk {A:Type} {pre:A->Prop} {enc:A->List I} {out:A->I} (inj:∀a b,enc a=enc b->out a=out b) (a:A) (h:pre a) {args:List I} (he:args.map I.loose=enc a):a9 pre enc out args=some (out a):=by
 unfold a9
 rw[he]
 exact TU (fun a b _ _ h=>inj a b h) a h
theorem bf {P:Program} {G:Nat->Option I} {tab:FuncId->Option (List I->Option I)} (hm:P.follows .mixedOrders=true) (lp:∀f T,tab f=some T->aH P G f T) {f:FuncId} {fn:aP} (bc:aI P f=some fn)
 {A:Type} {pre:A->Prop} {enc:A->List I} {out:A->I} (h:∀a,pre a->ba G (aI P) tab [] fn.body ⟨dM (enc a),aD⟩ (fA fn.res (out a))):aH P G f (a9 pre enc out):=by
 have J:aH P G f (fun args=>open Classical in if h:∃v,∃n,mQ G (aI P) tab n f args=some v then some (Classical.choose h) else none):=
  zx hm lp fun args v cA=>by
   split at cA
   · rename_i ae
     cases cA
     exact Classical.choose_spec ae
   · cases cA
 refine Ub J fun args v cA=>?_
 obtain⟨a,U,h2,rfl⟩:=uY cA
 obtain⟨kh,aB,n,aS⟩:=Uc bc (h a U)
 rw[<-h2]
 have ae:∃v,∃n,mQ G (aI P) tab n f (enc a)=some v:=⟨kh,n,aS⟩
 refine⟨kh,?_,aB⟩
 rw[dif_pos ae]
 congr 1
 obtain⟨m,cd⟩:=Classical.choose_spec ae
 have mono:∀ {n m:Nat} {v:I},n<=m->mQ G (aI P) tab n f (enc a)=some v->mQ G (aI P) tab m f (enc a)=some v:=by
  intro n m v nr al
  unfold mQ at al|-
  obtain⟨p,U,h2⟩:=Option.bind_eq_some_iff.1 al
  rw[DS] at U
  have:=w' (Y:=[]) nr (.fn f) (enc a) aD p U
  rw[DS,show kv G (aI P) tab m [] f (enc a) aD=some p from this]
  exact h2
 have a1:=mono (Nat.le_max_left n m) aS
 have eX:=mono (Nat.le_max_right n m) cd
 rw[a1] at eX
 exact (Option.some.inj eX).symm
theorem hv (k:IntKind):I.int k 0=I.int k (Z 0):=rfl
theorem fB (k:IntKind):I.int k 1=I.int k (Z 1):=rfl
theorem hx (h:ah) (k:IntKind) (n:Int):dD h (.int k n)=some (.int k n,[]):=rfl
theorem hy (h:ah) (k:IntKind) (n:Int):iR h (.int k n)=dD h (.int k n):=rfl
theorem hz (h:ah) (k:IntKind) (n:Int):jw h (.int k n)=dD h (.int k n):=rfl
theorem hA (h:ah) (b:Bool):dD h (.bool b)=some (.bool b,[]):=rfl
theorem hB (h:ah) (b:Bool):iR h (.bool b)=dD h (.bool b):=rfl
theorem hC (h:ah) (b:Bool):jw h (.bool b)=dD h (.bool b):=rfl
theorem hD (h:ah) (b:ByteArray):dD h (.str b)=some (.str b,[]):=rfl
theorem hE (h:ah) (b:ByteArray):iR h (.str b)=dD h (.str b):=rfl
theorem hF (h:ah) (b:ByteArray):jw h (.str b)=dD h (.str b):=rfl
theorem hG (h:ah) (xs:List I) (e:Bool):dD h (.sl xs e)=some (.sl xs e,[]):=rfl
theorem hH (h:ah) (xs:List I) (e:Bool):iR h (.sl xs e)=dD h (.sl xs e):=rfl
theorem hI (h:ah) (xs:List I) (e:Bool):jw h (.sl xs e)=dD h (.sl xs e):=rfl
theorem fs (h:ah) (i o l c:Nat):dD h (.ref i o l c)=match h.cells i with
 | some blk=>if o+l<=blk.length/\(blk.all I.dQ)=true then some (.sl ((blk.drop o).take l) false,[i]) else none
 | none=>none:=rfl
theorem hJ (h:ah) (i o l c:Nat):iR h (.ref i o l c)=dD h (.ref i o l c):=rfl
theorem hK (h:ah) (i o l c:Nat):jw h (.ref i o l c)=dD h (.ref i o l c):=rfl
theorem hL (h:ah):dD h (.nilfn)=some (.nilfn,[]):=rfl
theorem hM (h:ah):iR h (.nilfn)=dD h (.nilfn):=rfl
theorem hN (h:ah):jw h (.nilfn)=dD h (.nilfn):=rfl
theorem hO (h:ah) (m:List (Int × FuncId)):dD h (.mp m)=some (.mp m,[]):=rfl
theorem hP (h:ah) (m:List (Int × FuncId)):iR h (.mp m)=dD h (.mp m):=rfl
theorem hQ (h:ah) (m:List (Int × FuncId)):jw h (.mp m)=dD h (.mp m):=rfl
theorem hR (h:ah) (f:FuncId) (x y:List I):dD h (.fn f x y)=none:=rfl
theorem hS (h:ah) (f:FuncId) (x y:List I):iR h (.fn f x y)=dD h (.fn f x y):=rfl
theorem hT (h:ah) (f:FuncId) (x y:List I):jw h (.fn f x y)=dD h (.fn f x y):=rfl
theorem hU (h:ah) (i j k:Nat):dD h (.ptr i j k)=none:=rfl
theorem hV (h:ah) (i j k:Nat):iR h (.ptr i j k)=dD h (.ptr i j k):=rfl
theorem hW (h:ah) (i j k:Nat):jw h (.ptr i j k)=dD h (.ptr i j k):=rfl
theorem hX (h:ah) (v:I):dD h (.e2 v)=none:=rfl
theorem hY (h:ah) (v:I):iR h (.e2 v)=dD h (.e2 v):=rfl
theorem hZ (h:ah) (v:I):jw h (.e2 v)=dD h (.e2 v):=rfl
theorem h0 (h:ah):dD h (.undef)=none:=rfl
theorem h1 (h:ah):iR h (.undef)=dD h (.undef):=rfl
theorem h3 (h:ah):jw h (.undef)=dD h (.undef):=rfl
theorem h4 (h:ah) (cs:List I):iR h (.agg cs)=(ei h cs).map fun(jP,a)=>(.agg jP,a):=rfl
theorem h5 (h:ah) (cs:List I):jw h (.agg cs)=(ei h cs).map fun(jP,a)=>(.agg jP,a):=rfl
theorem h6 (h:ah) (cs:List I):jw h (.bL cs)=(ec h cs).map fun(jP,a)=>(.bL jP,a):=rfl
def kK (r sz bytes:Nat) (h:ah) (x y:I):Option (I × ah × eb):=(elems h y).bind fun ys=>
    if 0<sz/\0<bytes/\(ys.all fun e=>e.cells.length == sz&&e.cells.all I.ca)=true then
     match x with
     | .sl xs ex=>if ys.length=0 then some (.sl xs ex,h,if kC y then .pure else .wr) else if ex=true/\(xs.length+ys.length)*bytes<=35184372088832/\0<ys.length/\(xs.all fun e=>e.cells.length == sz)=true
         then some (.ref r 0 (xs.length+ys.length) (xs.length+ys.length),h.new r (xs++ys),if kC y then .jv else .wr) else none
     | .ref id off len cap=>if ys.length=0 then some (.ref id off len cap,h,if kC y then .pure else .wr) else if h.shut id=true then none else (h.cells id).bind fun blk=>
         if off+len<=blk.length/\(len+ys.length)*bytes<=35184372088832/\0<ys.length/\(blk.all fun e=>e.cells.length == sz)=true then
          if len+ys.length<=cap then
           if off+cap<=blk.length then some (.ref id off (len+ys.length) cap,h.new id (blk.take (off+len)++ys++blk.drop (off+len+ys.length)),.wr) else none
          else if off=0/\0<len then some (.ref r 0 (len+ys.length) (len+ys.length),{h with cells:=au (au h.cells id none) r (some (blk.take len++ys))},.wr) else none
         else none
     | _=>none
    else none
theorem h7 (aZ r:Nat) (a_:aT->I) (h:ah) (sz bytes:Nat) (x y:aT):evalOp aZ r a_ h (.app sz bytes x y)=kK r sz bytes h (a_ x) (a_ y):=by rfl
def bH (sz:Nat) (h:ah) (v:I) (xs:List I):Prop:=
 (∀j,h.next<=j->h.shut j=false)/\
 ((xs= []/\v= .sl [] true)\/(0<xs.length/\∃q,v= .ref q 0 xs.length xs.length/\h.cells q=some xs/\h.shut q=false/\q<h.next/\(xs.all fun e=>e.cells.length == sz)=true))
def k3 (r:Nat) (h:ah) (v:I) (zs:List I):ah:=match v with
 | .ref q _ _ _=>{h with cells:=au (au h.cells q none) r (some zs)}
 | _=>h.new r zs
def D7 (v:I):eb:=match v with
 | .ref .. => .wr
 | _=> .jv
theorem fQ (r:Nat) (h:ah) (v:I) (zs:List I):(k3 r h v zs).cells r=some zs:=by
 unfold k3;split<;>simp[ah.new,au]
theorem h8 (r:Nat) (h:ah) (v:I) (zs:List I):(k3 r h v zs).next=h.next:=by
 unfold k3;split<;>rfl
theorem h9 (r:Nat) (h:ah) (v:I) (zs:List I):(k3 r h v zs).shut=h.shut:=by
 unfold k3;split<;>rfl
theorem h_ (r:Nat) (h:ah) (v:I) (zs:List I):(k3 r h v zs).aV=h.aV:=by
 unfold k3;split<;>rfl
theorem Ud {r:Nat} {h:ah} {v:I} {zs:List I} {q:Nat} (U:q≠r) (h2:∀a b c,v≠ .ref q a b c):(k3 r h v zs).cells q=h.cells q:=by
 unfold k3
 split
 · rename_i nm a b c
   have:q≠nm:=fun e=>h2 a b c (by rw[e])
   simp[au,U,this]
 · simp[ah.new,au,U]
theorem rm {sz:Nat} {h:ah} {v:I} {xs:List I} (Ue:bH sz h v xs) (c6:0<sz) {bytes:Nat} (ad:0<bytes) {ys:List I} (e4:0<ys.length) (aN:(ys.all fun e=>e.cells.length == sz&&e.cells.all I.ca)=true)
 (ay:(xs.length+ys.length)*bytes<=35184372088832) (m r:Nat) (e:Bool):
 kK r sz bytes ⟨h.cells,h.shut,m,h.aV⟩ v (.sl ys e)=some (.ref r 0 (xs.length+ys.length) (xs.length+ys.length),k3 r ⟨h.cells,h.shut,m,h.aV⟩ v (xs++ys),D7 v):=by
 have aD:¬ys.length=0:=by omega
 unfold kK
 simp only[elems,Option.bind_some,if_pos (And.intro c6 (And.intro ad aN))]
 rcases Ue.2 with⟨rfl,rfl⟩|⟨U,q,rfl,h2,aB,aS,cd⟩
 · simp only[if_neg aD,kC,if_true]
   rw[if_pos ⟨trivial,ay,e4,rfl⟩]
   rfl
 · have ee:¬xs.length+ys.length<=xs.length:=by omega
   simp only[if_neg aD,aB,Bool.false_eq_true,if_false,h2,Option.bind_some]
   rw[if_pos ⟨by omega,ay,e4,cd⟩,if_neg ee,if_pos ⟨trivial,U⟩]
   simp only[List.take_length,k3,D7]
theorem bH.mono {sz:Nat} {h h':ah} {v:I} {xs:List I} (o:bH sz h v xs) (J:∀q,q<h.next->h'.cells q=h.cells q) (aw:∀q,h'.shut q=h.shut q) (ai:h.next<=h'.next):bH sz h' v xs:=by
 refine⟨fun j aC=>by rw[aw];exact o.1 j (by omega),?_⟩
 rcases o.2 with o|⟨U,q,h2,aB,aS,cd,ee⟩
 · exact .inl o
 · exact .inr ⟨U,q,h2,by rw[J q cd];exact aB,by rw[aw q];exact aS,by omega,ee⟩
theorem bH.bump {sz:Nat} {h:ah} {v:I} {xs:List I} (o:bH sz h v xs) (m:Nat) (hm:h.next<=m):bH sz ⟨h.cells,h.shut,m,h.aV⟩ v xs:=o.mono (fun _ _=>rfl) (fun _=>rfl) hm
theorem bH.nil {sz:Nat} {h:ah} (aw:∀j,h.next<=j->h.shut j=false):bH sz h (.sl [] true) []:=⟨aw,.inl ⟨rfl,rfl⟩⟩
theorem bH.app {sz:Nat} {h:ah} {v:I} {xs:List I} (o:bH sz h v xs) {ys:List I} (e4:0<ys.length) (aN:(ys.all fun e=>e.cells.length == sz)=true) (m nb r:Nat) (p nS:Nat->Option fX) (aR:h.next<=r) (hm:r<nb):
 bH sz ⟨(k3 r ⟨h.cells,h.shut,m,p⟩ v (xs++ys)).cells,h.shut,nb,nS⟩ (.ref r 0 (xs.length+ys.length) (xs.length+ys.length)) (xs++ys):=by
 refine⟨fun j aC=>o.1 j (Nat.le_trans (Nat.le_trans aR (Nat.le_of_lt hm)) aC),.inr ⟨by simp;omega,r,by simp,fQ ..,o.1 r aR,hm,?_⟩⟩
 rw[List.all_append,aN]
 rcases o.2 with⟨rfl,_⟩|⟨_,_,_,_,_,_,ee⟩
 · rfl
 · rw[ee];rfl
theorem bH.other {sz:Nat} {h:ah} {v:I} {xs:List I} (o:bH sz h v xs) {m:Nat} {p:Nat->Option fX} {r q:Nat} {zs:List I} (U:q≠r) (h2:∀a b c,v≠ .ref q a b c):(k3 r ⟨h.cells,h.shut,m,p⟩ v zs).cells q=h.cells q:=Ud U h2
theorem bH.out {sz:Nat} {h:ah} {v:I} {xs:List I} (o:bH sz h v xs) (ad:(xs.all I.dQ)=true):∃ids,∀m p,iR ⟨h.cells,h.shut,m,p⟩ v=some (.sl xs (decide (xs= [])),ids)/\jw ⟨h.cells,h.shut,m,p⟩ v=some (.sl xs (decide (xs= [])),ids)/\dD ⟨h.cells,h.shut,m,p⟩ v=some (.sl xs (decide (xs= [])),ids):=by
 rcases o.2 with⟨rfl,rfl⟩|⟨U,q,rfl,aB,aS,cd,ee⟩
 · exact ⟨[],fun m p=>⟨rfl,rfl,rfl⟩⟩
 · refine⟨[q],fun m p=>?_⟩
   have:xs≠ []:=by rintro rfl;simp at U
   simp only[iR,dD,jw,aB]
   rw[if_pos ⟨by omega,ad⟩]
   simp[this]
theorem bH.len {sz:Nat} {h:ah} {v:I} {xs:List I} (o:bH sz h v xs) (aZ r:Nat) (a_:aT->I) (h':ah) (x:aT) (ae:a_ x=v):evalOp aZ r a_ h' (.len false x)=some (.int .i64 xs.length,h',.pure):=by
 rcases o.2 with⟨rfl,rfl⟩|⟨U,q,rfl,aB,aS,cd,ee⟩<;>simp[evalOp,ae]
section hand
variable {P:Program} {ops:Array Oper} {Q:Exit->Act->World->Prop} {a:Act} {w aQ:World} {rest:List Oper} {o:Oper}
end hand
end Go.Eng
