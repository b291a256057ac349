import Derived.Test.YtcikknajimdjoaaGreatDoorFpE3
import Derived.ProofKit
import Derived.DataElems
import Derived.LaidMore
import Derived.OpenShut
import Derived.Handed
import Derived.LaidLaws
import Derived.MakeChecks
import Derived.Tactics
set_option linter.unusedSimpArgs false
set_option linter.unusedVariables false
set_option linter.unusedSectionVars false
namespace Go.Eng
open Go Go.RowKit
abbrev mP:=lC->List J->aF->Option (J × aF)
def sw (a b:mP):Prop:=∀f args h r,a f args h=some r->b f args h=some r
section
variable {G:Nat->Option J} {Φ:FuncId->Option bt} {tab:FuncId->Option (List J->Option J)} {Y:List dm}
theorem Fz {a b:mP} (g2:sw a b) {bm r:Nat} {e:bH} {s:bg} {x:bg × ey} (h:dJ G tab a bm r e s=some x):dJ G tab b bm r e s=some x:=by
 unfold dJ at h|-
 split at h
 · split at h<;>try(cases h;done)
   · rename_i n first c0 aT
     try simp only
     split at h
     · rename_i T dn
       try simp only[dn]
       exact h
     · rename_i dn
       try simp only[dn]
       obtain⟨p,bc,h⟩:=Option.map_eq_some_iff.1 h
       rw[g2 _ _ _ _ bc];exact congrArg some h
   · obtain⟨p,bc,h⟩:=Option.map_eq_some_iff.1 h
     try simp only
     rw[g2 _ _ _ _ bc];exact congrArg some h
 · exact h
theorem FA {a b:mP} (g2:sw a b) {bm r:Nat} {e:bH} {s:bg} {x:bg × ey} (h:dr G tab a bm r e s=some x):dr G tab b bm r e s=some x:=by
 unfold dr at h|-
 split at h
 · exact Fz g2 h
 · split at h
   · split at h
     · rename_i au
       simp only[if_pos au]
       exact Fz g2 h
     · rename_i au
       simp only[if_neg au];exact h
   · exact h
   · cases h
theorem Bj {a b:mP} (g2:sw a b) {bm:Nat}:∀ {L:List (bH × Nat)} {s:bg} {x:bg × List ey},dG G tab a bm L s=some x->dG G tab b bm L s=some x
 | [],s,x,h=>h
 | (e,i)::L,s,x,h=>by
   simp only[dG] at h|-
   split at h<;>try(cases h;done)
   rename_i s1 c ae
   rw[FA g2 ae]
   simp only
   obtain⟨p,bc,h⟩:=Option.map_eq_some_iff.1 h
   rw[Bj g2 bc];exact congrArg some h
theorem Ok {a b:mP} (g2:sw a b) {k0:Bool} {ops:List bH} {kz:List Nat} {s aD:bg} (h:fh G tab a k0 ops kz s=some aD):fh G tab b k0 ops kz s=some aD:=by
 unfold fh at h|-
 split at h<;>try(cases h;done)
 rename_i s1 cs ae
 rw[Bj g2 ae];exact h
theorem Bk {n:Nat} {f:FuncId} {args:List J} {h:aF} {v:J} {fn:bt} {ex:cX} {aD:bg} (aT:Φ f=some fn) (he:exec G Φ tab n Y fn.body ⟨a8 args,h⟩=some (ex,aD)) (hex:ex= .normal\/ex= .ret) (aY:e1 aD.h aD.F fn.res=some v):
 k1 G Φ tab n Y f args h=some (v,aD.h):=by
 unfold k1
 rw[aT]
 rcases hex with rfl|rfl<;>simp only[he,aY,Option.map_some]
theorem wB {n id:Nat} {args:List J} {h ay:aF} {v:J} {L:dm} {Y':List dm} {s1:bg} {ex:cX} {aD:bg} (a_:oT id Y=some (L,Y')) (hlen:L.ps.length=args.length) (ae:exec G Φ tab n Y' L.ei ⟨ni L.F L.ps args,h⟩=some (.normal,s1))
 (bc:s1.h.bu id=some .ready) (h2:exec G Φ tab n Y' L.body ⟨s1.F,s1.h.set id (some .busy)⟩=some (ex,aD)) (au:aD.h.bu id=some .busy)
 (aO:(ex= .normal/\v= .bool true/\ay=aD.h.set id (some .ready))\/(ex≠ .normal/\v= .bool false/\ay=aD.h.set id (some (.done ex)))):o6 G Φ tab n Y id args h=some (v,ay):=by
 unfold o6
 simp only[a_,if_pos hlen,ae,bc,h2,au]
 rcases aO with⟨rfl,rfl,rfl⟩|⟨cp,rfl,rfl⟩
 · rfl
 · cases ex with
   | normal=>exact absurd rfl cp
   | exit i=>rfl
   | ret=>rfl
theorem Bl {n:Nat} {f:bn} {ps:List Nat} {ei body:ee} {s:bg} {ex:cX} {g:FuncId} {first c0:List J} {v:J} {ay:aF} {p:fu} (aT:f.cu G s.F= .fn g first c0)
 (I:k1 G Φ tab n (⟨s.h.next,s.F,ps,ei,body⟩::Y) g (first++ [.gb s.h.next]++c0) {s.h with next:=s.h.next+1,bu:=aG s.h.bu s.h.next (some .ready)}=some (v,ay))
 (bc:ay.bu s.h.next=some p) (mu:(p= .ready/\ex= .normal)\/p= .done ex):exec G Φ tab (n+1) Y (.ma f ps ei body) s=some (ex,⟨s.F,ay.set s.h.next none⟩):=by
 obtain⟨fn,e,aD,m8,he,hex,aY,rfl⟩:=q' I
 rw[gC]
 rcases hex with rfl|rfl
 · simp only[aT,m8,he,aY,bc]
   rcases mu with⟨rfl,rfl⟩|rfl<;>rfl
 · simp only[aT,m8,he,aY,bc]
   rcases mu with⟨rfl,rfl⟩|rfl<;>rfl
theorem ue {oh:FuncId->Option bt} (aP:∀f fn,oh f=some fn->Φ f=some fn):∀(n m:Nat),n<=m->∀(Y:List dm) (c:ee) (s:bg) (x:cX × bg),exec G oh tab n Y c s=some x->exec G Φ tab m Y c s=some x
 | 0,_,_,Y,c,s,x,h=>by unfold exec at h;cases h
 | n+1,0,oi,_,_,_,_,_=>absurd oi (by omega)
 | n+1,m+1,oi,Y,c,s,x,h=>by
   have b_:=ue aP n m (by omega)
   have a9:∀ {Y:List dm} {f:FuncId} {args:List J} {h:aF} {r:J × aF},k1 G oh tab n Y f args h=some r->k1 G Φ tab m Y f args h=some r:=by
    intro Y f args h r I
    obtain⟨v,ay⟩:=r
    obtain⟨fn,ex,aD,aT,he,hex,aY,rfl⟩:=q' I
    exact Bk (aP _ _ aT) (b_ _ _ _ _ he) hex aY
   have hle:sw (lj G oh tab n Y) (lj G Φ tab m Y):=by
    intro t args h r I
    obtain⟨v,ay⟩:=r
    cases t with
    | fn f=>exact a9 I
    | lR id=>
      obtain⟨L,Y',s1,ex,aD,a_,hlen,ae,bc,h2,au,aO⟩:=ua I
      exact wB a_ hlen (b_ _ _ _ _ ae) bc (b_ _ _ _ _ h2) au aO
   have aS:=h
   rw[gC] at h
   cases c with
   | skip=>rw[gC];exact h
   | ret=>rw[gC];exact h
   | exit id=>rw[gC];exact h
   | region k0 ops kz=>
     rw[gC]
     simp only at h|-
     obtain⟨s1,ae,h⟩:=Option.map_eq_some_iff.1 h
     rw[Ok hle ae];exact congrArg some h
   | seq a b=>
     rw[gC]
     simp only at h|-
     split at h
     · rename_i s1 ae
       rw[b_ _ _ _ _ ae];exact b_ _ _ _ _ h
     · rename_i cp
       rw[b_ _ _ _ _ h]
       obtain⟨ex,s1⟩:=x
       cases ex with
       | normal=>exact absurd h (cp s1)
       | exit i=>rfl
       | ret=>rfl
   | cond y a b=>
     rw[gC]
     simp only at h|-
     split at h<;>try(cases h;done)
     rename_i t a'
     split at h
     · rename_i sr;simp only[if_pos sr];exact b_ _ _ _ _ h
     · rename_i sr;simp only[if_neg sr];exact b_ _ _ _ _ h
   | block id b=>
     rw[gC]
     simp only at h|-
     split at h
     · rename_i i s1 ae
       rw[b_ _ _ _ _ ae];exact h
     · rename_i cp
       rw[b_ _ _ _ _ h]
       obtain⟨ex,s1⟩:=x
       cases ex with
       | normal=>rfl
       | exit i=>exact absurd h (cp i s1)
       | ret=>rfl
   | loop b=>
     rw[gC]
     simp only at h|-
     split at h
     · rename_i s1 ae
       rw[b_ _ _ _ _ ae];exact b_ _ _ _ _ h
     · rename_i cp
       rw[b_ _ _ _ _ h]
       obtain⟨ex,s1⟩:=x
       cases ex with
       | normal=>exact absurd h (cp s1)
       | exit i=>rfl
       | ret=>rfl
   | ma f ps ei body=>
     obtain⟨ex,aD⟩:=x
     obtain⟨g,first,c0,v,ay,p,aT,I,bc,mu,rfl⟩:=ye aS
     exact Bl aT (a9 I) bc mu
theorem uf {n m:Nat} (oi:n<=m) {c:ee} {s:bg} {x:cX × bg} (h:exec G Φ tab n Y c s=some x):exec G Φ tab m Y c s=some x:=ue (fun _ _ h=>h) n m oi Y c s x h
theorem Ol {oh:FuncId->Option bt} (aP:∀f fn,oh f=some fn->Φ f=some fn) {n m:Nat} (oi:n<=m):sw (lj G oh tab n Y) (lj G Φ tab m Y):=by
 intro t args h r I
 obtain⟨v,ay⟩:=r
 cases t with
 | fn f=>
   obtain⟨fn,ex,aD,aT,he,hex,aY,rfl⟩:=q' I
   exact Bk (aP _ _ aT) (ue aP _ _ oi _ _ _ _ he) hex aY
 | lR id=>
   obtain⟨L,Y',s1,ex,aD,a_,hlen,ae,bc,h2,au,aO⟩:=ua I
   exact wB a_ hlen (ue aP _ _ oi _ _ _ _ ae) bc (ue aP _ _ oi _ _ _ _ h2) au aO
theorem wC {n m:Nat} (oi:n<=m):sw (lj G Φ tab n Y) (lj G Φ tab m Y):=Ol (fun _ _ h=>h) oi
def cQ (G:Nat->Option J) (Φ:FuncId->Option bt) (tab:FuncId->Option (List J->Option J)) (Y:List dm) (c:ee) (s:bg) (Q:cX->bg->Prop):Prop:=∃n ex aD,exec G Φ tab n Y c s=some (ex,aD)/\Q ex aD
def sx (Q:cX->bg->Prop) (K:bg->Prop):cX->bg->Prop
 | .normal,s=>K s
 | ex,s=>Q ex s
theorem il (Q:cX->bg->Prop) (K:bg->Prop) (s:bg):sx Q K .normal s=K s:=rfl
theorem im (Q:cX->bg->Prop) (K:bg->Prop) (s:bg):sx Q K .ret s=Q .ret s:=rfl
theorem iq (Q:cX->bg->Prop) (K:bg->Prop) (i:Nat) (s:bg):sx Q K (.exit i) s=Q (.exit i) s:=rfl
def sy (id:Nat) (Q:cX->bg->Prop):cX->bg->Prop
 | .exit i,s=>if i=id then Q .normal s else Q (.exit i) s
 | ex,s=>Q ex s
theorem ir (id:Nat) (Q:cX->bg->Prop) (s:bg):sy id Q .normal s=Q .normal s:=rfl
theorem iu (id:Nat) (Q:cX->bg->Prop) (s:bg):sy id Q .ret s=Q .ret s:=rfl
theorem iv (id i:Nat) (Q:cX->bg->Prop) (s:bg):sy id Q (.exit i) s=if i=id then Q .normal s else Q (.exit i) s:=rfl
theorem cQ.mono {c:ee} {s:bg} {Q FB:cX->bg->Prop} (h:cQ G Φ tab Y c s Q) (bo:∀ex s,Q ex s->FB ex s):cQ G Φ tab Y c s FB:=
 let ⟨n,ex,aD,e,q⟩:=h;⟨n,ex,aD,e,bo _ _ q⟩
theorem aK {s:bg} {Q:cX->bg->Prop} (h:Q .normal s):cQ G Φ tab Y .skip s Q:=⟨1,.normal,s,rfl,h⟩
theorem aH {s:bg} {Q:cX->bg->Prop} (h:Q .ret s):cQ G Φ tab Y .ret s Q:=⟨1,.ret,s,rfl,h⟩
theorem aN {i:Nat} {s:bg} {Q:cX->bg->Prop} (h:Q (.exit i) s):cQ G Φ tab Y (.exit i) s Q:=⟨1,.exit i,s,rfl,h⟩
theorem ax {a b:ee} {s:bg} {Q:cX->bg->Prop} (h:cQ G Φ tab Y a s (sx Q fun s1=>cQ G Φ tab Y b s1 Q)):cQ G Φ tab Y (.seq a b) s Q:=by
 obtain⟨n,ex,s1,ae,h2⟩:=h
 cases ex with
 | normal=>
   obtain⟨m,ex,s2,aO,a2⟩:=h2
   refine⟨max n m+1,ex,s2,?_,a2⟩
   rw[gC]
   simp only[uf (Nat.le_max_left n m) ae]
   exact uf (Nat.le_max_right n m) aO
 | exit i=>exact ⟨n+1,.exit i,s1,by rw[gC];simp only[ae],h2⟩
 | ret=>exact ⟨n+1,.ret,s1,by rw[gC];simp only[ae],h2⟩
theorem aJ {x:bn} {a b:ee} {s:bg} {Q:cX->bg->Prop} (t:Bool) (a':x.cu G s.F= .bool t) (ae:t=true->cQ G Φ tab Y a s Q) (h2:t=false->cQ G Φ tab Y b s Q):cQ G Φ tab Y (.cond x a b) s Q:=by
 cases t with
 | true=>
   obtain⟨n,ex,s1,e,q⟩:=ae rfl
   exact ⟨n+1,ex,s1,by rw[gC];simp only[a',if_true];exact e,q⟩
 | false=>
   obtain⟨n,ex,s1,e,q⟩:=h2 rfl
   exact ⟨n+1,ex,s1,by rw[gC];simp only[a',Bool.false_eq_true,if_false];exact e,q⟩
theorem aL {id:Nat} {b:ee} {s:bg} {Q:cX->bg->Prop} (h:cQ G Φ tab Y b s (sy id Q)):cQ G Φ tab Y (.block id b) s Q:=by
 obtain⟨n,ex,s1,e,q⟩:=h
 cases ex with
 | normal=>exact ⟨n+1,.normal,s1,by rw[gC];simp only[e],q⟩
 | ret=>exact ⟨n+1,.ret,s1,by rw[gC];simp only[e],q⟩
 | exit i=>
   by_cases an:i=id
   · exact ⟨n+1,.normal,s1,by rw[gC];simp only[e,if_pos an],by simpa[sy,an] using q⟩
   · exact ⟨n+1,.exit i,s1,by rw[gC];simp only[e,if_neg an],by simpa[sy,an] using q⟩
theorem Om {b:ee} {Q:cX->bg->Prop} (a3:Nat->bg->Prop) (round:∀k s,a3 k s->cQ G Φ tab Y b s (sx Q fun s1=>∃j,j<k/\a3 j s1)):∀(k:Nat) (s:bg),a3 k s->cQ G Φ tab Y (.loop b) s Q:=by
 intro k
 induction k using Nat.strongRecOn with
 | _ k b_=>
   intro s qn
   obtain⟨n,ex,s1,e,q⟩:=round k s qn
   cases ex with
   | normal=>
     obtain⟨j,bb,On⟩:=q
     obtain⟨m,ex,s2,aq,eg⟩:=b_ j bb s1 On
     refine⟨max n m+1,ex,s2,?_,eg⟩
     rw[gC]
     simp only[uf (Nat.le_max_left n m) e]
     exact uf (Nat.le_max_right n m) aq
   | exit i=>exact ⟨n+1,.exit i,s1,by rw[gC];simp only[e],q⟩
   | ret=>exact ⟨n+1,.ret,s1,by rw[gC];simp only[e],q⟩
def Oo:mP:=fun _ _ _=>none
def wD (G:Nat->Option J) (Φ:FuncId->Option bt) (tab:FuncId->Option (List J->Option J)) (Y:List dm) (lJ:mP):Prop:=∀t args h r,lJ t args h=some r->∃n,lj G Φ tab n Y t args h=some r
theorem aM:wD G Φ tab Y Oo:=fun _ _ _ _ h=>by cases h
theorem FC {lJ:mP} (sA:wD G Φ tab Y lJ) {bm:Nat}:∀ {L:List (bH × Nat)} {s:bg} {x:bg × List ey},dG G tab lJ bm L s=some x->∃n,dG G tab (lj G Φ tab n Y) bm L s=some x
 | [],s,x,h=>⟨0,h⟩
 | (e,i)::L,s,x,h=>by
   simp only[dG] at h
   split at h<;>try(cases h;done)
   rename_i s1 c ae
   obtain⟨p,bc,av⟩:=Option.map_eq_some_iff.1 h
   obtain⟨n,aC⟩:=FC sA bc
   have one:∃m,dr G tab (lj G Φ tab m Y) bm (bm+i) e s=some (s1,c):=by
    have go:∀ {y:bg × ey},dJ G tab lJ bm (bm+i) e s=some y->∃m,dJ G tab (lj G Φ tab m Y) bm (bm+i) e s=some y:=by
     intro y bj
     unfold dJ at bj
     split at bj
     · rename_i f args he
       split at bj<;>try(cases bj;done)
       · rename_i q first c0 aT
         split at bj
         · rename_i T dn
           refine⟨0,?_⟩
           unfold dJ;simp only[he,aT,dn];exact bj
         · rename_i dn
           obtain⟨v,aY,bj⟩:=Option.map_eq_some_iff.1 bj
           obtain⟨m,hm⟩:=sA _ _ _ _ aY
           refine⟨m,?_⟩
           unfold dJ;simp only[he,aT,dn,hm];exact congrArg some bj
       · rename_i id aT
         obtain⟨v,aY,bj⟩:=Option.map_eq_some_iff.1 bj
         obtain⟨m,hm⟩:=sA _ _ _ _ aY
         refine⟨m,?_⟩
         unfold dJ;simp only[he,aT,hm];exact congrArg some bj
     · rename_i cp
       refine⟨0,?_⟩
       unfold dJ
       split
       · rename_i f as he;exact absurd he (cp f as)
       · exact bj
    unfold dr at ae
    split at ae
    · rename_i bq
      obtain⟨m,hm⟩:=go ae
      exact ⟨m,by unfold dr;rw[bq];exact hm⟩
    · rename_i t want bq
      split at ae<;>try(cases ae;done)
      rotate_left
      · rename_i au
        exact ⟨0,by unfold dr;simp only[bq,au];exact ae⟩
      rename_i b au
      split at ae
      · rename_i o1
        obtain⟨m,hm⟩:=go ae
        exact ⟨m,by unfold dr;simp only[bq,au,if_pos o1];exact hm⟩
      · rename_i o1
        exact ⟨0,by unfold dr;simp only[bq,au,if_neg o1];exact ae⟩
   obtain⟨m,hm⟩:=one
   refine⟨max m n,?_⟩
   simp only[dG,FA (wC (Nat.le_max_left m n)) hm]
   rw[Bj (wC (Nat.le_max_right m n)) aC]
   exact congrArg some av
theorem Oq {lJ:mP} (sA:wD G Φ tab Y lJ) {k0:Bool} {ops:List bH} {kz:List Nat} {s:bg} {Q:cX->bg->Prop} (aD:bg) (h:fh G tab lJ k0 ops kz s=some aD) (bo:Q .normal aD):cQ G Φ tab Y (.region k0 ops kz) s Q:=by
 unfold fh at h
 split at h<;>try(cases h;done)
 rename_i s1 cs ae
 split at h<;>try(cases h;done)
 rename_i kB
 cases h
 obtain⟨n,aC⟩:=FC sA ae
 refine⟨n+1,.normal,_,?_,bo⟩
 rw[gC]
 simp only[fh,aC,if_pos kB,Option.map_some]
def hy (G:Nat->Option J) (tab:FuncId->Option (List J->Option J)) (lJ:mP) (k0:Bool) (ops:List bH) (kz:List Nat) (s:bg) (K:bg->Prop):Prop:=
 match dG G tab lJ s.h.next ops.zipIdx ⟨s.F,{s.h with next:=s.h.next+ops.length}⟩ with
 | some (aD,cs)=>(k0=true->r2 cs kz=true)/\K aD
 | none=>False
theorem az {lJ:mP} (sA:wD G Φ tab Y lJ) {k0:Bool} {ops:List bH} {kz:List Nat} {s:bg} {Q:cX->bg->Prop} (h:hy G tab lJ k0 ops kz s (Q .normal)):cQ G Φ tab Y (.region k0 ops kz) s Q:=by
 unfold hy at h
 split at h
 · rename_i aD cs ae
   refine Oq sA aD ?_ h.2
   unfold fh
   rw[ae]
   have:(!k0||r2 cs kz)=true:=by
    cases k0 with
    | false=>rfl
    | true=>simpa using h.1 rfl
   simp only[this,if_true]
 · exact h.elim
def iw (res:List m3) (v:J) (ex:cX) (s:bg):Prop:=
 (match ex with
  | .exit _=>False
  | _=>True)/\((e1 s.h s.F res).bind fun u=>(kU s.h u).map (·.1))=some v
def Ot (id:Nat) (F:Nat->J) (res:List m3) (Q:cX->bg->Prop) (ex:cX) (s:bg):Prop:=
 (match ex with
  | .exit _=>False
  | _=>True)/\(∃v,e1 s.h s.F res=some v)/\(match s.h.bu id with
  | some .ready=>Q .normal ⟨F,s.h.set id none⟩
  | some (.done e)=>Q e ⟨F,s.h.set id none⟩
  | _=>False)
theorem Bm {f:bn} {ps:List Nat} {ei body:ee} {s:bg} {Q:cX->bg->Prop} {g:FuncId} {first c0:List J} {fn:bt} (aT:f.cu G s.F= .fn g first c0) (bq:Φ g=some fn)
 (h:cQ G Φ tab (⟨s.h.next,s.F,ps,ei,body⟩::Y) fn.body ⟨a8 (first++ [.gb s.h.next]++c0),{s.h with next:=s.h.next+1,bu:=aG s.h.bu s.h.next (some .ready)}⟩ (Ot s.h.next s.F fn.res Q)):cQ G Φ tab Y (.ma f ps ei body) s Q:=by
 obtain⟨n,ex,aD,e,cn,⟨v,aY⟩,gQ⟩:=h
 have hex:ex= .normal\/ex= .ret:=by
  cases ex with
  | normal=>exact .inl rfl
  | ret=>exact .inr rfl
  | exit i=>exact cn.elim
 have I:=Bk bq e hex aY
 split at gQ
 · rename_i bc
   exact ⟨n+1,.normal,_,Bl aT I bc (.inl ⟨rfl,rfl⟩),gQ⟩
 · rename_i e' bc
   exact ⟨n+1,e',_,Bl aT I bc (.inr rfl),gQ⟩
 · exact gQ.elim
end
def da (l:List (FuncId × (List J->Option J))):FuncId->Option (List J->Option J):=fun f=>l.lookup f
theorem dc {P:Program} {G:Nat->Option J}:∀ {l:List (FuncId × (List J->Option J))},(∀p∈l,bl P G p.1 p.2)->∀f T,da l f=some T->bl P G f T
 | [],_,f,T,h=>by cases h
 | (g,mf)::l,a6,f,T,h=>by
   unfold da at h
   rw[List.lookup_cons] at h
   by_cases e:f=g
   · subst e
     simp only[BEq.rfl] at h
     cases h
     exact a6 (f,mf) (by simp)
   · have:(f == g)=false:=by simpa using e
     simp only[this] at h
     exact dc (fun p bc=>a6 p (by simp[bc])) f T h
end Go.Eng
namespace Go.Eng
open Go Go.RowKit
section
variable {G:Nat->Option J} {Φ oh:FuncId->Option bt} {tab:FuncId->Option (List J->Option J)} {Y:List dm}
theorem FD (aP:∀f fn,oh f=some fn->Φ f=some fn) (n:Nat) (Y:List dm) (c:ee) (s:bg) (x:cX × bg) (h:exec G oh tab n Y c s=some x):exec G Φ tab n Y c s=some x:=ue aP n n (Nat.le_refl _) Y c s x h
theorem FE (aP:∀f fn,oh f=some fn->Φ f=some fn) {n:Nat} {f:FuncId} {args:List J} {v:J} (h:m5 G oh tab n f args=some v):m5 G Φ tab n f args=some v:=by
 unfold m5 at h|-
 obtain⟨p,ae,h2⟩:=Option.bind_eq_some_iff.1 h
 unfold xG at ae|-
 split at ae<;>try(cases ae;done)
 rename_i fn aT
 simp only[aP _ _ aT]
 split at ae
 · rename_i aD he
   rw[FD aP _ _ _ _ _ he];simp only[ae];exact h2
 · rename_i aD he
   rw[FD aP _ _ _ _ _ he];simp only[ae];exact h2
 · cases ae
noncomputable def fv (G:Nat->Option J) (Φ:FuncId->Option bt) (tab:FuncId->Option (List J->Option J)) (Y:List dm):mP:=fun f args h=>
 open Classical in if av:∃r n,lj G Φ tab n Y f args h=some r then some (Classical.choose av) else none
theorem cz:wD G Φ tab Y (fv G Φ tab Y):=by
 intro f args h r bf
 unfold fv at bf
 split at bf
 · rename_i av
   cases bf
   exact Classical.choose_spec av
 · cases bf
theorem yn {f:lC} {args:List J} {h:aF} {r:J × aF} {n:Nat} (aC:lj G Φ tab n Y f args h=some r):fv G Φ tab Y f args h=some r:=by
 have av:∃r n,lj G Φ tab n Y f args h=some r:=⟨r,n,aC⟩
 unfold fv
 rw[dif_pos av]
 obtain⟨m,hm⟩:=Classical.choose_spec av
 congr 1
 have a:=wC (Nat.le_max_left n m) _ _ _ _ aC
 have b:=wC (Nat.le_max_right n m) _ _ _ _ hm
 rw[a] at b
 exact (Option.some.inj b).symm
def hT (res:List m3) (R:J->aF->Prop) (ex:cX) (s:bg):Prop:=
 (match ex with
  | .exit _=>False
  | _=>True)/\∃v,e1 s.h s.F res=some v/\R v s.h
theorem k3 {f:FuncId} {fn:bt} (aT:Φ f=some fn) {args:List J} {h:aF} {R:J->aF->Prop} (he:cQ G Φ tab Y fn.body ⟨a8 args,h⟩ (hT fn.res R)):∃v ay,fv G Φ tab Y (.fn f) args h=some (v,ay)/\R v ay:=by
 obtain⟨n,ex,aD,e,cn,v,eg,gQ⟩:=he
 refine⟨v,aD.h,yn (n:=n) ?_,gQ⟩
 show k1 G Φ tab n Y f args h=_
 unfold k1
 simp only[aT,e]
 cases ex with
 | exit i=>exact cn.elim
 | normal=>simp only[eg,Option.map_some]
 | ret=>simp only[eg,Option.map_some]
theorem Bn {id:Nat} {args:List J} {h:aF} {R:J->aF->Prop} {L:dm} {Y':List dm} (a_:oT id Y=some (L,Y')) (hlen:L.ps.length=args.length)
 (he:cQ G Φ tab Y' L.ei ⟨ni L.F L.ps args,h⟩ (fun ex s1=>ex= .normal/\s1.h.bu id=some .ready/\cQ G Φ tab Y' L.body ⟨s1.F,s1.h.set id (some .busy)⟩ (fun ex aD=>aD.h.bu id=some .busy/\
   (match ex with
    | .normal=>R (.bool true) (aD.h.set id (some .ready))
    | e=>R (.bool false) (aD.h.set id (some (.done e))))))):∃v ay,fv G Φ tab Y (.lR id) args h=some (v,ay)/\R v ay:=by
 obtain⟨n,ex,s1,aj,rfl,bc,m,Ou,aD,aq,au,eu⟩:=he
 have a1:=uf (Nat.le_max_left n m) aj
 have cP:=uf (Nat.le_max_right n m) aq
 cases Ou with
 | normal=>exact ⟨_,_,yn (f:= .lR id) (n:=max n m) (wB a_ hlen a1 bc cP au (.inl ⟨rfl,rfl,rfl⟩)),eu⟩
 | exit i=>exact ⟨_,_,yn (f:= .lR id) (n:=max n m) (wB a_ hlen a1 bc cP au (.inr ⟨by simp,rfl,rfl⟩)),eu⟩
 | ret=>exact ⟨_,_,yn (f:= .lR id) (n:=max n m) (wB a_ hlen a1 bc cP au (.inr ⟨by simp,rfl,rfl⟩)),eu⟩
end
def FF (b:Bool):Option J->Bool
 | some (.bool c)=>c == b
 | _=>false
theorem Ov {b:Bool} {x:Option J} (h:FF b x=true):x=some (.bool b):=by
 unfold FF at h
 split at h
 · simp at h;rw[h]
 · cases h
def Bo (l:List (FuncId × bt)):FuncId->Option bt:=fun f=>l.lookup f
theorem Bp {Φ:FuncId->Option bt}:∀ {l:List (FuncId × bt)},(∀p∈l,Φ p.1=some p.2)->∀f fn,Bo l f=some fn->Φ f=some fn
 | [],_,f,fn,h=>by cases h
 | (g,mf)::l,a6,f,fn,h=>by
   unfold Bo at h
   rw[List.lookup_cons] at h
   by_cases e:f=g
   · subst e
     simp only[BEq.rfl] at h
     cases h
     exact a6 (f,mf) (by simp)
   · have:(f == g)=false:=by simpa using e
     simp only[this] at h
     exact Bp (fun p bc=>a6 p (by simp[bc])) f fn h
end Go.Eng
namespace Go.Eng
open Go Go.RowKit
def Z (n:Nat):Int:=n
theorem ix (n:Nat):(n:Int)=Z n:=rfl
theorem bI {a b:Nat}:Z a=Z b↔a=b:=by simp only[Z];omega
theorem hU (a b:Nat):(Z a == Z b)=(a == b):=by
 rw[Bool.eq_iff_iff,beq_iff_eq,beq_iff_eq];exact bI
theorem iy (a b:Nat):(Z a != Z b)=(a != b):=by simp only[bne,hU]
theorem hV {a b:Nat}:Z a<Z b↔a<b:=by simp only[Z];omega
theorem iz {a b:Nat}:Z a<=Z b↔a<=b:=by simp only[Z];omega
theorem iA (a:Nat):0<=Z a:=by simp only[Z];omega
theorem fY (a:Nat):¬Z a<0:=by simp only[Z];omega
theorem iB {a:Nat}:Z a=0↔a=0:=by simp only[Z];omega
theorem fw (a:Nat):(Z a).toNat=a:=rfl
theorem iC {a b:Nat}:Z a<(b:Int)↔a<b:=hV
theorem iD (a b:Nat):(Z a).tmod (Z b)=Z (a%b):=rfl
theorem iE (a b:Nat):(Z a).tdiv (Z b)=Z (a/b):=rfl
theorem gT (a n:Nat):(Z a).fdiv (2^n)=Z (a/2^n):=by
 simp only[Z]
 rw[Int.fdiv_eq_ediv_of_nonneg _ (by exact Int.le_of_lt (Int.pow_pos (by decide)))]
 norm_cast
theorem FG {k:IntKind} (aI:k.signed=false) (x:Int):k.wrap x=x%2^k.bits:=by
 cases k<;>first|(simp[IntKind.signed] at aI;done)|(simp[IntKind.wrap,IntKind.signed,IntKind.bits])
theorem pN {k:IntKind} (aI:k.signed=false) (a:Nat):k.wrap (Z a)=Z (a%2^k.bits):=by
 rw[FG aI];simp only[Z];norm_cast
theorem yo {k:IntKind} (aI:k.signed=false) (a b:Nat):k.wrap (Z a+Z b)=Z ((a+b)%2^k.bits):=pN aI (a+b)
theorem yp {k:IntKind} (aI:k.signed=false) (a b:Nat):k.wrap (Z a*Z b)=Z (a*b%2^k.bits):=by
 rw[<-pN aI];simp only[Z];norm_cast
theorem re {k:IntKind} (aI:k.signed=false) (a n:Nat):k.wrap (Z a*2^n)=Z (a*2^n%2^k.bits):=by
 rw[<-pN aI];simp only[Z];norm_cast
theorem yq {k:IntKind} (aI:k.signed=false) (a b:Nat):k.wrap (Z a - Z b)=Z ((a+(2^k.bits - b%2^k.bits))%2^k.bits):=by
 rw[FG aI]
 simp only[Z]
 have h:b%2^k.bits<2^k.bits:=Nat.mod_lt _ (Nat.pow_pos (by decide))
 generalize eB:2^k.bits=M at*
 have:((2:Int)^k.bits)=(M:Int):=by rw[<-eB];norm_cast
 rw[this]
 rw[Int.natCast_emod,Int.natCast_add,Int.natCast_sub (Nat.le_of_lt h),Int.natCast_emod]
 rw[show ((a:Int) - b)=a+(M - b%M)+M*(-1 - b/M) by
  have:=Int.emod_add_mul_ediv (b:Int) M
  rw[Int.mul_sub];omega]
 exact Int.add_mul_emod_self_left _ _ _
theorem yr {k:IntKind} (aI:k.signed=false) (a b:Nat):k.wrap ((BitVec.ofInt k.bits (Z a)|||BitVec.ofInt k.bits (Z b)).toNat:Int)=Z ((a|||b)%2^k.bits):=by
 show k.wrap (Z _)=_
 rw[pN aI]
 simp only[Z,BitVec.ofInt_natCast,<-BitVec.ofNat_or,BitVec.toNat_ofNat,Nat.mod_mod]
theorem yt {k:IntKind} (aI:k.signed=false) (a b:Nat):k.wrap ((BitVec.ofInt k.bits (Z a)&&&BitVec.ofInt k.bits (Z b)).toNat:Int)=Z ((a&&&b)%2^k.bits):=by
 show k.wrap (Z _)=_
 rw[pN aI]
 simp only[Z,BitVec.ofInt_natCast,<-BitVec.ofNat_and,BitVec.toNat_ofNat,Nat.mod_mod]
theorem yu {k:IntKind} (aI:k.signed=false) (a b:Nat):k.wrap ((BitVec.ofInt k.bits (Z a) ^^^ BitVec.ofInt k.bits (Z b)).toNat:Int)=Z ((a ^^^ b)%2^k.bits):=by
 show k.wrap (Z _)=_
 rw[pN aI]
 simp only[Z,BitVec.ofInt_natCast,<-BitVec.ofNat_xor,BitVec.toNat_ofNat,Nat.mod_mod]
theorem wrap_i64 {x:Int} (ae: -9223372036854775808<=x) (h2:x<9223372036854775808):IntKind.i64.wrap x=x:=by
 simp[IntKind.wrap,IntKind.signed,IntKind.bits]
 split<;>omega
theorem gl {a:Nat} (h:a<9223372036854775808):IntKind.i64.wrap (Z a)=Z a:=wrap_i64 (by simp only[Z];omega) (by simp only[Z];omega)
theorem fa {a b:Nat} (h:a+b<9223372036854775808):IntKind.i64.wrap (Z a+Z b)=Z (a+b):=gl h
theorem eh {a b:Nat} (ae:b<=a) (h2:a<9223372036854775808):IntKind.i64.wrap (Z a - Z b)=Z (a - b):=by
 rw[wrap_i64 (by simp only[Z];omega) (by simp only[Z];omega)];simp only[Z];omega
theorem sB {a b:Nat} (h:a*b<9223372036854775808):IntKind.i64.wrap (Z a*Z b)=Z (a*b):=by
 rw[show Z a*Z b=Z (a*b) by simp only[Z];norm_cast];exact gl h
theorem iF:IntKind.u8.bits=8:=rfl
theorem iG (a:Nat):IntKind.u8.wrap (Z a)=Z (a%256):=pN rfl a
theorem iH (a b:Nat):IntKind.u8.wrap (Z a+Z b)=Z ((a+b)%256):=yo rfl a b
theorem iI (a b:Nat):IntKind.u8.wrap (Z a - Z b)=Z ((a+(256 - b%256))%256):=yq rfl a b
theorem iJ (a b:Nat):IntKind.u8.wrap (Z a*Z b)=Z (a*b%256):=yp rfl a b
theorem iK (a n:Nat):IntKind.u8.wrap (Z a*2^n)=Z (a*2^n%256):=re rfl a n
theorem iL:IntKind.u16.bits=16:=rfl
theorem iM (a:Nat):IntKind.u16.wrap (Z a)=Z (a%65536):=pN rfl a
theorem iN (a b:Nat):IntKind.u16.wrap (Z a+Z b)=Z ((a+b)%65536):=yo rfl a b
theorem iO (a b:Nat):IntKind.u16.wrap (Z a - Z b)=Z ((a+(65536 - b%65536))%65536):=yq rfl a b
theorem iP (a b:Nat):IntKind.u16.wrap (Z a*Z b)=Z (a*b%65536):=yp rfl a b
theorem iQ (a n:Nat):IntKind.u16.wrap (Z a*2^n)=Z (a*2^n%65536):=re rfl a n
theorem iR:IntKind.u32.bits=32:=rfl
theorem iS (a:Nat):IntKind.u32.wrap (Z a)=Z (a%4294967296):=pN rfl a
theorem iT (a b:Nat):IntKind.u32.wrap (Z a+Z b)=Z ((a+b)%4294967296):=yo rfl a b
theorem iU (a b:Nat):IntKind.u32.wrap (Z a - Z b)=Z ((a+(4294967296 - b%4294967296))%4294967296):=yq rfl a b
theorem iV (a b:Nat):IntKind.u32.wrap (Z a*Z b)=Z (a*b%4294967296):=yp rfl a b
theorem iW (a n:Nat):IntKind.u32.wrap (Z a*2^n)=Z (a*2^n%4294967296):=re rfl a n
theorem iX:IntKind.u64.bits=64:=rfl
theorem hf (a:Nat):IntKind.u64.wrap (Z a)=Z (a%18446744073709551616):=pN rfl a
theorem iY (a b:Nat):IntKind.u64.wrap (Z a+Z b)=Z ((a+b)%18446744073709551616):=yo rfl a b
theorem iZ (a b:Nat):IntKind.u64.wrap (Z a - Z b)=Z ((a+(18446744073709551616 - b%18446744073709551616))%18446744073709551616):=yq rfl a b
theorem i_ (a b:Nat):IntKind.u64.wrap (Z a*Z b)=Z (a*b%18446744073709551616):=yp rfl a b
theorem i' (a n:Nat):IntKind.u64.wrap (Z a*2^n)=Z (a*2^n%18446744073709551616):=re rfl a n
theorem ja (k:IntKind) (a b:Int):gP .add k a b=some (.int k (k.wrap (a+b))):=rfl
theorem jb (k:IntKind) (a b:Int):gP .sub k a b=some (.int k (k.wrap (a - b))):=rfl
theorem jc (k:IntKind) (a b:Int):gP .mul k a b=some (.int k (k.wrap (a*b))):=rfl
theorem jd (k:IntKind) (a b:Int):gP .quo k a b=if b=0 then none else some (.int k (k.wrap (a.tdiv b))):=rfl
theorem je (k:IntKind) (a b:Int):gP .rem k a b=if b=0 then none else some (.int k (a.tmod b)):=rfl
theorem jf (k:IntKind) (a b:Int):gP .eql k a b=some (.bool (a == b)):=rfl
theorem jg (k:IntKind) (a b:Int):gP .neq k a b=some (.bool (a != b)):=rfl
theorem jh (k:IntKind) (a b:Int):gP .lss k a b=some (.bool (decide (a<b))):=rfl
theorem ji (k:IntKind) (a b:Int):gP .leq k a b=some (.bool (decide (a<=b))):=rfl
theorem jj (k:IntKind) (a b:Int):gP .gtr k a b=some (.bool (decide (a>b))):=rfl
theorem jk (k:IntKind) (a b:Int):gP .geq k a b=some (.bool (decide (a>=b))):=rfl
theorem Ow:IntKind.i64.bits=64:=rfl
theorem jl (a b:Nat):gP .and .u8 (Z a) (Z b)=some (.int .u8 (Z ((a&&&b)%256))):=congrArg (fun x=>some (J.int .u8 x)) (yt (k:= .u8) rfl a b)
theorem jm (a b:Nat):gP .or .u8 (Z a) (Z b)=some (.int .u8 (Z ((a|||b)%256))):=congrArg (fun x=>some (J.int .u8 x)) (yr (k:= .u8) rfl a b)
theorem jn (a b:Nat):gP .xor .u8 (Z a) (Z b)=some (.int .u8 (Z ((a ^^^ b)%256))):=congrArg (fun x=>some (J.int .u8 x)) (yu (k:= .u8) rfl a b)
theorem jo (a b:Nat):gz .shr .u8 (Z a) (Z b)=some (.int .u8 (Z (a/2^min b 8))):=by
 simp only[gz,if_neg (fY b),fw,gT];rfl
theorem jq (a b:Nat):gz .shl .u8 (Z a) (Z b)=some (.int .u8 (Z (a*2^min b 8%256))):=by
 simp only[gz,if_neg (fY b),fw,re (k:= .u8) rfl];rfl
theorem jr (a b:Nat):gP .and .u16 (Z a) (Z b)=some (.int .u16 (Z ((a&&&b)%65536))):=congrArg (fun x=>some (J.int .u16 x)) (yt (k:= .u16) rfl a b)
theorem js (a b:Nat):gP .or .u16 (Z a) (Z b)=some (.int .u16 (Z ((a|||b)%65536))):=congrArg (fun x=>some (J.int .u16 x)) (yr (k:= .u16) rfl a b)
theorem jt (a b:Nat):gP .xor .u16 (Z a) (Z b)=some (.int .u16 (Z ((a ^^^ b)%65536))):=congrArg (fun x=>some (J.int .u16 x)) (yu (k:= .u16) rfl a b)
theorem ju (a b:Nat):gz .shr .u16 (Z a) (Z b)=some (.int .u16 (Z (a/2^min b 16))):=by
 simp only[gz,if_neg (fY b),fw,gT];rfl
theorem jv (a b:Nat):gz .shl .u16 (Z a) (Z b)=some (.int .u16 (Z (a*2^min b 16%65536))):=by
 simp only[gz,if_neg (fY b),fw,re (k:= .u16) rfl];rfl
theorem jw (a b:Nat):gP .and .u32 (Z a) (Z b)=some (.int .u32 (Z ((a&&&b)%4294967296))):=congrArg (fun x=>some (J.int .u32 x)) (yt (k:= .u32) rfl a b)
theorem jx (a b:Nat):gP .or .u32 (Z a) (Z b)=some (.int .u32 (Z ((a|||b)%4294967296))):=congrArg (fun x=>some (J.int .u32 x)) (yr (k:= .u32) rfl a b)
theorem jy (a b:Nat):gP .xor .u32 (Z a) (Z b)=some (.int .u32 (Z ((a ^^^ b)%4294967296))):=congrArg (fun x=>some (J.int .u32 x)) (yu (k:= .u32) rfl a b)
theorem jz (a b:Nat):gz .shr .u32 (Z a) (Z b)=some (.int .u32 (Z (a/2^min b 32))):=by
 simp only[gz,if_neg (fY b),fw,gT];rfl
theorem jA (a b:Nat):gz .shl .u32 (Z a) (Z b)=some (.int .u32 (Z (a*2^min b 32%4294967296))):=by
 simp only[gz,if_neg (fY b),fw,re (k:= .u32) rfl];rfl
theorem jB (a b:Nat):gP .and .u64 (Z a) (Z b)=some (.int .u64 (Z ((a&&&b)%18446744073709551616))):=congrArg (fun x=>some (J.int .u64 x)) (yt (k:= .u64) rfl a b)
theorem jC (a b:Nat):gP .or .u64 (Z a) (Z b)=some (.int .u64 (Z ((a|||b)%18446744073709551616))):=congrArg (fun x=>some (J.int .u64 x)) (yr (k:= .u64) rfl a b)
theorem jD (a b:Nat):gP .xor .u64 (Z a) (Z b)=some (.int .u64 (Z ((a ^^^ b)%18446744073709551616))):=congrArg (fun x=>some (J.int .u64 x)) (yu (k:= .u64) rfl a b)
theorem jE (a b:Nat):gz .shr .u64 (Z a) (Z b)=some (.int .u64 (Z (a/2^min b 64))):=by
 simp only[gz,if_neg (fY b),fw,gT];rfl
theorem jF (a b:Nat):gz .shl .u64 (Z a) (Z b)=some (.int .u64 (Z (a*2^min b 64%18446744073709551616))):=by
 simp only[gz,if_neg (fY b),fw,re (k:= .u64) rfl];rfl
theorem jG (a b:Nat):gz .shr .i64 (Z a) (Z b)=some (.int .i64 (Z (a/2^min b 64))):=by
 simp only[gz,if_neg (fY b),fw,gT];rfl
theorem jH {a b:Nat} (h:a*2^min b 64<9223372036854775808):gz .shl .i64 (Z a) (Z b)=some (.int .i64 (Z (a*2^min b 64))):=by
 have e:Z a*2^min b 64=Z (a*2^min b 64):=by simp only[Z];norm_cast
 simp only[gz,if_neg (fY b),fw,Ow,e,gl h]
theorem jI {a b:Nat} (bF:a<9223372036854775808):gP .and .i64 (Z a) (Z b)=some (.int .i64 (Z (a&&&b%18446744073709551616))):=by
 have ae:(BitVec.ofInt 64 (Z a)&&&BitVec.ofInt 64 (Z b)).toNat=a&&&b%18446744073709551616:=by
  simp only[Z,BitVec.ofInt_natCast,BitVec.toNat_and,BitVec.toNat_ofNat];rw[Nat.mod_eq_of_lt (a:=a) (by omega)]
 show some (J.int .i64 (IntKind.i64.wrap (Z _)))=_
 rw[show (BitVec.ofInt IntKind.i64.bits (Z a)&&&BitVec.ofInt IntKind.i64.bits (Z b)).toNat=_ from ae]
 rw[gl (Nat.lt_of_le_of_lt Nat.and_le_left bF)]
theorem jJ:IntKind.i64.bits=64:=rfl
section
variable {G:Nat->Option J} {Φ:FuncId->Option bt} {tab:FuncId->Option (List J->Option J)} {Y:List dm}
def ug (id k:Nat) (a3:Nat->bg->Prop) (E R:bg->Prop):cX->bg->Prop
 | .normal,s=>∃j,j<k/\a3 j s
 | .exit i,s=>i=id/\E s
 | .ret,s=>R s
theorem jK (id k:Nat) (a3:Nat->bg->Prop) (E R:bg->Prop) (s:bg):ug id k a3 E R .normal s=∃j,j<k/\a3 j s:=rfl
theorem jL (id k i:Nat) (a3:Nat->bg->Prop) (E R:bg->Prop) (s:bg):ug id k a3 E R (.exit i) s=(i=id/\E s):=rfl
theorem jM (id k:Nat) (a3:Nat->bg->Prop) (E R:bg->Prop) (s:bg):ug id k a3 E R .ret s=R s:=rfl
theorem mg {id:Nat} {b:ee} {Q:cX->bg->Prop} (a3:Nat->bg->Prop) (E R:bg->Prop) (k:Nat) {s:bg} (aS:a3 k s) (round:∀k s,a3 k s->cQ G Φ tab Y b s (ug id k a3 E R))
 (fin:∀s,E s->Q .normal s) (ret:∀s,R s->Q .ret s):cQ G Φ tab Y (.block id (.loop b)) s Q:=by
 refine aL (Om a3 (fun k s qn=>(round k s qn).mono fun ex s1 h=>?_) k s aS)
 cases ex with
 | normal=>exact h
 | exit i=>obtain⟨rfl,h⟩:=h;simp only[sx,sy,if_true];exact fin _ h
 | ret=>exact ret _ h
theorem oj {a b:ee} {s:bg} {Q:cX->bg->Prop} (K:bg->Prop) (h:cQ G Φ tab Y a s (sx Q K)) (h2:∀s1,K s1->cQ G Φ tab Y b s1 Q):cQ G Φ tab Y (.seq a b) s Q:=
 ax (h.mono fun ex s1 bo=>by
  cases ex with
  | normal=>exact h2 _ bo
  | exit i=>exact bo
  | ret=>exact bo)
end
noncomputable def wE {A:Type} (pre:A->Prop) (enc:A->List J) (out:A->J):List J->Option J:=fun args=>
 open Classical in if h:∃a,pre a/\enc a=args then some (out (Classical.choose h)) else none
theorem wF {A:Type} {pre:A->Prop} {enc:A->List J} {out:A->J} {args:List J} {v:J} (h:wE pre enc out args=some v):∃a,pre a/\enc a=args/\out a=v:=by
 unfold wE at h
 split at h
 · rename_i av
   cases h
   exact ⟨_,(Classical.choose_spec av).1,(Classical.choose_spec av).2,rfl⟩
 · cases h
theorem Ox {A:Type} {pre:A->Prop} {enc:A->List J} {out:A->J} (inj:∀a b,pre a->pre b->enc a=enc b->out a=out b) (a:A) (h:pre a):wE pre enc out (enc a)=some (out a):=by
 unfold wE
 have av:∃b,pre b/\enc b=enc a:=⟨a,h,rfl⟩
 rw[dif_pos av]
 obtain⟨ae,h2⟩:=Classical.choose_spec av
 rw[inj _ _ ae h h2]
end Go.Eng
namespace Go.Eng
open Go Go.RowKit Go.ChangeShapes Go.WideShapes
inductive dQ where
 | int (k:IntKind)
 | bool
 | str
 | sl (e:dQ)
 | cq (cF:List dQ)
mutual
def dQ.size:dQ->Nat
 | .cq cF=>dQ.sC cF
 | _=>1
def dQ.sC:List dQ->Nat
 | []=>0
 | f::cF=>f.size+dQ.sC cF
end
def dQ.one (s:dQ) (cs:List J):J:=match s with
 | .cq _=> .agg cs
 | _=>cs.headD .undef
def wG (P:Program) (bD:TypeId->Option dQ):Nat->List Field->Option (List dQ)
 | _,[]=>some []
 | o,f::cF=>if f.offset=o then (bD f.type).bind fun s=>if P.cellsOf f.type=s.size then (wG P bD (o+s.size) cF).map (s:: ·) else none else none
def shape (P:Program):Nat->TypeId->Option dQ
 | 0,_=>none
 | n+1,t=>match P.underlying t with
   | some .bool=>some .bool
   | some (.int k)=>some (.int k)
   | some .string=>some .str
   | some (.slice e)=>(shape P n e).bind fun s=>if P.cellsOf e=s.size/\0<s.size then some (.sl s) else none
   | some (.struct cF)=>(wG P (shape P n) 0 cF.toList).bind fun l=>if P.cellsOf t=dQ.sC l then some (.cq l) else none
   | some (.array k e)=>(shape P n e).bind fun s=>if P.cellsOf e=s.size/\P.cellsOf t=k*s.size then some (.cq (List.replicate k s)) else none
   | _=>none
def dQ.zero:dQ->List Value
 | .int k=>[.int k 0]
 | .bool=>[.bool false]
 | .str=>[.string ByteArray.empty]
 | .sl _=>[.slice none 0 0]
 | .cq cF=>FH cF
where FH:List dQ->List Value
 | []=>[]
 | f::cF=>f.zero++FH cF
section
variable {H:Type}
mutual
def om:dQ->List J->DataW H->Prop
 | .int k,cs,d=>∃n,cs= [.int k n]/\d= .lit (.int k n)/\(Lit.int k n).wf=true
 | .bool,cs,d=>∃b,cs= [.bool b]/\d= .lit (.bool b)
 | .str,cs,d=>∃s:ByteArray,cs= [.str s]/\d= .lit (.string s.data.toList)/\s.size<=maxLen
 | .sl e,cs,d=>∃xs,cs= [.sl xs false]/\xs.length<=maxLen/\
     ((d= .nil/\xs= [])\/∃c4 rest,d= .slice c4 rest/\c4.length=xs.length/\∀i (h:i<xs.length) (ay:i<c4.length),∃cs,xs[i]=e.one cs/\cs.length=e.size/\om e cs c4[i])
 | .cq cF,cs,d=>∃c4,d= .agg c4/\hW cF cs c4
def hW:List dQ->List J->List (DataW H)->Prop
 | [],cs,c4=>cs= []/\c4= []
 | f::cF,cs,c4=>∃a b d fZ,cs=a++b/\c4=d::fZ/\om f a d/\hW cF b fZ
end
mutual
theorem om.length:∀ {s:dQ} {cs:List J} {d:DataW H},om s cs d->cs.length=s.size
 | .int k,_,_,h=>by obtain⟨n,rfl,_⟩:=h;rfl
 | .bool,_,_,h=>by obtain⟨n,rfl,_⟩:=h;rfl
 | .str,_,_,h=>by obtain⟨n,rfl,_⟩:=h;rfl
 | .sl e,_,_,h=>by obtain⟨n,rfl,_⟩:=h;rfl
 | .cq cF,_,_,h=>by obtain⟨c4,_,h⟩:=h;exact hW.length h
theorem hW.length:∀ {s:List dQ} {cs:List J} {d:List (DataW H)},hW s cs d->cs.length=dQ.sC s
 | [],_,_,h=>by obtain⟨rfl,_⟩:=h;rfl
 | f::cF,_,_,h=>by
   obtain⟨a,b,d,fZ,rfl,_,ae,h2⟩:=h
   rw[List.length_append,ae.length,h2.length];rfl
end
theorem dQ.Bq {s:dQ} {cs:List J} {d:DataW H} (h:om s cs d):(s.one cs).cells=cs:=by
 cases s with
 | int k=>obtain⟨n,rfl,_⟩:=h;rfl
 | bool=>obtain⟨n,rfl,_⟩:=h;rfl
 | str=>obtain⟨n,rfl,_⟩:=h;rfl
 | sl e=>obtain⟨n,rfl,_⟩:=h;rfl
 | cq cF=>rfl
variable {enc:TypeId × Value->H} {P:Program} {w:World} {spare:Nat->Bool} {held:Bool} {ok:Nat->Prop}
def m_ (w:World) (ok:Nat->Prop) (cs:List J) (vs:List Value):Prop:=
 vs.length=cs.length/\∀i (h:i<cs.length) (ay:i<vs.length),dU w ok cs[i] vs[i]
theorem m_.append {a b:List J} {x y:List Value} (h:m_ w ok a x) (k:m_ w ok b y):m_ w ok (a++b) (x++y):=by
 refine⟨by simp[h.1,k.1],fun i an cC=>?_⟩
 by_cases I:i<a.length
 · rw[List.getElem_append_left I,List.getElem_append_left (by rw[h.1];exact I)]
   exact h.2 i I _
 · rw[List.getElem_append_right (by omega),List.getElem_append_right (by rw[h.1];omega)]
   simp only[h.1]
   exact k.2 (i - a.length) (by simp at an;omega) _
theorem m_.one {a:J} {x:Value} (h:dU w ok a x):m_ w ok [a] [x]:=
 ⟨rfl,fun i an cC=>by
   have:i=0:=by simpa using an
   subst this;exact h⟩
theorem FI {bD:TypeId->Option dQ} {n:Nat} {cs:List Value}
 (cG:∀t s vs x,bD t=some s->DataW.trod enc P w 0 spare held n t vs=some x->∃as,om s as x.1/\m_ w ok as vs):
 ∀(cF:List Field) (o:Nat) (l:List dQ) (xs:List (DataW H × List MemPlace)),wG P bD o cF=some l->xs.length=cF.length->o+dQ.sC l=cs.length->
  (∀(i:Nat) (f:Field),cF[i]? =some f->DataW.trod enc P w 0 spare held n f.type ((cs.drop f.offset).take (P.cellsOf f.type))=xs[i]?)->
  ∃as,hW l as (xs.map (·.1))/\m_ w ok as (cs.drop o)
 | [],o,l,xs,h,a6,a4,av=>by
   simp only[wG,Option.some.injEq] at h
   subst h
   obtain rfl:xs= []:=by simpa using a6
   refine⟨[],⟨rfl,rfl⟩,?_,fun i an=>by simp at an⟩
   simp[dQ.sC] at a4|-;omega
 | f::cF,o,l,xs,h,a6,a4,av=>by
   simp only[wG] at h
   split at h<;>try(cases h;done)
   rename_i Oy
   obtain⟨s,aP,h⟩:=Option.bind_eq_some_iff.1 h
   split at h<;>try(cases h;done)
   rename_i I
   obtain⟨mr,q3,rfl⟩:=Option.map_eq_some_iff.1 h
   match xs,a6 with
   | x::xs,a6=>
     have aS:=av 0 f rfl
     simp only[List.getElem?_cons_zero] at aS
     obtain⟨as,Br,Bs⟩:=cG _ _ _ _ aP aS
     simp only[dQ.sC] at a4
     obtain⟨r3,ld,hz⟩:=FI (cs:=cs) cG cF (o+s.size) mr xs q3 (by simpa using a6) (by omega) (fun i f aT=>by simpa using av (i+1) f (by simpa using aT))
     refine⟨as++r3,⟨as,r3,x.1,xs.map (·.1),rfl,by simp,Br,ld⟩,?_⟩
     have e:cs.drop o=(cs.drop f.offset).take (P.cellsOf f.type)++cs.drop (o+s.size):=by
      rw[Oy,I,<-List.drop_drop,List.take_append_drop]
     rw[e]
     exact Bs.append hz
theorem FJ {bD:dQ} {n:Nat} {e:TypeId} {cs:List Value}
 (cG:∀vs x,DataW.trod enc P w 0 spare held n e vs=some x->∃as,om bD as x.1/\m_ w ok as vs) (I:P.cellsOf e=bD.size):
 ∀(k o:Nat) (xs:List (DataW H × List MemPlace)),xs.length=k->(o+k)*bD.size=cs.length->
  (∀i,i<k->DataW.trod enc P w 0 spare held n e ((cs.drop ((o+i)*P.cellsOf e)).take (P.cellsOf e))=xs[i]?)->
  ∃as,hW (List.replicate k bD) as (xs.map (·.1))/\m_ w ok as (cs.drop (o*bD.size))
 | 0,o,xs,a6,a4,av=>by
   obtain rfl:xs= []:=by simpa using a6
   refine⟨[],⟨rfl,rfl⟩,?_,fun i an=>by simp at an⟩
   simp at a4|-;omega
 | k+1,o,xs,a6,a4,av=>by
   match xs,a6 with
   | x::xs,a6=>
     have aS:=av 0 (by omega)
     simp only[List.getElem?_cons_zero,Nat.add_zero] at aS
     obtain⟨as,Br,Bs⟩:=cG _ _ aS
     obtain⟨r3,ld,hz⟩:=FJ (cs:=cs) cG I k (o+1) xs (by simpa using a6) (by rw[<-a4];congr 1;omega) (fun i an=>by
      have:=av (i+1) (by omega)
      simp only[List.getElem?_cons_succ] at this
      rw[<-this]
      congr 3;congr 1;omega)
     refine⟨as++r3,⟨as,r3,x.1,xs.map (·.1),rfl,by simp,Br,ld⟩,?_⟩
     have e:cs.drop (o*bD.size)=(cs.drop (o*P.cellsOf e)).take (P.cellsOf e)++cs.drop ((o+1)*bD.size):=by
      rw[I,show (o+1)*bD.size=o*bD.size+bD.size by rw[Nat.add_mul];simp,<-List.drop_drop,List.take_append_drop]
     rw[e]
     exact Bs.append hz
theorem FK (kB:∀b,b<w.heap.size->ok b):∀(m:Nat) (fuel:Nat) (t:TypeId) (s:dQ) (cs:List Value) (x:DataW H × List MemPlace),shape P m t=some s->
 DataW.trod enc P w 0 spare held fuel t cs=some x->∃as,om s as x.1/\m_ w ok as cs
 | 0,_,_,_,_,_,h,_=>by cases h
 | m+1,fuel,t,s,cs,x,h,av=>by
   have b_:=FK kB m
   unfold shape at h
   split at h
   · rename_i a'
     cases h
     obtain⟨b,rfl,rfl⟩:=DataW.trod_bool a' av
     exact ⟨[.bool b],⟨b,rfl,rfl⟩,.one (.bool b)⟩
   · rename_i k a'
     cases h
     obtain⟨n,rfl,rfl,hw⟩:=DataW.trod_int a' av
     exact ⟨[.int k n],⟨n,rfl,rfl,hw⟩,.one (.int k n)⟩
   · rename_i a'
     cases h
     obtain⟨z,rfl,rfl,hw⟩:=DataW.trod_string a' av
     exact ⟨[.str z],⟨z,rfl,rfl,hw⟩,.one (.str z)⟩
   · rename_i e a'
     obtain⟨aD,aP,h⟩:=Option.bind_eq_some_iff.1 h
     split at h<;>try(cases h;done)
     rename_i I
     cases h
     rcases DataW.trod_slice a' av with⟨rfl,rfl⟩|⟨a,len,cap,elems,rest,n,_,rfl,rfl,au,a6,hm,hlen,lE,_,_⟩
     · refine⟨[.sl [] false],⟨[],rfl,by simp,.inl ⟨rfl,rfl⟩⟩,.one ?_⟩
       exact .sl [] false none 0 1 (fun _ _=> .nilFunc) (Nat.le_refl _) (fun h=>by cases h) (fun i an=>by simp at an) (fun i j an=>by simp at an) (fun h=>by simp at h) (fun i an=>by simp at an)
     · have each:∀i:Fin len,∃p:List Value × List J,w.cells? 0 (a.add (i.1*P.cellsOf e)) (P.cellsOf e)=some p.1/\m_ w ok p.2 p.1/\∃h:i.1<elems.length,om aD p.2 (elems[i.1]).1:=by
        intro i
        have:=lE i.1 i.2
        rw[List.getElem?_eq_getElem (by rw[hlen];exact i.2)] at this
        obtain⟨vs,ae,h2⟩:=Option.bind_eq_some_iff.1 this
        obtain⟨as,bF,bf⟩:=b_ _ _ _ _ _ aP h2
        exact ⟨(vs,as),ae,bf,by rw[hlen];exact i.2,bF⟩
       let g:Fin len->List Value × List J:=fun i=>Classical.choose (each i)
       have bq:∀i:Fin len,w.cells? 0 (a.add (i.1*P.cellsOf e)) (P.cellsOf e)=some (g i).1/\m_ w ok (g i).2 (g i).1/\∃h:i.1<elems.length,om aD (g i).2 (elems[i.1]).1:=fun i=>Classical.choose_spec (each i)
       refine⟨[.sl (List.ofFn fun i=>aD.one (g i).2) false],⟨_,rfl,by simp;omega,.inr ⟨_,_,rfl,by simp[hlen],fun i an cC=>?_⟩⟩,.one ?_⟩
       · simp only[List.length_ofFn] at an
         obtain⟨_,_,he,bw⟩:=bq ⟨i,an⟩
         exact ⟨(g ⟨i,an⟩).2,by simp,bw.length,by simpa using bw⟩
       · have key:=dU.sl (w:=w) (ok:=ok) (List.ofFn fun i=>aD.one (g i).2) false (some a) cap aD.size
          (fun i j=>if h:i<len then (g ⟨i,h⟩).1.getD j .nilFunc else .nilFunc) (by simpa using a6) (fun h=>by cases h)
          (fun i an=>by
            simp only[List.length_ofFn] at an
            obtain⟨_,_,he,bw⟩:=bq ⟨i,an⟩
            simp only[List.getElem_ofFn]
            rw[dQ.Bq bw,bw.length])
          (fun i j an bb=>by
            simp only[List.length_ofFn] at an
            obtain⟨ae,_,_⟩:=bq ⟨i,an⟩
            obtain⟨_,h2,aO⟩:=World.cells?_some ae
            have:=aO j (by rw[I.1];exact bb)
            rw[List.getElem?_eq_getElem (by rw[h2,I.1];exact bb),Go.Addr.add_add] at this
            refine⟨a,rfl,?_,?_⟩
            · have oY:=World.block_lt_of_cell? w _ this
              rw[Addr.qY] at oY
              exact kB _ oY
            · rw[show i*aD.size+j=i*P.cellsOf e+j by rw[I.1]]
              rw[show w.cell? (a.add (i*P.cellsOf e+j))=_ from this]
              simp[an,h2,I.1,bb])
          (fun _=>rfl)
          (fun i an j bb=>by
            simp only[List.length_ofFn] at an
            obtain⟨_,h2,he,bw⟩:=bq ⟨i,an⟩
            simp only[List.getElem_ofFn,dQ.Bq bw] at bb|-
            simp only[an,dif_pos]
            have kW:j<(g ⟨i,an⟩).1.length:=by rw[h2.1];exact bb
            rw[show (g ⟨i,an⟩).1.getD j .nilFunc=(g ⟨i,an⟩).1[j] by simp[List.getD,kW]]
            exact h2.2 j bb kW)
         simpa using key
   · rename_i cF a'
     obtain⟨l,a6,h⟩:=Option.bind_eq_some_iff.1 h
     split at h<;>try(cases h;done)
     rename_i I
     cases h
     obtain⟨xs,n,_,rfl,lD,sh,aT⟩:=DataW.trod_struct a' av
     obtain⟨as,ae,h2⟩:=FI (ok:=ok) (cs:=cs) (fun t s vs x aP av=>b_ _ _ _ _ _ aP av) cF.toList 0 l xs a6 (by simpa using sh) (by rw[lD,I];omega) (fun i f an=>aT i f (by simpa using an))
     exact ⟨as,⟨_,rfl,ae⟩,by simpa using h2⟩
   · rename_i k e a'
     obtain⟨aD,aP,h⟩:=Option.bind_eq_some_iff.1 h
     split at h<;>try(cases h;done)
     rename_i I
     cases h
     obtain⟨xs,n,_,rfl,lD,sh,aT⟩:=DataW.trod_array a' av
     obtain⟨as,ae,h2⟩:=FJ (ok:=ok) (cs:=cs) (fun vs x av=>b_ _ _ _ _ _ aP av) I.1 k 0 xs sh (by rw[lD,I.2];simp) (fun i an=>by simpa using aT i an)
     exact ⟨as,⟨_,rfl,ae⟩,by simpa using h2⟩
   · cases h
end
section rows
variable {H:Type} {enc:TypeId × Value->H} {P:Program} {w:World} {spare:Nat->Bool} {held:Bool} {ok:Nat->Prop}
theorem Oz {s:dQ} {as:List J} {d:DataW H} {v:Value} (h:om s as d) (aY:(∃cF,s= .cq cF)->∃cs,v= .agg cs) (aC:(∃cs,v= .agg cs)->∃cF,s= .cq cF) (bf:m_ w ok as v.cells.toList):dU w ok (s.one as) v:=by
 cases s with
 | cq cF=>
   obtain⟨cs,rfl⟩:=aY ⟨cF,rfl⟩
   exact .agg as cs (by simpa[Value.cells] using bf.1) fun i h ay=>by
    have:=bf.2 i h (by simpa[Value.cells] using ay)
    simpa[Value.cells] using this
 | _=>
   have I:v.cells= #[v]:=by
    cases v<;>first|rfl|(obtain⟨cF,e⟩:=aC ⟨_,rfl⟩;cases e)
   have ae:=h.length
   rw[I] at bf
   match as,ae,bf with
   | [a],_,bf=>exact bf.2 0 (by simp) (by simp)
def m' (s:dQ) (a:J):Prop:=∃(H:Type) (as:List J) (d:DataW H),a=s.one as/\om s as d
def sD:List dQ->List J->Prop
 | [],as=>as= []
 | s::ss,as=>∃a Ab,as=a::Ab/\m' s a/\sD ss Ab
theorem OA {m:Nat} {t:TypeId} {s:dQ} {r:Reach} {b0:Nat} {v:Value} (h:shape P m t=some s) (aY:Value.okWide P w r b0 t v):((∃cF,s= .cq cF)->∃cs,v= .agg cs)/\((∃cs,v= .agg cs)->∃cF,s= .cq cF):=by
 cases m with
 | zero=>cases h
 | succ m=>
   unfold shape at h
   split at h
   · rename_i a';cases h
     obtain⟨b,rfl⟩:=okWide_bool a' aY
     exact ⟨(by rintro ⟨cF,e⟩;cases e),(by rintro ⟨cF,e⟩;cases e)⟩
   · rename_i k a';cases h
     obtain⟨b,rfl⟩:=okWide_int a' aY
     exact ⟨(by rintro ⟨cF,e⟩;cases e),(by rintro ⟨cF,e⟩;cases e)⟩
   · rename_i a';cases h
     obtain⟨b,rfl⟩:=okWide_string a' aY
     exact ⟨(by rintro ⟨cF,e⟩;cases e),(by rintro ⟨cF,e⟩;cases e)⟩
   · rename_i e a'
     obtain⟨aD,aP,h⟩:=Option.bind_eq_some_iff.1 h
     split at h<;>try(cases h;done)
     cases h
     obtain⟨a,b,c,rfl⟩:=okWide_slice a' aY
     exact ⟨(by rintro ⟨cF,e⟩;cases e),(by rintro ⟨cF,e⟩;cases e)⟩
   · rename_i cF a'
     obtain⟨aD,aP,h⟩:=Option.bind_eq_some_iff.1 h
     split at h<;>try(cases h;done)
     cases h
     obtain⟨a,rfl,_⟩:=okWide_struct a' aY
     exact ⟨fun _=>⟨_,rfl⟩,fun _=>⟨_,rfl⟩⟩
   · rename_i k e a'
     obtain⟨aD,aP,h⟩:=Option.bind_eq_some_iff.1 h
     split at h<;>try(cases h;done)
     cases h
     have bF:∃cs,v= .agg cs:=by
      simp only[Value.okWide,a'] at aY
      obtain⟨cs,ae,_⟩:=aY
      exact ⟨cs,ae⟩
     exact ⟨fun _=>bF,fun _=>⟨_,rfl⟩⟩
   · cases h
theorem FL {r:Reach} {b0:Nat} (kB:∀b,b<w.heap.size->ok b) {m:Nat}:∀ {cB:List TypeId} {ss:List dQ} {vs:List Value} {c4:List (DataW H)} {ps:List MemPlace},cB.mapM (shape P m)=some ss->
 DataW.TrodAll enc P w 0 spare held cB vs c4 ps->(∀(j:Nat) t v,cB[j]? =some t->vs[j]? =some v->Value.okWide P w r b0 t v)->
 ∃as,sD ss as/\vs.length=as.length/\∀i (h:i<as.length) (ay:i<vs.length),dU w ok as[i] vs[i]
 | [],ss,vs,c4,ps,aP,h,_=>by
   obtain⟨rfl,rfl,rfl⟩:=trodAll_nil h
   obtain rfl: []=ss:=by simpa using aP
   exact ⟨[],rfl,rfl,fun i an=>by simp at an⟩
 | t::cB,ss,vs,c4,ps,aP,h,aY=>by
   obtain⟨v,m4,d,fZ,p,q,rfl,rfl,rfl,⟨fuel,aS⟩,ae⟩:=trodAll_cons h
   rw[List.mapM_cons] at aP
   obtain⟨s,FM,aP⟩:=Option.bind_eq_some_iff.1 aP
   obtain⟨Zw,mI,aP⟩:=Option.bind_eq_some_iff.1 aP
   cases aP
   obtain⟨as,h2,aO,a2⟩:=FL kB mI ae (fun j OB kA a' OC=>aY (j+1) OB kA (by simpa using a') (by simpa using OC))
   obtain⟨cs,cV,cY⟩:=FK kB _ _ _ _ _ _ FM aS
   obtain⟨eD,ef⟩:=OA FM (aY 0 t v rfl rfl)
   refine⟨s.one cs::as,⟨_,_,rfl,⟨H,cs,d,rfl,cV⟩,h2⟩,by simp[aO],fun i an cC=>?_⟩
   cases i with
   | zero=>exact Oz cV eD ef cY
   | succ i=>exact a2 i _ _
theorem FN (a6:laidOutB P=true) {bh:World} (au:Below w.heap.size w bh):∀ {cB:List TypeId} {vs:List Value} {c4:List (DataW H)} {ps:List MemPlace},
 (cB.all fun t=>P.readableRec t&&decide (t<P.types.size))=true->
 DataW.TrodAll enc P w 0 (fun _=>true) true cB vs c4 ps->DataW.TrodAll enc P bh 0 (fun b=>decide (b<w.heap.size)) true cB vs c4 ps
 | [],vs,c4,ps,_,h=>by
   obtain⟨rfl,rfl,rfl⟩:=trodAll_nil h
   exact trodAll_mk0
 | t::cB,vs,c4,ps,bF,h=>by
   obtain⟨v,m4,d,fZ,p,q,rfl,rfl,rfl,aS,ae⟩:=trodAll_cons h
   simp only[List.all_cons,Bool.and_eq_true,decide_eq_true_eq] at bF
   obtain⟨m,hm⟩:=aS
   exact trodAll_cons_mk (Below.trod a6 bF.1.1 bF.1.2 ⟨m,hm⟩ au (fun x av=>DataW.trod_lt m _ _ _ hm x av)) (FN a6 au bF.2 ae)
theorem lifted {C:Checked} {os:Os} {f:FuncId} {fn:Func} {s:ChangeSpec} {m:Nat} {ss:List dQ} {T:List J->Option J} {G:Nat->Option J} {X:World->Array Value->Prop} {FO:TypeId} {body:Code}
 (mO:∀(w bh:World) (args:Array Value),w.heap=bh.heap->X w args->X bh args)
 (own:ownKnob C.prog.godebug=none) (started:os.Started) (OD:C.prog.inits.idxOf? f=none) (m8:C.prog.funcs[f]? =some fn)
 (witness:∃(w:World) (tape:Tape) (i:Input),w.os=os/\(w.forCall tape i).Shaped C.prog/\i.vars= []/\Input.okWide C.prog (w.forCall tape i) .any w.heap.size f i/\
   ((s.pre enc C.prog fn [] false (w.forCall tape i).memory i.args/\X (w.forCall tape i).memory i.args)/\sizedMet enc C.prog fn (OpenSpec.ofChange s) false (w.forCall tape i).memory i.args)/\({}:Assume).holds C.prog (lone (Frame.enter C.prog f i.args .normal) [] (w.forCall tape i)))
 (a6:laidOutB C.prog=true)
 (aP:fn.params.toList.mapM (shape C.prog m)=some ss) (OE:(fn.params.toList.all fun t=>C.prog.readableRec t&&decide (t<C.prog.types.size))=true)
 (OF:fn.body=some body) (A':fn.name≠ "runtime.NumGoroutine")
 (A_:fn.resultTypes= #[FO]) (Ak:C.prog.underlying FO=some .bool) (FP:s.vars= [])
 (Bt:∀c4:List (DataW H),c4.length=fn.params.size->s.fn H c4= {results:=[.lit (.bool true)],args:=c4})
 (OG:∀W args,X W args->∀g u,G g=some u->bC W (fun _=>True) (fun _=>none) (.e0 u) (.pointer (some ⟨g,0,none⟩)))
 (I:bl C.prog G f T) (dn:∀as,sD ss as->T as=some (.bool true)):
 ReturnsInHanded {} C os f .any (fun w args=>(s.pre enc C.prog fn [] false w args/\X w args)/\sizedMet enc C.prog fn (OpenSpec.ofChange s) false w args) (s.post enc C.prog fn false true false false):=by
 refine returnsInHanded_of_change_and mO own started OD m8 witness ?_
 intro W base args c4 gs before mq mx _ _ av _
 have OH:=mx
 obtain⟨p,q,aU,FQ,rfl,Zx,pJ⟩:=mx
 rw[FP] at FQ
 obtain⟨rfl,rfl⟩:=trodVars_none FQ
 obtain⟨as,ae,h2,aO⟩:=FL (ok:=fun _=>True) (fun _ _=>trivial) aP aU (fun j t v a' aY=>mq j t v (by simpa using a') (by simpa using aY))
 have D:=I as _ (dn as ae) (fun _=>True) W args (by simpa using h2) (fun i h ay=>by have:=aO i h (by simpa using ay);rwa [Array.getElem_toList] at this) (OG W args av)
 have Bu:c4.length=fn.params.size:=by
  have:∀ {cB:List TypeId} {vs:List Value} {c4:List (DataW H)} {ps:List MemPlace},DataW.TrodAll enc C.prog W 0 (fun _=>true) true cB vs c4 ps->c4.length=cB.length:=by
   intro cB
   induction cB with
   | nil=>intro vs c4 ps h;obtain⟨_,rfl,_⟩:=trodAll_nil h;rfl
   | cons t cB b_=>
     intro vs c4 ps h
     obtain⟨v,m4,d,fZ,p,q,rfl,rfl,rfl,aS,ae⟩:=trodAll_cons h
     simp[b_ ae]
  simpa using this aU
 have fin:∀cv bh,dU bh (fun b=>True\/W.heap.size<=b) (.bool true) cv/\Below W.heap.size W bh->s.post enc C.prog fn false true false false W args cv bh:=by
  rintro cv bh ⟨bf,au⟩
  cases bf
  refine⟨c4,[],_,[],p,[],OH,?_,?_,?_,au.frame _,fun h=>by cases h⟩
  · rw[List.append_nil,Bt c4 Bu,A_]
    exact trodAll_mk1 (shut_bool Ak _)
  · rw[List.append_nil,Bt c4 Bu]
    exact FN a6 au OE aU
  · rw[FP,List.append_nil,Bt c4 Bu]
    rfl
 rcases D with⟨_,d2⟩|⟨cv,bh,d1,_⟩
 · refine d2.mono fun e bh ⟨cv,he,eu⟩=>⟨cv,he,fin cv bh eu⟩
 · have:=A7 m8 OF A' args W
   rw[this] at d1
   cases d1
end rows
end Go.Eng
namespace Go.Eng
open Go Go.RowKit
theorem FR {k:IntKind} {n:Int} (h:(Lit.int k n).wf=true):k.min<=n/\n<=k.max:=by
 simpa[Lit.wf] using h
theorem Bv {k:IntKind} {a:J} (h:m' (.int k) a):∃n:Int,a= .int k n/\k.min<=n/\n<=k.max:=by
 obtain⟨H,gU,d,rfl,n,rfl,_,hw⟩:=h
 exact ⟨n,rfl,(FR hw).1,(FR hw).2⟩
theorem OI {a:J} (h:m' .bool a):∃b,a= .bool b:=by
 obtain⟨H,gU,d,rfl,b,rfl,_⟩:=h
 exact ⟨b,rfl⟩
theorem OJ {e:dQ} {a:J} (h:m' (.sl e) a):∃xs,a= .sl xs false/\xs.length<=maxLen/\∀x∈xs,m' e x:=by
 obtain⟨H,gU,d,rfl,xs,rfl,hm,bw⟩:=h
 refine⟨xs,rfl,hm,fun x av=>?_⟩
 rcases bw with⟨_,rfl⟩|⟨c4,rest,_,a6,OK⟩
 · cases av
 · obtain⟨i,an,rfl⟩:=List.mem_iff_getElem.1 av
   obtain⟨cs,ae,_,h2⟩:=OK i an (by omega)
   exact ⟨H,cs,_,ae,h2⟩
theorem FT {cF:List dQ} {a:J} (h:m' (.cq cF) a):∃(H:Type) (cs:List J) (c4:List (DataW H)),a= .agg cs/\hW cF cs c4:=by
 obtain⟨H,gU,d,rfl,c4,rfl,bw⟩:=h
 exact ⟨H,gU,c4,rfl,bw⟩
theorem OL {a:J} (h:m' (.int .u8) a):∃n,a= .int .u8 (Z n)/\n<256:=by
 obtain⟨n,rfl,ae,h2⟩:=Bv h
 simp[IntKind.min,IntKind.max,IntKind.signed,IntKind.bits] at ae h2
 obtain⟨n,rfl⟩:=Int.eq_ofNat_of_zero_le ae
 exact ⟨n,rfl,by omega⟩
theorem OM {a:J} (h:m' (.int .u32) a):∃n,a= .int .u32 (Z n)/\n<4294967296:=by
 obtain⟨n,rfl,ae,h2⟩:=Bv h
 simp[IntKind.min,IntKind.max,IntKind.signed,IntKind.bits] at ae h2
 obtain⟨n,rfl⟩:=Int.eq_ofNat_of_zero_le ae
 exact ⟨n,rfl,by omega⟩
theorem ON {a:J} (h:m' (.sl (.int .u32)) a):∃l:List Nat,a= .sl (l.map fun n=> .int .u32 (Z n)) false/\l.length<=maxLen/\∀x∈l,x<4294967296:=by
 obtain⟨xs,rfl,hm,av⟩:=OJ h
 have:∃l:List Nat,xs=l.map (fun n=> .int .u32 (Z n))/\∀x∈l,x<4294967296:=by
  clear hm h
  induction xs with
  | nil=>exact ⟨[],rfl,fun x av=>by cases av⟩
  | cons x xs b_=>
    obtain⟨n,rfl,aC⟩:=OM (av x (by simp))
    obtain⟨l,rfl,a6⟩:=b_ (fun y bj=>av y (by simp[bj]))
    exact ⟨n::l,rfl,fun y bj=>by
     rcases List.mem_cons.1 bj with rfl|bj
     · exact aC
     · exact a6 y bj⟩
 obtain⟨l,rfl,a6⟩:=this
 exact ⟨l,rfl,by simpa using hm,a6⟩
theorem OO {H:Type} {f:dQ} {cF:List dQ} {cs:List J} {c4:List (DataW H)} (h:hW (f::cF) cs c4):∃(a b:List J) (fZ:List (DataW H)),cs=a++b/\m' f (f.one a)/\(f.one a).cells=a/\hW cF b fZ:=by
 obtain⟨a,b,d,fZ,rfl,_,ae,h2⟩:=h
 exact ⟨a,b,fZ,rfl,⟨H,a,d,rfl,ae⟩,dQ.Bq ae,h2⟩
theorem yv {H:Type} {cs:List J} {c4:List (DataW H)} (h:hW [] cs c4):cs= []:=h.1
theorem Bw {s:dQ} {ss:List dQ} {l:List J} (h:sD (s::ss) l):∃a mr,l=a::mr/\m' s a/\sD ss mr:=h
theorem OP {l:List J} (h:sD [] l):l= []:=h
end Go.Eng
namespace Go.Eng
open Go Go.RowKit
mutual
def J.loose:J->J
 | .sl xs _=> .sl (mQ xs) false
 | .agg cs=> .agg (mQ cs)
 | .cb vs=> .cb (mQ vs)
 | v=>v
def mQ:List J->List J
 | []=>[]
 | v::vs=>v.loose::mQ vs
end
theorem sE:∀l:List J,mQ l=l.map J.loose
 | []=>rfl
 | v::l=>by simp only[mQ,List.map_cons,sE l]
theorem gD:mQ []= []:=rfl
theorem gq (v:J) (l:List J):mQ (v::l)=v.loose::mQ l:=rfl
theorem gJ (xs:List J) (e:Bool):(J.sl xs e).loose= .sl (mQ xs) false:=by simp only[J.loose]
theorem gr (xs:List J):(J.agg xs).loose= .agg (mQ xs):=by simp only[J.loose]
theorem hX (xs:List J):(J.cb xs).loose= .cb (mQ xs):=by simp only[J.loose]
theorem gu (k:IntKind) (n:Int):(J.int k n).loose= .int k n:=by simp only[J.loose]
theorem gK (b:Bool):(J.bool b).loose= .bool b:=by simp only[J.loose]
theorem hY (b:ByteArray):(J.str b).loose= .str b:=by simp only[J.loose]
theorem hZ:J.nilfn.loose= .nilfn:=by simp only[J.loose]
theorem h0 (m:List (Int × FuncId)):(J.mp m).loose= .mp m:=by simp only[J.loose]
theorem OQ (f:FuncId) (a b:List J):(J.fn f a b).loose= .fn f a b:=by simp only[J.loose]
theorem Bx (v:J):v.loose.cells=v.cells.map J.loose:=by
 cases v<;>simp[J.loose,J.cells,sE]
theorem dU.loose {w:World} {ok:Nat->Prop} {v:J} {cv:Value} (h:dU w ok v cv):dU w ok v.loose cv:=by
 induction h with
 | int k n=>rw[gu];exact .int k n
 | bool b=>rw[gK];exact .bool b
 | str s=>rw[hY];exact .str s
 | nilfn=>rw[hZ];exact .nilfn
 | fn f=>rw[OQ];exact .fn f
 | mp m r es clock ae h2 aO a2=>rw[h0];exact .mp m r es clock ae h2 aO a2
 | sl xs ex A c sz eK ae h2 aO a2 cf dS b_=>
   rw[gJ,sE]
   have R:=dU.sl (w:=w) (ok:=ok) (xs.map J.loose) false A c sz eK (by simpa using ae) (fun h=>by cases h) (fun i h=>by
    have an:i<xs.length:=by simpa using h
    rw[List.getElem_map,Bx,List.length_map];exact aO i an) (fun i j an bb=>a2 i j (by simpa using an) bb) (fun bc=>cf (by simpa using bc)) (fun i an j bb=>by
    have cC:i<xs.length:=by simpa using an
    have kW:j<xs[i].cells.length:=by
     rw[List.getElem_map,Bx,List.length_map] at bb;exact bb
    have e:((xs.map J.loose)[i]'an).cells[j]=(xs[i].cells[j]).loose:=by
     simp[Bx]
    rw[e]
    exact b_ i cC j kW)
   simpa using R
 | agg cs vs a6 h b_=>
   rw[gr,sE]
   refine .agg _ vs (by simpa using a6) fun i an cC=>?_
   rw[List.getElem_map]
   exact b_ i (by simpa using an) cC
 | cb cs vs a6 h b_=>
   rw[hX,sE]
   refine .cb _ vs (by simpa using a6) fun i an cC=>?_
   rw[List.getElem_map]
   exact b_ i (by simpa using an) cC
theorem OR {P:Program} {G:Nat->Option J} {f:FuncId} {T FU:List J->Option J} (h:bl P G f T) (dn:∀args v,FU args=some v->∃kA,T (args.map J.loose)=some kA/\kA.loose=v):bl P G f FU:=by
 intro args v aY ok w eb dC fK ra
 obtain⟨kA,ae,rfl⟩:=dn args v aY
 have D:=h _ _ ae ok w eb (by simpa using dC) (fun i an cC=>by
  rw[List.getElem_map]
  exact (fK i (by simpa using an) cC).loose) ra
 rcases D with⟨d1,d2⟩|⟨cv,bh,d1,d2,d3⟩
 · exact .inl ⟨d1,d2.mono fun e bh ⟨cv,he,eu,au⟩=>⟨cv,he,eu.loose,au⟩⟩
 · exact .inr ⟨cv,bh,d1,d2.loose,d3⟩
def hA (res:List m3) (v:J) (ex:cX) (s:bg):Prop:=
 (match ex with
  | .exit _=>False
  | _=>True)/\((e1 s.h s.F res).bind fun u=>(kU s.h u).map fun p=>p.1.loose)=some v
theorem OS {G:Nat->Option J} {Φ:FuncId->Option bt} {tab:FuncId->Option (List J->Option J)} {f:FuncId} {fn:bt} (aT:Φ f=some fn) {args:List J} {v:J} (h:cQ G Φ tab [] fn.body ⟨a8 args,aS⟩ (hA fn.res v)):
 ∃kA,kA.loose=v/\∃n,m5 G Φ tab n f args=some kA:=by
 obtain⟨n,ex,aD,e,cn,eg⟩:=h
 obtain⟨u,hu,eg⟩:=Option.bind_eq_some_iff.1 eg
 obtain⟨p,bc,rfl⟩:=Option.map_eq_some_iff.1 eg
 refine⟨p.1,rfl,n,?_⟩
 unfold m5 xG
 simp only[aT,e]
 cases ex with
 | exit i=>exact cn.elim
 | normal=>simp only[hu,Option.map_some,Option.bind_some,bc]
 | ret=>simp only[hu,Option.map_some,Option.bind_some,bc]
noncomputable def cl {A:Type} (pre:A->Prop) (enc:A->List J) (out:A->J):List J->Option J:=fun args=>wE pre enc out (args.map J.loose)
theorem cI {A:Type} {pre:A->Prop} {enc:A->List J} {out:A->J} (inj:∀a b,enc a=enc b->out a=out b) (a:A) (h:pre a) {args:List J} (he:args.map J.loose=enc a):cl pre enc out args=some (out a):=by
 unfold cl
 rw[he]
 exact Ox (fun a b _ _ h=>inj a b h) a h
theorem cJ {P:Program} {G:Nat->Option J} {tab:FuncId->Option (List J->Option J)} (hm:P.follows .mixedOrders=true) (lV:∀f T,tab f=some T->bl P G f T) {f:FuncId} {fn:bt} (aT:bk P f=some fn)
 {A:Type} {pre:A->Prop} {enc:A->List J} {out:A->J} (h:∀a,pre a->cQ G (bk P) tab [] fn.body ⟨a8 (enc a),aS⟩ (hA fn.res (out a))):bl P G f (cl pre enc out):=by
 have I:bl P G f (fun args=>open Classical in if h:∃v,∃n,m5 G (bk P) tab n f args=some v then some (Classical.choose h) else none):=
  ym hm lV fun args v dn=>by
   split at dn
   · rename_i av
     cases dn
     exact Classical.choose_spec av
   · cases dn
 refine OR I fun args v dn=>?_
 obtain⟨a,ae,h2,rfl⟩:=wF dn
 obtain⟨kA,aO,n,a2⟩:=OS aT (h a ae)
 rw[<-h2]
 have av:∃v,∃n,m5 G (bk P) tab n f (enc a)=some v:=⟨kA,n,a2⟩
 refine⟨kA,?_,aO⟩
 rw[dif_pos av]
 congr 1
 obtain⟨m,cf⟩:=Classical.choose_spec av
 have mono:∀ {n m:Nat} {v:J},n<=m->m5 G (bk P) tab n f (enc a)=some v->m5 G (bk P) tab m f (enc a)=some v:=by
  intro n m v oi aY
  unfold m5 at aY|-
  obtain⟨p,ae,h2⟩:=Option.bind_eq_some_iff.1 aY
  rw[Bi] at ae
  have:=wC (Y:=[]) oi (.fn f) (enc a) aS p ae
  rw[Bi,show k1 G (bk P) tab m [] f (enc a) aS=some p from this]
  exact h2
 have a1:=mono (Nat.le_max_left n m) a2
 have cP:=mono (Nat.le_max_right n m) cf
 rw[a1] at cP
 exact (Option.some.inj cP).symm
theorem jN (k:IntKind):J.int k 0=J.int k (Z 0):=rfl
theorem hB (k:IntKind):J.int k 1=J.int k (Z 1):=rfl
theorem jO (h:aF) (k:IntKind) (n:Int):eJ h (.int k n)=some (.int k n,[]):=rfl
theorem jP (h:aF) (k:IntKind) (n:Int):hL h (.int k n)=eJ h (.int k n):=rfl
theorem jQ (h:aF) (k:IntKind) (n:Int):kU h (.int k n)=eJ h (.int k n):=rfl
theorem jR (h:aF) (b:Bool):eJ h (.bool b)=some (.bool b,[]):=rfl
theorem jS (h:aF) (b:Bool):hL h (.bool b)=eJ h (.bool b):=rfl
theorem jT (h:aF) (b:Bool):kU h (.bool b)=eJ h (.bool b):=rfl
theorem jU (h:aF) (b:ByteArray):eJ h (.str b)=some (.str b,[]):=rfl
theorem jV (h:aF) (b:ByteArray):hL h (.str b)=eJ h (.str b):=rfl
theorem jW (h:aF) (b:ByteArray):kU h (.str b)=eJ h (.str b):=rfl
theorem jX (h:aF) (xs:List J) (e:Bool):eJ h (.sl xs e)=some (.sl xs e,[]):=rfl
theorem jY (h:aF) (xs:List J) (e:Bool):hL h (.sl xs e)=eJ h (.sl xs e):=rfl
theorem jZ (h:aF) (xs:List J) (e:Bool):kU h (.sl xs e)=eJ h (.sl xs e):=rfl
theorem h1 (h:aF) (i o l c:Nat):eJ h (.ref i o l c)=match h.cells i with
 | some blk=>if o+l<=blk.length/\(blk.all J.ft)=true then some (.sl ((blk.drop o).take l) false,[i]) else none
 | none=>none:=rfl
theorem j0 (h:aF) (i o l c:Nat):hL h (.ref i o l c)=eJ h (.ref i o l c):=rfl
theorem j1 (h:aF) (i o l c:Nat):kU h (.ref i o l c)=eJ h (.ref i o l c):=rfl
theorem j2 (h:aF):eJ h (.nilfn)=some (.nilfn,[]):=rfl
theorem j3 (h:aF):hL h (.nilfn)=eJ h (.nilfn):=rfl
theorem j4 (h:aF):kU h (.nilfn)=eJ h (.nilfn):=rfl
theorem j5 (h:aF) (m:List (Int × FuncId)):eJ h (.mp m)=some (.mp m,[]):=rfl
theorem j6 (h:aF) (m:List (Int × FuncId)):hL h (.mp m)=eJ h (.mp m):=rfl
theorem j7 (h:aF) (m:List (Int × FuncId)):kU h (.mp m)=eJ h (.mp m):=rfl
theorem j8 (h:aF) (f:FuncId) (x y:List J):eJ h (.fn f x y)=none:=rfl
theorem j9 (h:aF) (f:FuncId) (x y:List J):hL h (.fn f x y)=eJ h (.fn f x y):=rfl
theorem j_ (h:aF) (f:FuncId) (x y:List J):kU h (.fn f x y)=eJ h (.fn f x y):=rfl
theorem j' (h:aF) (i j k:Nat):eJ h (.ptr i j k)=none:=rfl
theorem ka (h:aF) (i j k:Nat):hL h (.ptr i j k)=eJ h (.ptr i j k):=rfl
theorem kb (h:aF) (i j k:Nat):kU h (.ptr i j k)=eJ h (.ptr i j k):=rfl
theorem kc (h:aF) (v:J):eJ h (.e0 v)=none:=rfl
theorem kd (h:aF) (v:J):hL h (.e0 v)=eJ h (.e0 v):=rfl
theorem ke (h:aF) (v:J):kU h (.e0 v)=eJ h (.e0 v):=rfl
theorem kf (h:aF):eJ h (.undef)=none:=rfl
theorem kg (h:aF):hL h (.undef)=eJ h (.undef):=rfl
theorem kh (h:aF):kU h (.undef)=eJ h (.undef):=rfl
theorem ki (h:aF) (cs:List J):hL h (.agg cs)=(ff h cs).map fun(hM,a)=>(.agg hM,a):=rfl
theorem kj (h:aF) (cs:List J):kU h (.agg cs)=(ff h cs).map fun(hM,a)=>(.agg hM,a):=rfl
theorem kk (h:aF) (cs:List J):kU h (.cb cs)=(e8 h cs).map fun(hM,a)=>(.cb hM,a):=rfl
def mR (r sz bytes:Nat) (h:aF) (x y:J):Option (J × aF × ey):=(elems h y).bind fun ys=>
    if 0<sz/\0<bytes/\(ys.all fun e=>e.cells.length == sz&&e.cells.all J.dp)=true then
     match x with
     | .sl xs ex=>if ys.length=0 then some (.sl xs ex,h,if lQ y then .pure else .wr) else if ex=true/\(xs.length+ys.length)*bytes<=35184372088832/\0<ys.length/\(xs.all fun e=>e.cells.length == sz)=true
         then some (.ref r 0 (xs.length+ys.length) (xs.length+ys.length),h.new r (xs++ys),if lQ y then .hK else .wr) else none
     | .ref id off len cap=>if ys.length=0 then some (.ref id off len cap,h,if lQ y then .pure else .wr) else if h.shut id=true then none else (h.cells id).bind fun blk=>
         if off+len<=blk.length/\(len+ys.length)*bytes<=35184372088832/\0<ys.length/\(blk.all fun e=>e.cells.length == sz)=true then
          if len+ys.length<=cap then
           if off+cap<=blk.length then some (.ref id off (len+ys.length) cap,h.new id (blk.take (off+len)++ys++blk.drop (off+len+ys.length)),.wr) else none
          else if off=0/\0<len then some (.ref r 0 (len+ys.length) (len+ys.length),{h with cells:=aG (aG h.cells id none) r (some (blk.take len++ys))},.wr) else none
         else none
     | _=>none
    else none
theorem kl (bm r:Nat) (bJ:bn->J) (h:aF) (sz bytes:Nat) (x y:bn):evalOp bm r bJ h (.app sz bytes x y)=mR r sz bytes h (bJ x) (bJ y):=by rfl
def eE (sz:Nat) (h:aF) (v:J) (xs:List J):Prop:=
 (∀j,h.next<=j->h.shut j=false)/\
 ((xs= []/\v= .sl [] true)\/(0<xs.length/\∃q,v= .ref q 0 xs.length xs.length/\h.cells q=some xs/\h.shut q=false/\q<h.next/\(xs.all fun e=>e.cells.length == sz)=true))
def mh (r:Nat) (h:aF) (v:J) (gU:List J):aF:=match v with
 | .ref q _ _ _=>{h with cells:=aG (aG h.cells q none) r (some gU)}
 | _=>h.new r gU
def FV (v:J):ey:=match v with
 | .ref .. => .wr
 | _=> .hK
theorem h3 (r:Nat) (h:aF) (v:J) (gU:List J):(mh r h v gU).cells r=some gU:=by
 unfold mh;split<;>simp[aF.new,aG]
theorem km (r:Nat) (h:aF) (v:J) (gU:List J):(mh r h v gU).next=h.next:=by
 unfold mh;split<;>rfl
theorem kn (r:Nat) (h:aF) (v:J) (gU:List J):(mh r h v gU).shut=h.shut:=by
 unfold mh;split<;>rfl
theorem ko (r:Nat) (h:aF) (v:J) (gU:List J):(mh r h v gU).bu=h.bu:=by
 unfold mh;split<;>rfl
theorem OT {r:Nat} {h:aF} {v:J} {gU:List J} {q:Nat} (ae:q≠r) (h2:∀a b c,v≠ .ref q a b c):(mh r h v gU).cells q=h.cells q:=by
 unfold mh
 split
 · rename_i ns a b c
   have:q≠ns:=fun e=>h2 a b c (by rw[e])
   simp[aG,ae,this]
 · simp[aF.new,aG,ae]
theorem uh {sz:Nat} {h:aF} {v:J} {xs:List J} (OU:eE sz h v xs) (dC:0<sz) {bytes:Nat} (au:0<bytes) {ys:List J} (pz:0<ys.length) (bj:(ys.all fun e=>e.cells.length == sz&&e.cells.all J.dp)=true)
 (a6:(xs.length+ys.length)*bytes<=35184372088832) (m r:Nat) (e:Bool):
 mR r sz bytes ⟨h.cells,h.shut,m,h.bu⟩ v (.sl ys e)=some (.ref r 0 (xs.length+ys.length) (xs.length+ys.length),mh r ⟨h.cells,h.shut,m,h.bu⟩ v (xs++ys),FV v):=by
 have aS:¬ys.length=0:=by omega
 unfold mR
 simp only[elems,Option.bind_some,if_pos (And.intro dC (And.intro au bj))]
 rcases OU.2 with⟨rfl,rfl⟩|⟨ae,q,rfl,h2,aO,a2,cf⟩
 · simp only[if_neg aS,lQ,if_true]
   rw[if_pos ⟨trivial,a6,pz,rfl⟩]
   rfl
 · have dS:¬xs.length+ys.length<=xs.length:=by omega
   simp only[if_neg aS,aO,Bool.false_eq_true,if_false,h2,Option.bind_some]
   rw[if_pos ⟨by omega,a6,pz,cf⟩,if_neg dS,if_pos ⟨trivial,ae⟩]
   simp only[List.take_length,mh,FV]
theorem eE.mono {sz:Nat} {h ay:aF} {v:J} {xs:List J} (o:eE sz h v xs) (I:∀q,q<h.next->ay.cells q=h.cells q) (aP:∀q,ay.shut q=h.shut q) (aC:h.next<=ay.next):eE sz ay v xs:=by
 refine⟨fun j bb=>by rw[aP];exact o.1 j (by omega),?_⟩
 rcases o.2 with o|⟨ae,q,h2,aO,a2,cf,dS⟩
 · exact .inl o
 · exact .inr ⟨ae,q,h2,by rw[I q cf];exact aO,by rw[aP q];exact a2,by omega,dS⟩
theorem eE.bump {sz:Nat} {h:aF} {v:J} {xs:List J} (o:eE sz h v xs) (m:Nat) (hm:h.next<=m):eE sz ⟨h.cells,h.shut,m,h.bu⟩ v xs:=o.mono (fun _ _=>rfl) (fun _=>rfl) hm
theorem eE.nil {sz:Nat} {h:aF} (aP:∀j,h.next<=j->h.shut j=false):eE sz h (.sl [] true) []:=⟨aP,.inl ⟨rfl,rfl⟩⟩
theorem eE.app {sz:Nat} {h:aF} {v:J} {xs:List J} (o:eE sz h v xs) {ys:List J} (pz:0<ys.length) (bj:(ys.all fun e=>e.cells.length == sz)=true) (m p3 r:Nat) (p qh:Nat->Option fu) (bf:h.next<=r) (hm:r<p3):
 eE sz ⟨(mh r ⟨h.cells,h.shut,m,p⟩ v (xs++ys)).cells,h.shut,p3,qh⟩ (.ref r 0 (xs.length+ys.length) (xs.length+ys.length)) (xs++ys):=by
 refine⟨fun j bb=>o.1 j (Nat.le_trans (Nat.le_trans bf (Nat.le_of_lt hm)) bb),.inr ⟨by simp;omega,r,by simp,h3 ..,o.1 r bf,hm,?_⟩⟩
 rw[List.all_append,bj]
 rcases o.2 with⟨rfl,_⟩|⟨_,_,_,_,_,_,dS⟩
 · rfl
 · rw[dS];rfl
theorem eE.other {sz:Nat} {h:aF} {v:J} {xs:List J} (o:eE sz h v xs) {m:Nat} {p:Nat->Option fu} {r q:Nat} {gU:List J} (ae:q≠r) (h2:∀a b c,v≠ .ref q a b c):(mh r ⟨h.cells,h.shut,m,p⟩ v gU).cells q=h.cells q:=OT ae h2
theorem eE.out {sz:Nat} {h:aF} {v:J} {xs:List J} (o:eE sz h v xs) (au:(xs.all J.ft)=true):∃ids,∀m p,hL ⟨h.cells,h.shut,m,p⟩ v=some (.sl xs (decide (xs= [])),ids)/\kU ⟨h.cells,h.shut,m,p⟩ v=some (.sl xs (decide (xs= [])),ids)/\eJ ⟨h.cells,h.shut,m,p⟩ v=some (.sl xs (decide (xs= [])),ids):=by
 rcases o.2 with⟨rfl,rfl⟩|⟨ae,q,rfl,aO,a2,cf,dS⟩
 · exact ⟨[],fun m p=>⟨rfl,rfl,rfl⟩⟩
 · refine⟨[q],fun m p=>?_⟩
   have:xs≠ []:=by rintro rfl;simp at ae
   simp only[hL,eJ,kU,aO]
   rw[if_pos ⟨by omega,au⟩]
   simp[this]
theorem eE.len {sz:Nat} {h:aF} {v:J} {xs:List J} (o:eE sz h v xs) (bm r:Nat) (bJ:bn->J) (ay:aF) (x:bn) (av:bJ x=v):evalOp bm r bJ ay (.len false x)=some (.int .i64 xs.length,ay,.pure):=by
 rcases o.2 with⟨rfl,rfl⟩|⟨ae,q,rfl,aO,a2,cf,dS⟩<;>simp[evalOp,av]
section hand
variable {P:Program} {ops:Array Oper} {Q:Exit->Act->World->Prop} {a:Act} {w bh:World} {rest:List Oper} {o:Oper}
end hand
end Go.Eng
