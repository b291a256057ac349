import Derived.Test.YtemiagcencajeaaGreatDoorCqE3
import Derived.ProofKit
import Derived.DataElems
import Derived.LaidMore
import Derived.OpenShut
import Derived.Handed
import Derived.LaidLaws
import Derived.MakeChecks
import Derived.Tactics
set_option linter.unusedSimpArgs false
set_option linter.unusedVariables false
set_option linter.unusedSectionVars false
namespace Go.Eng
open Go Go.RowKit
abbrev l5:=kO->List J->af->Option (J × af)
def sn (a b:l5):Prop:=∀f args h r,a f args h=some r->b f args h=some r
section
variable {G:Nat->Option J} {Φ:FuncId->Option aZ} {tab:FuncId->Option (List J->Option J)} {Y:List cR}
theorem H5 {a b:l5} (iw:sn a b) {bb r:Nat} {e:a_} {s:aW} {x:aW × dV} (h:c4 G tab a bb r e s=some x):c4 G tab b bb r e s=some x:=by
 unfold c4 at h|-
 split at h
 · split at h<;>try(cases h;done)
   · rename_i n first caps bw
     try simp only
     split at h
     · rename_i T c6
       try simp only[c6]
       exact h
     · rename_i c6
       try simp only[c6]
       obtain⟨p,aS,h⟩:=Option.map_eq_some_iff.1 h
       rw[iw _ _ _ _ aS];exact congrArg some h
   · obtain⟨p,aS,h⟩:=Option.map_eq_some_iff.1 h
     try simp only
     rw[iw _ _ _ _ aS];exact congrArg some h
 · exact h
theorem H6 {a b:l5} (iw:sn a b) {bb r:Nat} {e:a_} {s:aW} {x:aW × dV} (h:cE G tab a bb r e s=some x):cE G tab b bb r e s=some x:=by
 unfold cE at h|-
 split at h
 · exact H5 iw h
 · split at h
   · split at h
     · rename_i aa
       simp only[if_pos aa]
       exact H5 iw h
     · rename_i aa
       simp only[if_neg aa];exact h
   · exact h
   · cases h
theorem Cq {a b:l5} (iw:sn a b) {bb:Nat}:∀ {L:List (a_ × Nat)} {s:aW} {x:aW × List dV},c2 G tab a bb L s=some x->c2 G tab b bb L s=some x
 | [],s,x,h=>h
 | (e,i)::L,s,x,h=>by
   simp only[c2] at h|-
   split at h<;>try(cases h;done)
   rename_i s1 c U
   rw[H6 iw U]
   simp only
   obtain⟨p,aS,h⟩:=Option.map_eq_some_iff.1 h
   rw[Cq iw aS];exact congrArg some h
theorem Re {a b:l5} (iw:sn a b) {kl:Bool} {ops:List a_} {eX:List Nat} {s aj:aW} (h:ez G tab a kl ops eX s=some aj):ez G tab b kl ops eX s=some aj:=by
 unfold ez at h|-
 split at h<;>try(cases h;done)
 rename_i s1 cs U
 rw[Cq iw U];exact h
theorem Cr {n:Nat} {f:FuncId} {args:List J} {h:af} {v:J} {fn:aZ} {ex:de} {aj:aW} (bw:Φ f=some fn) (he:exec G Φ tab n Y fn.body ⟨dW args,h⟩=some (ex,aj)) (hex:ex= .normal\/ex= .ret) (aF:d_ aj.h aj.F fn.res=some v):
 km G Φ tab n Y f args h=some (v,aj.h):=by
 unfold km
 rw[bw]
 rcases hex with rfl|rfl<;>simp only[he,aF,Option.map_some]
theorem wc {n id:Nat} {args:List J} {h h':af} {v:J} {L:cR} {Y':List cR} {s1:aW} {ex:de} {aj:aW} (bq:oo id Y=some (L,Y')) (hlen:L.ps.length=args.length) (U:exec G Φ tab n Y' L.dK ⟨nd L.F L.ps args,h⟩=some (.normal,s1))
 (aS:s1.h.a7 id=some .ready) (h2:exec G Φ tab n Y' L.body ⟨s1.F,s1.h.set id (some .busy)⟩=some (ex,aj)) (aa:aj.h.a7 id=some .busy)
 (aN:(ex= .normal/\v= .bool true/\h'=aj.h.set id (some .ready))\/(ex≠ .normal/\v= .bool false/\h'=aj.h.set id (some (.done ex)))):nP G Φ tab n Y id args h=some (v,h'):=by
 unfold nP
 simp only[bq,if_pos hlen,U,aS,h2,aa]
 rcases aN with⟨rfl,rfl,rfl⟩|⟨bV,rfl,rfl⟩
 · rfl
 · cases ex with
   | normal=>exact absurd rfl bV
   | exit i=>rfl
   | ret=>rfl
theorem Cs {n:Nat} {f:a6} {ps:List Nat} {dK body:dk} {s:aW} {ex:de} {g:FuncId} {first caps:List J} {v:J} {h':af} {p:fr} (bw:f.ev G s.F= .fn g first caps)
 (I:km G Φ tab n (⟨s.h.next,s.F,ps,dK,body⟩::Y) g (first++ [.fX s.h.next]++caps) {s.h with next:=s.h.next+1,a7:=aw s.h.a7 s.h.next (some .ready)}=some (v,h'))
 (aS:h'.a7 s.h.next=some p) (nQ:(p= .ready/\ex= .normal)\/p= .done ex):exec G Φ tab (n+1) Y (.k5 f ps dK body) s=some (ex,⟨s.F,h'.set s.h.next none⟩):=by
 obtain⟨fn,e,aj,mC,he,hex,aF,rfl⟩:=qR I
 rw[iv]
 rcases hex with rfl|rfl
 · simp only[bw,mC,he,aF,aS]
   rcases nQ with⟨rfl,rfl⟩|rfl<;>rfl
 · simp only[bw,mC,he,aF,aS]
   rcases nQ with⟨rfl,rfl⟩|rfl<;>rfl
theorem t_ {nn:FuncId->Option aZ} (aE:∀f fn,nn f=some fn->Φ f=some fn):∀(n m:Nat),n<=m->∀(Y:List cR) (c:dk) (s:aW) (x:de × aW),exec G nn tab n Y c s=some x->exec G Φ tab m Y c s=some x
 | 0,_,_,Y,c,s,x,h=>by unfold exec at h;cases h
 | n+1,0,np,_,_,_,_,_=>absurd np (by omega)
 | n+1,m+1,np,Y,c,s,x,h=>by
   have bj:=t_ aE n m (by omega)
   have bt:∀ {Y:List cR} {f:FuncId} {args:List J} {h:af} {r:J × af},km G nn tab n Y f args h=some r->km G Φ tab m Y f args h=some r:=by
    intro Y f args h r I
    obtain⟨v,h'⟩:=r
    obtain⟨fn,ex,aj,bw,he,hex,aF,rfl⟩:=qR I
    exact Cr (aE _ _ bw) (bj _ _ _ _ he) hex aF
   have hle:sn (kC G nn tab n Y) (kC G Φ tab m Y):=by
    intro t args h r I
    obtain⟨v,h'⟩:=r
    cases t with
    | fn f=>exact bt I
    | lk id=>
      obtain⟨L,Y',s1,ex,aj,bq,hlen,U,aS,h2,aa,aN⟩:=tV I
      exact wc bq hlen (bj _ _ _ _ U) aS (bj _ _ _ _ h2) aa aN
   have aQ:=h
   rw[iv] at h
   cases c with
   | skip=>rw[iv];exact h
   | ret=>rw[iv];exact h
   | exit id=>rw[iv];exact h
   | region kl ops eX=>
     rw[iv]
     simp only at h|-
     obtain⟨s1,U,h⟩:=Option.map_eq_some_iff.1 h
     rw[Re hle U];exact congrArg some h
   | seq a b=>
     rw[iv]
     simp only at h|-
     split at h
     · rename_i s1 U
       rw[bj _ _ _ _ U];exact bj _ _ _ _ h
     · rename_i bV
       rw[bj _ _ _ _ h]
       obtain⟨ex,s1⟩:=x
       cases ex with
       | normal=>exact absurd h (bV s1)
       | exit i=>rfl
       | ret=>rfl
   | cond y a b=>
     rw[iv]
     simp only at h|-
     split at h<;>try(cases h;done)
     rename_i t aY
     split at h
     · rename_i sh;simp only[if_pos sh];exact bj _ _ _ _ h
     · rename_i sh;simp only[if_neg sh];exact bj _ _ _ _ h
   | block id b=>
     rw[iv]
     simp only at h|-
     split at h
     · rename_i i s1 U
       rw[bj _ _ _ _ U];exact h
     · rename_i bV
       rw[bj _ _ _ _ h]
       obtain⟨ex,s1⟩:=x
       cases ex with
       | normal=>rfl
       | exit i=>exact absurd h (bV i s1)
       | ret=>rfl
   | loop b=>
     rw[iv]
     simp only at h|-
     split at h
     · rename_i s1 U
       rw[bj _ _ _ _ U];exact bj _ _ _ _ h
     · rename_i bV
       rw[bj _ _ _ _ h]
       obtain⟨ex,s1⟩:=x
       cases ex with
       | normal=>exact absurd h (bV s1)
       | exit i=>rfl
       | ret=>rfl
   | k5 f ps dK body=>
     obtain⟨ex,aj⟩:=x
     obtain⟨g,first,caps,v,h',p,bw,I,aS,nQ,rfl⟩:=yb aQ
     exact Cs bw (bt I) aS nQ
theorem t' {n m:Nat} (np:n<=m) {c:dk} {s:aW} {x:de × aW} (h:exec G Φ tab n Y c s=some x):exec G Φ tab m Y c s=some x:=t_ (fun _ _ h=>h) n m np Y c s x h
theorem Rf {nn:FuncId->Option aZ} (aE:∀f fn,nn f=some fn->Φ f=some fn) {n m:Nat} (np:n<=m):sn (kC G nn tab n Y) (kC G Φ tab m Y):=by
 intro t args h r I
 obtain⟨v,h'⟩:=r
 cases t with
 | fn f=>
   obtain⟨fn,ex,aj,bw,he,hex,aF,rfl⟩:=qR I
   exact Cr (aE _ _ bw) (t_ aE _ _ np _ _ _ _ he) hex aF
 | lk id=>
   obtain⟨L,Y',s1,ex,aj,bq,hlen,U,aS,h2,aa,aN⟩:=tV I
   exact wc bq hlen (t_ aE _ _ np _ _ _ _ U) aS (t_ aE _ _ np _ _ _ _ h2) aa aN
theorem we {n m:Nat} (np:n<=m):sn (kC G Φ tab n Y) (kC G Φ tab m Y):=Rf (fun _ _ h=>h) np
def br (G:Nat->Option J) (Φ:FuncId->Option aZ) (tab:FuncId->Option (List J->Option J)) (Y:List cR) (c:dk) (s:aW) (Q:de->aW->Prop):Prop:=∃n ex aj,exec G Φ tab n Y c s=some (ex,aj)/\Q ex aj
def qT (Q:de->aW->Prop) (K:aW->Prop):de->aW->Prop
 | .normal,s=>K s
 | ex,s=>Q ex s
theorem gk (Q:de->aW->Prop) (K:aW->Prop) (s:aW):qT Q K .normal s=K s:=rfl
theorem gl (Q:de->aW->Prop) (K:aW->Prop) (s:aW):qT Q K .ret s=Q .ret s:=rfl
theorem gm (Q:de->aW->Prop) (K:aW->Prop) (i:Nat) (s:aW):qT Q K (.exit i) s=Q (.exit i) s:=rfl
def qU (id:Nat) (Q:de->aW->Prop):de->aW->Prop
 | .exit i,s=>if i=id then Q .normal s else Q (.exit i) s
 | ex,s=>Q ex s
theorem gn (id:Nat) (Q:de->aW->Prop) (s:aW):qU id Q .normal s=Q .normal s:=rfl
theorem gp (id:Nat) (Q:de->aW->Prop) (s:aW):qU id Q .ret s=Q .ret s:=rfl
theorem gq (id i:Nat) (Q:de->aW->Prop) (s:aW):qU id Q (.exit i) s=if i=id then Q .normal s else Q (.exit i) s:=rfl
theorem br.mono {c:dk} {s:aW} {Q H7:de->aW->Prop} (h:br G Φ tab Y c s Q) (aT:∀ex s,Q ex s->H7 ex s):br G Φ tab Y c s H7:=
 let ⟨n,ex,aj,e,q⟩:=h;⟨n,ex,aj,e,aT _ _ q⟩
theorem iS {s:aW} {Q:de->aW->Prop} (h:Q .normal s):br G Φ tab Y .skip s Q:=⟨1,.normal,s,rfl,h⟩
theorem ca {s:aW} {Q:de->aW->Prop} (h:Q .ret s):br G Φ tab Y .ret s Q:=⟨1,.ret,s,rfl,h⟩
theorem dq {i:Nat} {s:aW} {Q:de->aW->Prop} (h:Q (.exit i) s):br G Φ tab Y (.exit i) s Q:=⟨1,.exit i,s,rfl,h⟩
theorem bl {a b:dk} {s:aW} {Q:de->aW->Prop} (h:br G Φ tab Y a s (qT Q fun s1=>br G Φ tab Y b s1 Q)):br G Φ tab Y (.seq a b) s Q:=by
 obtain⟨n,ex,s1,U,h2⟩:=h
 cases ex with
 | normal=>
   obtain⟨m,ex,s2,aN,a8⟩:=h2
   refine⟨max n m+1,ex,s2,?_,a8⟩
   rw[iv]
   simp only[t' (Nat.le_max_left n m) U]
   exact t' (Nat.le_max_right n m) aN
 | exit i=>exact ⟨n+1,.exit i,s1,by rw[iv];simp only[U],h2⟩
 | ret=>exact ⟨n+1,.ret,s1,by rw[iv];simp only[U],h2⟩
theorem fQ {x:a6} {a b:dk} {s:aW} {Q:de->aW->Prop} (t:Bool) (aY:x.ev G s.F= .bool t) (U:t=true->br G Φ tab Y a s Q) (h2:t=false->br G Φ tab Y b s Q):br G Φ tab Y (.cond x a b) s Q:=by
 cases t with
 | true=>
   obtain⟨n,ex,s1,e,q⟩:=U rfl
   exact ⟨n+1,ex,s1,by rw[iv];simp only[aY,if_true];exact e,q⟩
 | false=>
   obtain⟨n,ex,s1,e,q⟩:=h2 rfl
   exact ⟨n+1,ex,s1,by rw[iv];simp only[aY,Bool.false_eq_true,if_false];exact e,q⟩
theorem kd {id:Nat} {b:dk} {s:aW} {Q:de->aW->Prop} (h:br G Φ tab Y b s (qU id Q)):br G Φ tab Y (.block id b) s Q:=by
 obtain⟨n,ex,s1,e,q⟩:=h
 cases ex with
 | normal=>exact ⟨n+1,.normal,s1,by rw[iv];simp only[e],q⟩
 | ret=>exact ⟨n+1,.ret,s1,by rw[iv];simp only[e],q⟩
 | exit i=>
   by_cases ab:i=id
   · exact ⟨n+1,.normal,s1,by rw[iv];simp only[e,if_pos ab],by simpa[qU,ab] using q⟩
   · exact ⟨n+1,.exit i,s1,by rw[iv];simp only[e,if_neg ab],by simpa[qU,ab] using q⟩
theorem Rg {b:dk} {Q:de->aW->Prop} (av:Nat->aW->Prop) (round:∀k s,av k s->br G Φ tab Y b s (qT Q fun s1=>∃j,j<k/\av j s1)):∀(k:Nat) (s:aW),av k s->br G Φ tab Y (.loop b) s Q:=by
 intro k
 induction k using Nat.strongRecOn with
 | _ k bj=>
   intro s pI
   obtain⟨n,ex,s1,e,q⟩:=round k s pI
   cases ex with
   | normal=>
     obtain⟨j,aO,Rh⟩:=q
     obtain⟨m,ex,s2,ax,dr⟩:=bj j aO s1 Rh
     refine⟨max n m+1,ex,s2,?_,dr⟩
     rw[iv]
     simp only[t' (Nat.le_max_left n m) e]
     exact t' (Nat.le_max_right n m) ax
   | exit i=>exact ⟨n+1,.exit i,s1,by rw[iv];simp only[e],q⟩
   | ret=>exact ⟨n+1,.ret,s1,by rw[iv];simp only[e],q⟩
def yk:l5:=fun _ _ _=>none
def wg (G:Nat->Option J) (Φ:FuncId->Option aZ) (tab:FuncId->Option (List J->Option J)) (Y:List cR) (cz:l5):Prop:=∀t args h r,cz t args h=some r->∃n,kC G Φ tab n Y t args h=some r
theorem bE:wg G Φ tab Y yk:=fun _ _ _ _ h=>by cases h
theorem H8 {cz:l5} (so:wg G Φ tab Y cz) {bb:Nat}:∀ {L:List (a_ × Nat)} {s:aW} {x:aW × List dV},c2 G tab cz bb L s=some x->∃n,c2 G tab (kC G Φ tab n Y) bb L s=some x
 | [],s,x,h=>⟨0,h⟩
 | (e,i)::L,s,x,h=>by
   simp only[c2] at h
   split at h<;>try(cases h;done)
   rename_i s1 c U
   obtain⟨p,aS,ae⟩:=Option.map_eq_some_iff.1 h
   obtain⟨n,az⟩:=H8 so aS
   have one:∃m,cE G tab (kC G Φ tab m Y) bb (bb+i) e s=some (s1,c):=by
    have go:∀ {y:aW × dV},c4 G tab cz bb (bb+i) e s=some y->∃m,c4 G tab (kC G Φ tab m Y) bb (bb+i) e s=some y:=by
     intro y a2
     unfold c4 at a2
     split at a2
     · rename_i f args he
       split at a2<;>try(cases a2;done)
       · rename_i q first caps bw
         split at a2
         · rename_i T c6
           refine⟨0,?_⟩
           unfold c4;simp only[he,bw,c6];exact a2
         · rename_i c6
           obtain⟨v,aF,a2⟩:=Option.map_eq_some_iff.1 a2
           obtain⟨m,hm⟩:=so _ _ _ _ aF
           refine⟨m,?_⟩
           unfold c4;simp only[he,bw,c6,hm];exact congrArg some a2
       · rename_i id bw
         obtain⟨v,aF,a2⟩:=Option.map_eq_some_iff.1 a2
         obtain⟨m,hm⟩:=so _ _ _ _ aF
         refine⟨m,?_⟩
         unfold c4;simp only[he,bw,hm];exact congrArg some a2
     · rename_i bV
       refine⟨0,?_⟩
       unfold c4
       split
       · rename_i f as he;exact absurd he (bV f as)
       · exact a2
    unfold cE at U
    split at U
    · rename_i ba
      obtain⟨m,hm⟩:=go U
      exact ⟨m,by unfold cE;rw[ba];exact hm⟩
    · rename_i t want ba
      split at U<;>try(cases U;done)
      rotate_left
      · rename_i aa
        exact ⟨0,by unfold cE;simp only[ba,aa];exact U⟩
      rename_i b aa
      split at U
      · rename_i nK
        obtain⟨m,hm⟩:=go U
        exact ⟨m,by unfold cE;simp only[ba,aa,if_pos nK];exact hm⟩
      · rename_i nK
        exact ⟨0,by unfold cE;simp only[ba,aa,if_neg nK];exact U⟩
   obtain⟨m,hm⟩:=one
   refine⟨max m n,?_⟩
   simp only[c2,H6 (we (Nat.le_max_left m n)) hm]
   rw[Cq (we (Nat.le_max_right m n)) az]
   exact congrArg some ae
theorem Ri {cz:l5} (so:wg G Φ tab Y cz) {kl:Bool} {ops:List a_} {eX:List Nat} {s:aW} {Q:de->aW->Prop} (aj:aW) (h:ez G tab cz kl ops eX s=some aj) (aT:Q .normal aj):br G Φ tab Y (.region kl ops eX) s Q:=by
 unfold ez at h
 split at h<;>try(cases h;done)
 rename_i s1 cs U
 split at h<;>try(cases h;done)
 rename_i j'
 cases h
 obtain⟨n,az⟩:=H8 so U
 refine⟨n+1,.normal,_,?_,aT⟩
 rw[iv]
 simp only[ez,az,if_pos j',Option.map_some]
def e6 (G:Nat->Option J) (tab:FuncId->Option (List J->Option J)) (cz:l5) (kl:Bool) (ops:List a_) (eX:List Nat) (s:aW) (K:aW->Prop):Prop:=
 match c2 G tab cz s.h.next ops.zipIdx ⟨s.F,{s.h with next:=s.h.next+ops.length}⟩ with
 | some (aj,cs)=>(kl=true->tw cs eX=true)/\K aj
 | none=>False
theorem bs {cz:l5} (so:wg G Φ tab Y cz) {kl:Bool} {ops:List a_} {eX:List Nat} {s:aW} {Q:de->aW->Prop} (h:e6 G tab cz kl ops eX s (Q .normal)):br G Φ tab Y (.region kl ops eX) s Q:=by
 unfold e6 at h
 split at h
 · rename_i aj cs U
   refine Ri so aj ?_ h.2
   unfold ez
   rw[U]
   have:(!kl||tw cs eX)=true:=by
    cases kl with
    | false=>rfl
    | true=>simpa using h.1 rfl
   simp only[this,if_true]
 · exact h.elim
def gr (res:List mr) (v:J) (ex:de) (s:aW):Prop:=
 (match ex with
  | .exit _=>False
  | _=>True)/\((d_ s.h s.F res).bind fun u=>(jl s.h u).map (·.1))=some v
def Rj (id:Nat) (F:Nat->J) (res:List mr) (Q:de->aW->Prop) (ex:de) (s:aW):Prop:=
 (match ex with
  | .exit _=>False
  | _=>True)/\(∃v,d_ s.h s.F res=some v)/\(match s.h.a7 id with
  | some .ready=>Q .normal ⟨F,s.h.set id none⟩
  | some (.done e)=>Q e ⟨F,s.h.set id none⟩
  | _=>False)
theorem H9 {f:a6} {ps:List Nat} {dK body:dk} {s:aW} {Q:de->aW->Prop} {g:FuncId} {first caps:List J} {fn:aZ} (bw:f.ev G s.F= .fn g first caps) (ba:Φ g=some fn)
 (h:br G Φ tab (⟨s.h.next,s.F,ps,dK,body⟩::Y) fn.body ⟨dW (first++ [.fX s.h.next]++caps),{s.h with next:=s.h.next+1,a7:=aw s.h.a7 s.h.next (some .ready)}⟩ (Rj s.h.next s.F fn.res Q)):br G Φ tab Y (.k5 f ps dK body) s Q:=by
 obtain⟨n,ex,aj,e,dp,⟨v,aF⟩,gi⟩:=h
 have hex:ex= .normal\/ex= .ret:=by
  cases ex with
  | normal=>exact .inl rfl
  | ret=>exact .inr rfl
  | exit i=>exact dp.elim
 have I:=Cr ba e hex aF
 split at gi
 · rename_i aS
   exact ⟨n+1,.normal,_,Cs bw I aS (.inl ⟨rfl,rfl⟩),gi⟩
 · rename_i e' aS
   exact ⟨n+1,e',_,Cs bw I aS (.inr rfl),gi⟩
 · exact gi.elim
end
def cT (l:List (FuncId × (List J->Option J))):FuncId->Option (List J->Option J):=fun f=>l.lookup f
theorem cX {P:Program} {G:Nat->Option J}:∀ {l:List (FuncId × (List J->Option J))},(∀p∈l,a3 P G p.1 p.2)->∀f T,cT l f=some T->a3 P G f T
 | [],_,f,T,h=>by cases h
 | (g,lr)::l,aG,f,T,h=>by
   unfold cT at h
   rw[List.lookup_cons] at h
   by_cases e:f=g
   · subst e
     simp only[BEq.rfl] at h
     cases h
     exact aG (f,lr) (by simp)
   · have:(f == g)=false:=by simpa using e
     simp only[this] at h
     exact cX (fun p aS=>aG p (by simp[aS])) f T h
end Go.Eng
namespace Go.Eng
open Go Go.RowKit
section
variable {G:Nat->Option J} {Φ nn:FuncId->Option aZ} {tab:FuncId->Option (List J->Option J)} {Y:List cR}
theorem H_ (aE:∀f fn,nn f=some fn->Φ f=some fn) (n:Nat) (Y:List cR) (c:dk) (s:aW) (x:de × aW) (h:exec G nn tab n Y c s=some x):exec G Φ tab n Y c s=some x:=t_ aE n n (Nat.le_refl _) Y c s x h
theorem H' (aE:∀f fn,nn f=some fn->Φ f=some fn) {n:Nat} {f:FuncId} {args:List J} {v:J} (h:mw G nn tab n f args=some v):mw G Φ tab n f args=some v:=by
 unfold mw at h|-
 obtain⟨p,U,h2⟩:=Option.bind_eq_some_iff.1 h
 unfold xE at U|-
 split at U<;>try(cases U;done)
 rename_i fn bw
 simp only[aE _ _ bw]
 split at U
 · rename_i aj he
   rw[H_ aE _ _ _ _ _ he];simp only[U];exact h2
 · rename_i aj he
   rw[H_ aE _ _ _ _ _ he];simp only[U];exact h2
 · cases U
noncomputable def eP (G:Nat->Option J) (Φ:FuncId->Option aZ) (tab:FuncId->Option (List J->Option J)) (Y:List cR):l5:=fun f args h=>
 open Classical in if ae:∃r n,kC G Φ tab n Y f args h=some r then some (Classical.choose ae) else none
theorem oJ:wg G Φ tab Y (eP G Φ tab Y):=by
 intro f args h r aU
 unfold eP at aU
 split at aU
 · rename_i ae
   cases aU
   exact Classical.choose_spec ae
 · cases aU
theorem yl {f:kO} {args:List J} {h:af} {r:J × af} {n:Nat} (az:kC G Φ tab n Y f args h=some r):eP G Φ tab Y f args h=some r:=by
 have ae:∃r n,kC G Φ tab n Y f args h=some r:=⟨r,n,az⟩
 unfold eP
 rw[dif_pos ae]
 obtain⟨m,hm⟩:=Classical.choose_spec ae
 congr 1
 have a:=we (Nat.le_max_left n m) _ _ _ _ az
 have b:=we (Nat.le_max_right n m) _ _ _ _ hm
 rw[a] at b
 exact (Option.some.inj b).symm
def jw (res:List mr) (R:J->af->Prop) (ex:de) (s:aW):Prop:=
 (match ex with
  | .exit _=>False
  | _=>True)/\∃v,d_ s.h s.F res=some v/\R v s.h
theorem j0 {f:FuncId} {fn:aZ} (bw:Φ f=some fn) {args:List J} {h:af} {R:J->af->Prop} (he:br G Φ tab Y fn.body ⟨dW args,h⟩ (jw fn.res R)):∃v h',eP G Φ tab Y (.fn f) args h=some (v,h')/\R v h':=by
 obtain⟨n,ex,aj,e,dp,v,dr,gi⟩:=he
 refine⟨v,aj.h,yl (n:=n) ?_,gi⟩
 show km G Φ tab n Y f args h=_
 unfold km
 simp only[bw,e]
 cases ex with
 | exit i=>exact dp.elim
 | normal=>simp only[dr,Option.map_some]
 | ret=>simp only[dr,Option.map_some]
theorem Ia {id:Nat} {args:List J} {h:af} {R:J->af->Prop} {L:cR} {Y':List cR} (bq:oo id Y=some (L,Y')) (hlen:L.ps.length=args.length)
 (he:br G Φ tab Y' L.dK ⟨nd L.F L.ps args,h⟩ (fun ex s1=>ex= .normal/\s1.h.a7 id=some .ready/\br G Φ tab Y' L.body ⟨s1.F,s1.h.set id (some .busy)⟩ (fun ex aj=>aj.h.a7 id=some .busy/\
   (match ex with
    | .normal=>R (.bool true) (aj.h.set id (some .ready))
    | e=>R (.bool false) (aj.h.set id (some (.done e))))))):∃v h',eP G Φ tab Y (.lk id) args h=some (v,h')/\R v h':=by
 obtain⟨n,ex,s1,au,rfl,aS,m,Rk,aj,ax,aa,eA⟩:=he
 have a1:=t' (Nat.le_max_left n m) au
 have e2:=t' (Nat.le_max_right n m) ax
 cases Rk with
 | normal=>exact ⟨_,_,yl (f:= .lk id) (n:=max n m) (wc bq hlen a1 aS e2 aa (.inl ⟨rfl,rfl,rfl⟩)),eA⟩
 | exit i=>exact ⟨_,_,yl (f:= .lk id) (n:=max n m) (wc bq hlen a1 aS e2 aa (.inr ⟨by simp,rfl,rfl⟩)),eA⟩
 | ret=>exact ⟨_,_,yl (f:= .lk id) (n:=max n m) (wc bq hlen a1 aS e2 aa (.inr ⟨by simp,rfl,rfl⟩)),eA⟩
end
def Ib (b:Bool):Option J->Bool
 | some (.bool c)=>c == b
 | _=>false
theorem Rl {b:Bool} {x:Option J} (h:Ib b x=true):x=some (.bool b):=by
 unfold Ib at h
 split at h
 · simp at h;rw[h]
 · cases h
def Ct (l:List (FuncId × aZ)):FuncId->Option aZ:=fun f=>l.lookup f
theorem Cu {Φ:FuncId->Option aZ}:∀ {l:List (FuncId × aZ)},(∀p∈l,Φ p.1=some p.2)->∀f fn,Ct l f=some fn->Φ f=some fn
 | [],_,f,fn,h=>by cases h
 | (g,lr)::l,aG,f,fn,h=>by
   unfold Ct at h
   rw[List.lookup_cons] at h
   by_cases e:f=g
   · subst e
     simp only[BEq.rfl] at h
     cases h
     exact aG (f,lr) (by simp)
   · have:(f == g)=false:=by simpa using e
     simp only[this] at h
     exact Cu (fun p aS=>aG p (by simp[aS])) f fn h
end Go.Eng
namespace Go.Eng
open Go Go.RowKit
def Z (n:Nat):Int:=n
theorem gu (n:Nat):(n:Int)=Z n:=rfl
theorem bP {a b:Nat}:Z a=Z b↔a=b:=by simp only[Z];omega
theorem f_ (a b:Nat):(Z a == Z b)=(a == b):=by
 rw[Bool.eq_iff_iff,beq_iff_eq,beq_iff_eq];exact bP
theorem gv (a b:Nat):(Z a != Z b)=(a != b):=by simp only[bne,f_]
theorem f' {a b:Nat}:Z a<Z b↔a<b:=by simp only[Z];omega
theorem gw {a b:Nat}:Z a<=Z b↔a<=b:=by simp only[Z];omega
theorem gx (a:Nat):0<=Z a:=by simp only[Z];omega
theorem eQ (a:Nat):¬Z a<0:=by simp only[Z];omega
theorem gy {a:Nat}:Z a=0↔a=0:=by simp only[Z];omega
theorem eR (a:Nat):(Z a).toNat=a:=rfl
theorem gz {a b:Nat}:Z a<(b:Int)↔a<b:=f'
theorem gA (a b:Nat):(Z a).tmod (Z b)=Z (a%b):=rfl
theorem gB (a b:Nat):(Z a).tdiv (Z b)=Z (a/b):=rfl
theorem fl (a n:Nat):(Z a).fdiv (2^n)=Z (a/2^n):=by
 simp only[Z]
 rw[Int.fdiv_eq_ediv_of_nonneg _ (by exact Int.le_of_lt (Int.pow_pos (by decide)))]
 norm_cast
theorem Ic {k:IntKind} (ag:k.signed=false) (x:Int):k.wrap x=x%2^k.bits:=by
 cases k<;>first|(simp[IntKind.signed] at ag;done)|(simp[IntKind.wrap,IntKind.signed,IntKind.bits])
theorem oK {k:IntKind} (ag:k.signed=false) (a:Nat):k.wrap (Z a)=Z (a%2^k.bits):=by
 rw[Ic ag];simp only[Z];norm_cast
theorem ym {k:IntKind} (ag:k.signed=false) (a b:Nat):k.wrap (Z a+Z b)=Z ((a+b)%2^k.bits):=oK ag (a+b)
theorem yn {k:IntKind} (ag:k.signed=false) (a b:Nat):k.wrap (Z a*Z b)=Z (a*b%2^k.bits):=by
 rw[<-oK ag];simp only[Z];norm_cast
theorem qV {k:IntKind} (ag:k.signed=false) (a n:Nat):k.wrap (Z a*2^n)=Z (a*2^n%2^k.bits):=by
 rw[<-oK ag];simp only[Z];norm_cast
theorem yo {k:IntKind} (ag:k.signed=false) (a b:Nat):k.wrap (Z a - Z b)=Z ((a+(2^k.bits - b%2^k.bits))%2^k.bits):=by
 rw[Ic ag]
 simp only[Z]
 have h:b%2^k.bits<2^k.bits:=Nat.mod_lt _ (Nat.pow_pos (by decide))
 generalize lu:2^k.bits=M at*
 have:((2:Int)^k.bits)=(M:Int):=by rw[<-lu];norm_cast
 rw[this]
 rw[Int.natCast_emod,Int.natCast_add,Int.natCast_sub (Nat.le_of_lt h),Int.natCast_emod]
 rw[show ((a:Int) - b)=a+(M - b%M)+M*(-1 - b/M) by
  have:=Int.emod_add_mul_ediv (b:Int) M
  rw[Int.mul_sub];omega]
 exact Int.add_mul_emod_self_left _ _ _
theorem yp {k:IntKind} (ag:k.signed=false) (a b:Nat):k.wrap ((BitVec.ofInt k.bits (Z a)|||BitVec.ofInt k.bits (Z b)).toNat:Int)=Z ((a|||b)%2^k.bits):=by
 show k.wrap (Z _)=_
 rw[oK ag]
 simp only[Z,BitVec.ofInt_natCast,<-BitVec.ofNat_or,BitVec.toNat_ofNat,Nat.mod_mod]
theorem yq {k:IntKind} (ag:k.signed=false) (a b:Nat):k.wrap ((BitVec.ofInt k.bits (Z a)&&&BitVec.ofInt k.bits (Z b)).toNat:Int)=Z ((a&&&b)%2^k.bits):=by
 show k.wrap (Z _)=_
 rw[oK ag]
 simp only[Z,BitVec.ofInt_natCast,<-BitVec.ofNat_and,BitVec.toNat_ofNat,Nat.mod_mod]
theorem yr {k:IntKind} (ag:k.signed=false) (a b:Nat):k.wrap ((BitVec.ofInt k.bits (Z a) ^^^ BitVec.ofInt k.bits (Z b)).toNat:Int)=Z ((a ^^^ b)%2^k.bits):=by
 show k.wrap (Z _)=_
 rw[oK ag]
 simp only[Z,BitVec.ofInt_natCast,<-BitVec.ofNat_xor,BitVec.toNat_ofNat,Nat.mod_mod]
theorem wrap_i64 {x:Int} (U: -9223372036854775808<=x) (h2:x<9223372036854775808):IntKind.i64.wrap x=x:=by
 simp[IntKind.wrap,IntKind.signed,IntKind.bits]
 split<;>omega
theorem fg {a:Nat} (h:a<9223372036854775808):IntKind.i64.wrap (Z a)=Z a:=wrap_i64 (by simp only[Z];omega) (by simp only[Z];omega)
theorem dC {a b:Nat} (h:a+b<9223372036854775808):IntKind.i64.wrap (Z a+Z b)=Z (a+b):=fg h
theorem cA {a b:Nat} (U:b<=a) (h2:a<9223372036854775808):IntKind.i64.wrap (Z a - Z b)=Z (a - b):=by
 rw[wrap_i64 (by simp only[Z];omega) (by simp only[Z];omega)];simp only[Z];omega
theorem ua {a b:Nat} (h:a*b<9223372036854775808):IntKind.i64.wrap (Z a*Z b)=Z (a*b):=by
 rw[show Z a*Z b=Z (a*b) by simp only[Z];norm_cast];exact fg h
theorem gC:IntKind.u8.bits=8:=rfl
theorem gD (a:Nat):IntKind.u8.wrap (Z a)=Z (a%256):=oK rfl a
theorem gE (a b:Nat):IntKind.u8.wrap (Z a+Z b)=Z ((a+b)%256):=ym rfl a b
theorem gF (a b:Nat):IntKind.u8.wrap (Z a - Z b)=Z ((a+(256 - b%256))%256):=yo rfl a b
theorem gG (a b:Nat):IntKind.u8.wrap (Z a*Z b)=Z (a*b%256):=yn rfl a b
theorem gH (a n:Nat):IntKind.u8.wrap (Z a*2^n)=Z (a*2^n%256):=qV rfl a n
theorem gI:IntKind.u16.bits=16:=rfl
theorem gJ (a:Nat):IntKind.u16.wrap (Z a)=Z (a%65536):=oK rfl a
theorem gK (a b:Nat):IntKind.u16.wrap (Z a+Z b)=Z ((a+b)%65536):=ym rfl a b
theorem gL (a b:Nat):IntKind.u16.wrap (Z a - Z b)=Z ((a+(65536 - b%65536))%65536):=yo rfl a b
theorem gM (a b:Nat):IntKind.u16.wrap (Z a*Z b)=Z (a*b%65536):=yn rfl a b
theorem gN (a n:Nat):IntKind.u16.wrap (Z a*2^n)=Z (a*2^n%65536):=qV rfl a n
theorem gO:IntKind.u32.bits=32:=rfl
theorem gP (a:Nat):IntKind.u32.wrap (Z a)=Z (a%4294967296):=oK rfl a
theorem gQ (a b:Nat):IntKind.u32.wrap (Z a+Z b)=Z ((a+b)%4294967296):=ym rfl a b
theorem gR (a b:Nat):IntKind.u32.wrap (Z a - Z b)=Z ((a+(4294967296 - b%4294967296))%4294967296):=yo rfl a b
theorem gS (a b:Nat):IntKind.u32.wrap (Z a*Z b)=Z (a*b%4294967296):=yn rfl a b
theorem gT (a n:Nat):IntKind.u32.wrap (Z a*2^n)=Z (a*2^n%4294967296):=qV rfl a n
theorem gU:IntKind.u64.bits=64:=rfl
theorem fx (a:Nat):IntKind.u64.wrap (Z a)=Z (a%18446744073709551616):=oK rfl a
theorem gV (a b:Nat):IntKind.u64.wrap (Z a+Z b)=Z ((a+b)%18446744073709551616):=ym rfl a b
theorem gW (a b:Nat):IntKind.u64.wrap (Z a - Z b)=Z ((a+(18446744073709551616 - b%18446744073709551616))%18446744073709551616):=yo rfl a b
theorem gX (a b:Nat):IntKind.u64.wrap (Z a*Z b)=Z (a*b%18446744073709551616):=yn rfl a b
theorem gY (a n:Nat):IntKind.u64.wrap (Z a*2^n)=Z (a*2^n%18446744073709551616):=qV rfl a n
theorem gZ (k:IntKind) (a b:Int):iX .add k a b=some (.int k (k.wrap (a+b))):=rfl
theorem g0 (k:IntKind) (a b:Int):iX .sub k a b=some (.int k (k.wrap (a - b))):=rfl
theorem g1 (k:IntKind) (a b:Int):iX .mul k a b=some (.int k (k.wrap (a*b))):=rfl
theorem g2 (k:IntKind) (a b:Int):iX .quo k a b=if b=0 then none else some (.int k (k.wrap (a.tdiv b))):=rfl
theorem g3 (k:IntKind) (a b:Int):iX .rem k a b=if b=0 then none else some (.int k (a.tmod b)):=rfl
theorem g4 (k:IntKind) (a b:Int):iX .eql k a b=some (.bool (a == b)):=rfl
theorem g5 (k:IntKind) (a b:Int):iX .neq k a b=some (.bool (a != b)):=rfl
theorem g6 (k:IntKind) (a b:Int):iX .lss k a b=some (.bool (decide (a<b))):=rfl
theorem g7 (k:IntKind) (a b:Int):iX .leq k a b=some (.bool (decide (a<=b))):=rfl
theorem g8 (k:IntKind) (a b:Int):iX .gtr k a b=some (.bool (decide (a>b))):=rfl
theorem g9 (k:IntKind) (a b:Int):iX .geq k a b=some (.bool (decide (a>=b))):=rfl
theorem Rm:IntKind.i64.bits=64:=rfl
theorem g_ (a b:Nat):iX .and .u8 (Z a) (Z b)=some (.int .u8 (Z ((a&&&b)%256))):=congrArg (fun x=>some (J.int .u8 x)) (yq (k:= .u8) rfl a b)
theorem g' (a b:Nat):iX .or .u8 (Z a) (Z b)=some (.int .u8 (Z ((a|||b)%256))):=congrArg (fun x=>some (J.int .u8 x)) (yp (k:= .u8) rfl a b)
theorem ha (a b:Nat):iX .xor .u8 (Z a) (Z b)=some (.int .u8 (Z ((a ^^^ b)%256))):=congrArg (fun x=>some (J.int .u8 x)) (yr (k:= .u8) rfl a b)
theorem hb (a b:Nat):iA .shr .u8 (Z a) (Z b)=some (.int .u8 (Z (a/2^min b 8))):=by
 simp only[iA,if_neg (eQ b),eR,fl];rfl
theorem hc (a b:Nat):iA .shl .u8 (Z a) (Z b)=some (.int .u8 (Z (a*2^min b 8%256))):=by
 simp only[iA,if_neg (eQ b),eR,qV (k:= .u8) rfl];rfl
theorem hd (a b:Nat):iX .and .u16 (Z a) (Z b)=some (.int .u16 (Z ((a&&&b)%65536))):=congrArg (fun x=>some (J.int .u16 x)) (yq (k:= .u16) rfl a b)
theorem hf (a b:Nat):iX .or .u16 (Z a) (Z b)=some (.int .u16 (Z ((a|||b)%65536))):=congrArg (fun x=>some (J.int .u16 x)) (yp (k:= .u16) rfl a b)
theorem hg (a b:Nat):iX .xor .u16 (Z a) (Z b)=some (.int .u16 (Z ((a ^^^ b)%65536))):=congrArg (fun x=>some (J.int .u16 x)) (yr (k:= .u16) rfl a b)
theorem hh (a b:Nat):iA .shr .u16 (Z a) (Z b)=some (.int .u16 (Z (a/2^min b 16))):=by
 simp only[iA,if_neg (eQ b),eR,fl];rfl
theorem hi (a b:Nat):iA .shl .u16 (Z a) (Z b)=some (.int .u16 (Z (a*2^min b 16%65536))):=by
 simp only[iA,if_neg (eQ b),eR,qV (k:= .u16) rfl];rfl
theorem hj (a b:Nat):iX .and .u32 (Z a) (Z b)=some (.int .u32 (Z ((a&&&b)%4294967296))):=congrArg (fun x=>some (J.int .u32 x)) (yq (k:= .u32) rfl a b)
theorem hk (a b:Nat):iX .or .u32 (Z a) (Z b)=some (.int .u32 (Z ((a|||b)%4294967296))):=congrArg (fun x=>some (J.int .u32 x)) (yp (k:= .u32) rfl a b)
theorem hl (a b:Nat):iX .xor .u32 (Z a) (Z b)=some (.int .u32 (Z ((a ^^^ b)%4294967296))):=congrArg (fun x=>some (J.int .u32 x)) (yr (k:= .u32) rfl a b)
theorem hn (a b:Nat):iA .shr .u32 (Z a) (Z b)=some (.int .u32 (Z (a/2^min b 32))):=by
 simp only[iA,if_neg (eQ b),eR,fl];rfl
theorem ho (a b:Nat):iA .shl .u32 (Z a) (Z b)=some (.int .u32 (Z (a*2^min b 32%4294967296))):=by
 simp only[iA,if_neg (eQ b),eR,qV (k:= .u32) rfl];rfl
theorem hp (a b:Nat):iX .and .u64 (Z a) (Z b)=some (.int .u64 (Z ((a&&&b)%18446744073709551616))):=congrArg (fun x=>some (J.int .u64 x)) (yq (k:= .u64) rfl a b)
theorem hq (a b:Nat):iX .or .u64 (Z a) (Z b)=some (.int .u64 (Z ((a|||b)%18446744073709551616))):=congrArg (fun x=>some (J.int .u64 x)) (yp (k:= .u64) rfl a b)
theorem hr (a b:Nat):iX .xor .u64 (Z a) (Z b)=some (.int .u64 (Z ((a ^^^ b)%18446744073709551616))):=congrArg (fun x=>some (J.int .u64 x)) (yr (k:= .u64) rfl a b)
theorem hs (a b:Nat):iA .shr .u64 (Z a) (Z b)=some (.int .u64 (Z (a/2^min b 64))):=by
 simp only[iA,if_neg (eQ b),eR,fl];rfl
theorem ht (a b:Nat):iA .shl .u64 (Z a) (Z b)=some (.int .u64 (Z (a*2^min b 64%18446744073709551616))):=by
 simp only[iA,if_neg (eQ b),eR,qV (k:= .u64) rfl];rfl
theorem hv (a b:Nat):iA .shr .i64 (Z a) (Z b)=some (.int .i64 (Z (a/2^min b 64))):=by
 simp only[iA,if_neg (eQ b),eR,fl];rfl
theorem hx {a b:Nat} (h:a*2^min b 64<9223372036854775808):iA .shl .i64 (Z a) (Z b)=some (.int .i64 (Z (a*2^min b 64))):=by
 have e:Z a*2^min b 64=Z (a*2^min b 64):=by simp only[Z];norm_cast
 simp only[iA,if_neg (eQ b),eR,Rm,e,fg h]
theorem hy {a b:Nat} (aV:a<9223372036854775808):iX .and .i64 (Z a) (Z b)=some (.int .i64 (Z (a&&&b%18446744073709551616))):=by
 have U:(BitVec.ofInt 64 (Z a)&&&BitVec.ofInt 64 (Z b)).toNat=a&&&b%18446744073709551616:=by
  simp only[Z,BitVec.ofInt_natCast,BitVec.toNat_and,BitVec.toNat_ofNat];rw[Nat.mod_eq_of_lt (a:=a) (by omega)]
 show some (J.int .i64 (IntKind.i64.wrap (Z _)))=_
 rw[show (BitVec.ofInt IntKind.i64.bits (Z a)&&&BitVec.ofInt IntKind.i64.bits (Z b)).toNat=_ from U]
 rw[fg (Nat.lt_of_le_of_lt Nat.and_le_left aV)]
theorem hz:IntKind.i64.bits=64:=rfl
section
variable {G:Nat->Option J} {Φ:FuncId->Option aZ} {tab:FuncId->Option (List J->Option J)} {Y:List cR}
def ub (id k:Nat) (av:Nat->aW->Prop) (E R:aW->Prop):de->aW->Prop
 | .normal,s=>∃j,j<k/\av j s
 | .exit i,s=>i=id/\E s
 | .ret,s=>R s
theorem hA (id k:Nat) (av:Nat->aW->Prop) (E R:aW->Prop) (s:aW):ub id k av E R .normal s=∃j,j<k/\av j s:=rfl
theorem hB (id k i:Nat) (av:Nat->aW->Prop) (E R:aW->Prop) (s:aW):ub id k av E R (.exit i) s=(i=id/\E s):=rfl
theorem hC (id k:Nat) (av:Nat->aW->Prop) (E R:aW->Prop) (s:aW):ub id k av E R .ret s=R s:=rfl
theorem lv {id:Nat} {b:dk} {Q:de->aW->Prop} (av:Nat->aW->Prop) (E R:aW->Prop) (k:Nat) {s:aW} (aQ:av k s) (round:∀k s,av k s->br G Φ tab Y b s (ub id k av E R))
 (fin:∀s,E s->Q .normal s) (ret:∀s,R s->Q .ret s):br G Φ tab Y (.block id (.loop b)) s Q:=by
 refine kd (Rg av (fun k s pI=>(round k s pI).mono fun ex s1 h=>?_) k s aQ)
 cases ex with
 | normal=>exact h
 | exit i=>obtain⟨rfl,h⟩:=h;simp only[qT,qU,if_true];exact fin _ h
 | ret=>exact ret _ h
theorem Ie {a b:dk} {s:aW} {Q:de->aW->Prop} (K:aW->Prop) (h:br G Φ tab Y a s (qT Q K)) (h2:∀s1,K s1->br G Φ tab Y b s1 Q):br G Φ tab Y (.seq a b) s Q:=
 bl (h.mono fun ex s1 aT=>by
  cases ex with
  | normal=>exact h2 _ aT
  | exit i=>exact aT
  | ret=>exact aT)
end
noncomputable def wh {A:Type} (pre:A->Prop) (enc:A->List J) (out:A->J):List J->Option J:=fun args=>
 open Classical in if h:∃a,pre a/\enc a=args then some (out (Classical.choose h)) else none
theorem wi {A:Type} {pre:A->Prop} {enc:A->List J} {out:A->J} {args:List J} {v:J} (h:wh pre enc out args=some v):∃a,pre a/\enc a=args/\out a=v:=by
 unfold wh at h
 split at h
 · rename_i ae
   cases h
   exact ⟨_,(Classical.choose_spec ae).1,(Classical.choose_spec ae).2,rfl⟩
 · cases h
theorem Rn {A:Type} {pre:A->Prop} {enc:A->List J} {out:A->J} (inj:∀a b,pre a->pre b->enc a=enc b->out a=out b) (a:A) (h:pre a):wh pre enc out (enc a)=some (out a):=by
 unfold wh
 have ae:∃b,pre b/\enc b=enc a:=⟨a,h,rfl⟩
 rw[dif_pos ae]
 obtain⟨U,h2⟩:=Classical.choose_spec ae
 rw[inj _ _ U h h2]
end Go.Eng
namespace Go.Eng
open Go Go.RowKit Go.ChangeShapes Go.WideShapes
inductive dB where
 | int (k:IntKind)
 | bool
 | str
 | sl (e:dB)
 | bZ (cc:List dB)
mutual
def dB.size:dB->Nat
 | .bZ cc=>dB.sq cc
 | _=>1
def dB.sq:List dB->Nat
 | []=>0
 | f::cc=>f.size+dB.sq cc
end
def dB.one (s:dB) (cs:List J):J:=match s with
 | .bZ _=> .agg cs
 | _=>cs.headD .undef
def wj (P:Program) (b9:TypeId->Option dB):Nat->List Field->Option (List dB)
 | _,[]=>some []
 | o,f::cc=>if f.offset=o then (b9 f.type).bind fun s=>if P.cellsOf f.type=s.size then (wj P b9 (o+s.size) cc).map (s:: ·) else none else none
def shape (P:Program):Nat->TypeId->Option dB
 | 0,_=>none
 | n+1,t=>match P.underlying t with
   | some .bool=>some .bool
   | some (.int k)=>some (.int k)
   | some .string=>some .str
   | some (.slice e)=>(shape P n e).bind fun s=>if P.cellsOf e=s.size/\0<s.size then some (.sl s) else none
   | some (.struct cc)=>(wj P (shape P n) 0 cc.toList).bind fun l=>if P.cellsOf t=dB.sq l then some (.bZ l) else none
   | some (.array k e)=>(shape P n e).bind fun s=>if P.cellsOf e=s.size/\P.cellsOf t=k*s.size then some (.bZ (List.replicate k s)) else none
   | _=>none
def dB.zero:dB->List Value
 | .int k=>[.int k 0]
 | .bool=>[.bool false]
 | .str=>[.string ByteArray.empty]
 | .sl _=>[.slice none 0 0]
 | .bZ cc=>Ig cc
where Ig:List dB->List Value
 | []=>[]
 | f::cc=>f.zero++Ig cc
section
variable {H:Type}
mutual
def nq:dB->List J->DataW H->Prop
 | .int k,cs,d=>∃n,cs= [.int k n]/\d= .lit (.int k n)/\(Lit.int k n).wf=true
 | .bool,cs,d=>∃b,cs= [.bool b]/\d= .lit (.bool b)
 | .str,cs,d=>∃s:ByteArray,cs= [.str s]/\d= .lit (.string s.data.toList)/\s.size<=maxLen
 | .sl e,cs,d=>∃xs,cs= [.sl xs false]/\xs.length<=maxLen/\
     ((d= .nil/\xs= [])\/∃c5 rest,d= .slice c5 rest/\c5.length=xs.length/\∀i (h:i<xs.length) (h':i<c5.length),∃cs,xs[i]=e.one cs/\cs.length=e.size/\nq e cs c5[i])
 | .bZ cc,cs,d=>∃c5,d= .agg c5/\lx cc cs c5
def lx:List dB->List J->List (DataW H)->Prop
 | [],cs,c5=>cs= []/\c5= []
 | f::cc,cs,c5=>∃a b d ke,cs=a++b/\c5=d::ke/\nq f a d/\lx cc b ke
end
mutual
theorem nq.length:∀ {s:dB} {cs:List J} {d:DataW H},nq s cs d->cs.length=s.size
 | .int k,_,_,h=>by obtain⟨n,rfl,_⟩:=h;rfl
 | .bool,_,_,h=>by obtain⟨n,rfl,_⟩:=h;rfl
 | .str,_,_,h=>by obtain⟨n,rfl,_⟩:=h;rfl
 | .sl e,_,_,h=>by obtain⟨n,rfl,_⟩:=h;rfl
 | .bZ cc,_,_,h=>by obtain⟨c5,_,h⟩:=h;exact lx.length h
theorem lx.length:∀ {s:List dB} {cs:List J} {d:List (DataW H)},lx s cs d->cs.length=dB.sq s
 | [],_,_,h=>by obtain⟨rfl,_⟩:=h;rfl
 | f::cc,_,_,h=>by
   obtain⟨a,b,d,ke,rfl,_,U,h2⟩:=h
   rw[List.length_append,U.length,h2.length];rfl
end
theorem dB.Cv {s:dB} {cs:List J} {d:DataW H} (h:nq s cs d):(s.one cs).cells=cs:=by
 cases s with
 | int k=>obtain⟨n,rfl,_⟩:=h;rfl
 | bool=>obtain⟨n,rfl,_⟩:=h;rfl
 | str=>obtain⟨n,rfl,_⟩:=h;rfl
 | sl e=>obtain⟨n,rfl,_⟩:=h;rfl
 | bZ cc=>rfl
variable {enc:TypeId × Value->H} {P:Program} {w:World} {spare:Nat->Bool} {held:Bool} {ok:Nat->Prop}
def mE (w:World) (ok:Nat->Prop) (cs:List J) (vs:List Value):Prop:=
 vs.length=cs.length/\∀i (h:i<cs.length) (h':i<vs.length),dy w ok cs[i] vs[i]
theorem mE.append {a b:List J} {x y:List Value} (h:mE w ok a x) (k:mE w ok b y):mE w ok (a++b) (x++y):=by
 refine⟨by simp[h.1,k.1],fun i ab bW=>?_⟩
 by_cases I:i<a.length
 · rw[List.getElem_append_left I,List.getElem_append_left (by rw[h.1];exact I)]
   exact h.2 i I _
 · rw[List.getElem_append_right (by omega),List.getElem_append_right (by rw[h.1];omega)]
   simp only[h.1]
   exact k.2 (i - a.length) (by simp at ab;omega) _
theorem mE.one {a:J} {x:Value} (h:dy w ok a x):mE w ok [a] [x]:=
 ⟨rfl,fun i ab bW=>by
   have:i=0:=by simpa using ab
   subst this;exact h⟩
theorem Ih {b9:TypeId->Option dB} {n:Nat} {cs:List Value}
 (b8:∀t s vs x,b9 t=some s->DataW.trod enc P w 0 spare held n t vs=some x->∃as,nq s as x.1/\mE w ok as vs):
 ∀(cc:List Field) (o:Nat) (l:List dB) (xs:List (DataW H × List MemPlace)),wj P b9 o cc=some l->xs.length=cc.length->o+dB.sq l=cs.length->
  (∀(i:Nat) (f:Field),cc[i]? =some f->DataW.trod enc P w 0 spare held n f.type ((cs.drop f.offset).take (P.cellsOf f.type))=xs[i]?)->
  ∃as,lx l as (xs.map (·.1))/\mE w ok as (cs.drop o)
 | [],o,l,xs,h,aG,aL,ae=>by
   simp only[wj,Option.some.injEq] at h
   subst h
   obtain rfl:xs= []:=by simpa using aG
   refine⟨[],⟨rfl,rfl⟩,?_,fun i ab=>by simp at ab⟩
   simp[dB.sq] at aL|-;omega
 | f::cc,o,l,xs,h,aG,aL,ae=>by
   simp only[wj] at h
   split at h<;>try(cases h;done)
   rename_i Ro
   obtain⟨s,aE,h⟩:=Option.bind_eq_some_iff.1 h
   split at h<;>try(cases h;done)
   rename_i I
   obtain⟨lI,qF,rfl⟩:=Option.map_eq_some_iff.1 h
   match xs,aG with
   | x::xs,aG=>
     have aQ:=ae 0 f rfl
     simp only[List.getElem?_cons_zero] at aQ
     obtain⟨as,uc,wk⟩:=b8 _ _ _ _ aE aQ
     simp only[dB.sq] at aL
     obtain⟨rS,lJ,qW⟩:=Ih (cs:=cs) b8 cc (o+s.size) lI xs qF (by simpa using aG) (by omega) (fun i f bw=>by simpa using ae (i+1) f (by simpa using bw))
     refine⟨as++rS,⟨as,rS,x.1,xs.map (·.1),rfl,by simp,uc,lJ⟩,?_⟩
     have e:cs.drop o=(cs.drop f.offset).take (P.cellsOf f.type)++cs.drop (o+s.size):=by
      rw[Ro,I,<-List.drop_drop,List.take_append_drop]
     rw[e]
     exact wk.append qW
theorem Ii {b9:dB} {n:Nat} {e:TypeId} {cs:List Value}
 (b8:∀vs x,DataW.trod enc P w 0 spare held n e vs=some x->∃as,nq b9 as x.1/\mE w ok as vs) (I:P.cellsOf e=b9.size):
 ∀(k o:Nat) (xs:List (DataW H × List MemPlace)),xs.length=k->(o+k)*b9.size=cs.length->
  (∀i,i<k->DataW.trod enc P w 0 spare held n e ((cs.drop ((o+i)*P.cellsOf e)).take (P.cellsOf e))=xs[i]?)->
  ∃as,lx (List.replicate k b9) as (xs.map (·.1))/\mE w ok as (cs.drop (o*b9.size))
 | 0,o,xs,aG,aL,ae=>by
   obtain rfl:xs= []:=by simpa using aG
   refine⟨[],⟨rfl,rfl⟩,?_,fun i ab=>by simp at ab⟩
   simp at aL|-;omega
 | k+1,o,xs,aG,aL,ae=>by
   match xs,aG with
   | x::xs,aG=>
     have aQ:=ae 0 (by omega)
     simp only[List.getElem?_cons_zero,Nat.add_zero] at aQ
     obtain⟨as,uc,wk⟩:=b8 _ _ aQ
     obtain⟨rS,lJ,qW⟩:=Ii (cs:=cs) b8 I k (o+1) xs (by simpa using aG) (by rw[<-aL];congr 1;omega) (fun i ab=>by
      have:=ae (i+1) (by omega)
      simp only[List.getElem?_cons_succ] at this
      rw[<-this]
      congr 3;congr 1;omega)
     refine⟨as++rS,⟨as,rS,x.1,xs.map (·.1),rfl,by simp,uc,lJ⟩,?_⟩
     have e:cs.drop (o*b9.size)=(cs.drop (o*P.cellsOf e)).take (P.cellsOf e)++cs.drop ((o+1)*b9.size):=by
      rw[I,show (o+1)*b9.size=o*b9.size+b9.size by rw[Nat.add_mul];simp,<-List.drop_drop,List.take_append_drop]
     rw[e]
     exact wk.append qW
theorem Ij (j':∀b,b<w.heap.size->ok b):∀(m:Nat) (fuel:Nat) (t:TypeId) (s:dB) (cs:List Value) (x:DataW H × List MemPlace),shape P m t=some s->
 DataW.trod enc P w 0 spare held fuel t cs=some x->∃as,nq s as x.1/\mE w ok as cs
 | 0,_,_,_,_,_,h,_=>by cases h
 | m+1,fuel,t,s,cs,x,h,ae=>by
   have bj:=Ij j' m
   unfold shape at h
   split at h
   · rename_i aY
     cases h
     obtain⟨b,rfl,rfl⟩:=DataW.trod_bool aY ae
     exact ⟨[.bool b],⟨b,rfl,rfl⟩,.one (.bool b)⟩
   · rename_i k aY
     cases h
     obtain⟨n,rfl,rfl,hw⟩:=DataW.trod_int aY ae
     exact ⟨[.int k n],⟨n,rfl,rfl,hw⟩,.one (.int k n)⟩
   · rename_i aY
     cases h
     obtain⟨z,rfl,rfl,hw⟩:=DataW.trod_string aY ae
     exact ⟨[.str z],⟨z,rfl,rfl,hw⟩,.one (.str z)⟩
   · rename_i e aY
     obtain⟨aj,aE,h⟩:=Option.bind_eq_some_iff.1 h
     split at h<;>try(cases h;done)
     rename_i I
     cases h
     rcases DataW.trod_slice aY ae with⟨rfl,rfl⟩|⟨a,len,cap,elems,rest,n,_,rfl,rfl,aa,aG,hm,hlen,kP,_,_⟩
     · refine⟨[.sl [] false],⟨[],rfl,by simp,.inl ⟨rfl,rfl⟩⟩,.one ?_⟩
       exact .sl [] false none 0 1 (fun _ _=> .nilFunc) (Nat.le_refl _) (fun h=>by cases h) (fun i ab=>by simp at ab) (fun i j ab=>by simp at ab) (fun h=>by simp at h) (fun i ab=>by simp at ab)
     · have each:∀i:Fin len,∃p:List Value × List J,w.cells? 0 (a.add (i.1*P.cellsOf e)) (P.cellsOf e)=some p.1/\mE w ok p.2 p.1/\∃h:i.1<elems.length,nq aj p.2 (elems[i.1]).1:=by
        intro i
        have:=kP i.1 i.2
        rw[List.getElem?_eq_getElem (by rw[hlen];exact i.2)] at this
        obtain⟨vs,U,h2⟩:=Option.bind_eq_some_iff.1 this
        obtain⟨as,aV,aU⟩:=bj _ _ _ _ _ aE h2
        exact ⟨(vs,as),U,aU,by rw[hlen];exact i.2,aV⟩
       let g:Fin len->List Value × List J:=fun i=>Classical.choose (each i)
       have ba:∀i:Fin len,w.cells? 0 (a.add (i.1*P.cellsOf e)) (P.cellsOf e)=some (g i).1/\mE w ok (g i).2 (g i).1/\∃h:i.1<elems.length,nq aj (g i).2 (elems[i.1]).1:=fun i=>Classical.choose_spec (each i)
       refine⟨[.sl (List.ofFn fun i=>aj.one (g i).2) false],⟨_,rfl,by simp;omega,.inr ⟨_,_,rfl,by simp[hlen],fun i ab bW=>?_⟩⟩,.one ?_⟩
       · simp only[List.length_ofFn] at ab
         obtain⟨_,_,he,bk⟩:=ba ⟨i,ab⟩
         exact ⟨(g ⟨i,ab⟩).2,by simp,bk.length,by simpa using bk⟩
       · have key:=dy.sl (w:=w) (ok:=ok) (List.ofFn fun i=>aj.one (g i).2) false (some a) cap aj.size
          (fun i j=>if h:i<len then (g ⟨i,h⟩).1.getD j .nilFunc else .nilFunc) (by simpa using aG) (fun h=>by cases h)
          (fun i ab=>by
            simp only[List.length_ofFn] at ab
            obtain⟨_,_,he,bk⟩:=ba ⟨i,ab⟩
            simp only[List.getElem_ofFn]
            rw[dB.Cv bk,bk.length])
          (fun i j ab aO=>by
            simp only[List.length_ofFn] at ab
            obtain⟨U,_,_⟩:=ba ⟨i,ab⟩
            obtain⟨_,h2,aN⟩:=World.cells?_some U
            have:=aN j (by rw[I.1];exact aO)
            rw[List.getElem?_eq_getElem (by rw[h2,I.1];exact aO),Go.Addr.add_add] at this
            refine⟨a,rfl,?_,?_⟩
            · have nH:=World.block_lt_of_cell? w _ this
              rw[Addr.qA] at nH
              exact j' _ nH
            · rw[show i*aj.size+j=i*P.cellsOf e+j by rw[I.1]]
              rw[show w.cell? (a.add (i*P.cellsOf e+j))=_ from this]
              simp[ab,h2,I.1,aO])
          (fun _=>rfl)
          (fun i ab j aO=>by
            simp only[List.length_ofFn] at ab
            obtain⟨_,h2,he,bk⟩:=ba ⟨i,ab⟩
            simp only[List.getElem_ofFn,dB.Cv bk] at aO|-
            simp only[ab,dif_pos]
            have kh:j<(g ⟨i,ab⟩).1.length:=by rw[h2.1];exact aO
            rw[show (g ⟨i,ab⟩).1.getD j .nilFunc=(g ⟨i,ab⟩).1[j] by simp[List.getD,kh]]
            exact h2.2 j aO kh)
         simpa using key
   · rename_i cc aY
     obtain⟨l,aG,h⟩:=Option.bind_eq_some_iff.1 h
     split at h<;>try(cases h;done)
     rename_i I
     cases h
     obtain⟨xs,n,_,rfl,mx,pz,bw⟩:=DataW.trod_struct aY ae
     obtain⟨as,U,h2⟩:=Ih (ok:=ok) (cs:=cs) (fun t s vs x aE ae=>bj _ _ _ _ _ aE ae) cc.toList 0 l xs aG (by simpa using pz) (by rw[mx,I];omega) (fun i f ab=>bw i f (by simpa using ab))
     exact ⟨as,⟨_,rfl,U⟩,by simpa using h2⟩
   · rename_i k e aY
     obtain⟨aj,aE,h⟩:=Option.bind_eq_some_iff.1 h
     split at h<;>try(cases h;done)
     rename_i I
     cases h
     obtain⟨xs,n,_,rfl,mx,pz,bw⟩:=DataW.trod_array aY ae
     obtain⟨as,U,h2⟩:=Ii (ok:=ok) (cs:=cs) (fun vs x ae=>bj _ _ _ _ _ aE ae) I.1 k 0 xs pz (by rw[mx,I.2];simp) (fun i ab=>by simpa using bw i ab)
     exact ⟨as,⟨_,rfl,U⟩,by simpa using h2⟩
   · cases h
end
section rows
variable {H:Type} {enc:TypeId × Value->H} {P:Program} {w:World} {spare:Nat->Bool} {held:Bool} {ok:Nat->Prop}
theorem Rp {s:dB} {as:List J} {d:DataW H} {v:Value} (h:nq s as d) (aF:(∃cc,s= .bZ cc)->∃cs,v= .agg cs) (az:(∃cs,v= .agg cs)->∃cc,s= .bZ cc) (aU:mE w ok as v.cells.toList):dy w ok (s.one as) v:=by
 cases s with
 | bZ cc=>
   obtain⟨cs,rfl⟩:=aF ⟨cc,rfl⟩
   exact .agg as cs (by simpa[Value.cells] using aU.1) fun i h h'=>by
    have:=aU.2 i h (by simpa[Value.cells] using h')
    simpa[Value.cells] using this
 | _=>
   have I:v.cells= #[v]:=by
    cases v<;>first|rfl|(obtain⟨cc,e⟩:=az ⟨_,rfl⟩;cases e)
   have U:=h.length
   rw[I] at aU
   match as,U,aU with
   | [a],_,aU=>exact aU.2 0 (by simp) (by simp)
def l6 (s:dB) (a:J):Prop:=∃(H:Type) (as:List J) (d:DataW H),a=s.one as/\nq s as d
def sr:List dB->List J->Prop
 | [],as=>as= []
 | s::ss,as=>∃a Bk,as=a::Bk/\l6 s a/\sr ss Bk
theorem Rq {m:Nat} {t:TypeId} {s:dB} {r:Reach} {b0:Nat} {v:Value} (h:shape P m t=some s) (aF:Value.okWide P w r b0 t v):((∃cc,s= .bZ cc)->∃cs,v= .agg cs)/\((∃cs,v= .agg cs)->∃cc,s= .bZ cc):=by
 cases m with
 | zero=>cases h
 | succ m=>
   unfold shape at h
   split at h
   · rename_i aY;cases h
     obtain⟨b,rfl⟩:=okWide_bool aY aF
     exact ⟨(by rintro ⟨cc,e⟩;cases e),(by rintro ⟨cc,e⟩;cases e)⟩
   · rename_i k aY;cases h
     obtain⟨b,rfl⟩:=okWide_int aY aF
     exact ⟨(by rintro ⟨cc,e⟩;cases e),(by rintro ⟨cc,e⟩;cases e)⟩
   · rename_i aY;cases h
     obtain⟨b,rfl⟩:=okWide_string aY aF
     exact ⟨(by rintro ⟨cc,e⟩;cases e),(by rintro ⟨cc,e⟩;cases e)⟩
   · rename_i e aY
     obtain⟨aj,aE,h⟩:=Option.bind_eq_some_iff.1 h
     split at h<;>try(cases h;done)
     cases h
     obtain⟨a,b,c,rfl⟩:=okWide_slice aY aF
     exact ⟨(by rintro ⟨cc,e⟩;cases e),(by rintro ⟨cc,e⟩;cases e)⟩
   · rename_i cc aY
     obtain⟨aj,aE,h⟩:=Option.bind_eq_some_iff.1 h
     split at h<;>try(cases h;done)
     cases h
     obtain⟨a,rfl,_⟩:=okWide_struct aY aF
     exact ⟨fun _=>⟨_,rfl⟩,fun _=>⟨_,rfl⟩⟩
   · rename_i k e aY
     obtain⟨aj,aE,h⟩:=Option.bind_eq_some_iff.1 h
     split at h<;>try(cases h;done)
     cases h
     have aV:∃cs,v= .agg cs:=by
      simp only[Value.okWide,aY] at aF
      obtain⟨cs,U,_⟩:=aF
      exact ⟨cs,U⟩
     exact ⟨fun _=>aV,fun _=>⟨_,rfl⟩⟩
   · cases h
theorem Ik {r:Reach} {b0:Nat} (j':∀b,b<w.heap.size->ok b) {m:Nat}:∀ {eB:List TypeId} {ss:List dB} {vs:List Value} {c5:List (DataW H)} {ps:List MemPlace},eB.mapM (shape P m)=some ss->
 DataW.TrodAll enc P w 0 spare held eB vs c5 ps->(∀(j:Nat) t v,eB[j]? =some t->vs[j]? =some v->Value.okWide P w r b0 t v)->
 ∃as,sr ss as/\vs.length=as.length/\∀i (h:i<as.length) (h':i<vs.length),dy w ok as[i] vs[i]
 | [],ss,vs,c5,ps,aE,h,_=>by
   obtain⟨rfl,rfl,rfl⟩:=trodAll_nil h
   obtain rfl: []=ss:=by simpa using aE
   exact ⟨[],rfl,rfl,fun i ab=>by simp at ab⟩
 | t::eB,ss,vs,c5,ps,aE,h,aF=>by
   obtain⟨v,mu,d,ke,p,q,rfl,rfl,rfl,⟨fuel,aQ⟩,U⟩:=trodAll_cons h
   rw[List.mapM_cons] at aE
   obtain⟨s,nS,aE⟩:=Option.bind_eq_some_iff.1 aE
   obtain⟨ad5,ou,aE⟩:=Option.bind_eq_some_iff.1 aE
   cases aE
   obtain⟨as,h2,aN,a8⟩:=Ik j' ou U (fun j Rr j_ aY Rs=>aF (j+1) Rr j_ (by simpa using aY) (by simpa using Rs))
   obtain⟨cs,cn,cd⟩:=Ij j' _ _ _ _ _ _ nS aQ
   obtain⟨jT,d'⟩:=Rq nS (aF 0 t v rfl rfl)
   refine⟨s.one cs::as,⟨_,_,rfl,⟨H,cs,d,rfl,cn⟩,h2⟩,by simp[aN],fun i ab bW=>?_⟩
   cases i with
   | zero=>exact Rp cn jT d' cd
   | succ i=>exact a8 i _ _
theorem Il (aG:laidOutB P=true) {a5:World} (aa:Below w.heap.size w a5):∀ {eB:List TypeId} {vs:List Value} {c5:List (DataW H)} {ps:List MemPlace},
 (eB.all fun t=>P.readableRec t&&decide (t<P.types.size))=true->
 DataW.TrodAll enc P w 0 (fun _=>true) true eB vs c5 ps->DataW.TrodAll enc P a5 0 (fun b=>decide (b<w.heap.size)) true eB vs c5 ps
 | [],vs,c5,ps,_,h=>by
   obtain⟨rfl,rfl,rfl⟩:=trodAll_nil h
   exact trodAll_mk0
 | t::eB,vs,c5,ps,aV,h=>by
   obtain⟨v,mu,d,ke,p,q,rfl,rfl,rfl,aQ,U⟩:=trodAll_cons h
   simp only[List.all_cons,Bool.and_eq_true,decide_eq_true_eq] at aV
   obtain⟨m,hm⟩:=aQ
   exact trodAll_cons_mk (Below.trod aG aV.1.1 aV.1.2 ⟨m,hm⟩ aa (fun x ae=>DataW.trod_lt m _ _ _ hm x ae)) (Il aG aa aV.2 U)
theorem lifted {C:Checked} {os:Os} {f:FuncId} {fn:Func} {s:ChangeSpec} {m:Nat} {ss:List dB} {T:List J->Option J} {G:Nat->Option J} {X:World->Array Value->Prop} {Im:TypeId} {body:Code}
 (l4:∀(w a5:World) (args:Array Value),w.heap=a5.heap->X w args->X a5 args)
 (own:ownKnob C.prog.godebug=none) (started:os.Started) (Rt:C.prog.inits.idxOf? f=none) (mC:C.prog.funcs[f]? =some fn)
 (witness:∃(w:World) (tape:Tape) (i:Input),w.os=os/\(w.forCall tape i).Shaped C.prog/\i.vars= []/\Input.okWide C.prog (w.forCall tape i) .any w.heap.size f i/\
   ((s.pre enc C.prog fn [] false (w.forCall tape i).memory i.args/\X (w.forCall tape i).memory i.args)/\sizedMet enc C.prog fn (OpenSpec.ofChange s) false (w.forCall tape i).memory i.args)/\({}:Assume).holds C.prog (lone (Frame.enter C.prog f i.args .normal) [] (w.forCall tape i)))
 (aG:laidOutB C.prog=true)
 (aE:fn.params.toList.mapM (shape C.prog m)=some ss) (Ru:(fn.params.toList.all fun t=>C.prog.readableRec t&&decide (t<C.prog.types.size))=true)
 (Rv:fn.body=some body) (Cg:fn.name≠ "runtime.NumGoroutine")
 (Cf:fn.resultTypes= #[Im]) (Bu:C.prog.underlying Im=some .bool) (Io:s.vars= [])
 (Cw:∀c5:List (DataW H),c5.length=fn.params.size->s.fn H c5= {results:=[.lit (.bool true)],args:=c5})
 (Rw:∀W args,X W args->∀g u,G g=some u->bf W (fun _=>True) (fun _=>none) (.eV u) (.pointer (some ⟨g,0,none⟩)))
 (I:a3 C.prog G f T) (c6:∀as,sr ss as->T as=some (.bool true)):
 ReturnsInHanded {} C os f .any (fun w args=>(s.pre enc C.prog fn [] false w args/\X w args)/\sizedMet enc C.prog fn (OpenSpec.ofChange s) false w args) (s.post enc C.prog fn false true false false):=by
 refine returnsInHanded_of_change_and l4 own started Rt mC witness ?_
 intro W base args c5 gs before lH lL _ _ ae _
 have Rx:=lL
 obtain⟨p,q,bg,Ip,rfl,ad6,oD⟩:=lL
 rw[Io] at Ip
 obtain⟨rfl,rfl⟩:=trodVars_none Ip
 obtain⟨as,U,h2,aN⟩:=Ik (ok:=fun _=>True) (fun _ _=>trivial) aE bg (fun j t v aY aF=>lH j t v (by simpa using aY) (by simpa using aF))
 have D:=I as _ (c6 as U) (fun _=>True) W args (by simpa using h2) (fun i h h'=>by have:=aN i h (by simpa using h');rwa [Array.getElem_toList] at this) (Rw W args ae)
 have Cx:c5.length=fn.params.size:=by
  have:∀ {eB:List TypeId} {vs:List Value} {c5:List (DataW H)} {ps:List MemPlace},DataW.TrodAll enc C.prog W 0 (fun _=>true) true eB vs c5 ps->c5.length=eB.length:=by
   intro eB
   induction eB with
   | nil=>intro vs c5 ps h;obtain⟨_,rfl,_⟩:=trodAll_nil h;rfl
   | cons t eB bj=>
     intro vs c5 ps h
     obtain⟨v,mu,d,ke,p,q,rfl,rfl,rfl,aQ,U⟩:=trodAll_cons h
     simp[bj U]
  simpa using this bg
 have fin:∀cv a5,dy a5 (fun b=>True\/W.heap.size<=b) (.bool true) cv/\Below W.heap.size W a5->s.post enc C.prog fn false true false false W args cv a5:=by
  rintro cv a5 ⟨aU,aa⟩
  cases aU
  refine⟨c5,[],_,[],p,[],Rx,?_,?_,?_,aa.frame _,fun h=>by cases h⟩
  · rw[List.append_nil,Cw c5 Cx,Cf]
    exact trodAll_mk1 (shut_bool Bu _)
  · rw[List.append_nil,Cw c5 Cx]
    exact Il aG aa Ru bg
  · rw[Io,List.append_nil,Cw c5 Cx]
    rfl
 rcases D with⟨_,d2⟩|⟨cv,a5,d1,_⟩
 · refine d2.mono fun e a5 ⟨cv,he,eA⟩=>⟨cv,he,fin cv a5 eA⟩
 · have:=Cc mC Rv Cg args W
   rw[this] at d1
   cases d1
end rows
end Go.Eng
namespace Go.Eng
open Go Go.RowKit
theorem Iq {k:IntKind} {n:Int} (h:(Lit.int k n).wf=true):k.min<=n/\n<=k.max:=by
 simpa[Lit.wf] using h
theorem Ry {k:IntKind} {a:J} (h:l6 (.int k) a):∃n:Int,a= .int k n/\k.min<=n/\n<=k.max:=by
 obtain⟨H,zs,d,rfl,n,rfl,_,hw⟩:=h
 exact ⟨n,rfl,(Iq hw).1,(Iq hw).2⟩
theorem Rz {a:J} (h:l6 .bool a):∃b,a= .bool b:=by
 obtain⟨H,zs,d,rfl,b,rfl,_⟩:=h
 exact ⟨b,rfl⟩
theorem Ir {e:dB} {a:J} (h:l6 (.sl e) a):∃xs,a= .sl xs false/\xs.length<=maxLen/\∀x∈xs,l6 e x:=by
 obtain⟨H,zs,d,rfl,xs,rfl,hm,bk⟩:=h
 refine⟨xs,rfl,hm,fun x ae=>?_⟩
 rcases bk with⟨_,rfl⟩|⟨c5,rest,_,aG,RA⟩
 · cases ae
 · obtain⟨i,ab,rfl⟩:=List.mem_iff_getElem.1 ae
   obtain⟨cs,U,_,h2⟩:=RA i ab (by omega)
   exact ⟨H,cs,_,U,h2⟩
theorem RB {cc:List dB} {a:J} (h:l6 (.bZ cc) a):∃(H:Type) (cs:List J) (c5:List (DataW H)),a= .agg cs/\lx cc cs c5:=by
 obtain⟨H,zs,d,rfl,c5,rfl,bk⟩:=h
 exact ⟨H,zs,c5,rfl,bk⟩
theorem RC {a:J} (h:l6 (.int .u32) a):∃n,a= .int .u32 (Z n)/\n<4294967296:=by
 obtain⟨n,rfl,U,h2⟩:=Ry h
 simp[IntKind.min,IntKind.max,IntKind.signed,IntKind.bits] at U h2
 obtain⟨n,rfl⟩:=Int.eq_ofNat_of_zero_le U
 exact ⟨n,rfl,by omega⟩
theorem RD {a:J} (h:l6 (.sl (.int .u32)) a):∃l:List Nat,a= .sl (l.map fun n=> .int .u32 (Z n)) false/\l.length<=maxLen/\∀x∈l,x<4294967296:=by
 obtain⟨xs,rfl,hm,ae⟩:=Ir h
 have:∃l:List Nat,xs=l.map (fun n=> .int .u32 (Z n))/\∀x∈l,x<4294967296:=by
  clear hm h
  induction xs with
  | nil=>exact ⟨[],rfl,fun x ae=>by cases ae⟩
  | cons x xs bj=>
    obtain⟨n,rfl,az⟩:=RC (ae x (by simp))
    obtain⟨l,rfl,aG⟩:=bj (fun y a2=>ae y (by simp[a2]))
    exact ⟨n::l,rfl,fun y a2=>by
     rcases List.mem_cons.1 a2 with rfl|a2
     · exact az
     · exact aG y a2⟩
 obtain⟨l,rfl,aG⟩:=this
 exact ⟨l,rfl,by simpa using hm,aG⟩
theorem RE {H:Type} {f:dB} {cc:List dB} {cs:List J} {c5:List (DataW H)} (h:lx (f::cc) cs c5):∃(a b:List J) (ke:List (DataW H)),cs=a++b/\l6 f (f.one a)/\(f.one a).cells=a/\lx cc b ke:=by
 obtain⟨a,b,d,ke,rfl,_,U,h2⟩:=h
 exact ⟨a,b,ke,rfl,⟨H,a,d,rfl,U⟩,dB.Cv U,h2⟩
theorem RF {H:Type} {cs:List J} {c5:List (DataW H)} (h:lx [] cs c5):cs= []:=h.1
theorem Cy {s:dB} {ss:List dB} {l:List J} (h:sr (s::ss) l):∃a lI,l=a::lI/\l6 s a/\sr ss lI:=h
theorem RG {l:List J} (h:sr [] l):l= []:=h
end Go.Eng
namespace Go.Eng
open Go Go.RowKit
mutual
def J.loose:J->J
 | .sl xs _=> .sl (kD xs) false
 | .agg cs=> .agg (kD cs)
 | .bD vs=> .bD (kD vs)
 | v=>v
def kD:List J->List J
 | []=>[]
 | v::vs=>v.loose::kD vs
end
theorem nT:∀l:List J,kD l=l.map J.loose
 | []=>rfl
 | v::l=>by simp only[kD,List.map_cons,nT l]
theorem fR:kD []= []:=rfl
theorem fy (v:J) (l:List J):kD (v::l)=v.loose::kD l:=rfl
theorem ee (xs:List J) (e:Bool):(J.sl xs e).loose= .sl (kD xs) false:=by simp only[J.loose]
theorem fH (xs:List J):(J.agg xs).loose= .agg (kD xs):=by simp only[J.loose]
theorem ga (xs:List J):(J.bD xs).loose= .bD (kD xs):=by simp only[J.loose]
theorem fh (k:IntKind) (n:Int):(J.int k n).loose= .int k n:=by simp only[J.loose]
theorem fI (b:Bool):(J.bool b).loose= .bool b:=by simp only[J.loose]
theorem gb (b:ByteArray):(J.str b).loose= .str b:=by simp only[J.loose]
theorem gd:J.nilfn.loose= .nilfn:=by simp only[J.loose]
theorem gf (m:List (Int × FuncId)):(J.mp m).loose= .mp m:=by simp only[J.loose]
theorem RH (f:FuncId) (a b:List J):(J.fn f a b).loose= .fn f a b:=by simp only[J.loose]
theorem Cz (v:J):v.loose.cells=v.cells.map J.loose:=by
 cases v<;>simp[J.loose,J.cells,nT]
theorem dy.loose {w:World} {ok:Nat->Prop} {v:J} {cv:Value} (h:dy w ok v cv):dy w ok v.loose cv:=by
 induction h with
 | int k n=>rw[fh];exact .int k n
 | bool b=>rw[fI];exact .bool b
 | str s=>rw[gb];exact .str s
 | nilfn=>rw[gd];exact .nilfn
 | fn f=>rw[RH];exact .fn f
 | mp m r es clock U h2 aN a8=>rw[gf];exact .mp m r es clock U h2 aN a8
 | sl xs ex A c sz eo U h2 aN a8 cr eF bj=>
   rw[ee,nT]
   have R:=dy.sl (w:=w) (ok:=ok) (xs.map J.loose) false A c sz eo (by simpa using U) (fun h=>by cases h) (fun i h=>by
    have ab:i<xs.length:=by simpa using h
    rw[List.getElem_map,Cz,List.length_map];exact aN i ab) (fun i j ab aO=>a8 i j (by simpa using ab) aO) (fun aS=>cr (by simpa using aS)) (fun i ab j aO=>by
    have bW:i<xs.length:=by simpa using ab
    have kh:j<xs[i].cells.length:=by
     rw[List.getElem_map,Cz,List.length_map] at aO;exact aO
    have e:((xs.map J.loose)[i]'ab).cells[j]=(xs[i].cells[j]).loose:=by
     simp[Cz]
    rw[e]
    exact bj i bW j kh)
   simpa using R
 | agg cs vs aG h bj=>
   rw[fH,nT]
   refine .agg _ vs (by simpa using aG) fun i ab bW=>?_
   rw[List.getElem_map]
   exact bj i (by simpa using ab) bW
 | bD cs vs aG h bj=>
   rw[ga,nT]
   refine .bD _ vs (by simpa using aG) fun i ab bW=>?_
   rw[List.getElem_map]
   exact bj i (by simpa using ab) bW
theorem RI {P:Program} {G:Nat->Option J} {f:FuncId} {T Is:List J->Option J} (h:a3 P G f T) (c6:∀args v,Is args=some v->∃j_,T (args.map J.loose)=some j_/\j_.loose=v):a3 P G f Is:=by
 intro args v aF ok w dA df fF qS
 obtain⟨j_,U,rfl⟩:=c6 args v aF
 have D:=h _ _ U ok w dA (by simpa using df) (fun i ab bW=>by
  rw[List.getElem_map]
  exact (fF i (by simpa using ab) bW).loose) qS
 rcases D with⟨d1,d2⟩|⟨cv,a5,d1,d2,d3⟩
 · exact .inl ⟨d1,d2.mono fun e a5 ⟨cv,he,eA,aa⟩=>⟨cv,he,eA.loose,aa⟩⟩
 · exact .inr ⟨cv,a5,d1,d2.loose,d3⟩
def fS (res:List mr) (v:J) (ex:de) (s:aW):Prop:=
 (match ex with
  | .exit _=>False
  | _=>True)/\((d_ s.h s.F res).bind fun u=>(jl s.h u).map fun p=>p.1.loose)=some v
theorem RJ {G:Nat->Option J} {Φ:FuncId->Option aZ} {tab:FuncId->Option (List J->Option J)} {f:FuncId} {fn:aZ} (bw:Φ f=some fn) {args:List J} {v:J} (h:br G Φ tab [] fn.body ⟨dW args,aQ⟩ (fS fn.res v)):
 ∃j_,j_.loose=v/\∃n,mw G Φ tab n f args=some j_:=by
 obtain⟨n,ex,aj,e,dp,dr⟩:=h
 obtain⟨u,hu,dr⟩:=Option.bind_eq_some_iff.1 dr
 obtain⟨p,aS,rfl⟩:=Option.map_eq_some_iff.1 dr
 refine⟨p.1,rfl,n,?_⟩
 unfold mw xE
 simp only[bw,e]
 cases ex with
 | exit i=>exact dp.elim
 | normal=>simp only[hu,Option.map_some,Option.bind_some,aS]
 | ret=>simp only[hu,Option.map_some,Option.bind_some,aS]
noncomputable def bu {A:Type} (pre:A->Prop) (enc:A->List J) (out:A->J):List J->Option J:=fun args=>wh pre enc out (args.map J.loose)
theorem bM {A:Type} {pre:A->Prop} {enc:A->List J} {out:A->J} (inj:∀a b,enc a=enc b->out a=out b) (a:A) (h:pre a) {args:List J} (he:args.map J.loose=enc a):bu pre enc out args=some (out a):=by
 unfold bu
 rw[he]
 exact Rn (fun a b _ _ h=>inj a b h) a h
theorem bK {P:Program} {G:Nat->Option J} {tab:FuncId->Option (List J->Option J)} (hm:P.follows .mixedOrders=true) (k8:∀f T,tab f=some T->a3 P G f T) {f:FuncId} {fn:aZ} (bw:aR P f=some fn)
 {A:Type} {pre:A->Prop} {enc:A->List J} {out:A->J} (h:∀a,pre a->br G (aR P) tab [] fn.body ⟨dW (enc a),aQ⟩ (fS fn.res (out a))):a3 P G f (bu pre enc out):=by
 have I:a3 P G f (fun args=>open Classical in if h:∃v,∃n,mw G (aR P) tab n f args=some v then some (Classical.choose h) else none):=
  yj hm k8 fun args v c6=>by
   split at c6
   · rename_i ae
     cases c6
     exact Classical.choose_spec ae
   · cases c6
 refine RI I fun args v c6=>?_
 obtain⟨a,U,h2,rfl⟩:=wi c6
 obtain⟨j_,aN,n,a8⟩:=RJ bw (h a U)
 rw[<-h2]
 have ae:∃v,∃n,mw G (aR P) tab n f (enc a)=some v:=⟨j_,n,a8⟩
 refine⟨j_,?_,aN⟩
 rw[dif_pos ae]
 congr 1
 obtain⟨m,cr⟩:=Classical.choose_spec ae
 have mono:∀ {n m:Nat} {v:J},n<=m->mw G (aR P) tab n f (enc a)=some v->mw G (aR P) tab m f (enc a)=some v:=by
  intro n m v np aF
  unfold mw at aF|-
  obtain⟨p,U,h2⟩:=Option.bind_eq_some_iff.1 aF
  rw[Cp] at U
  have:=we (Y:=[]) np (.fn f) (enc a) aQ p U
  rw[Cp,show km G (aR P) tab m [] f (enc a) aQ=some p from this]
  exact h2
 have a1:=mono (Nat.le_max_left n m) a8
 have e2:=mono (Nat.le_max_right n m) cr
 rw[a1] at e2
 exact (Option.some.inj e2).symm
theorem hD (k:IntKind):J.int k 0=J.int k (Z 0):=rfl
theorem fT (k:IntKind):J.int k 1=J.int k (Z 1):=rfl
theorem hE (h:af) (k:IntKind) (n:Int):dE h (.int k n)=some (.int k n,[]):=rfl
theorem hF (h:af) (k:IntKind) (n:Int):iu h (.int k n)=dE h (.int k n):=rfl
theorem hG (h:af) (k:IntKind) (n:Int):jl h (.int k n)=dE h (.int k n):=rfl
theorem hH (h:af) (b:Bool):dE h (.bool b)=some (.bool b,[]):=rfl
theorem hI (h:af) (b:Bool):iu h (.bool b)=dE h (.bool b):=rfl
theorem hJ (h:af) (b:Bool):jl h (.bool b)=dE h (.bool b):=rfl
theorem hK (h:af) (b:ByteArray):dE h (.str b)=some (.str b,[]):=rfl
theorem hL (h:af) (b:ByteArray):iu h (.str b)=dE h (.str b):=rfl
theorem hM (h:af) (b:ByteArray):jl h (.str b)=dE h (.str b):=rfl
theorem hN (h:af) (xs:List J) (e:Bool):dE h (.sl xs e)=some (.sl xs e,[]):=rfl
theorem hO (h:af) (xs:List J) (e:Bool):iu h (.sl xs e)=dE h (.sl xs e):=rfl
theorem hP (h:af) (xs:List J) (e:Bool):jl h (.sl xs e)=dE h (.sl xs e):=rfl
theorem fJ (h:af) (i o l c:Nat):dE h (.ref i o l c)=match h.cells i with
 | some blk=>if o+l<=blk.length/\(blk.all J.dJ)=true then some (.sl ((blk.drop o).take l) false,[i]) else none
 | none=>none:=rfl
theorem hQ (h:af) (i o l c:Nat):iu h (.ref i o l c)=dE h (.ref i o l c):=rfl
theorem hR (h:af) (i o l c:Nat):jl h (.ref i o l c)=dE h (.ref i o l c):=rfl
theorem hS (h:af):dE h (.nilfn)=some (.nilfn,[]):=rfl
theorem hT (h:af):iu h (.nilfn)=dE h (.nilfn):=rfl
theorem hU (h:af):jl h (.nilfn)=dE h (.nilfn):=rfl
theorem hV (h:af) (m:List (Int × FuncId)):dE h (.mp m)=some (.mp m,[]):=rfl
theorem hW (h:af) (m:List (Int × FuncId)):iu h (.mp m)=dE h (.mp m):=rfl
theorem hX (h:af) (m:List (Int × FuncId)):jl h (.mp m)=dE h (.mp m):=rfl
theorem hY (h:af) (f:FuncId) (x y:List J):dE h (.fn f x y)=none:=rfl
theorem hZ (h:af) (f:FuncId) (x y:List J):iu h (.fn f x y)=dE h (.fn f x y):=rfl
theorem h0 (h:af) (f:FuncId) (x y:List J):jl h (.fn f x y)=dE h (.fn f x y):=rfl
theorem h1 (h:af) (i j k:Nat):dE h (.ptr i j k)=none:=rfl
theorem h3 (h:af) (i j k:Nat):iu h (.ptr i j k)=dE h (.ptr i j k):=rfl
theorem h4 (h:af) (i j k:Nat):jl h (.ptr i j k)=dE h (.ptr i j k):=rfl
theorem h5 (h:af) (v:J):dE h (.eV v)=none:=rfl
theorem h6 (h:af) (v:J):iu h (.eV v)=dE h (.eV v):=rfl
theorem h7 (h:af) (v:J):jl h (.eV v)=dE h (.eV v):=rfl
theorem h8 (h:af):dE h (.undef)=none:=rfl
theorem h9 (h:af):iu h (.undef)=dE h (.undef):=rfl
theorem h_ (h:af):jl h (.undef)=dE h (.undef):=rfl
theorem ia (h:af) (cs:List J):iu h (.agg cs)=(ey h cs).map fun(jE,a)=>(.agg jE,a):=rfl
theorem ib (h:af) (cs:List J):jl h (.agg cs)=(ey h cs).map fun(jE,a)=>(.agg jE,a):=rfl
theorem ic (h:af) (cs:List J):jl h (.bD cs)=(eh h cs).map fun(jE,a)=>(.bD jE,a):=rfl
def jL (r sz bytes:Nat) (h:af) (x y:J):Option (J × af × dV):=(elems h y).bind fun ys=>
    if 0<sz/\0<bytes/\(ys.all fun e=>e.cells.length == sz&&e.cells.all J.ch)=true then
     match x with
     | .sl xs ex=>if ys.length=0 then some (.sl xs ex,h,if kg y then .pure else .wr) else if ex=true/\(xs.length+ys.length)*bytes<=35184372088832/\0<ys.length/\(xs.all fun e=>e.cells.length == sz)=true
         then some (.ref r 0 (xs.length+ys.length) (xs.length+ys.length),h.new r (xs++ys),if kg y then .fs else .wr) else none
     | .ref id off len cap=>if ys.length=0 then some (.ref id off len cap,h,if kg y then .pure else .wr) else if h.shut id=true then none else (h.cells id).bind fun blk=>
         if off+len<=blk.length/\(len+ys.length)*bytes<=35184372088832/\0<ys.length/\(blk.all fun e=>e.cells.length == sz)=true then
          if len+ys.length<=cap then
           if off+cap<=blk.length then some (.ref id off (len+ys.length) cap,h.new id (blk.take (off+len)++ys++blk.drop (off+len+ys.length)),.wr) else none
          else if off=0/\0<len then some (.ref r 0 (len+ys.length) (len+ys.length),{h with cells:=aw (aw h.cells id none) r (some (blk.take len++ys))},.wr) else none
         else none
     | _=>none
    else none
theorem ie (bb r:Nat) (bh:a6->J) (h:af) (sz bytes:Nat) (x y:a6):evalOp bb r bh h (.app sz bytes x y)=jL r sz bytes h (bh x) (bh y):=by rfl
def cb (sz:Nat) (h:af) (v:J) (xs:List J):Prop:=
 (∀j,h.next<=j->h.shut j=false)/\
 ((xs= []/\v= .sl [] true)\/(0<xs.length/\∃q,v= .ref q 0 xs.length xs.length/\h.cells q=some xs/\h.shut q=false/\q<h.next/\(xs.all fun e=>e.cells.length == sz)=true))
def j1 (r:Nat) (h:af) (v:J) (zs:List J):af:=match v with
 | .ref q _ _ _=>{h with cells:=aw (aw h.cells q none) r (some zs)}
 | _=>h.new r zs
def yt (v:J):dV:=match v with
 | .ref .. => .wr
 | _=> .fs
theorem fU (r:Nat) (h:af) (v:J) (zs:List J):(j1 r h v zs).cells r=some zs:=by
 unfold j1;split<;>simp[af.new,aw]
theorem ig (r:Nat) (h:af) (v:J) (zs:List J):(j1 r h v zs).next=h.next:=by
 unfold j1;split<;>rfl
theorem ih (r:Nat) (h:af) (v:J) (zs:List J):(j1 r h v zs).shut=h.shut:=by
 unfold j1;split<;>rfl
theorem ij (r:Nat) (h:af) (v:J) (zs:List J):(j1 r h v zs).a7=h.a7:=by
 unfold j1;split<;>rfl
theorem RK {r:Nat} {h:af} {v:J} {zs:List J} {q:Nat} (U:q≠r) (h2:∀a b c,v≠ .ref q a b c):(j1 r h v zs).cells q=h.cells q:=by
 unfold j1
 split
 · rename_i l2 a b c
   have:q≠l2:=fun e=>h2 a b c (by rw[e])
   simp[aw,U,this]
 · simp[af.new,aw,U]
theorem qX {sz:Nat} {h:af} {v:J} {xs:List J} (RL:cb sz h v xs) (df:0<sz) {bytes:Nat} (aa:0<bytes) {ys:List J} (ki:0<ys.length) (a2:(ys.all fun e=>e.cells.length == sz&&e.cells.all J.ch)=true)
 (aG:(xs.length+ys.length)*bytes<=35184372088832) (m r:Nat) (e:Bool):
 jL r sz bytes ⟨h.cells,h.shut,m,h.a7⟩ v (.sl ys e)=some (.ref r 0 (xs.length+ys.length) (xs.length+ys.length),j1 r ⟨h.cells,h.shut,m,h.a7⟩ v (xs++ys),yt v):=by
 have aQ:¬ys.length=0:=by omega
 unfold jL
 simp only[elems,Option.bind_some,if_pos (And.intro df (And.intro aa a2))]
 rcases RL.2 with⟨rfl,rfl⟩|⟨U,q,rfl,h2,aN,a8,cr⟩
 · simp only[if_neg aQ,kg,if_true]
   rw[if_pos ⟨trivial,aG,ki,rfl⟩]
   rfl
 · have eF:¬xs.length+ys.length<=xs.length:=by omega
   simp only[if_neg aQ,aN,Bool.false_eq_true,if_false,h2,Option.bind_some]
   rw[if_pos ⟨by omega,aG,ki,cr⟩,if_neg eF,if_pos ⟨trivial,U⟩]
   simp only[List.take_length,j1,yt]
theorem cb.mono {sz:Nat} {h h':af} {v:J} {xs:List J} (o:cb sz h v xs) (I:∀q,q<h.next->h'.cells q=h.cells q) (aE:∀q,h'.shut q=h.shut q) (az:h.next<=h'.next):cb sz h' v xs:=by
 refine⟨fun j aO=>by rw[aE];exact o.1 j (by omega),?_⟩
 rcases o.2 with o|⟨U,q,h2,aN,a8,cr,eF⟩
 · exact .inl o
 · exact .inr ⟨U,q,h2,by rw[I q cr];exact aN,by rw[aE q];exact a8,by omega,eF⟩
theorem cb.bump {sz:Nat} {h:af} {v:J} {xs:List J} (o:cb sz h v xs) (m:Nat) (hm:h.next<=m):cb sz ⟨h.cells,h.shut,m,h.a7⟩ v xs:=o.mono (fun _ _=>rfl) (fun _=>rfl) hm
theorem cb.nil {sz:Nat} {h:af} (aE:∀j,h.next<=j->h.shut j=false):cb sz h (.sl [] true) []:=⟨aE,.inl ⟨rfl,rfl⟩⟩
theorem cb.app {sz:Nat} {h:af} {v:J} {xs:List J} (o:cb sz h v xs) {ys:List J} (ki:0<ys.length) (a2:(ys.all fun e=>e.cells.length == sz)=true) (m lj r:Nat) (p l1:Nat->Option fr) (aU:h.next<=r) (hm:r<lj):
 cb sz ⟨(j1 r ⟨h.cells,h.shut,m,p⟩ v (xs++ys)).cells,h.shut,lj,l1⟩ (.ref r 0 (xs.length+ys.length) (xs.length+ys.length)) (xs++ys):=by
 refine⟨fun j aO=>o.1 j (Nat.le_trans (Nat.le_trans aU (Nat.le_of_lt hm)) aO),.inr ⟨by simp;omega,r,by simp,fU ..,o.1 r aU,hm,?_⟩⟩
 rw[List.all_append,a2]
 rcases o.2 with⟨rfl,_⟩|⟨_,_,_,_,_,_,eF⟩
 · rfl
 · rw[eF];rfl
theorem cb.other {sz:Nat} {h:af} {v:J} {xs:List J} (o:cb sz h v xs) {m:Nat} {p:Nat->Option fr} {r q:Nat} {zs:List J} (U:q≠r) (h2:∀a b c,v≠ .ref q a b c):(j1 r ⟨h.cells,h.shut,m,p⟩ v zs).cells q=h.cells q:=RK U h2
theorem cb.out {sz:Nat} {h:af} {v:J} {xs:List J} (o:cb sz h v xs) (aa:(xs.all J.dJ)=true):∃ids,∀m p,iu ⟨h.cells,h.shut,m,p⟩ v=some (.sl xs (decide (xs= [])),ids)/\jl ⟨h.cells,h.shut,m,p⟩ v=some (.sl xs (decide (xs= [])),ids)/\dE ⟨h.cells,h.shut,m,p⟩ v=some (.sl xs (decide (xs= [])),ids):=by
 rcases o.2 with⟨rfl,rfl⟩|⟨U,q,rfl,aN,a8,cr,eF⟩
 · exact ⟨[],fun m p=>⟨rfl,rfl,rfl⟩⟩
 · refine⟨[q],fun m p=>?_⟩
   have:xs≠ []:=by rintro rfl;simp at U
   simp only[iu,dE,jl,aN]
   rw[if_pos ⟨by omega,aa⟩]
   simp[this]
theorem cb.len {sz:Nat} {h:af} {v:J} {xs:List J} (o:cb sz h v xs) (bb r:Nat) (bh:a6->J) (h':af) (x:a6) (ae:bh x=v):evalOp bb r bh h' (.len false x)=some (.int .i64 xs.length,h',.pure):=by
 rcases o.2 with⟨rfl,rfl⟩|⟨U,q,rfl,aN,a8,cr,eF⟩<;>simp[evalOp,ae]
section hand
variable {P:Program} {ops:Array Oper} {Q:Exit->Act->World->Prop} {a:Act} {w a5:World} {rest:List Oper} {o:Oper}
end hand
end Go.Eng
