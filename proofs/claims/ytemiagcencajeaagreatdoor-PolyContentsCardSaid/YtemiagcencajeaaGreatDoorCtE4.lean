import Derived.Test.YtemiagcencajeaaGreatDoorCtE3
import Derived.ProofKit
import Derived.DataElems
import Derived.LaidMore
import Derived.OpenShut
import Derived.Handed
import Derived.LaidLaws
import Derived.MakeChecks
import Derived.Tactics
set_option linter.unusedSimpArgs false
set_option linter.unusedVariables false
set_option linter.unusedSectionVars false
namespace Go.Eng
open Go Go.RowKit
abbrev lM:=kv->List J->aA->Option (J × aA)
def qN (a b:lM):Prop:=∀f args h r,a f args h=some r->b f args h=some r
section
variable {G:Nat->Option J} {Φ:FuncId->Option bn} {tab:FuncId->Option (List J->Option J)} {Y:List c4}
theorem DW {a b:lM} (e_:qN a b) {bs r:Nat} {e:bx} {s:a'} {x:a' × dL} (h:dj G tab a bs r e s=some x):dj G tab b bs r e s=some x:=by
 unfold dj at h|-
 split at h
 · split at h<;>try(cases h;done)
   · rename_i n first caps bI
     try simp only
     split at h
     · rename_i T cJ
       try simp only[cJ]
       exact h
     · rename_i cJ
       try simp only[cJ]
       obtain⟨p,a4,h⟩:=Option.map_eq_some_iff.1 h
       rw[e_ _ _ _ _ a4];exact congrArg some h
   · obtain⟨p,a4,h⟩:=Option.map_eq_some_iff.1 h
     try simp only
     rw[e_ _ _ _ _ a4];exact congrArg some h
 · exact h
theorem DX {a b:lM} (e_:qN a b) {bs r:Nat} {e:bx} {s:a'} {x:a' × dL} (h:c7 G tab a bs r e s=some x):c7 G tab b bs r e s=some x:=by
 unfold c7 at h|-
 split at h
 · exact DW e_ h
 · split at h
   · split at h
     · rename_i aj
       simp only[if_pos aj]
       exact DW e_ h
     · rename_i aj
       simp only[if_neg aj];exact h
   · exact h
   · cases h
theorem zn {a b:lM} (e_:qN a b) {bs:Nat}:∀ {L:List (bx × Nat)} {s:a'} {x:a' × List dL},df G tab a bs L s=some x->df G tab b bs L s=some x
 | [],s,x,h=>h
 | (e,i)::L,s,x,h=>by
   simp only[df] at h|-
   split at h<;>try(cases h;done)
   rename_i s1 c ab
   rw[DX e_ ab]
   simp only
   obtain⟨p,a4,h⟩:=Option.map_eq_some_iff.1 h
   rw[zn e_ a4];exact congrArg some h
theorem LM {a b:lM} (e_:qN a b) {jW:Bool} {ops:List bx} {hz:List Nat} {s ax:a'} (h:eQ G tab a jW ops hz s=some ax):eQ G tab b jW ops hz s=some ax:=by
 unfold eQ at h|-
 split at h<;>try(cases h;done)
 rename_i s1 cs ab
 rw[zn e_ ab];exact h
theorem zo {n:Nat} {f:FuncId} {args:List J} {h:aA} {v:J} {fn:bn} {ex:de} {ax:a'} (bI:Φ f=some fn) (he:exec G Φ tab n Y fn.body ⟨bj args,h⟩=some (ex,ax)) (hex:ex= .normal\/ex= .ret) (aR:eB ax.h ax.F fn.res=some v):
 jX G Φ tab n Y f args h=some (v,ax.h):=by
 unfold jX
 rw[bI]
 rcases hex with rfl|rfl<;>simp only[he,aR,Option.map_some]
theorem uQ {n id:Nat} {args:List J} {h av:aA} {v:J} {L:c4} {Y':List c4} {s1:a'} {ex:de} {ax:a'} (a8:ns id Y=some (L,Y')) (hlen:L.ps.length=args.length) (ab:exec G Φ tab n Y' L.dA ⟨md L.F L.ps args,h⟩=some (.normal,s1))
 (a4:s1.h.bm id=some .ready) (h2:exec G Φ tab n Y' L.body ⟨s1.F,s1.h.set id (some .busy)⟩=some (ex,ax)) (aj:ax.h.bm id=some .busy)
 (aX:(ex= .normal/\v= .bool true/\av=ax.h.set id (some .ready))\/(ex≠ .normal/\v= .bool false/\av=ax.h.set id (some (.done ex)))):nG G Φ tab n Y id args h=some (v,av):=by
 unfold nG
 simp only[a8,if_pos hlen,ab,a4,h2,aj]
 rcases aX with⟨rfl,rfl,rfl⟩|⟨bP,rfl,rfl⟩
 · rfl
 · cases ex with
   | normal=>exact absurd rfl bP
   | exit i=>rfl
   | ret=>rfl
theorem zp {n:Nat} {f:bf} {ps:List Nat} {dA body:dw} {s:a'} {ex:de} {g:FuncId} {first caps:List J} {v:J} {av:aA} {p:fw} (bI:f.ev G s.F= .fn g first caps)
 (I:jX G Φ tab n (⟨s.h.next,s.F,ps,dA,body⟩::Y) g (first++ [.fl s.h.next]++caps) {s.h with next:=s.h.next+1,bm:=aF s.h.bm s.h.next (some .ready)}=some (v,av))
 (a4:av.bm s.h.next=some p) (lv:(p= .ready/\ex= .normal)\/p= .done ex):exec G Φ tab (n+1) Y (.k4 f ps dA body) s=some (ex,⟨s.F,av.set s.h.next none⟩):=by
 obtain⟨fn,e,ax,l2,he,hex,aR,rfl⟩:=pQ I
 rw[fI]
 rcases hex with rfl|rfl
 · simp only[bI,l2,he,aR,a4]
   rcases lv with⟨rfl,rfl⟩|rfl<;>rfl
 · simp only[bI,l2,he,aR,a4]
   rcases lv with⟨rfl,rfl⟩|rfl<;>rfl
theorem sw {m9:FuncId->Option bn} (aG:∀f fn,m9 f=some fn->Φ f=some fn):∀(n m:Nat),n<=m->∀(Y:List c4) (c:dw) (s:a') (x:de × a'),exec G m9 tab n Y c s=some x->exec G Φ tab m Y c s=some x
 | 0,_,_,Y,c,s,x,h=>by unfold exec at h;cases h
 | n+1,0,m_,_,_,_,_,_=>absurd m_ (by omega)
 | n+1,m+1,m_,Y,c,s,x,h=>by
   have bC:=sw aG n m (by omega)
   have a6:∀ {Y:List c4} {f:FuncId} {args:List J} {h:aA} {r:J × aA},jX G m9 tab n Y f args h=some r->jX G Φ tab m Y f args h=some r:=by
    intro Y f args h r I
    obtain⟨v,av⟩:=r
    obtain⟨fn,ex,ax,bI,he,hex,aR,rfl⟩:=pQ I
    exact zo (aG _ _ bI) (bC _ _ _ _ he) hex aR
   have hle:qN (kh G m9 tab n Y) (kh G Φ tab m Y):=by
    intro t args h r I
    obtain⟨v,av⟩:=r
    cases t with
    | fn f=>exact a6 I
    | kI id=>
      obtain⟨L,Y',s1,ex,ax,a8,hlen,ab,a4,h2,aj,aX⟩:=so I
      exact uQ a8 hlen (bC _ _ _ _ ab) a4 (bC _ _ _ _ h2) aj aX
   have aJ:=h
   rw[fI] at h
   cases c with
   | skip=>rw[fI];exact h
   | ret=>rw[fI];exact h
   | exit id=>rw[fI];exact h
   | region jW ops hz=>
     rw[fI]
     simp only at h|-
     obtain⟨s1,ab,h⟩:=Option.map_eq_some_iff.1 h
     rw[LM hle ab];exact congrArg some h
   | seq a b=>
     rw[fI]
     simp only at h|-
     split at h
     · rename_i s1 ab
       rw[bC _ _ _ _ ab];exact bC _ _ _ _ h
     · rename_i bP
       rw[bC _ _ _ _ h]
       obtain⟨ex,s1⟩:=x
       cases ex with
       | normal=>exact absurd h (bP s1)
       | exit i=>rfl
       | ret=>rfl
   | cond y a b=>
     rw[fI]
     simp only at h|-
     split at h<;>try(cases h;done)
     rename_i t a7
     split at h
     · rename_i qK;simp only[if_pos qK];exact bC _ _ _ _ h
     · rename_i qK;simp only[if_neg qK];exact bC _ _ _ _ h
   | block id b=>
     rw[fI]
     simp only at h|-
     split at h
     · rename_i i s1 ab
       rw[bC _ _ _ _ ab];exact h
     · rename_i bP
       rw[bC _ _ _ _ h]
       obtain⟨ex,s1⟩:=x
       cases ex with
       | normal=>rfl
       | exit i=>exact absurd h (bP i s1)
       | ret=>rfl
   | loop b=>
     rw[fI]
     simp only at h|-
     split at h
     · rename_i s1 ab
       rw[bC _ _ _ _ ab];exact bC _ _ _ _ h
     · rename_i bP
       rw[bC _ _ _ _ h]
       obtain⟨ex,s1⟩:=x
       cases ex with
       | normal=>exact absurd h (bP s1)
       | exit i=>rfl
       | ret=>rfl
   | k4 f ps dA body=>
     obtain⟨ex,ax⟩:=x
     obtain⟨g,first,caps,v,av,p,bI,I,a4,lv,rfl⟩:=wi aJ
     exact zp bI (a6 I) a4 lv
theorem sx {n m:Nat} (m_:n<=m) {c:dw} {s:a'} {x:de × a'} (h:exec G Φ tab n Y c s=some x):exec G Φ tab m Y c s=some x:=sw (fun _ _ h=>h) n m m_ Y c s x h
theorem LN {m9:FuncId->Option bn} (aG:∀f fn,m9 f=some fn->Φ f=some fn) {n m:Nat} (m_:n<=m):qN (kh G m9 tab n Y) (kh G Φ tab m Y):=by
 intro t args h r I
 obtain⟨v,av⟩:=r
 cases t with
 | fn f=>
   obtain⟨fn,ex,ax,bI,he,hex,aR,rfl⟩:=pQ I
   exact zo (aG _ _ bI) (sw aG _ _ m_ _ _ _ _ he) hex aR
 | kI id=>
   obtain⟨L,Y',s1,ex,ax,a8,hlen,ab,a4,h2,aj,aX⟩:=so I
   exact uQ a8 hlen (sw aG _ _ m_ _ _ _ _ ab) a4 (sw aG _ _ m_ _ _ _ _ h2) aj aX
theorem uR {n m:Nat} (m_:n<=m):qN (kh G Φ tab n Y) (kh G Φ tab m Y):=LN (fun _ _ h=>h) m_
def ck (G:Nat->Option J) (Φ:FuncId->Option bn) (tab:FuncId->Option (List J->Option J)) (Y:List c4) (c:dw) (s:a') (Q:de->a'->Prop):Prop:=∃n ex ax,exec G Φ tab n Y c s=some (ex,ax)/\Q ex ax
def qO (Q:de->a'->Prop) (K:a'->Prop):de->a'->Prop
 | .normal,s=>K s
 | ex,s=>Q ex s
theorem hF (Q:de->a'->Prop) (K:a'->Prop) (s:a'):qO Q K .normal s=K s:=rfl
theorem hG (Q:de->a'->Prop) (K:a'->Prop) (s:a'):qO Q K .ret s=Q .ret s:=rfl
theorem hH (Q:de->a'->Prop) (K:a'->Prop) (i:Nat) (s:a'):qO Q K (.exit i) s=Q (.exit i) s:=rfl
def qP (id:Nat) (Q:de->a'->Prop):de->a'->Prop
 | .exit i,s=>if i=id then Q .normal s else Q (.exit i) s
 | ex,s=>Q ex s
theorem hI (id:Nat) (Q:de->a'->Prop) (s:a'):qP id Q .normal s=Q .normal s:=rfl
theorem hJ (id:Nat) (Q:de->a'->Prop) (s:a'):qP id Q .ret s=Q .ret s:=rfl
theorem hK (id i:Nat) (Q:de->a'->Prop) (s:a'):qP id Q (.exit i) s=if i=id then Q .normal s else Q (.exit i) s:=rfl
theorem ck.mono {c:dw} {s:a'} {Q DY:de->a'->Prop} (h:ck G Φ tab Y c s Q) (bc:∀ex s,Q ex s->DY ex s):ck G Φ tab Y c s DY:=
 let ⟨n,ex,ax,e,q⟩:=h;⟨n,ex,ax,e,bc _ _ q⟩
theorem aM {s:a'} {Q:de->a'->Prop} (h:Q .normal s):ck G Φ tab Y .skip s Q:=⟨1,.normal,s,rfl,h⟩
theorem aH {s:a'} {Q:de->a'->Prop} (h:Q .ret s):ck G Φ tab Y .ret s Q:=⟨1,.ret,s,rfl,h⟩
theorem aQ {i:Nat} {s:a'} {Q:de->a'->Prop} (h:Q (.exit i) s):ck G Φ tab Y (.exit i) s Q:=⟨1,.exit i,s,rfl,h⟩
theorem aC {a b:dw} {s:a'} {Q:de->a'->Prop} (h:ck G Φ tab Y a s (qO Q fun s1=>ck G Φ tab Y b s1 Q)):ck G Φ tab Y (.seq a b) s Q:=by
 obtain⟨n,ex,s1,ab,h2⟩:=h
 cases ex with
 | normal=>
   obtain⟨m,ex,s2,aX,aW⟩:=h2
   refine⟨max n m+1,ex,s2,?_,aW⟩
   rw[fI]
   simp only[sx (Nat.le_max_left n m) ab]
   exact sx (Nat.le_max_right n m) aX
 | exit i=>exact⟨n+1,.exit i,s1,by rw[fI];simp only[ab],h2⟩
 | ret=>exact⟨n+1,.ret,s1,by rw[fI];simp only[ab],h2⟩
theorem aL {x:bf} {a b:dw} {s:a'} {Q:de->a'->Prop} (t:Bool) (a7:x.ev G s.F= .bool t) (ab:t=true->ck G Φ tab Y a s Q) (h2:t=false->ck G Φ tab Y b s Q):ck G Φ tab Y (.cond x a b) s Q:=by
 cases t with
 | true=>
   obtain⟨n,ex,s1,e,q⟩:=ab rfl
   exact⟨n+1,ex,s1,by rw[fI];simp only[a7,if_true];exact e,q⟩
 | false=>
   obtain⟨n,ex,s1,e,q⟩:=h2 rfl
   exact⟨n+1,ex,s1,by rw[fI];simp only[a7,Bool.false_eq_true,if_false];exact e,q⟩
theorem aO {id:Nat} {b:dw} {s:a'} {Q:de->a'->Prop} (h:ck G Φ tab Y b s (qP id Q)):ck G Φ tab Y (.block id b) s Q:=by
 obtain⟨n,ex,s1,e,q⟩:=h
 cases ex with
 | normal=>exact⟨n+1,.normal,s1,by rw[fI];simp only[e],q⟩
 | ret=>exact⟨n+1,.ret,s1,by rw[fI];simp only[e],q⟩
 | exit i=>
   by_cases ag:i=id
   · exact⟨n+1,.normal,s1,by rw[fI];simp only[e,if_pos ag],by simpa[qP,ag] using q⟩
   · exact⟨n+1,.exit i,s1,by rw[fI];simp only[e,if_neg ag],by simpa[qP,ag] using q⟩
theorem LO {b:dw} {Q:de->a'->Prop} (a3:Nat->a'->Prop) (round:∀k s,a3 k s->ck G Φ tab Y b s (qO Q fun s1=>∃j,j<k/\a3 j s1)):∀(k:Nat) (s:a'),a3 k s->ck G Φ tab Y (.loop b) s Q:=by
 intro k
 induction k using Nat.strongRecOn with
 | _ k bC=>
   intro s oY
   obtain⟨n,ex,s1,e,q⟩:=round k s oY
   cases ex with
   | normal=>
     obtain⟨j,aZ,LP⟩:=q
     obtain⟨m,ex,s2,aB,dB⟩:=bC j aZ s1 LP
     refine⟨max n m+1,ex,s2,?_,dB⟩
     rw[fI]
     simp only[sx (Nat.le_max_left n m) e]
     exact sx (Nat.le_max_right n m) aB
   | exit i=>exact⟨n+1,.exit i,s1,by rw[fI];simp only[e],q⟩
   | ret=>exact⟨n+1,.ret,s1,by rw[fI];simp only[e],q⟩
def LQ:lM:=fun _ _ _=>none
def uS (G:Nat->Option J) (Φ:FuncId->Option bn) (tab:FuncId->Option (List J->Option J)) (Y:List c4) (fa:lM):Prop:=∀t args h r,fa t args h=some r->∃n,kh G Φ tab n Y t args h=some r
theorem aN:uS G Φ tab Y LQ:=fun _ _ _ _ h=>by cases h
theorem DZ {fa:lM} (qQ:uS G Φ tab Y fa) {bs:Nat}:∀ {L:List (bx × Nat)} {s:a'} {x:a' × List dL},df G tab fa bs L s=some x->∃n,df G tab (kh G Φ tab n Y) bs L s=some x
 | [],s,x,h=>⟨0,h⟩
 | (e,i)::L,s,x,h=>by
   simp only[df] at h
   split at h<;>try(cases h;done)
   rename_i s1 c ab
   obtain⟨p,a4,ak⟩:=Option.map_eq_some_iff.1 h
   obtain⟨n,ar⟩:=DZ qQ a4
   have one:∃m,c7 G tab (kh G Φ tab m Y) bs (bs+i) e s=some (s1,c):=by
    have go:∀ {y:a' × dL},dj G tab fa bs (bs+i) e s=some y->∃m,dj G tab (kh G Φ tab m Y) bs (bs+i) e s=some y:=by
     intro y bd
     unfold dj at bd
     split at bd
     · rename_i f args he
       split at bd<;>try(cases bd;done)
       · rename_i q first caps bI
         split at bd
         · rename_i T cJ
           refine⟨0,?_⟩
           unfold dj;simp only[he,bI,cJ];exact bd
         · rename_i cJ
           obtain⟨v,aR,bd⟩:=Option.map_eq_some_iff.1 bd
           obtain⟨m,hm⟩:=qQ _ _ _ _ aR
           refine⟨m,?_⟩
           unfold dj;simp only[he,bI,cJ,hm];exact congrArg some bd
       · rename_i id bI
         obtain⟨v,aR,bd⟩:=Option.map_eq_some_iff.1 bd
         obtain⟨m,hm⟩:=qQ _ _ _ _ aR
         refine⟨m,?_⟩
         unfold dj;simp only[he,bI,hm];exact congrArg some bd
     · rename_i bP
       refine⟨0,?_⟩
       unfold dj
       split
       · rename_i f as he;exact absurd he (bP f as)
       · exact bd
    unfold c7 at ab
    split at ab
    · rename_i bp
      obtain⟨m,hm⟩:=go ab
      exact⟨m,by unfold c7;rw[bp];exact hm⟩
    · rename_i t want bp
      split at ab<;>try(cases ab;done)
      rotate_left
      · rename_i aj
        exact⟨0,by unfold c7;simp only[bp,aj];exact ab⟩
      rename_i b aj
      split at ab
      · rename_i nB
        obtain⟨m,hm⟩:=go ab
        exact⟨m,by unfold c7;simp only[bp,aj,if_pos nB];exact hm⟩
      · rename_i nB
        exact⟨0,by unfold c7;simp only[bp,aj,if_neg nB];exact ab⟩
   obtain⟨m,hm⟩:=one
   refine⟨max m n,?_⟩
   simp only[df,DX (uR (Nat.le_max_left m n)) hm]
   rw[zn (uR (Nat.le_max_right m n)) ar]
   exact congrArg some ak
theorem LR {fa:lM} (qQ:uS G Φ tab Y fa) {jW:Bool} {ops:List bx} {hz:List Nat} {s:a'} {Q:de->a'->Prop} (ax:a') (h:eQ G tab fa jW ops hz s=some ax) (bc:Q .normal ax):ck G Φ tab Y (.region jW ops hz) s Q:=by
 unfold eQ at h
 split at h<;>try(cases h;done)
 rename_i s1 cs ab
 split at h<;>try(cases h;done)
 rename_i hC
 cases h
 obtain⟨n,ar⟩:=DZ qQ ab
 refine⟨n+1,.normal,_,?_,bc⟩
 rw[fI]
 simp only[eQ,ar,if_pos hC,Option.map_some]
def gZ (G:Nat->Option J) (tab:FuncId->Option (List J->Option J)) (fa:lM) (jW:Bool) (ops:List bx) (hz:List Nat) (s:a') (K:a'->Prop):Prop:=
 match df G tab fa s.h.next ops.zipIdx ⟨s.F,{s.h with next:=s.h.next+ops.length}⟩ with
 | some (ax,cs)=>(jW=true->rY cs hz=true)/\K ax
 | none=>False
theorem aD {fa:lM} (qQ:uS G Φ tab Y fa) {jW:Bool} {ops:List bx} {hz:List Nat} {s:a'} {Q:de->a'->Prop} (h:gZ G tab fa jW ops hz s (Q .normal)):ck G Φ tab Y (.region jW ops hz) s Q:=by
 unfold gZ at h
 split at h
 · rename_i ax cs ab
   refine LR qQ ax ?_ h.2
   unfold eQ
   rw[ab]
   have:(!jW||rY cs hz)=true:=by
    cases jW with
    | false=>rfl
    | true=>simpa using h.1 rfl
   simp only[this,if_true]
 · exact h.elim
def hL (res:List lX) (v:J) (ex:de) (s:a'):Prop:=
 (match ex with
  | .exit _=>False
  | _=>True)/\((eB s.h s.F res).bind fun u=>(gR s.h u).map (·.1))=some v
def LS (id:Nat) (F:Nat->J) (res:List lX) (Q:de->a'->Prop) (ex:de) (s:a'):Prop:=
 (match ex with
  | .exit _=>False
  | _=>True)/\(∃v,eB s.h s.F res=some v)/\(match s.h.bm id with
  | some .ready=>Q .normal ⟨F,s.h.set id none⟩
  | some (.done e)=>Q e ⟨F,s.h.set id none⟩
  | _=>False)
theorem zq {f:bf} {ps:List Nat} {dA body:dw} {s:a'} {Q:de->a'->Prop} {g:FuncId} {first caps:List J} {fn:bn} (bI:f.ev G s.F= .fn g first caps) (bp:Φ g=some fn)
 (h:ck G Φ tab (⟨s.h.next,s.F,ps,dA,body⟩::Y) fn.body ⟨bj (first++ [.fl s.h.next]++caps),{s.h with next:=s.h.next+1,bm:=aF s.h.bm s.h.next (some .ready)}⟩ (LS s.h.next s.F fn.res Q)):ck G Φ tab Y (.k4 f ps dA body) s Q:=by
 obtain⟨n,ex,ax,e,dy,⟨v,aR⟩,ga⟩:=h
 have hex:ex= .normal\/ex= .ret:=by
  cases ex with
  | normal=>exact .inl rfl
  | ret=>exact .inr rfl
  | exit i=>exact dy.elim
 have I:=zo bp e hex aR
 split at ga
 · rename_i a4
   exact⟨n+1,.normal,_,zp bI I a4 (.inl ⟨rfl,rfl⟩),ga⟩
 · rename_i e' a4
   exact⟨n+1,e',_,zp bI I a4 (.inr rfl),ga⟩
 · exact ga.elim
end
def dn (l:List (FuncId × (List J->Option J))):FuncId->Option (List J->Option J):=fun f=>l.lookup f
theorem dr {P:Program} {G:Nat->Option J}:∀ {l:List (FuncId × (List J->Option J))},(∀p∈l,br P G p.1 p.2)->∀f T,dn l f=some T->br P G f T
 | [],_,f,T,h=>by cases h
 | (g,la)::l,aV,f,T,h=>by
   unfold dn at h
   rw[List.lookup_cons] at h
   by_cases e:f=g
   · subst e
     simp only[BEq.rfl] at h
     cases h
     exact aV (f,la) (by simp)
   · have:(f == g)=false:=by simpa using e
     simp only[this] at h
     exact dr (fun p a4=>aV p (by simp[a4])) f T h
end Go.Eng
namespace Go.Eng
open Go Go.RowKit
section
variable {G:Nat->Option J} {Φ m9:FuncId->Option bn} {tab:FuncId->Option (List J->Option J)} {Y:List c4}
theorem D0 (aG:∀f fn,m9 f=some fn->Φ f=some fn) (n:Nat) (Y:List c4) (c:dw) (s:a') (x:de × a') (h:exec G m9 tab n Y c s=some x):exec G Φ tab n Y c s=some x:=sw aG n n (Nat.le_refl _) Y c s x h
theorem D1 (aG:∀f fn,m9 f=some fn->Φ f=some fn) {n:Nat} {f:FuncId} {args:List J} {v:J} (h:lZ G m9 tab n f args=some v):lZ G Φ tab n f args=some v:=by
 unfold lZ at h|-
 obtain⟨p,ab,h2⟩:=Option.bind_eq_some_iff.1 h
 unfold vF at ab|-
 split at ab<;>try(cases ab;done)
 rename_i fn bI
 simp only[aG _ _ bI]
 split at ab
 · rename_i ax he
   rw[D0 aG _ _ _ _ _ he];simp only[ab];exact h2
 · rename_i ax he
   rw[D0 aG _ _ _ _ _ he];simp only[ab];exact h2
 · cases ab
noncomputable def fi (G:Nat->Option J) (Φ:FuncId->Option bn) (tab:FuncId->Option (List J->Option J)) (Y:List c4):lM:=fun f args h=>
 open Classical in if ak:∃r n,kh G Φ tab n Y f args h=some r then some (Classical.choose ak) else none
theorem cr:uS G Φ tab Y (fi G Φ tab Y):=by
 intro f args h r ba
 unfold fi at ba
 split at ba
 · rename_i ak
   cases ba
   exact Classical.choose_spec ak
 · cases ba
theorem wy {f:kv} {args:List J} {h:aA} {r:J × aA} {n:Nat} (ar:kh G Φ tab n Y f args h=some r):fi G Φ tab Y f args h=some r:=by
 have ak:∃r n,kh G Φ tab n Y f args h=some r:=⟨r,n,ar⟩
 unfold fi
 rw[dif_pos ak]
 obtain⟨m,hm⟩:=Classical.choose_spec ak
 congr 1
 have a:=uR (Nat.le_max_left n m) _ _ _ _ ar
 have b:=uR (Nat.le_max_right n m) _ _ _ _ hm
 rw[a] at b
 exact(Option.some.inj b).symm
def kL (res:List lX) (R:J->aA->Prop) (ex:de) (s:a'):Prop:=
 (match ex with
  | .exit _=>False
  | _=>True)/\∃v,eB s.h s.F res=some v/\R v s.h
theorem kM {f:FuncId} {fn:bn} (bI:Φ f=some fn) {args:List J} {h:aA} {R:J->aA->Prop} (he:ck G Φ tab Y fn.body ⟨bj args,h⟩ (kL fn.res R)):∃v av,fi G Φ tab Y (.fn f) args h=some (v,av)/\R v av:=by
 obtain⟨n,ex,ax,e,dy,v,dB,ga⟩:=he
 refine⟨v,ax.h,wy (n:=n) ?_,ga⟩
 show jX G Φ tab n Y f args h=_
 unfold jX
 simp only[bI,e]
 cases ex with
 | exit i=>exact dy.elim
 | normal=>simp only[dB,Option.map_some]
 | ret=>simp only[dB,Option.map_some]
theorem zr {id:Nat} {args:List J} {h:aA} {R:J->aA->Prop} {L:c4} {Y':List c4} (a8:ns id Y=some (L,Y')) (hlen:L.ps.length=args.length)
 (he:ck G Φ tab Y' L.dA ⟨md L.F L.ps args,h⟩ (fun ex s1=>ex= .normal/\s1.h.bm id=some .ready/\ck G Φ tab Y' L.body ⟨s1.F,s1.h.set id (some .busy)⟩ (fun ex ax=>ax.h.bm id=some .busy/\
   (match ex with
    | .normal=>R (.bool true) (ax.h.set id (some .ready))
    | e=>R (.bool false) (ax.h.set id (some (.done e))))))):∃v av,fi G Φ tab Y (.kI id) args h=some (v,av)/\R v av:=by
 obtain⟨n,ex,s1,aq,rfl,a4,m,LU,ax,aB,aj,dI⟩:=he
 have a1:=sx (Nat.le_max_left n m) aq
 have eC:=sx (Nat.le_max_right n m) aB
 cases LU with
 | normal=>exact⟨_,_,wy (f:= .kI id) (n:=max n m) (uQ a8 hlen a1 a4 eC aj (.inl ⟨rfl,rfl,rfl⟩)),dI⟩
 | exit i=>exact⟨_,_,wy (f:= .kI id) (n:=max n m) (uQ a8 hlen a1 a4 eC aj (.inr ⟨by simp,rfl,rfl⟩)),dI⟩
 | ret=>exact⟨_,_,wy (f:= .kI id) (n:=max n m) (uQ a8 hlen a1 a4 eC aj (.inr ⟨by simp,rfl,rfl⟩)),dI⟩
end
def D2 (b:Bool):Option J->Bool
 | some (.bool c)=>c == b
 | _=>false
theorem LV {b:Bool} {x:Option J} (h:D2 b x=true):x=some (.bool b):=by
 unfold D2 at h
 split at h
 · simp at h;rw[h]
 · cases h
def zs (l:List (FuncId × bn)):FuncId->Option bn:=fun f=>l.lookup f
theorem zt {Φ:FuncId->Option bn}:∀ {l:List (FuncId × bn)},(∀p∈l,Φ p.1=some p.2)->∀f fn,zs l f=some fn->Φ f=some fn
 | [],_,f,fn,h=>by cases h
 | (g,la)::l,aV,f,fn,h=>by
   unfold zs at h
   rw[List.lookup_cons] at h
   by_cases e:f=g
   · subst e
     simp only[BEq.rfl] at h
     cases h
     exact aV (f,la) (by simp)
   · have:(f == g)=false:=by simpa using e
     simp only[this] at h
     exact zt (fun p a4=>aV p (by simp[a4])) f fn h
end Go.Eng
namespace Go.Eng
open Go Go.RowKit
def Z (n:Nat):Int:=n
theorem hM (n:Nat):(n:Int)=Z n:=rfl
theorem bY {a b:Nat}:Z a=Z b↔a=b:=by simp only[Z];omega
theorem hj (a b:Nat):(Z a == Z b)=(a == b):=by
 rw[Bool.eq_iff_iff,beq_iff_eq,beq_iff_eq];exact bY
theorem hN (a b:Nat):(Z a != Z b)=(a != b):=by simp only[bne,hj]
theorem hk {a b:Nat}:Z a<Z b↔a<b:=by simp only[Z];omega
theorem hO {a b:Nat}:Z a<=Z b↔a<=b:=by simp only[Z];omega
theorem hP (a:Nat):0<=Z a:=by simp only[Z];omega
theorem fq (a:Nat):¬Z a<0:=by simp only[Z];omega
theorem hQ {a:Nat}:Z a=0↔a=0:=by simp only[Z];omega
theorem fr (a:Nat):(Z a).toNat=a:=rfl
theorem hR {a b:Nat}:Z a<(b:Int)↔a<b:=hk
theorem hS (a b:Nat):(Z a).tmod (Z b)=Z (a%b):=rfl
theorem hT (a b:Nat):(Z a).tdiv (Z b)=Z (a/b):=rfl
theorem gd (a n:Nat):(Z a).fdiv (2^n)=Z (a/2^n):=by
 simp only[Z]
 rw[Int.fdiv_eq_ediv_of_nonneg _ (by exact Int.le_of_lt (Int.pow_pos (by decide)))]
 norm_cast
theorem D3 {k:IntKind} (aE:k.signed=false) (x:Int):k.wrap x=x%2^k.bits:=by
 cases k<;>first|(simp[IntKind.signed] at aE;done)|(simp[IntKind.wrap,IntKind.signed,IntKind.bits])
theorem oe {k:IntKind} (aE:k.signed=false) (a:Nat):k.wrap (Z a)=Z (a%2^k.bits):=by
 rw[D3 aE];simp only[Z];norm_cast
theorem wz {k:IntKind} (aE:k.signed=false) (a b:Nat):k.wrap (Z a+Z b)=Z ((a+b)%2^k.bits):=oe aE (a+b)
theorem wA {k:IntKind} (aE:k.signed=false) (a b:Nat):k.wrap (Z a*Z b)=Z (a*b%2^k.bits):=by
 rw[<-oe aE];simp only[Z];norm_cast
theorem pT {k:IntKind} (aE:k.signed=false) (a n:Nat):k.wrap (Z a*2^n)=Z (a*2^n%2^k.bits):=by
 rw[<-oe aE];simp only[Z];norm_cast
theorem wB {k:IntKind} (aE:k.signed=false) (a b:Nat):k.wrap (Z a - Z b)=Z ((a+(2^k.bits - b%2^k.bits))%2^k.bits):=by
 rw[D3 aE]
 simp only[Z]
 have h:b%2^k.bits<2^k.bits:=Nat.mod_lt _ (Nat.pow_pos (by decide))
 generalize ep:2^k.bits=M at*
 have:((2:Int)^k.bits)=(M:Int):=by rw[<-ep];norm_cast
 rw[this]
 rw[Int.natCast_emod,Int.natCast_add,Int.natCast_sub (Nat.le_of_lt h),Int.natCast_emod]
 rw[show ((a:Int) - b)=a+(M - b%M)+M*(-1 - b/M) by
  have:=Int.emod_add_mul_ediv (b:Int) M
  rw[Int.mul_sub];omega]
 exact Int.add_mul_emod_self_left _ _ _
theorem wC {k:IntKind} (aE:k.signed=false) (a b:Nat):k.wrap ((BitVec.ofInt k.bits (Z a)|||BitVec.ofInt k.bits (Z b)).toNat:Int)=Z ((a|||b)%2^k.bits):=by
 show k.wrap (Z _)=_
 rw[oe aE]
 simp only[Z,BitVec.ofInt_natCast,<-BitVec.ofNat_or,BitVec.toNat_ofNat,Nat.mod_mod]
theorem wD {k:IntKind} (aE:k.signed=false) (a b:Nat):k.wrap ((BitVec.ofInt k.bits (Z a)&&&BitVec.ofInt k.bits (Z b)).toNat:Int)=Z ((a&&&b)%2^k.bits):=by
 show k.wrap (Z _)=_
 rw[oe aE]
 simp only[Z,BitVec.ofInt_natCast,<-BitVec.ofNat_and,BitVec.toNat_ofNat,Nat.mod_mod]
theorem wE {k:IntKind} (aE:k.signed=false) (a b:Nat):k.wrap ((BitVec.ofInt k.bits (Z a) ^^^ BitVec.ofInt k.bits (Z b)).toNat:Int)=Z ((a ^^^ b)%2^k.bits):=by
 show k.wrap (Z _)=_
 rw[oe aE]
 simp only[Z,BitVec.ofInt_natCast,<-BitVec.ofNat_xor,BitVec.toNat_ofNat,Nat.mod_mod]
theorem wrap_i64 {x:Int} (ab: -9223372036854775808<=x) (h2:x<9223372036854775808):IntKind.i64.wrap x=x:=by
 simp[IntKind.wrap,IntKind.signed,IntKind.bits]
 split<;>omega
theorem fP {a:Nat} (h:a<9223372036854775808):IntKind.i64.wrap (Z a)=Z a:=wrap_i64 (by simp only[Z];omega) (by simp only[Z];omega)
theorem eH {a b:Nat} (h:a+b<9223372036854775808):IntKind.i64.wrap (Z a+Z b)=Z (a+b):=fP h
theorem dp {a b:Nat} (ab:b<=a) (h2:a<9223372036854775808):IntKind.i64.wrap (Z a - Z b)=Z (a - b):=by
 rw[wrap_i64 (by simp only[Z];omega) (by simp only[Z];omega)];simp only[Z];omega
theorem sy {a b:Nat} (h:a*b<9223372036854775808):IntKind.i64.wrap (Z a*Z b)=Z (a*b):=by
 rw[show Z a*Z b=Z (a*b) by simp only[Z];norm_cast];exact fP h
theorem hU:IntKind.u8.bits=8:=rfl
theorem hV (a:Nat):IntKind.u8.wrap (Z a)=Z (a%256):=oe rfl a
theorem hW (a b:Nat):IntKind.u8.wrap (Z a+Z b)=Z ((a+b)%256):=wz rfl a b
theorem hX (a b:Nat):IntKind.u8.wrap (Z a - Z b)=Z ((a+(256 - b%256))%256):=wB rfl a b
theorem hY (a b:Nat):IntKind.u8.wrap (Z a*Z b)=Z (a*b%256):=wA rfl a b
theorem hZ (a n:Nat):IntKind.u8.wrap (Z a*2^n)=Z (a*2^n%256):=pT rfl a n
theorem h0:IntKind.u16.bits=16:=rfl
theorem h1 (a:Nat):IntKind.u16.wrap (Z a)=Z (a%65536):=oe rfl a
theorem h3 (a b:Nat):IntKind.u16.wrap (Z a+Z b)=Z ((a+b)%65536):=wz rfl a b
theorem h4 (a b:Nat):IntKind.u16.wrap (Z a - Z b)=Z ((a+(65536 - b%65536))%65536):=wB rfl a b
theorem h5 (a b:Nat):IntKind.u16.wrap (Z a*Z b)=Z (a*b%65536):=wA rfl a b
theorem h6 (a n:Nat):IntKind.u16.wrap (Z a*2^n)=Z (a*2^n%65536):=pT rfl a n
theorem h7:IntKind.u32.bits=32:=rfl
theorem h8 (a:Nat):IntKind.u32.wrap (Z a)=Z (a%4294967296):=oe rfl a
theorem h9 (a b:Nat):IntKind.u32.wrap (Z a+Z b)=Z ((a+b)%4294967296):=wz rfl a b
theorem h_ (a b:Nat):IntKind.u32.wrap (Z a - Z b)=Z ((a+(4294967296 - b%4294967296))%4294967296):=wB rfl a b
theorem h' (a b:Nat):IntKind.u32.wrap (Z a*Z b)=Z (a*b%4294967296):=wA rfl a b
theorem ia (a n:Nat):IntKind.u32.wrap (Z a*2^n)=Z (a*2^n%4294967296):=pT rfl a n
theorem ib:IntKind.u64.bits=64:=rfl
theorem hl (a:Nat):IntKind.u64.wrap (Z a)=Z (a%18446744073709551616):=oe rfl a
theorem ic (a b:Nat):IntKind.u64.wrap (Z a+Z b)=Z ((a+b)%18446744073709551616):=wz rfl a b
theorem ie (a b:Nat):IntKind.u64.wrap (Z a - Z b)=Z ((a+(18446744073709551616 - b%18446744073709551616))%18446744073709551616):=wB rfl a b
theorem ig (a b:Nat):IntKind.u64.wrap (Z a*Z b)=Z (a*b%18446744073709551616):=wA rfl a b
theorem ih (a n:Nat):IntKind.u64.wrap (Z a*2^n)=Z (a*2^n%18446744073709551616):=pT rfl a n
theorem ij (k:IntKind) (a b:Int):fX .add k a b=some (.int k (k.wrap (a+b))):=rfl
theorem ik (k:IntKind) (a b:Int):fX .sub k a b=some (.int k (k.wrap (a - b))):=rfl
theorem il (k:IntKind) (a b:Int):fX .mul k a b=some (.int k (k.wrap (a*b))):=rfl
theorem im (k:IntKind) (a b:Int):fX .quo k a b=if b=0 then none else some (.int k (k.wrap (a.tdiv b))):=rfl
theorem iq (k:IntKind) (a b:Int):fX .rem k a b=if b=0 then none else some (.int k (a.tmod b)):=rfl
theorem ir (k:IntKind) (a b:Int):fX .eql k a b=some (.bool (a == b)):=rfl
theorem iu (k:IntKind) (a b:Int):fX .neq k a b=some (.bool (a != b)):=rfl
theorem iv (k:IntKind) (a b:Int):fX .lss k a b=some (.bool (decide (a<b))):=rfl
theorem iw (k:IntKind) (a b:Int):fX .leq k a b=some (.bool (decide (a<=b))):=rfl
theorem ix (k:IntKind) (a b:Int):fX .gtr k a b=some (.bool (decide (a>b))):=rfl
theorem iy (k:IntKind) (a b:Int):fX .geq k a b=some (.bool (decide (a>=b))):=rfl
theorem LW:IntKind.i64.bits=64:=rfl
theorem iz (a b:Nat):fX .and .u8 (Z a) (Z b)=some (.int .u8 (Z ((a&&&b)%256))):=congrArg (fun x=>some (J.int .u8 x)) (wD (k:= .u8) rfl a b)
theorem iA (a b:Nat):fX .or .u8 (Z a) (Z b)=some (.int .u8 (Z ((a|||b)%256))):=congrArg (fun x=>some (J.int .u8 x)) (wC (k:= .u8) rfl a b)
theorem iB (a b:Nat):fX .xor .u8 (Z a) (Z b)=some (.int .u8 (Z ((a ^^^ b)%256))):=congrArg (fun x=>some (J.int .u8 x)) (wE (k:= .u8) rfl a b)
theorem iC (a b:Nat):fY .shr .u8 (Z a) (Z b)=some (.int .u8 (Z (a/2^min b 8))):=by
 simp only[fY,if_neg (fq b),fr,gd];rfl
theorem iD (a b:Nat):fY .shl .u8 (Z a) (Z b)=some (.int .u8 (Z (a*2^min b 8%256))):=by
 simp only[fY,if_neg (fq b),fr,pT (k:= .u8) rfl];rfl
theorem iE (a b:Nat):fX .and .u16 (Z a) (Z b)=some (.int .u16 (Z ((a&&&b)%65536))):=congrArg (fun x=>some (J.int .u16 x)) (wD (k:= .u16) rfl a b)
theorem iF (a b:Nat):fX .or .u16 (Z a) (Z b)=some (.int .u16 (Z ((a|||b)%65536))):=congrArg (fun x=>some (J.int .u16 x)) (wC (k:= .u16) rfl a b)
theorem iG (a b:Nat):fX .xor .u16 (Z a) (Z b)=some (.int .u16 (Z ((a ^^^ b)%65536))):=congrArg (fun x=>some (J.int .u16 x)) (wE (k:= .u16) rfl a b)
theorem iH (a b:Nat):fY .shr .u16 (Z a) (Z b)=some (.int .u16 (Z (a/2^min b 16))):=by
 simp only[fY,if_neg (fq b),fr,gd];rfl
theorem iI (a b:Nat):fY .shl .u16 (Z a) (Z b)=some (.int .u16 (Z (a*2^min b 16%65536))):=by
 simp only[fY,if_neg (fq b),fr,pT (k:= .u16) rfl];rfl
theorem iJ (a b:Nat):fX .and .u32 (Z a) (Z b)=some (.int .u32 (Z ((a&&&b)%4294967296))):=congrArg (fun x=>some (J.int .u32 x)) (wD (k:= .u32) rfl a b)
theorem iK (a b:Nat):fX .or .u32 (Z a) (Z b)=some (.int .u32 (Z ((a|||b)%4294967296))):=congrArg (fun x=>some (J.int .u32 x)) (wC (k:= .u32) rfl a b)
theorem iL (a b:Nat):fX .xor .u32 (Z a) (Z b)=some (.int .u32 (Z ((a ^^^ b)%4294967296))):=congrArg (fun x=>some (J.int .u32 x)) (wE (k:= .u32) rfl a b)
theorem iM (a b:Nat):fY .shr .u32 (Z a) (Z b)=some (.int .u32 (Z (a/2^min b 32))):=by
 simp only[fY,if_neg (fq b),fr,gd];rfl
theorem iN (a b:Nat):fY .shl .u32 (Z a) (Z b)=some (.int .u32 (Z (a*2^min b 32%4294967296))):=by
 simp only[fY,if_neg (fq b),fr,pT (k:= .u32) rfl];rfl
theorem iO (a b:Nat):fX .and .u64 (Z a) (Z b)=some (.int .u64 (Z ((a&&&b)%18446744073709551616))):=congrArg (fun x=>some (J.int .u64 x)) (wD (k:= .u64) rfl a b)
theorem iP (a b:Nat):fX .or .u64 (Z a) (Z b)=some (.int .u64 (Z ((a|||b)%18446744073709551616))):=congrArg (fun x=>some (J.int .u64 x)) (wC (k:= .u64) rfl a b)
theorem iQ (a b:Nat):fX .xor .u64 (Z a) (Z b)=some (.int .u64 (Z ((a ^^^ b)%18446744073709551616))):=congrArg (fun x=>some (J.int .u64 x)) (wE (k:= .u64) rfl a b)
theorem iR (a b:Nat):fY .shr .u64 (Z a) (Z b)=some (.int .u64 (Z (a/2^min b 64))):=by
 simp only[fY,if_neg (fq b),fr,gd];rfl
theorem iS (a b:Nat):fY .shl .u64 (Z a) (Z b)=some (.int .u64 (Z (a*2^min b 64%18446744073709551616))):=by
 simp only[fY,if_neg (fq b),fr,pT (k:= .u64) rfl];rfl
theorem iT (a b:Nat):fY .shr .i64 (Z a) (Z b)=some (.int .i64 (Z (a/2^min b 64))):=by
 simp only[fY,if_neg (fq b),fr,gd];rfl
theorem iU {a b:Nat} (h:a*2^min b 64<9223372036854775808):fY .shl .i64 (Z a) (Z b)=some (.int .i64 (Z (a*2^min b 64))):=by
 have e:Z a*2^min b 64=Z (a*2^min b 64):=by simp only[Z];norm_cast
 simp only[fY,if_neg (fq b),fr,LW,e,fP h]
theorem iV {a b:Nat} (bh:a<9223372036854775808):fX .and .i64 (Z a) (Z b)=some (.int .i64 (Z (a&&&b%18446744073709551616))):=by
 have ab:(BitVec.ofInt 64 (Z a)&&&BitVec.ofInt 64 (Z b)).toNat=a&&&b%18446744073709551616:=by
  simp only[Z,BitVec.ofInt_natCast,BitVec.toNat_and,BitVec.toNat_ofNat];rw[Nat.mod_eq_of_lt (a:=a) (by omega)]
 show some (J.int .i64 (IntKind.i64.wrap (Z _)))=_
 rw[show (BitVec.ofInt IntKind.i64.bits (Z a)&&&BitVec.ofInt IntKind.i64.bits (Z b)).toNat=_ from ab]
 rw[fP (Nat.lt_of_le_of_lt Nat.and_le_left bh)]
theorem iW:IntKind.i64.bits=64:=rfl
section
variable {G:Nat->Option J} {Φ:FuncId->Option bn} {tab:FuncId->Option (List J->Option J)} {Y:List c4}
def sA (id k:Nat) (a3:Nat->a'->Prop) (E R:a'->Prop):de->a'->Prop
 | .normal,s=>∃j,j<k/\a3 j s
 | .exit i,s=>i=id/\E s
 | .ret,s=>R s
theorem iX (id k:Nat) (a3:Nat->a'->Prop) (E R:a'->Prop) (s:a'):sA id k a3 E R .normal s=∃j,j<k/\a3 j s:=rfl
theorem iY (id k i:Nat) (a3:Nat->a'->Prop) (E R:a'->Prop) (s:a'):sA id k a3 E R (.exit i) s=(i=id/\E s):=rfl
theorem iZ (id k:Nat) (a3:Nat->a'->Prop) (E R:a'->Prop) (s:a'):sA id k a3 E R .ret s=R s:=rfl
theorem l4 {id:Nat} {b:dw} {Q:de->a'->Prop} (a3:Nat->a'->Prop) (E R:a'->Prop) (k:Nat) {s:a'} (aJ:a3 k s) (round:∀k s,a3 k s->ck G Φ tab Y b s (sA id k a3 E R))
 (fin:∀s,E s->Q .normal s) (ret:∀s,R s->Q .ret s):ck G Φ tab Y (.block id (.loop b)) s Q:=by
 refine aO (LO a3 (fun k s oY=>(round k s oY).mono fun ex s1 h=>?_) k s aJ)
 cases ex with
 | normal=>exact h
 | exit i=>obtain⟨rfl,h⟩:=h;simp only[qO,qP,if_true];exact fin _ h
 | ret=>exact ret _ h
theorem D4 {a b:dw} {s:a'} {Q:de->a'->Prop} (K:a'->Prop) (h:ck G Φ tab Y a s (qO Q K)) (h2:∀s1,K s1->ck G Φ tab Y b s1 Q):ck G Φ tab Y (.seq a b) s Q:=
 aC (h.mono fun ex s1 bc=>by
  cases ex with
  | normal=>exact h2 _ bc
  | exit i=>exact bc
  | ret=>exact bc)
end
noncomputable def uT {A:Type} (pre:A->Prop) (enc:A->List J) (out:A->J):List J->Option J:=fun args=>
 open Classical in if h:∃a,pre a/\enc a=args then some (out (Classical.choose h)) else none
theorem uU {A:Type} {pre:A->Prop} {enc:A->List J} {out:A->J} {args:List J} {v:J} (h:uT pre enc out args=some v):∃a,pre a/\enc a=args/\out a=v:=by
 unfold uT at h
 split at h
 · rename_i ak
   cases h
   exact⟨_,(Classical.choose_spec ak).1,(Classical.choose_spec ak).2,rfl⟩
 · cases h
theorem LX {A:Type} {pre:A->Prop} {enc:A->List J} {out:A->J} (inj:∀a b,pre a->pre b->enc a=enc b->out a=out b) (a:A) (h:pre a):uT pre enc out (enc a)=some (out a):=by
 unfold uT
 have ak:∃b,pre b/\enc b=enc a:=⟨a,h,rfl⟩
 rw[dif_pos ak]
 obtain⟨ab,h2⟩:=Classical.choose_spec ak
 rw[inj _ _ ab h h2]
end Go.Eng
namespace Go.Eng
open Go Go.RowKit Go.ChangeShapes Go.WideShapes
inductive du where
 | int (k:IntKind)
 | bool
 | str
 | sl (e:du)
 | b' (cj:List du)
mutual
def du.size:du->Nat
 | .b' cj=>du.qR cj
 | _=>1
def du.qR:List du->Nat
 | []=>0
 | f::cj=>f.size+du.qR cj
end
def du.one (s:du) (cs:List J):J:=match s with
 | .b' _=> .agg cs
 | _=>cs.headD .undef
def uV (P:Program) (c1:TypeId->Option du):Nat->List Field->Option (List du)
 | _,[]=>some []
 | o,f::cj=>if f.offset=o then (c1 f.type).bind fun s=>if P.cellsOf f.type=s.size then (uV P c1 (o+s.size) cj).map (s:: ·) else none else none
def shape (P:Program):Nat->TypeId->Option du
 | 0,_=>none
 | n+1,t=>match P.underlying t with
   | some .bool=>some .bool
   | some (.int k)=>some (.int k)
   | some .string=>some .str
   | some (.slice e)=>(shape P n e).bind fun s=>if P.cellsOf e=s.size/\0<s.size then some (.sl s) else none
   | some (.struct cj)=>(uV P (shape P n) 0 cj.toList).bind fun l=>if P.cellsOf t=du.qR l then some (.b' l) else none
   | some (.array k e)=>(shape P n e).bind fun s=>if P.cellsOf e=s.size/\P.cellsOf t=k*s.size then some (.b' (List.replicate k s)) else none
   | _=>none
def du.zero:du->List Value
 | .int k=>[.int k 0]
 | .bool=>[.bool false]
 | .str=>[.string ByteArray.empty]
 | .sl _=>[.slice none 0 0]
 | .b' cj=>D5 cj
where D5:List du->List Value
 | []=>[]
 | f::cj=>f.zero++D5 cj
section
variable {H:Type}
mutual
def m':du->List J->DataW H->Prop
 | .int k,cs,d=>∃n,cs= [.int k n]/\d= .lit (.int k n)/\(Lit.int k n).wf=true
 | .bool,cs,d=>∃b,cs= [.bool b]/\d= .lit (.bool b)
 | .str,cs,d=>∃s:ByteArray,cs= [.str s]/\d= .lit (.string s.data.toList)/\s.size<=maxLen
 | .sl e,cs,d=>∃xs,cs= [.sl xs false]/\xs.length<=maxLen/\
     ((d= .nil/\xs= [])\/∃c3 rest,d= .slice c3 rest/\c3.length=xs.length/\∀i (h:i<xs.length) (av:i<c3.length),∃cs,xs[i]=e.one cs/\cs.length=e.size/\m' e cs c3[i])
 | .b' cj,cs,d=>∃c3,d= .agg c3/\lb cj cs c3
def lb:List du->List J->List (DataW H)->Prop
 | [],cs,c3=>cs= []/\c3= []
 | f::cj,cs,c3=>∃a b d i_,cs=a++b/\c3=d::i_/\m' f a d/\lb cj b i_
end
mutual
theorem m'.length:∀ {s:du} {cs:List J} {d:DataW H},m' s cs d->cs.length=s.size
 | .int k,_,_,h=>by obtain⟨n,rfl,_⟩:=h;rfl
 | .bool,_,_,h=>by obtain⟨n,rfl,_⟩:=h;rfl
 | .str,_,_,h=>by obtain⟨n,rfl,_⟩:=h;rfl
 | .sl e,_,_,h=>by obtain⟨n,rfl,_⟩:=h;rfl
 | .b' cj,_,_,h=>by obtain⟨c3,_,h⟩:=h;exact lb.length h
theorem lb.length:∀ {s:List du} {cs:List J} {d:List (DataW H)},lb s cs d->cs.length=du.qR s
 | [],_,_,h=>by obtain⟨rfl,_⟩:=h;rfl
 | f::cj,_,_,h=>by
   obtain⟨a,b,d,i_,rfl,_,ab,h2⟩:=h
   rw[List.length_append,ab.length,h2.length];rfl
end
theorem du.zu {s:du} {cs:List J} {d:DataW H} (h:m' s cs d):(s.one cs).cells=cs:=by
 cases s with
 | int k=>obtain⟨n,rfl,_⟩:=h;rfl
 | bool=>obtain⟨n,rfl,_⟩:=h;rfl
 | str=>obtain⟨n,rfl,_⟩:=h;rfl
 | sl e=>obtain⟨n,rfl,_⟩:=h;rfl
 | b' cj=>rfl
variable {enc:TypeId × Value->H} {P:Program} {w:World} {spare:Nat->Bool} {held:Bool} {ok:Nat->Prop}
def l5 (w:World) (ok:Nat->Prop) (cs:List J) (vs:List Value):Prop:=
 vs.length=cs.length/\∀i (h:i<cs.length) (av:i<vs.length),dq w ok cs[i] vs[i]
theorem l5.append {a b:List J} {x y:List Value} (h:l5 w ok a x) (k:l5 w ok b y):l5 w ok (a++b) (x++y):=by
 refine⟨by simp[h.1,k.1],fun i ag b_=>?_⟩
 by_cases I:i<a.length
 · rw[List.getElem_append_left I,List.getElem_append_left (by rw[h.1];exact I)]
   exact h.2 i I _
 · rw[List.getElem_append_right (by omega),List.getElem_append_right (by rw[h.1];omega)]
   simp only[h.1]
   exact k.2 (i - a.length) (by simp at ag;omega) _
theorem l5.one {a:J} {x:Value} (h:dq w ok a x):l5 w ok [a] [x]:=
 ⟨rfl,fun i ag b_=>by
   have:i=0:=by simpa using ag
   subst this;exact h⟩
theorem D6 {c1:TypeId->Option du} {n:Nat} {cs:List Value}
 (bZ:∀t s vs x,c1 t=some s->DataW.trod enc P w 0 spare held n t vs=some x->∃as,m' s as x.1/\l5 w ok as vs):
 ∀(cj:List Field) (o:Nat) (l:List du) (xs:List (DataW H × List MemPlace)),uV P c1 o cj=some l->xs.length=cj.length->o+du.qR l=cs.length->
  (∀(i:Nat) (f:Field),cj[i]? =some f->DataW.trod enc P w 0 spare held n f.type ((cs.drop f.offset).take (P.cellsOf f.type))=xs[i]?)->
  ∃as,lb l as (xs.map (·.1))/\l5 w ok as (cs.drop o)
 | [],o,l,xs,h,aV,aK,ak=>by
   simp only[uV,Option.some.injEq] at h
   subst h
   obtain rfl:xs= []:=by simpa using aV
   refine⟨[],⟨rfl,rfl⟩,?_,fun i ag=>by simp at ag⟩
   simp[du.qR] at aK|-;omega
 | f::cj,o,l,xs,h,aV,aK,ak=>by
   simp only[uV] at h
   split at h<;>try(cases h;done)
   rename_i LY
   obtain⟨s,aG,h⟩:=Option.bind_eq_some_iff.1 h
   split at h<;>try(cases h;done)
   rename_i I
   obtain⟨lr,pE,rfl⟩:=Option.map_eq_some_iff.1 h
   match xs,aV with
   | x::xs,aV=>
     have aJ:=ak 0 f rfl
     simp only[List.getElem?_cons_zero] at aJ
     obtain⟨as,nI,zv⟩:=bZ _ _ _ _ aG aJ
     simp only[du.qR] at aK
     obtain⟨qm,dT,pU⟩:=D6 (cs:=cs) bZ cj (o+s.size) lr xs pE (by simpa using aV) (by omega) (fun i f bI=>by simpa using ak (i+1) f (by simpa using bI))
     refine⟨as++qm,⟨as,qm,x.1,xs.map (·.1),rfl,by simp,nI,dT⟩,?_⟩
     have e:cs.drop o=(cs.drop f.offset).take (P.cellsOf f.type)++cs.drop (o+s.size):=by
      rw[LY,I,<-List.drop_drop,List.take_append_drop]
     rw[e]
     exact zv.append pU
theorem D7 {c1:du} {n:Nat} {e:TypeId} {cs:List Value}
 (bZ:∀vs x,DataW.trod enc P w 0 spare held n e vs=some x->∃as,m' c1 as x.1/\l5 w ok as vs) (I:P.cellsOf e=c1.size):
 ∀(k o:Nat) (xs:List (DataW H × List MemPlace)),xs.length=k->(o+k)*c1.size=cs.length->
  (∀i,i<k->DataW.trod enc P w 0 spare held n e ((cs.drop ((o+i)*P.cellsOf e)).take (P.cellsOf e))=xs[i]?)->
  ∃as,lb (List.replicate k c1) as (xs.map (·.1))/\l5 w ok as (cs.drop (o*c1.size))
 | 0,o,xs,aV,aK,ak=>by
   obtain rfl:xs= []:=by simpa using aV
   refine⟨[],⟨rfl,rfl⟩,?_,fun i ag=>by simp at ag⟩
   simp at aK|-;omega
 | k+1,o,xs,aV,aK,ak=>by
   match xs,aV with
   | x::xs,aV=>
     have aJ:=ak 0 (by omega)
     simp only[List.getElem?_cons_zero,Nat.add_zero] at aJ
     obtain⟨as,nI,zv⟩:=bZ _ _ aJ
     obtain⟨qm,dT,pU⟩:=D7 (cs:=cs) bZ I k (o+1) xs (by simpa using aV) (by rw[<-aK];congr 1;omega) (fun i ag=>by
      have:=ak (i+1) (by omega)
      simp only[List.getElem?_cons_succ] at this
      rw[<-this]
      congr 3;congr 1;omega)
     refine⟨as++qm,⟨as,qm,x.1,xs.map (·.1),rfl,by simp,nI,dT⟩,?_⟩
     have e:cs.drop (o*c1.size)=(cs.drop (o*P.cellsOf e)).take (P.cellsOf e)++cs.drop ((o+1)*c1.size):=by
      rw[I,show (o+1)*c1.size=o*c1.size+c1.size by rw[Nat.add_mul];simp,<-List.drop_drop,List.take_append_drop]
     rw[e]
     exact zv.append pU
theorem D8 (hC:∀b,b<w.heap.size->ok b):∀(m:Nat) (fuel:Nat) (t:TypeId) (s:du) (cs:List Value) (x:DataW H × List MemPlace),shape P m t=some s->
 DataW.trod enc P w 0 spare held fuel t cs=some x->∃as,m' s as x.1/\l5 w ok as cs
 | 0,_,_,_,_,_,h,_=>by cases h
 | m+1,fuel,t,s,cs,x,h,ak=>by
   have bC:=D8 hC m
   unfold shape at h
   split at h
   · rename_i a7
     cases h
     obtain⟨b,rfl,rfl⟩:=DataW.trod_bool a7 ak
     exact⟨[.bool b],⟨b,rfl,rfl⟩,.one (.bool b)⟩
   · rename_i k a7
     cases h
     obtain⟨n,rfl,rfl,hw⟩:=DataW.trod_int a7 ak
     exact⟨[.int k n],⟨n,rfl,rfl,hw⟩,.one (.int k n)⟩
   · rename_i a7
     cases h
     obtain⟨z,rfl,rfl,hw⟩:=DataW.trod_string a7 ak
     exact⟨[.str z],⟨z,rfl,rfl,hw⟩,.one (.str z)⟩
   · rename_i e a7
     obtain⟨ax,aG,h⟩:=Option.bind_eq_some_iff.1 h
     split at h<;>try(cases h;done)
     rename_i I
     cases h
     rcases DataW.trod_slice a7 ak with⟨rfl,rfl⟩|⟨a,len,cap,elems,rest,n,_,rfl,rfl,aj,aV,hm,hlen,kx,_,_⟩
     · refine⟨[.sl [] false],⟨[],rfl,by simp,.inl ⟨rfl,rfl⟩⟩,.one ?_⟩
       exact .sl [] false none 0 1 (fun _ _=> .nilFunc) (Nat.le_refl _) (fun h=>by cases h) (fun i ag=>by simp at ag) (fun i j ag=>by simp at ag) (fun h=>by simp at h) (fun i ag=>by simp at ag)
     · have each:∀i:Fin len,∃p:List Value × List J,w.cells? 0 (a.add (i.1*P.cellsOf e)) (P.cellsOf e)=some p.1/\l5 w ok p.2 p.1/\∃h:i.1<elems.length,m' ax p.2 (elems[i.1]).1:=by
        intro i
        have:=kx i.1 i.2
        rw[List.getElem?_eq_getElem (by rw[hlen];exact i.2)] at this
        obtain⟨vs,ab,h2⟩:=Option.bind_eq_some_iff.1 this
        obtain⟨as,bh,ba⟩:=bC _ _ _ _ _ aG h2
        exact⟨(vs,as),ab,ba,by rw[hlen];exact i.2,bh⟩
       let g:Fin len->List Value × List J:=fun i=>Classical.choose (each i)
       have bp:∀i:Fin len,w.cells? 0 (a.add (i.1*P.cellsOf e)) (P.cellsOf e)=some (g i).1/\l5 w ok (g i).2 (g i).1/\∃h:i.1<elems.length,m' ax (g i).2 (elems[i.1]).1:=fun i=>Classical.choose_spec (each i)
       refine⟨[.sl (List.ofFn fun i=>ax.one (g i).2) false],⟨_,rfl,by simp;omega,.inr ⟨_,_,rfl,by simp[hlen],fun i ag b_=>?_⟩⟩,.one ?_⟩
       · simp only[List.length_ofFn] at ag
         obtain⟨_,_,he,bA⟩:=bp ⟨i,ag⟩
         exact⟨(g ⟨i,ag⟩).2,by simp,bA.length,by simpa using bA⟩
       · have key:=dq.sl (w:=w) (ok:=ok) (List.ofFn fun i=>ax.one (g i).2) false (some a) cap ax.size
          (fun i j=>if h:i<len then (g ⟨i,h⟩).1.getD j .nilFunc else .nilFunc) (by simpa using aV) (fun h=>by cases h)
          (fun i ag=>by
            simp only[List.length_ofFn] at ag
            obtain⟨_,_,he,bA⟩:=bp ⟨i,ag⟩
            simp only[List.getElem_ofFn]
            rw[du.zu bA,bA.length])
          (fun i j ag aZ=>by
            simp only[List.length_ofFn] at ag
            obtain⟨ab,_,_⟩:=bp ⟨i,ag⟩
            obtain⟨_,h2,aX⟩:=World.cells?_some ab
            have:=aX j (by rw[I.1];exact aZ)
            rw[List.getElem?_eq_getElem (by rw[h2,I.1];exact aZ),Go.Addr.add_add] at this
            refine⟨a,rfl,?_,?_⟩
            · have nx:=World.block_lt_of_cell? w _ this
              rw[Addr.pz] at nx
              exact hC _ nx
            · rw[show i*ax.size+j=i*P.cellsOf e+j by rw[I.1]]
              rw[show w.cell? (a.add (i*P.cellsOf e+j))=_ from this]
              simp[ag,h2,I.1,aZ])
          (fun _=>rfl)
          (fun i ag j aZ=>by
            simp only[List.length_ofFn] at ag
            obtain⟨_,h2,he,bA⟩:=bp ⟨i,ag⟩
            simp only[List.getElem_ofFn,du.zu bA] at aZ|-
            simp only[ag,dif_pos]
            have jT:j<(g ⟨i,ag⟩).1.length:=by rw[h2.1];exact aZ
            rw[show (g ⟨i,ag⟩).1.getD j .nilFunc=(g ⟨i,ag⟩).1[j] by simp[List.getD,jT]]
            exact h2.2 j aZ jT)
         simpa using key
   · rename_i cj a7
     obtain⟨l,aV,h⟩:=Option.bind_eq_some_iff.1 h
     split at h<;>try(cases h;done)
     rename_i I
     cases h
     obtain⟨xs,n,_,rfl,m1,oP,bI⟩:=DataW.trod_struct a7 ak
     obtain⟨as,ab,h2⟩:=D6 (ok:=ok) (cs:=cs) (fun t s vs x aG ak=>bC _ _ _ _ _ aG ak) cj.toList 0 l xs aV (by simpa using oP) (by rw[m1,I];omega) (fun i f ag=>bI i f (by simpa using ag))
     exact⟨as,⟨_,rfl,ab⟩,by simpa using h2⟩
   · rename_i k e a7
     obtain⟨ax,aG,h⟩:=Option.bind_eq_some_iff.1 h
     split at h<;>try(cases h;done)
     rename_i I
     cases h
     obtain⟨xs,n,_,rfl,m1,oP,bI⟩:=DataW.trod_array a7 ak
     obtain⟨as,ab,h2⟩:=D7 (ok:=ok) (cs:=cs) (fun vs x ak=>bC _ _ _ _ _ aG ak) I.1 k 0 xs oP (by rw[m1,I.2];simp) (fun i ag=>by simpa using bI i ag)
     exact⟨as,⟨_,rfl,ab⟩,by simpa using h2⟩
   · cases h
end
section rows
variable {H:Type} {enc:TypeId × Value->H} {P:Program} {w:World} {spare:Nat->Bool} {held:Bool} {ok:Nat->Prop}
theorem LZ {s:du} {as:List J} {d:DataW H} {v:Value} (h:m' s as d) (aR:(∃cj,s= .b' cj)->∃cs,v= .agg cs) (ar:(∃cs,v= .agg cs)->∃cj,s= .b' cj) (ba:l5 w ok as v.cells.toList):dq w ok (s.one as) v:=by
 cases s with
 | b' cj=>
   obtain⟨cs,rfl⟩:=aR ⟨cj,rfl⟩
   exact .agg as cs (by simpa[Value.cells] using ba.1) fun i h av=>by
    have:=ba.2 i h (by simpa[Value.cells] using av)
    simpa[Value.cells] using this
 | _=>
   have I:v.cells= #[v]:=by
    cases v<;>first|rfl|(obtain⟨cj,e⟩:=ar ⟨_,rfl⟩;cases e)
   have ab:=h.length
   rw[I] at ba
   match as,ab,ba with
   | [a],_,ba=>exact ba.2 0 (by simp) (by simp)
def lN (s:du) (a:J):Prop:=∃(H:Type) (as:List J) (d:DataW H),a=s.one as/\m' s as d
def qS:List du->List J->Prop
 | [],as=>as= []
 | s::ss,as=>∃a yf,as=a::yf/\lN s a/\qS ss yf
theorem L0 {m:Nat} {t:TypeId} {s:du} {r:Reach} {b0:Nat} {v:Value} (h:shape P m t=some s) (aR:Value.okWide P w r b0 t v):((∃cj,s= .b' cj)->∃cs,v= .agg cs)/\((∃cs,v= .agg cs)->∃cj,s= .b' cj):=by
 cases m with
 | zero=>cases h
 | succ m=>
   unfold shape at h
   split at h
   · rename_i a7;cases h
     obtain⟨b,rfl⟩:=okWide_bool a7 aR
     exact⟨(by rintro ⟨cj,e⟩;cases e),(by rintro ⟨cj,e⟩;cases e)⟩
   · rename_i k a7;cases h
     obtain⟨b,rfl⟩:=okWide_int a7 aR
     exact⟨(by rintro ⟨cj,e⟩;cases e),(by rintro ⟨cj,e⟩;cases e)⟩
   · rename_i a7;cases h
     obtain⟨b,rfl⟩:=okWide_string a7 aR
     exact⟨(by rintro ⟨cj,e⟩;cases e),(by rintro ⟨cj,e⟩;cases e)⟩
   · rename_i e a7
     obtain⟨ax,aG,h⟩:=Option.bind_eq_some_iff.1 h
     split at h<;>try(cases h;done)
     cases h
     obtain⟨a,b,c,rfl⟩:=okWide_slice a7 aR
     exact⟨(by rintro ⟨cj,e⟩;cases e),(by rintro ⟨cj,e⟩;cases e)⟩
   · rename_i cj a7
     obtain⟨ax,aG,h⟩:=Option.bind_eq_some_iff.1 h
     split at h<;>try(cases h;done)
     cases h
     obtain⟨a,rfl,_⟩:=okWide_struct a7 aR
     exact⟨fun _=>⟨_,rfl⟩,fun _=>⟨_,rfl⟩⟩
   · rename_i k e a7
     obtain⟨ax,aG,h⟩:=Option.bind_eq_some_iff.1 h
     split at h<;>try(cases h;done)
     cases h
     have bh:∃cs,v= .agg cs:=by
      simp only[Value.okWide,a7] at aR
      obtain⟨cs,ab,_⟩:=aR
      exact⟨cs,ab⟩
     exact⟨fun _=>bh,fun _=>⟨_,rfl⟩⟩
   · cases h
theorem D9 {r:Reach} {b0:Nat} (hC:∀b,b<w.heap.size->ok b) {m:Nat}:∀ {b7:List TypeId} {ss:List du} {vs:List Value} {c3:List (DataW H)} {ps:List MemPlace},b7.mapM (shape P m)=some ss->
 DataW.TrodAll enc P w 0 spare held b7 vs c3 ps->(∀(j:Nat) t v,b7[j]? =some t->vs[j]? =some v->Value.okWide P w r b0 t v)->
 ∃as,qS ss as/\vs.length=as.length/\∀i (h:i<as.length) (av:i<vs.length),dq w ok as[i] vs[i]
 | [],ss,vs,c3,ps,aG,h,_=>by
   obtain⟨rfl,rfl,rfl⟩:=trodAll_nil h
   obtain rfl: []=ss:=by simpa using aG
   exact⟨[],rfl,rfl,fun i ag=>by simp at ag⟩
 | t::b7,ss,vs,c3,ps,aG,h,aR=>by
   obtain⟨v,lY,d,i_,p,q,rfl,rfl,rfl,⟨fuel,aJ⟩,ab⟩:=trodAll_cons h
   rw[List.mapM_cons] at aG
   obtain⟨s,wF,aG⟩:=Option.bind_eq_some_iff.1 aG
   obtain⟨V1,lG,aG⟩:=Option.bind_eq_some_iff.1 aG
   cases aG
   obtain⟨as,h2,aX,aW⟩:=D9 hC lG ab (fun j L1 hB a7 L2=>aR (j+1) L1 hB (by simpa using a7) (by simpa using L2))
   obtain⟨cs,cz,cq⟩:=D8 hC _ _ _ _ _ _ wF aJ
   obtain⟨dQ,c8⟩:=L0 wF (aR 0 t v rfl rfl)
   refine⟨s.one cs::as,⟨_,_,rfl,⟨H,cs,d,rfl,cz⟩,h2⟩,by simp[aX],fun i ag b_=>?_⟩
   cases i with
   | zero=>exact LZ cz dQ c8 cq
   | succ i=>exact aW i _ _
theorem D_ (aV:laidOutB P=true) {a_:World} (aj:Below w.heap.size w a_):∀ {b7:List TypeId} {vs:List Value} {c3:List (DataW H)} {ps:List MemPlace},
 (b7.all fun t=>P.readableRec t&&decide (t<P.types.size))=true->
 DataW.TrodAll enc P w 0 (fun _=>true) true b7 vs c3 ps->DataW.TrodAll enc P a_ 0 (fun b=>decide (b<w.heap.size)) true b7 vs c3 ps
 | [],vs,c3,ps,_,h=>by
   obtain⟨rfl,rfl,rfl⟩:=trodAll_nil h
   exact trodAll_mk0
 | t::b7,vs,c3,ps,bh,h=>by
   obtain⟨v,lY,d,i_,p,q,rfl,rfl,rfl,aJ,ab⟩:=trodAll_cons h
   simp only[List.all_cons,Bool.and_eq_true,decide_eq_true_eq] at bh
   obtain⟨m,hm⟩:=aJ
   exact trodAll_cons_mk (Below.trod aV bh.1.1 bh.1.2 ⟨m,hm⟩ aj (fun x ak=>DataW.trod_lt m _ _ _ hm x ak)) (D_ aV aj bh.2 ab)
theorem lifted {C:Checked} {os:Os} {f:FuncId} {fn:Func} {s:ChangeSpec} {m:Nat} {ss:List du} {T:List J->Option J} {G:Nat->Option J} {X:World->Array Value->Prop} {D':TypeId} {body:Code}
 (lL:∀(w a_:World) (args:Array Value),w.heap=a_.heap->X w args->X a_ args)
 (own:ownKnob C.prog.godebug=none) (started:os.Started) (L3:C.prog.inits.idxOf? f=none) (l2:C.prog.funcs[f]? =some fn)
 (witness:∃(w:World) (tape:Tape) (i:Input),w.os=os/\(w.forCall tape i).Shaped C.prog/\i.vars= []/\Input.okWide C.prog (w.forCall tape i) .any w.heap.size f i/\
   ((s.pre enc C.prog fn [] false (w.forCall tape i).memory i.args/\X (w.forCall tape i).memory i.args)/\sizedMet enc C.prog fn (OpenSpec.ofChange s) false (w.forCall tape i).memory i.args)/\({}:Assume).holds C.prog (lone (Frame.enter C.prog f i.args .normal) [] (w.forCall tape i)))
 (aV:laidOutB C.prog=true)
 (aG:fn.params.toList.mapM (shape C.prog m)=some ss) (L4:(fn.params.toList.all fun t=>C.prog.readableRec t&&decide (t<C.prog.types.size))=true)
 (L5:fn.body=some body) (zd:fn.name≠ "runtime.NumGoroutine")
 (zc:fn.resultTypes= #[D']) (yp:C.prog.underlying D'=some .bool) (Ea:s.vars= [])
 (zw:∀c3:List (DataW H),c3.length=fn.params.size->s.fn H c3= {results:=[.lit (.bool true)],args:=c3})
 (L6:∀W args,X W args->∀g u,G g=some u->bu W (fun _=>True) (fun _=>none) (.eu u) (.pointer (some ⟨g,0,none⟩)))
 (I:br C.prog G f T) (cJ:∀as,qS ss as->T as=some (.bool true)):
 ReturnsInHanded {} C os f .any (fun w args=>(s.pre enc C.prog fn [] false w args/\X w args)/\sizedMet enc C.prog fn (OpenSpec.ofChange s) false w args) (s.post enc C.prog fn false true false false):=by
 refine returnsInHanded_of_change_and lL own started L3 l2 witness ?_
 intro W base args c3 gs before lq ly _ _ ak _
 have L7:=ly
 obtain⟨p,q,aI,Eb,rfl,V2,n'⟩:=ly
 rw[Ea] at Eb
 obtain⟨rfl,rfl⟩:=trodVars_none Eb
 obtain⟨as,ab,h2,aX⟩:=D9 (ok:=fun _=>True) (fun _ _=>trivial) aG aI (fun j t v a7 aR=>lq j t v (by simpa using a7) (by simpa using aR))
 have D:=I as _ (cJ as ab) (fun _=>True) W args (by simpa using h2) (fun i h av=>by have:=aX i h (by simpa using av);rwa [Array.getElem_toList] at this) (L6 W args ak)
 have zx:c3.length=fn.params.size:=by
  have:∀ {b7:List TypeId} {vs:List Value} {c3:List (DataW H)} {ps:List MemPlace},DataW.TrodAll enc C.prog W 0 (fun _=>true) true b7 vs c3 ps->c3.length=b7.length:=by
   intro b7
   induction b7 with
   | nil=>intro vs c3 ps h;obtain⟨_,rfl,_⟩:=trodAll_nil h;rfl
   | cons t b7 bC=>
     intro vs c3 ps h
     obtain⟨v,lY,d,i_,p,q,rfl,rfl,rfl,aJ,ab⟩:=trodAll_cons h
     simp[bC ab]
  simpa using this aI
 have fin:∀cv a_,dq a_ (fun b=>True\/W.heap.size<=b) (.bool true) cv/\Below W.heap.size W a_->s.post enc C.prog fn false true false false W args cv a_:=by
  rintro cv a_ ⟨ba,aj⟩
  cases ba
  refine⟨c3,[],_,[],p,[],L7,?_,?_,?_,aj.frame _,fun h=>by cases h⟩
  · rw[List.append_nil,zw c3 zx,zc]
    exact trodAll_mk1 (shut_bool yp _)
  · rw[List.append_nil,zw c3 zx]
    exact D_ aV aj L4 aI
  · rw[Ea,List.append_nil,zw c3 zx]
    rfl
 rcases D with⟨_,d2⟩|⟨cv,a_,d1,_⟩
 · refine d2.mono fun e a_ ⟨cv,he,dI⟩=>⟨cv,he,fin cv a_ dI⟩
 · have:=y' l2 L5 zd args W
   rw[this] at d1
   cases d1
end rows
end Go.Eng
namespace Go.Eng
open Go Go.RowKit
theorem Ec {k:IntKind} {n:Int} (h:(Lit.int k n).wf=true):k.min<=n/\n<=k.max:=by
 simpa[Lit.wf] using h
theorem L8 {k:IntKind} {a:J} (h:lN (.int k) a):∃n:Int,a= .int k n/\k.min<=n/\n<=k.max:=by
 obtain⟨H,ec,d,rfl,n,rfl,_,hw⟩:=h
 exact⟨n,rfl,(Ec hw).1,(Ec hw).2⟩
theorem L9 {a:J} (h:lN .bool a):∃b,a= .bool b:=by
 obtain⟨H,ec,d,rfl,b,rfl,_⟩:=h
 exact⟨b,rfl⟩
theorem Ed {e:du} {a:J} (h:lN (.sl e) a):∃xs,a= .sl xs false/\xs.length<=maxLen/\∀x∈xs,lN e x:=by
 obtain⟨H,ec,d,rfl,xs,rfl,hm,bA⟩:=h
 refine⟨xs,rfl,hm,fun x ak=>?_⟩
 rcases bA with⟨_,rfl⟩|⟨c3,rest,_,aV,L_⟩
 · cases ak
 · obtain⟨i,ag,rfl⟩:=List.mem_iff_getElem.1 ak
   obtain⟨cs,ab,_,h2⟩:=L_ i ag (by omega)
   exact⟨H,cs,_,ab,h2⟩
theorem L' {cj:List du} {a:J} (h:lN (.b' cj) a):∃(H:Type) (cs:List J) (c3:List (DataW H)),a= .agg cs/\lb cj cs c3:=by
 obtain⟨H,ec,d,rfl,c3,rfl,bA⟩:=h
 exact⟨H,ec,c3,rfl,bA⟩
theorem Ma {a:J} (h:lN (.int .u32) a):∃n,a= .int .u32 (Z n)/\n<4294967296:=by
 obtain⟨n,rfl,ab,h2⟩:=L8 h
 simp[IntKind.min,IntKind.max,IntKind.signed,IntKind.bits] at ab h2
 obtain⟨n,rfl⟩:=Int.eq_ofNat_of_zero_le ab
 exact⟨n,rfl,by omega⟩
theorem Mb {a:J} (h:lN (.sl (.int .u32)) a):∃l:List Nat,a= .sl (l.map fun n=> .int .u32 (Z n)) false/\l.length<=maxLen/\∀x∈l,x<4294967296:=by
 obtain⟨xs,rfl,hm,ak⟩:=Ed h
 have:∃l:List Nat,xs=l.map (fun n=> .int .u32 (Z n))/\∀x∈l,x<4294967296:=by
  clear hm h
  induction xs with
  | nil=>exact⟨[],rfl,fun x ak=>by cases ak⟩
  | cons x xs bC=>
    obtain⟨n,rfl,ar⟩:=Ma (ak x (by simp))
    obtain⟨l,rfl,aV⟩:=bC (fun y bd=>ak y (by simp[bd]))
    exact⟨n::l,rfl,fun y bd=>by
     rcases List.mem_cons.1 bd with rfl|bd
     · exact ar
     · exact aV y bd⟩
 obtain⟨l,rfl,aV⟩:=this
 exact⟨l,rfl,by simpa using hm,aV⟩
theorem Mc {H:Type} {f:du} {cj:List du} {cs:List J} {c3:List (DataW H)} (h:lb (f::cj) cs c3):∃(a b:List J) (i_:List (DataW H)),cs=a++b/\lN f (f.one a)/\(f.one a).cells=a/\lb cj b i_:=by
 obtain⟨a,b,d,i_,rfl,_,ab,h2⟩:=h
 exact⟨a,b,i_,rfl,⟨H,a,d,rfl,ab⟩,du.zu ab,h2⟩
theorem Md {H:Type} {cs:List J} {c3:List (DataW H)} (h:lb [] cs c3):cs= []:=h.1
theorem Ee {s:du} {ss:List du} {l:List J} (h:qS (s::ss) l):∃a lr,l=a::lr/\lN s a/\qS ss lr:=h
theorem Me {l:List J} (h:qS [] l):l= []:=h
end Go.Eng
namespace Go.Eng
open Go Go.RowKit
mutual
def J.loose:J->J
 | .sl xs _=> .sl (kN xs) false
 | .agg cs=> .agg (kN cs)
 | .ch vs=> .ch (kN vs)
 | v=>v
def kN:List J->List J
 | []=>[]
 | v::vs=>v.loose::kN vs
end
theorem oZ:∀l:List J,kN l=l.map J.loose
 | []=>rfl
 | v::l=>by simp only[kN,List.map_cons,oZ l]
theorem gv:kN []= []:=rfl
theorem fT (v:J) (l:List J):kN (v::l)=v.loose::kN l:=rfl
theorem fs (xs:List J) (e:Bool):(J.sl xs e).loose= .sl (kN xs) false:=by simp only[J.loose]
theorem gf (xs:List J):(J.agg xs).loose= .agg (kN xs):=by simp only[J.loose]
theorem hn (xs:List J):(J.ch xs).loose= .ch (kN xs):=by simp only[J.loose]
theorem gM (k:IntKind) (n:Int):(J.int k n).loose= .int k n:=by simp only[J.loose]
theorem gg (b:Bool):(J.bool b).loose= .bool b:=by simp only[J.loose]
theorem ho (b:ByteArray):(J.str b).loose= .str b:=by simp only[J.loose]
theorem hp:J.nilfn.loose= .nilfn:=by simp only[J.loose]
theorem hq (m:List (Int × FuncId)):(J.mp m).loose= .mp m:=by simp only[J.loose]
theorem Mf (f:FuncId) (a b:List J):(J.fn f a b).loose= .fn f a b:=by simp only[J.loose]
theorem zy (v:J):v.loose.cells=v.cells.map J.loose:=by
 cases v<;>simp[J.loose,J.cells,oZ]
theorem dq.loose {w:World} {ok:Nat->Prop} {v:J} {cv:Value} (h:dq w ok v cv):dq w ok v.loose cv:=by
 induction h with
 | int k n=>rw[gM];exact .int k n
 | bool b=>rw[gg];exact .bool b
 | str s=>rw[ho];exact .str s
 | nilfn=>rw[hp];exact .nilfn
 | fn f=>rw[Mf];exact .fn f
 | mp m r es clock ab h2 aX aW=>rw[hq];exact .mp m r es clock ab h2 aX aW
 | sl xs ex A c sz eb ab h2 aX aW cL fo bC=>
   rw[fs,oZ]
   have R:=dq.sl (w:=w) (ok:=ok) (xs.map J.loose) false A c sz eb (by simpa using ab) (fun h=>by cases h) (fun i h=>by
    have ag:i<xs.length:=by simpa using h
    rw[List.getElem_map,zy,List.length_map];exact aX i ag) (fun i j ag aZ=>aW i j (by simpa using ag) aZ) (fun a4=>cL (by simpa using a4)) (fun i ag j aZ=>by
    have b_:i<xs.length:=by simpa using ag
    have jT:j<xs[i].cells.length:=by
     rw[List.getElem_map,zy,List.length_map] at aZ;exact aZ
    have e:((xs.map J.loose)[i]'ag).cells[j]=(xs[i].cells[j]).loose:=by
     simp[zy]
    rw[e]
    exact bC i b_ j jT)
   simpa using R
 | agg cs vs aV h bC=>
   rw[gf,oZ]
   refine .agg _ vs (by simpa using aV) fun i ag b_=>?_
   rw[List.getElem_map]
   exact bC i (by simpa using ag) b_
 | ch cs vs aV h bC=>
   rw[hn,oZ]
   refine .ch _ vs (by simpa using aV) fun i ag b_=>?_
   rw[List.getElem_map]
   exact bC i (by simpa using ag) b_
theorem Mg {P:Program} {G:Nat->Option J} {f:FuncId} {T Ef:List J->Option J} (h:br P G f T) (cJ:∀args v,Ef args=some v->∃hB,T (args.map J.loose)=some hB/\hB.loose=v):br P G f Ef:=by
 intro args v aR ok w dt cy e5 pR
 obtain⟨hB,ab,rfl⟩:=cJ args v aR
 have D:=h _ _ ab ok w dt (by simpa using cy) (fun i ag b_=>by
  rw[List.getElem_map]
  exact(e5 i (by simpa using ag) b_).loose) pR
 rcases D with⟨d1,d2⟩|⟨cv,a_,d1,d2,d3⟩
 · exact .inl ⟨d1,d2.mono fun e a_ ⟨cv,he,dI,aj⟩=>⟨cv,he,dI.loose,aj⟩⟩
 · exact .inr ⟨cv,a_,d1,d2.loose,d3⟩
def g0 (res:List lX) (v:J) (ex:de) (s:a'):Prop:=
 (match ex with
  | .exit _=>False
  | _=>True)/\((eB s.h s.F res).bind fun u=>(gR s.h u).map fun p=>p.1.loose)=some v
theorem Mh {G:Nat->Option J} {Φ:FuncId->Option bn} {tab:FuncId->Option (List J->Option J)} {f:FuncId} {fn:bn} (bI:Φ f=some fn) {args:List J} {v:J} (h:ck G Φ tab [] fn.body ⟨bj args,aJ⟩ (g0 fn.res v)):
 ∃hB,hB.loose=v/\∃n,lZ G Φ tab n f args=some hB:=by
 obtain⟨n,ex,ax,e,dy,dB⟩:=h
 obtain⟨u,hu,dB⟩:=Option.bind_eq_some_iff.1 dB
 obtain⟨p,a4,rfl⟩:=Option.map_eq_some_iff.1 dB
 refine⟨p.1,rfl,n,?_⟩
 unfold lZ vF
 simp only[bI,e]
 cases ex with
 | exit i=>exact dy.elim
 | normal=>simp only[hu,Option.map_some,Option.bind_some,a4]
 | ret=>simp only[hu,Option.map_some,Option.bind_some,a4]
noncomputable def cd {A:Type} (pre:A->Prop) (enc:A->List J) (out:A->J):List J->Option J:=fun args=>uT pre enc out (args.map J.loose)
theorem cU {A:Type} {pre:A->Prop} {enc:A->List J} {out:A->J} (inj:∀a b,enc a=enc b->out a=out b) (a:A) (h:pre a) {args:List J} (he:args.map J.loose=enc a):cd pre enc out args=some (out a):=by
 unfold cd
 rw[he]
 exact LX (fun a b _ _ h=>inj a b h) a h
theorem cG {P:Program} {G:Nat->Option J} {tab:FuncId->Option (List J->Option J)} (hm:P.follows .mixedOrders=true) (kK:∀f T,tab f=some T->br P G f T) {f:FuncId} {fn:bn} (bI:bb P f=some fn)
 {A:Type} {pre:A->Prop} {enc:A->List J} {out:A->J} (h:∀a,pre a->ck G (bb P) tab [] fn.body ⟨bj (enc a),aJ⟩ (g0 fn.res (out a))):br P G f (cd pre enc out):=by
 have I:br P G f (fun args=>open Classical in if h:∃v,∃n,lZ G (bb P) tab n f args=some v then some (Classical.choose h) else none):=
  wx hm kK fun args v cJ=>by
   split at cJ
   · rename_i ak
     cases cJ
     exact Classical.choose_spec ak
   · cases cJ
 refine Mg I fun args v cJ=>?_
 obtain⟨a,ab,h2,rfl⟩:=uU cJ
 obtain⟨hB,aX,n,aW⟩:=Mh bI (h a ab)
 rw[<-h2]
 have ak:∃v,∃n,lZ G (bb P) tab n f (enc a)=some v:=⟨hB,n,aW⟩
 refine⟨hB,?_,aX⟩
 rw[dif_pos ak]
 congr 1
 obtain⟨m,cL⟩:=Classical.choose_spec ak
 have mono:∀ {n m:Nat} {v:J},n<=m->lZ G (bb P) tab n f (enc a)=some v->lZ G (bb P) tab m f (enc a)=some v:=by
  intro n m v m_ aR
  unfold lZ at aR|-
  obtain⟨p,ab,h2⟩:=Option.bind_eq_some_iff.1 aR
  rw[zm] at ab
  have:=uR (Y:=[]) m_ (.fn f) (enc a) aJ p ab
  rw[zm,show jX G (bb P) tab m [] f (enc a) aJ=some p from this]
  exact h2
 have a1:=mono (Nat.le_max_left n m) aW
 have eC:=mono (Nat.le_max_right n m) cL
 rw[a1] at eC
 exact(Option.some.inj eC).symm
theorem i' (k:IntKind):J.int k 0=J.int k (Z 0):=rfl
theorem g1 (k:IntKind):J.int k 1=J.int k (Z 1):=rfl
theorem ja (h:aA) (k:IntKind) (n:Int):dG h (.int k n)=some (.int k n,[]):=rfl
theorem jb (h:aA) (k:IntKind) (n:Int):fZ h (.int k n)=dG h (.int k n):=rfl
theorem jc (h:aA) (k:IntKind) (n:Int):gR h (.int k n)=dG h (.int k n):=rfl
theorem jd (h:aA) (b:Bool):dG h (.bool b)=some (.bool b,[]):=rfl
theorem je (h:aA) (b:Bool):fZ h (.bool b)=dG h (.bool b):=rfl
theorem jf (h:aA) (b:Bool):gR h (.bool b)=dG h (.bool b):=rfl
theorem jg (h:aA) (b:ByteArray):dG h (.str b)=some (.str b,[]):=rfl
theorem jh (h:aA) (b:ByteArray):fZ h (.str b)=dG h (.str b):=rfl
theorem ji (h:aA) (b:ByteArray):gR h (.str b)=dG h (.str b):=rfl
theorem jj (h:aA) (xs:List J) (e:Bool):dG h (.sl xs e)=some (.sl xs e,[]):=rfl
theorem jk (h:aA) (xs:List J) (e:Bool):fZ h (.sl xs e)=dG h (.sl xs e):=rfl
theorem jl (h:aA) (xs:List J) (e:Bool):gR h (.sl xs e)=dG h (.sl xs e):=rfl
theorem g2 (h:aA) (i o l c:Nat):dG h (.ref i o l c)=match h.cells i with
 | some blk=>if o+l<=blk.length/\(blk.all J.eA)=true then some (.sl ((blk.drop o).take l) false,[i]) else none
 | none=>none:=rfl
theorem jm (h:aA) (i o l c:Nat):fZ h (.ref i o l c)=dG h (.ref i o l c):=rfl
theorem jn (h:aA) (i o l c:Nat):gR h (.ref i o l c)=dG h (.ref i o l c):=rfl
theorem jo (h:aA):dG h (.nilfn)=some (.nilfn,[]):=rfl
theorem jq (h:aA):fZ h (.nilfn)=dG h (.nilfn):=rfl
theorem jr (h:aA):gR h (.nilfn)=dG h (.nilfn):=rfl
theorem js (h:aA) (m:List (Int × FuncId)):dG h (.mp m)=some (.mp m,[]):=rfl
theorem jt (h:aA) (m:List (Int × FuncId)):fZ h (.mp m)=dG h (.mp m):=rfl
theorem ju (h:aA) (m:List (Int × FuncId)):gR h (.mp m)=dG h (.mp m):=rfl
theorem jv (h:aA) (f:FuncId) (x y:List J):dG h (.fn f x y)=none:=rfl
theorem jw (h:aA) (f:FuncId) (x y:List J):fZ h (.fn f x y)=dG h (.fn f x y):=rfl
theorem jx (h:aA) (f:FuncId) (x y:List J):gR h (.fn f x y)=dG h (.fn f x y):=rfl
theorem jy (h:aA) (i j k:Nat):dG h (.ptr i j k)=none:=rfl
theorem jz (h:aA) (i j k:Nat):fZ h (.ptr i j k)=dG h (.ptr i j k):=rfl
theorem jA (h:aA) (i j k:Nat):gR h (.ptr i j k)=dG h (.ptr i j k):=rfl
theorem jB (h:aA) (v:J):dG h (.eu v)=none:=rfl
theorem jC (h:aA) (v:J):fZ h (.eu v)=dG h (.eu v):=rfl
theorem jD (h:aA) (v:J):gR h (.eu v)=dG h (.eu v):=rfl
theorem jE (h:aA):dG h (.undef)=none:=rfl
theorem jF (h:aA):fZ h (.undef)=dG h (.undef):=rfl
theorem jG (h:aA):gR h (.undef)=dG h (.undef):=rfl
theorem jH (h:aA) (cs:List J):fZ h (.agg cs)=(eP h cs).map fun(gQ,a)=>(.agg gQ,a):=rfl
theorem jI (h:aA) (cs:List J):gR h (.agg cs)=(eP h cs).map fun(gQ,a)=>(.agg gQ,a):=rfl
theorem jJ (h:aA) (cs:List J):gR h (.ch cs)=(eJ h cs).map fun(gQ,a)=>(.ch gQ,a):=rfl
def ki (r sz bytes:Nat) (h:aA) (x y:J):Option (J × aA × dL):=(elems h y).bind fun ys=>
    if 0<sz/\0<bytes/\(ys.all fun e=>e.cells.length == sz&&e.cells.all J.c0)=true then
     match x with
     | .sl xs ex=>if ys.length=0 then some (.sl xs ex,h,if kd y then .pure else .wr) else if ex=true/\(xs.length+ys.length)*bytes<=35184372088832/\0<ys.length/\(xs.all fun e=>e.cells.length == sz)=true
         then some (.ref r 0 (xs.length+ys.length) (xs.length+ys.length),h.new r (xs++ys),if kd y then .gE else .wr) else none
     | .ref id off len cap=>if ys.length=0 then some (.ref id off len cap,h,if kd y then .pure else .wr) else if h.shut id=true then none else (h.cells id).bind fun blk=>
         if off+len<=blk.length/\(len+ys.length)*bytes<=35184372088832/\0<ys.length/\(blk.all fun e=>e.cells.length == sz)=true then
          if len+ys.length<=cap then
           if off+cap<=blk.length then some (.ref id off (len+ys.length) cap,h.new id (blk.take (off+len)++ys++blk.drop (off+len+ys.length)),.wr) else none
          else if off=0/\0<len then some (.ref r 0 (len+ys.length) (len+ys.length),{h with cells:=aF (aF h.cells id none) r (some (blk.take len++ys))},.wr) else none
         else none
     | _=>none
    else none
theorem jK (bs r:Nat) (bw:bf->J) (h:aA) (sz bytes:Nat) (x y:bf):evalOp bs r bw h (.app sz bytes x y)=ki r sz bytes h (bw x) (bw y):=by rfl
def dh (sz:Nat) (h:aA) (v:J) (xs:List J):Prop:=
 (∀j,h.next<=j->h.shut j=false)/\
 ((xs= []/\v= .sl [] true)\/(0<xs.length/\∃q,v= .ref q 0 xs.length xs.length/\h.cells q=some xs/\h.shut q=false/\q<h.next/\(xs.all fun e=>e.cells.length == sz)=true))
def kD (r:Nat) (h:aA) (v:J) (ec:List J):aA:=match v with
 | .ref q _ _ _=>{h with cells:=aF (aF h.cells q none) r (some ec)}
 | _=>h.new r ec
def zz (v:J):dL:=match v with
 | .ref .. => .wr
 | _=> .gE
theorem hr (r:Nat) (h:aA) (v:J) (ec:List J):(kD r h v ec).cells r=some ec:=by
 unfold kD;split<;>simp[aA.new,aF]
theorem jL (r:Nat) (h:aA) (v:J) (ec:List J):(kD r h v ec).next=h.next:=by
 unfold kD;split<;>rfl
theorem jM (r:Nat) (h:aA) (v:J) (ec:List J):(kD r h v ec).shut=h.shut:=by
 unfold kD;split<;>rfl
theorem jN (r:Nat) (h:aA) (v:J) (ec:List J):(kD r h v ec).bm=h.bm:=by
 unfold kD;split<;>rfl
theorem Mi {r:Nat} {h:aA} {v:J} {ec:List J} {q:Nat} (ab:q≠r) (h2:∀a b c,v≠ .ref q a b c):(kD r h v ec).cells q=h.cells q:=by
 unfold kD
 split
 · rename_i mj a b c
   have:q≠mj:=fun e=>h2 a b c (by rw[e])
   simp[aF,ab,this]
 · simp[aA.new,aF,ab]
theorem qT {sz:Nat} {h:aA} {v:J} {xs:List J} (Mj:dh sz h v xs) (cy:0<sz) {bytes:Nat} (aj:0<bytes) {ys:List J} (n3:0<ys.length) (bd:(ys.all fun e=>e.cells.length == sz&&e.cells.all J.c0)=true)
 (aV:(xs.length+ys.length)*bytes<=35184372088832) (m r:Nat) (e:Bool):
 ki r sz bytes ⟨h.cells,h.shut,m,h.bm⟩ v (.sl ys e)=some (.ref r 0 (xs.length+ys.length) (xs.length+ys.length),kD r ⟨h.cells,h.shut,m,h.bm⟩ v (xs++ys),zz v):=by
 have aJ:¬ys.length=0:=by omega
 unfold ki
 simp only[elems,Option.bind_some,if_pos (And.intro cy (And.intro aj bd))]
 rcases Mj.2 with⟨rfl,rfl⟩|⟨ab,q,rfl,h2,aX,aW,cL⟩
 · simp only[if_neg aJ,kd,if_true]
   rw[if_pos ⟨trivial,aV,n3,rfl⟩]
   rfl
 · have fo:¬xs.length+ys.length<=xs.length:=by omega
   simp only[if_neg aJ,aX,Bool.false_eq_true,if_false,h2,Option.bind_some]
   rw[if_pos ⟨by omega,aV,n3,cL⟩,if_neg fo,if_pos ⟨trivial,ab⟩]
   simp only[List.take_length,kD,zz]
theorem dh.mono {sz:Nat} {h av:aA} {v:J} {xs:List J} (o:dh sz h v xs) (I:∀q,q<h.next->av.cells q=h.cells q) (aG:∀q,av.shut q=h.shut q) (ar:h.next<=av.next):dh sz av v xs:=by
 refine⟨fun j aZ=>by rw[aG];exact o.1 j (by omega),?_⟩
 rcases o.2 with o|⟨ab,q,h2,aX,aW,cL,fo⟩
 · exact .inl o
 · exact .inr ⟨ab,q,h2,by rw[I q cL];exact aX,by rw[aG q];exact aW,by omega,fo⟩
theorem dh.bump {sz:Nat} {h:aA} {v:J} {xs:List J} (o:dh sz h v xs) (m:Nat) (hm:h.next<=m):dh sz ⟨h.cells,h.shut,m,h.bm⟩ v xs:=o.mono (fun _ _=>rfl) (fun _=>rfl) hm
theorem dh.nil {sz:Nat} {h:aA} (aG:∀j,h.next<=j->h.shut j=false):dh sz h (.sl [] true) []:=⟨aG,.inl ⟨rfl,rfl⟩⟩
theorem dh.app {sz:Nat} {h:aA} {v:J} {xs:List J} (o:dh sz h v xs) {ys:List J} (n3:0<ys.length) (bd:(ys.all fun e=>e.cells.length == sz)=true) (m mc r:Nat) (p m7:Nat->Option fw) (ba:h.next<=r) (hm:r<mc):
 dh sz ⟨(kD r ⟨h.cells,h.shut,m,p⟩ v (xs++ys)).cells,h.shut,mc,m7⟩ (.ref r 0 (xs.length+ys.length) (xs.length+ys.length)) (xs++ys):=by
 refine⟨fun j aZ=>o.1 j (Nat.le_trans (Nat.le_trans ba (Nat.le_of_lt hm)) aZ),.inr ⟨by simp;omega,r,by simp,hr ..,o.1 r ba,hm,?_⟩⟩
 rw[List.all_append,bd]
 rcases o.2 with⟨rfl,_⟩|⟨_,_,_,_,_,_,fo⟩
 · rfl
 · rw[fo];rfl
theorem dh.other {sz:Nat} {h:aA} {v:J} {xs:List J} (o:dh sz h v xs) {m:Nat} {p:Nat->Option fw} {r q:Nat} {ec:List J} (ab:q≠r) (h2:∀a b c,v≠ .ref q a b c):(kD r ⟨h.cells,h.shut,m,p⟩ v ec).cells q=h.cells q:=Mi ab h2
theorem dh.out {sz:Nat} {h:aA} {v:J} {xs:List J} (o:dh sz h v xs) (aj:(xs.all J.eA)=true):∃ids,∀m p,fZ ⟨h.cells,h.shut,m,p⟩ v=some (.sl xs (decide (xs= [])),ids)/\gR ⟨h.cells,h.shut,m,p⟩ v=some (.sl xs (decide (xs= [])),ids)/\dG ⟨h.cells,h.shut,m,p⟩ v=some (.sl xs (decide (xs= [])),ids):=by
 rcases o.2 with⟨rfl,rfl⟩|⟨ab,q,rfl,aX,aW,cL,fo⟩
 · exact⟨[],fun m p=>⟨rfl,rfl,rfl⟩⟩
 · refine⟨[q],fun m p=>?_⟩
   have:xs≠ []:=by rintro rfl;simp at ab
   simp only[fZ,dG,gR,aX]
   rw[if_pos ⟨by omega,aj⟩]
   simp[this]
theorem dh.len {sz:Nat} {h:aA} {v:J} {xs:List J} (o:dh sz h v xs) (bs r:Nat) (bw:bf->J) (av:aA) (x:bf) (ak:bw x=v):evalOp bs r bw av (.len false x)=some (.int .i64 xs.length,av,.pure):=by
 rcases o.2 with⟨rfl,rfl⟩|⟨ab,q,rfl,aX,aW,cL,fo⟩<;>simp[evalOp,ak]
section hand
variable {P:Program} {ops:Array Oper} {Q:Exit->Act->World->Prop} {a:Act} {w a_:World} {rest:List Oper} {o:Oper}
end hand
end Go.Eng
