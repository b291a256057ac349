import Derived.Test.YtemiagcencajeaaGreatDoorXeE3
import Derived.ProofKit
import Derived.DataElems
import Derived.LaidMore
import Derived.OpenShut
import Derived.Handed
import Derived.LaidLaws
import Derived.MakeChecks
import Derived.Tactics
set_option linter.unusedSimpArgs false
set_option linter.unusedVariables false
set_option linter.unusedSectionVars false
namespace Go.Eng
open Go Go.RowKit
abbrev lR:=ku->List I->af->Option (I × af)
def rY (a b:lR):Prop:=∀f args h r,a f args h=some r->b f args h=some r
section
variable {G:Nat->Option I} {Φ:FuncId->Option aM} {tab:FuncId->Option (List I->Option I)} {Y:List cF}
theorem Hz {a b:lR} (ie:rY a b) {aX r:Nat} {e:aU} {s:aI} {x:aI × dy} (h:cM G tab a aX r e s=some x):cM G tab b aX r e s=some x:=by
 unfold cM at h|-
 split at h
 · split at h<;>try(cases h;done)
   · rename_i n first caps bg
     try simp only
     split at h
     · rename_i T cR
       try simp only[cR]
       exact h
     · rename_i cR
       try simp only[cR]
       obtain⟨p,aF,h⟩:=Option.map_eq_some_iff.1 h
       rw[ie _ _ _ _ aF];exact congrArg some h
   · obtain⟨p,aF,h⟩:=Option.map_eq_some_iff.1 h
     try simp only
     rw[ie _ _ _ _ aF];exact congrArg some h
 · exact h
theorem HA {a b:lR} (ie:rY a b) {aX r:Nat} {e:aU} {s:aI} {x:aI × dy} (h:ch G tab a aX r e s=some x):ch G tab b aX r e s=some x:=by
 unfold ch at h|-
 split at h
 · exact Hz ie h
 · split at h
   · split at h
     · rename_i aa
       simp only[if_pos aa]
       exact Hz ie h
     · rename_i aa
       simp only[if_neg aa];exact h
   · exact h
   · cases h
theorem B9 {a b:lR} (ie:rY a b) {aX:Nat}:∀ {L:List (aU × Nat)} {s:aI} {x:aI × List dy},cE G tab a aX L s=some x->cE G tab b aX L s=some x
 | [],s,x,h=>h
 | (e,i)::L,s,x,h=>by
   simp only[cE] at h|-
   split at h<;>try(cases h;done)
   rename_i s1 c U
   rw[HA ie U]
   simp only
   obtain⟨p,aF,h⟩:=Option.map_eq_some_iff.1 h
   rw[B9 ie aF];exact congrArg some h
theorem QP {a b:lR} (ie:rY a b) {j6:Bool} {ops:List aU} {eL:List Nat} {s aj:aI} (h:dN G tab a j6 ops eL s=some aj):dN G tab b j6 ops eL s=some aj:=by
 unfold dN at h|-
 split at h<;>try(cases h;done)
 rename_i s1 cs U
 rw[B9 ie U];exact h
theorem B_ {n:Nat} {f:FuncId} {args:List I} {h:af} {v:I} {fn:aM} {ex:c0} {aj:aI} (bg:Φ f=some fn) (he:exec G Φ tab n Y fn.body ⟨ds args,h⟩=some (ex,aj)) (hex:ex= .normal\/ex= .ret) (av:dz aj.h aj.F fn.res=some v):
 j7 G Φ tab n Y f args h=some (v,aj.h):=by
 unfold j7
 rw[bg]
 rcases hex with rfl|rfl<;>simp only[he,av,Option.map_some]
theorem vN {n id:Nat} {args:List I} {h h':af} {v:I} {L:cF} {Y':List cF} {s1:aI} {ex:c0} {aj:aI} (bb:n8 id Y=some (L,Y')) (hlen:L.ps.length=args.length) (U:exec G Φ tab n Y' L.dm ⟨mW L.F L.ps args,h⟩=some (.normal,s1))
 (aF:s1.h.aS id=some .ready) (h2:exec G Φ tab n Y' L.body ⟨s1.F,s1.h.set id (some .busy)⟩=some (ex,aj)) (aa:aj.h.aS id=some .busy)
 (az:(ex= .normal/\v= .bool true/\h'=aj.h.set id (some .ready))\/(ex≠ .normal/\v= .bool false/\h'=aj.h.set id (some (.done ex)))):ny G Φ tab n Y id args h=some (v,h'):=by
 unfold ny
 simp only[bb,if_pos hlen,U,aF,h2,aa]
 rcases az with⟨rfl,rfl,rfl⟩|⟨bG,rfl,rfl⟩
 · rfl
 · cases ex with
   | normal=>exact absurd rfl bG
   | exit i=>rfl
   | ret=>rfl
theorem B' {n:Nat} {f:aQ} {ps:List Nat} {dm body:cU} {s:aI} {ex:c0} {g:FuncId} {first caps:List I} {v:I} {h':af} {p:ff} (bg:f.ev G s.F= .fn g first caps)
 (J:j7 G Φ tab n (⟨s.h.next,s.F,ps,dm,body⟩::Y) g (first++ [.fR s.h.next]++caps) {s.h with next:=s.h.next+1,aS:=an s.h.aS s.h.next (some .ready)}=some (v,h'))
 (aF:h'.aS s.h.next=some p) (nz:(p= .ready/\ex= .normal)\/p= .done ex):exec G Φ tab (n+1) Y (.kM f ps dm body) s=some (ex,⟨s.F,h'.set s.h.next none⟩):=by
 obtain⟨fn,e,aj,mf,he,hex,av,rfl⟩:=qu J
 rw[ic]
 rcases hex with rfl|rfl
 · simp only[bg,mf,he,av,aF]
   rcases nz with⟨rfl,rfl⟩|rfl<;>rfl
 · simp only[bg,mf,he,av,aF]
   rcases nz with⟨rfl,rfl⟩|rfl<;>rfl
theorem tJ {m4:FuncId->Option aM} (au:∀f fn,m4 f=some fn->Φ f=some fn):∀(n m:Nat),n<=m->∀(Y:List cF) (c:cU) (s:aI) (x:c0 × aI),exec G m4 tab n Y c s=some x->exec G Φ tab m Y c s=some x
 | 0,_,_,Y,c,s,x,h=>by unfold exec at h;cases h
 | n+1,0,m5,_,_,_,_,_=>absurd m5 (by omega)
 | n+1,m+1,m5,Y,c,s,x,h=>by
   have a6:=tJ au n m (by omega)
   have bj:∀ {Y:List cF} {f:FuncId} {args:List I} {h:af} {r:I × af},j7 G m4 tab n Y f args h=some r->j7 G Φ tab m Y f args h=some r:=by
    intro Y f args h r J
    obtain⟨v,h'⟩:=r
    obtain⟨fn,ex,aj,bg,he,hex,av,rfl⟩:=qu J
    exact B_ (au _ _ bg) (a6 _ _ _ _ he) hex av
   have hle:rY (kj G m4 tab n Y) (kj G Φ tab m Y):=by
    intro t args h r J
    obtain⟨v,h'⟩:=r
    cases t with
    | fn f=>exact bj J
    | k4 id=>
      obtain⟨L,Y',s1,ex,aj,bb,hlen,U,aF,h2,aa,az⟩:=tE J
      exact vN bb hlen (a6 _ _ _ _ U) aF (a6 _ _ _ _ h2) aa az
   have aD:=h
   rw[ic] at h
   cases c with
   | skip=>rw[ic];exact h
   | ret=>rw[ic];exact h
   | exit id=>rw[ic];exact h
   | region j6 ops eL=>
     rw[ic]
     simp only at h|-
     obtain⟨s1,U,h⟩:=Option.map_eq_some_iff.1 h
     rw[QP hle U];exact congrArg some h
   | seq a b=>
     rw[ic]
     simp only at h|-
     split at h
     · rename_i s1 U
       rw[a6 _ _ _ _ U];exact a6 _ _ _ _ h
     · rename_i bG
       rw[a6 _ _ _ _ h]
       obtain⟨ex,s1⟩:=x
       cases ex with
       | normal=>exact absurd h (bG s1)
       | exit i=>rfl
       | ret=>rfl
   | cond y a b=>
     rw[ic]
     simp only at h|-
     split at h<;>try(cases h;done)
     rename_i t aJ
     split at h
     · rename_i rT;simp only[if_pos rT];exact a6 _ _ _ _ h
     · rename_i rT;simp only[if_neg rT];exact a6 _ _ _ _ h
   | block id b=>
     rw[ic]
     simp only at h|-
     split at h
     · rename_i i s1 U
       rw[a6 _ _ _ _ U];exact h
     · rename_i bG
       rw[a6 _ _ _ _ h]
       obtain⟨ex,s1⟩:=x
       cases ex with
       | normal=>rfl
       | exit i=>exact absurd h (bG i s1)
       | ret=>rfl
   | loop b=>
     rw[ic]
     simp only at h|-
     split at h
     · rename_i s1 U
       rw[a6 _ _ _ _ U];exact a6 _ _ _ _ h
     · rename_i bG
       rw[a6 _ _ _ _ h]
       obtain⟨ex,s1⟩:=x
       cases ex with
       | normal=>exact absurd h (bG s1)
       | exit i=>rfl
       | ret=>rfl
   | kM f ps dm body=>
     obtain⟨ex,aj⟩:=x
     obtain⟨g,first,caps,v,h',p,bg,J,aF,nz,rfl⟩:=xT aD
     exact B' bg (bj J) aF nz
theorem tK {n m:Nat} (m5:n<=m) {c:cU} {s:aI} {x:c0 × aI} (h:exec G Φ tab n Y c s=some x):exec G Φ tab m Y c s=some x:=tJ (fun _ _ h=>h) n m m5 Y c s x h
theorem QQ {m4:FuncId->Option aM} (au:∀f fn,m4 f=some fn->Φ f=some fn) {n m:Nat} (m5:n<=m):rY (kj G m4 tab n Y) (kj G Φ tab m Y):=by
 intro t args h r J
 obtain⟨v,h'⟩:=r
 cases t with
 | fn f=>
   obtain⟨fn,ex,aj,bg,he,hex,av,rfl⟩:=qu J
   exact B_ (au _ _ bg) (tJ au _ _ m5 _ _ _ _ he) hex av
 | k4 id=>
   obtain⟨L,Y',s1,ex,aj,bb,hlen,U,aF,h2,aa,az⟩:=tE J
   exact vN bb hlen (tJ au _ _ m5 _ _ _ _ U) aF (tJ au _ _ m5 _ _ _ _ h2) aa az
theorem vO {n m:Nat} (m5:n<=m):rY (kj G Φ tab n Y) (kj G Φ tab m Y):=QQ (fun _ _ h=>h) m5
def a7 (G:Nat->Option I) (Φ:FuncId->Option aM) (tab:FuncId->Option (List I->Option I)) (Y:List cF) (c:cU) (s:aI) (Q:c0->aI->Prop):Prop:=∃n ex aj,exec G Φ tab n Y c s=some (ex,aj)/\Q ex aj
def qx (Q:c0->aI->Prop) (K:aI->Prop):c0->aI->Prop
 | .normal,s=>K s
 | ex,s=>Q ex s
theorem fU (Q:c0->aI->Prop) (K:aI->Prop) (s:aI):qx Q K .normal s=K s:=rfl
theorem fV (Q:c0->aI->Prop) (K:aI->Prop) (s:aI):qx Q K .ret s=Q .ret s:=rfl
theorem fW (Q:c0->aI->Prop) (K:aI->Prop) (i:Nat) (s:aI):qx Q K (.exit i) s=Q (.exit i) s:=rfl
def qy (id:Nat) (Q:c0->aI->Prop):c0->aI->Prop
 | .exit i,s=>if i=id then Q .normal s else Q (.exit i) s
 | ex,s=>Q ex s
theorem fX (id:Nat) (Q:c0->aI->Prop) (s:aI):qy id Q .normal s=Q .normal s:=rfl
theorem fY (id:Nat) (Q:c0->aI->Prop) (s:aI):qy id Q .ret s=Q .ret s:=rfl
theorem fZ (id i:Nat) (Q:c0->aI->Prop) (s:aI):qy id Q (.exit i) s=if i=id then Q .normal s else Q (.exit i) s:=rfl
theorem a7.mono {c:cU} {s:aI} {Q HB:c0->aI->Prop} (h:a7 G Φ tab Y c s Q) (aG:∀ex s,Q ex s->HB ex s):a7 G Φ tab Y c s HB:=
 let ⟨n,ex,aj,e,q⟩:=h;⟨n,ex,aj,e,aG _ _ q⟩
theorem iC {s:aI} {Q:c0->aI->Prop} (h:Q .normal s):a7 G Φ tab Y .skip s Q:=⟨1,.normal,s,rfl,h⟩
theorem bU {s:aI} {Q:c0->aI->Prop} (h:Q .ret s):a7 G Φ tab Y .ret s Q:=⟨1,.ret,s,rfl,h⟩
theorem c9 {i:Nat} {s:aI} {Q:c0->aI->Prop} (h:Q (.exit i) s):a7 G Φ tab Y (.exit i) s Q:=⟨1,.exit i,s,rfl,h⟩
theorem a8 {a b:cU} {s:aI} {Q:c0->aI->Prop} (h:a7 G Φ tab Y a s (qx Q fun s1=>a7 G Φ tab Y b s1 Q)):a7 G Φ tab Y (.seq a b) s Q:=by
 obtain⟨n,ex,s1,U,h2⟩:=h
 cases ex with
 | normal=>
   obtain⟨m,ex,s2,az,aT⟩:=h2
   refine⟨max n m+1,ex,s2,?_,aT⟩
   rw[ic]
   simp only[tK (Nat.le_max_left n m) U]
   exact tK (Nat.le_max_right n m) az
 | exit i=>exact ⟨n+1,.exit i,s1,by rw[ic];simp only[U],h2⟩
 | ret=>exact ⟨n+1,.ret,s1,by rw[ic];simp only[U],h2⟩
theorem fI {x:aQ} {a b:cU} {s:aI} {Q:c0->aI->Prop} (t:Bool) (aJ:x.ev G s.F= .bool t) (U:t=true->a7 G Φ tab Y a s Q) (h2:t=false->a7 G Φ tab Y b s Q):a7 G Φ tab Y (.cond x a b) s Q:=by
 cases t with
 | true=>
   obtain⟨n,ex,s1,e,q⟩:=U rfl
   exact ⟨n+1,ex,s1,by rw[ic];simp only[aJ,if_true];exact e,q⟩
 | false=>
   obtain⟨n,ex,s1,e,q⟩:=h2 rfl
   exact ⟨n+1,ex,s1,by rw[ic];simp only[aJ,Bool.false_eq_true,if_false];exact e,q⟩
theorem jX {id:Nat} {b:cU} {s:aI} {Q:c0->aI->Prop} (h:a7 G Φ tab Y b s (qy id Q)):a7 G Φ tab Y (.block id b) s Q:=by
 obtain⟨n,ex,s1,e,q⟩:=h
 cases ex with
 | normal=>exact ⟨n+1,.normal,s1,by rw[ic];simp only[e],q⟩
 | ret=>exact ⟨n+1,.ret,s1,by rw[ic];simp only[e],q⟩
 | exit i=>
   by_cases ab:i=id
   · exact ⟨n+1,.normal,s1,by rw[ic];simp only[e,if_pos ab],by simpa[qy,ab] using q⟩
   · exact ⟨n+1,.exit i,s1,by rw[ic];simp only[e,if_neg ab],by simpa[qy,ab] using q⟩
theorem QR {b:cU} {Q:c0->aI->Prop} (ak:Nat->aI->Prop) (round:∀k s,ak k s->a7 G Φ tab Y b s (qx Q fun s1=>∃j,j<k/\ak j s1)):∀(k:Nat) (s:aI),ak k s->a7 G Φ tab Y (.loop b) s Q:=by
 intro k
 induction k using Nat.strongRecOn with
 | _ k a6=>
   intro s pq
   obtain⟨n,ex,s1,e,q⟩:=round k s pq
   cases ex with
   | normal=>
     obtain⟨j,aA,QS⟩:=q
     obtain⟨m,ex,s2,ao,c_⟩:=a6 j aA s1 QS
     refine⟨max n m+1,ex,s2,?_,c_⟩
     rw[ic]
     simp only[tK (Nat.le_max_left n m) e]
     exact tK (Nat.le_max_right n m) ao
   | exit i=>exact ⟨n+1,.exit i,s1,by rw[ic];simp only[e],q⟩
   | ret=>exact ⟨n+1,.ret,s1,by rw[ic];simp only[e],q⟩
def x5:lR:=fun _ _ _=>none
def vP (G:Nat->Option I) (Φ:FuncId->Option aM) (tab:FuncId->Option (List I->Option I)) (Y:List cF) (cd:lR):Prop:=∀t args h r,cd t args h=some r->∃n,kj G Φ tab n Y t args h=some r
theorem bp:vP G Φ tab Y x5:=fun _ _ _ _ h=>by cases h
theorem HC {cd:lR} (rZ:vP G Φ tab Y cd) {aX:Nat}:∀ {L:List (aU × Nat)} {s:aI} {x:aI × List dy},cE G tab cd aX L s=some x->∃n,cE G tab (kj G Φ tab n Y) aX L s=some x
 | [],s,x,h=>⟨0,h⟩
 | (e,i)::L,s,x,h=>by
   simp only[cE] at h
   split at h<;>try(cases h;done)
   rename_i s1 c U
   obtain⟨p,aF,ae⟩:=Option.map_eq_some_iff.1 h
   obtain⟨n,aq⟩:=HC rZ aF
   have one:∃m,ch G tab (kj G Φ tab m Y) aX (aX+i) e s=some (s1,c):=by
    have go:∀ {y:aI × dy},cM G tab cd aX (aX+i) e s=some y->∃m,cM G tab (kj G Φ tab m Y) aX (aX+i) e s=some y:=by
     intro y aO
     unfold cM at aO
     split at aO
     · rename_i f args he
       split at aO<;>try(cases aO;done)
       · rename_i q first caps bg
         split at aO
         · rename_i T cR
           refine⟨0,?_⟩
           unfold cM;simp only[he,bg,cR];exact aO
         · rename_i cR
           obtain⟨v,av,aO⟩:=Option.map_eq_some_iff.1 aO
           obtain⟨m,hm⟩:=rZ _ _ _ _ av
           refine⟨m,?_⟩
           unfold cM;simp only[he,bg,cR,hm];exact congrArg some aO
       · rename_i id bg
         obtain⟨v,av,aO⟩:=Option.map_eq_some_iff.1 aO
         obtain⟨m,hm⟩:=rZ _ _ _ _ av
         refine⟨m,?_⟩
         unfold cM;simp only[he,bg,hm];exact congrArg some aO
     · rename_i bG
       refine⟨0,?_⟩
       unfold cM
       split
       · rename_i f as he;exact absurd he (bG f as)
       · exact aO
    unfold ch at U
    split at U
    · rename_i aW
      obtain⟨m,hm⟩:=go U
      exact ⟨m,by unfold ch;rw[aW];exact hm⟩
    · rename_i t want aW
      split at U<;>try(cases U;done)
      rotate_left
      · rename_i aa
        exact ⟨0,by unfold ch;simp only[aW,aa];exact U⟩
      rename_i b aa
      split at U
      · rename_i nt
        obtain⟨m,hm⟩:=go U
        exact ⟨m,by unfold ch;simp only[aW,aa,if_pos nt];exact hm⟩
      · rename_i nt
        exact ⟨0,by unfold ch;simp only[aW,aa,if_neg nt];exact U⟩
   obtain⟨m,hm⟩:=one
   refine⟨max m n,?_⟩
   simp only[cE,HA (vO (Nat.le_max_left m n)) hm]
   rw[B9 (vO (Nat.le_max_right m n)) aq]
   exact congrArg some ae
theorem QT {cd:lR} (rZ:vP G Φ tab Y cd) {j6:Bool} {ops:List aU} {eL:List Nat} {s:aI} {Q:c0->aI->Prop} (aj:aI) (h:dN G tab cd j6 ops eL s=some aj) (aG:Q .normal aj):a7 G Φ tab Y (.region j6 ops eL) s Q:=by
 unfold dN at h
 split at h<;>try(cases h;done)
 rename_i s1 cs U
 split at h<;>try(cases h;done)
 rename_i jU
 cases h
 obtain⟨n,aq⟩:=HC rZ U
 refine⟨n+1,.normal,_,?_,aG⟩
 rw[ic]
 simp only[dN,aq,if_pos jU,Option.map_some]
def eM (G:Nat->Option I) (tab:FuncId->Option (List I->Option I)) (cd:lR) (j6:Bool) (ops:List aU) (eL:List Nat) (s:aI) (K:aI->Prop):Prop:=
 match cE G tab cd s.h.next ops.zipIdx ⟨s.F,{s.h with next:=s.h.next+ops.length}⟩ with
 | some (aj,cs)=>(j6=true->te cs eL=true)/\K aj
 | none=>False
theorem bf {cd:lR} (rZ:vP G Φ tab Y cd) {j6:Bool} {ops:List aU} {eL:List Nat} {s:aI} {Q:c0->aI->Prop} (h:eM G tab cd j6 ops eL s (Q .normal)):a7 G Φ tab Y (.region j6 ops eL) s Q:=by
 unfold eM at h
 split at h
 · rename_i aj cs U
   refine QT rZ aj ?_ h.2
   unfold dN
   rw[U]
   have:(!j6||te cs eL)=true:=by
    cases j6 with
    | false=>rfl
    | true=>simpa using h.1 rfl
   simp only[this,if_true]
 · exact h.elim
def f_ (res:List l9) (v:I) (ex:c0) (s:aI):Prop:=
 (match ex with
  | .exit _=>False
  | _=>True)/\((dz s.h s.F res).bind fun u=>(iY s.h u).map (·.1))=some v
def QU (id:Nat) (F:Nat->I) (res:List l9) (Q:c0->aI->Prop) (ex:c0) (s:aI):Prop:=
 (match ex with
  | .exit _=>False
  | _=>True)/\(∃v,dz s.h s.F res=some v)/\(match s.h.aS id with
  | some .ready=>Q .normal ⟨F,s.h.set id none⟩
  | some (.done e)=>Q e ⟨F,s.h.set id none⟩
  | _=>False)
theorem HD {f:aQ} {ps:List Nat} {dm body:cU} {s:aI} {Q:c0->aI->Prop} {g:FuncId} {first caps:List I} {fn:aM} (bg:f.ev G s.F= .fn g first caps) (aW:Φ g=some fn)
 (h:a7 G Φ tab (⟨s.h.next,s.F,ps,dm,body⟩::Y) fn.body ⟨ds (first++ [.fR s.h.next]++caps),{s.h with next:=s.h.next+1,aS:=an s.h.aS s.h.next (some .ready)}⟩ (QU s.h.next s.F fn.res Q)):a7 G Φ tab Y (.kM f ps dm body) s Q:=by
 obtain⟨n,ex,aj,e,c8,⟨v,av⟩,h5⟩:=h
 have hex:ex= .normal\/ex= .ret:=by
  cases ex with
  | normal=>exact .inl rfl
  | ret=>exact .inr rfl
  | exit i=>exact c8.elim
 have J:=B_ aW e hex av
 split at h5
 · rename_i aF
   exact ⟨n+1,.normal,_,B' bg J aF (.inl ⟨rfl,rfl⟩),h5⟩
 · rename_i e' aF
   exact ⟨n+1,e',_,B' bg J aF (.inr rfl),h5⟩
 · exact h5.elim
end
def cA (l:List (FuncId × (List I->Option I))):FuncId->Option (List I->Option I):=fun f=>l.lookup f
theorem cH {P:Program} {G:Nat->Option I}:∀ {l:List (FuncId × (List I->Option I))},(∀p∈l,aP P G p.1 p.2)->∀f T,cA l f=some T->aP P G f T
 | [],_,f,T,h=>by cases h
 | (g,je)::l,aw,f,T,h=>by
   unfold cA at h
   rw[List.lookup_cons] at h
   by_cases e:f=g
   · subst e
     simp only[BEq.rfl] at h
     cases h
     exact aw (f,je) (by simp)
   · have:(f == g)=false:=by simpa using e
     simp only[this] at h
     exact cH (fun p aF=>aw p (by simp[aF])) f T h
end Go.Eng
namespace Go.Eng
open Go Go.RowKit
section
variable {G:Nat->Option I} {Φ m4:FuncId->Option aM} {tab:FuncId->Option (List I->Option I)} {Y:List cF}
theorem HE (au:∀f fn,m4 f=some fn->Φ f=some fn) (n:Nat) (Y:List cF) (c:cU) (s:aI) (x:c0 × aI) (h:exec G m4 tab n Y c s=some x):exec G Φ tab n Y c s=some x:=tJ au n n (Nat.le_refl _) Y c s x h
theorem HF (au:∀f fn,m4 f=some fn->Φ f=some fn) {n:Nat} {f:FuncId} {args:List I} {v:I} (h:l' G m4 tab n f args=some v):l' G Φ tab n f args=some v:=by
 unfold l' at h|-
 obtain⟨p,U,h2⟩:=Option.bind_eq_some_iff.1 h
 unfold xm at U|-
 split at U<;>try(cases U;done)
 rename_i fn bg
 simp only[au _ _ bg]
 split at U
 · rename_i aj he
   rw[HE au _ _ _ _ _ he];simp only[U];exact h2
 · rename_i aj he
   rw[HE au _ _ _ _ _ he];simp only[U];exact h2
 · cases U
noncomputable def eX (G:Nat->Option I) (Φ:FuncId->Option aM) (tab:FuncId->Option (List I->Option I)) (Y:List cF):lR:=fun f args h=>
 open Classical in if ae:∃r n,kj G Φ tab n Y f args h=some r then some (Classical.choose ae) else none
theorem ou:vP G Φ tab Y (eX G Φ tab Y):=by
 intro f args h r aH
 unfold eX at aH
 split at aH
 · rename_i ae
   cases aH
   exact Classical.choose_spec ae
 · cases aH
theorem x6 {f:ku} {args:List I} {h:af} {r:I × af} {n:Nat} (aq:kj G Φ tab n Y f args h=some r):eX G Φ tab Y f args h=some r:=by
 have ae:∃r n,kj G Φ tab n Y f args h=some r:=⟨r,n,aq⟩
 unfold eX
 rw[dif_pos ae]
 obtain⟨m,hm⟩:=Classical.choose_spec ae
 congr 1
 have a:=vO (Nat.le_max_left n m) _ _ _ _ aq
 have b:=vO (Nat.le_max_right n m) _ _ _ _ hm
 rw[a] at b
 exact (Option.some.inj b).symm
def jI (res:List l9) (R:I->af->Prop) (ex:c0) (s:aI):Prop:=
 (match ex with
  | .exit _=>False
  | _=>True)/\∃v,dz s.h s.F res=some v/\R v s.h
theorem j8 {f:FuncId} {fn:aM} (bg:Φ f=some fn) {args:List I} {h:af} {R:I->af->Prop} (he:a7 G Φ tab Y fn.body ⟨ds args,h⟩ (jI fn.res R)):∃v h',eX G Φ tab Y (.fn f) args h=some (v,h')/\R v h':=by
 obtain⟨n,ex,aj,e,c8,v,c_,h5⟩:=he
 refine⟨v,aj.h,x6 (n:=n) ?_,h5⟩
 show j7 G Φ tab n Y f args h=_
 unfold j7
 simp only[bg,e]
 cases ex with
 | exit i=>exact c8.elim
 | normal=>simp only[c_,Option.map_some]
 | ret=>simp only[c_,Option.map_some]
theorem HG {id:Nat} {args:List I} {h:af} {R:I->af->Prop} {L:cF} {Y':List cF} (bb:n8 id Y=some (L,Y')) (hlen:L.ps.length=args.length)
 (he:a7 G Φ tab Y' L.dm ⟨mW L.F L.ps args,h⟩ (fun ex s1=>ex= .normal/\s1.h.aS id=some .ready/\a7 G Φ tab Y' L.body ⟨s1.F,s1.h.set id (some .busy)⟩ (fun ex aj=>aj.h.aS id=some .busy/\
   (match ex with
    | .normal=>R (.bool true) (aj.h.set id (some .ready))
    | e=>R (.bool false) (aj.h.set id (some (.done e))))))):∃v h',eX G Φ tab Y (.k4 id) args h=some (v,h')/\R v h':=by
 obtain⟨n,ex,s1,al,rfl,aF,m,QV,aj,ao,aa,ee⟩:=he
 have a1:=tK (Nat.le_max_left n m) al
 have eO:=tK (Nat.le_max_right n m) ao
 cases QV with
 | normal=>exact ⟨_,_,x6 (f:= .k4 id) (n:=max n m) (vN bb hlen a1 aF eO aa (.inl ⟨rfl,rfl,rfl⟩)),ee⟩
 | exit i=>exact ⟨_,_,x6 (f:= .k4 id) (n:=max n m) (vN bb hlen a1 aF eO aa (.inr ⟨by simp,rfl,rfl⟩)),ee⟩
 | ret=>exact ⟨_,_,x6 (f:= .k4 id) (n:=max n m) (vN bb hlen a1 aF eO aa (.inr ⟨by simp,rfl,rfl⟩)),ee⟩
end
def HH (b:Bool):Option I->Bool
 | some (.bool c)=>c == b
 | _=>false
theorem QW {b:Bool} {x:Option I} (h:HH b x=true):x=some (.bool b):=by
 unfold HH at h
 split at h
 · simp at h;rw[h]
 · cases h
def Ca (l:List (FuncId × aM)):FuncId->Option aM:=fun f=>l.lookup f
theorem Cb {Φ:FuncId->Option aM}:∀ {l:List (FuncId × aM)},(∀p∈l,Φ p.1=some p.2)->∀f fn,Ca l f=some fn->Φ f=some fn
 | [],_,f,fn,h=>by cases h
 | (g,je)::l,aw,f,fn,h=>by
   unfold Ca at h
   rw[List.lookup_cons] at h
   by_cases e:f=g
   · subst e
     simp only[BEq.rfl] at h
     cases h
     exact aw (f,je) (by simp)
   · have:(f == g)=false:=by simpa using e
     simp only[this] at h
     exact Cb (fun p aF=>aw p (by simp[aF])) f fn h
end Go.Eng
namespace Go.Eng
open Go Go.RowKit
def Z (n:Nat):Int:=n
theorem f' (n:Nat):(n:Int)=Z n:=rfl
theorem bD {a b:Nat}:Z a=Z b↔a=b:=by simp only[Z];omega
theorem fJ (a b:Nat):(Z a == Z b)=(a == b):=by
 rw[Bool.eq_iff_iff,beq_iff_eq,beq_iff_eq];exact bD
theorem ga (a b:Nat):(Z a != Z b)=(a != b):=by simp only[bne,fJ]
theorem fK {a b:Nat}:Z a<Z b↔a<b:=by simp only[Z];omega
theorem gb {a b:Nat}:Z a<=Z b↔a<=b:=by simp only[Z];omega
theorem gd (a:Nat):0<=Z a:=by simp only[Z];omega
theorem eo (a:Nat):¬Z a<0:=by simp only[Z];omega
theorem gf {a:Nat}:Z a=0↔a=0:=by simp only[Z];omega
theorem ep (a:Nat):(Z a).toNat=a:=rfl
theorem gg {a b:Nat}:Z a<(b:Int)↔a<b:=fK
theorem gh (a b:Nat):(Z a).tmod (Z b)=Z (a%b):=rfl
theorem gi (a b:Nat):(Z a).tdiv (Z b)=Z (a/b):=rfl
theorem e1 (a n:Nat):(Z a).fdiv (2^n)=Z (a/2^n):=by
 simp only[Z]
 rw[Int.fdiv_eq_ediv_of_nonneg _ (by exact Int.le_of_lt (Int.pow_pos (by decide)))]
 norm_cast
theorem HI {k:IntKind} (ag:k.signed=false) (x:Int):k.wrap x=x%2^k.bits:=by
 cases k<;>first|(simp[IntKind.signed] at ag;done)|(simp[IntKind.wrap,IntKind.signed,IntKind.bits])
theorem ov {k:IntKind} (ag:k.signed=false) (a:Nat):k.wrap (Z a)=Z (a%2^k.bits):=by
 rw[HI ag];simp only[Z];norm_cast
theorem x7 {k:IntKind} (ag:k.signed=false) (a b:Nat):k.wrap (Z a+Z b)=Z ((a+b)%2^k.bits):=ov ag (a+b)
theorem x8 {k:IntKind} (ag:k.signed=false) (a b:Nat):k.wrap (Z a*Z b)=Z (a*b%2^k.bits):=by
 rw[<-ov ag];simp only[Z];norm_cast
theorem qz {k:IntKind} (ag:k.signed=false) (a n:Nat):k.wrap (Z a*2^n)=Z (a*2^n%2^k.bits):=by
 rw[<-ov ag];simp only[Z];norm_cast
theorem x9 {k:IntKind} (ag:k.signed=false) (a b:Nat):k.wrap (Z a - Z b)=Z ((a+(2^k.bits - b%2^k.bits))%2^k.bits):=by
 rw[HI ag]
 simp only[Z]
 have h:b%2^k.bits<2^k.bits:=Nat.mod_lt _ (Nat.pow_pos (by decide))
 generalize lb:2^k.bits=M at*
 have:((2:Int)^k.bits)=(M:Int):=by rw[<-lb];norm_cast
 rw[this]
 rw[Int.natCast_emod,Int.natCast_add,Int.natCast_sub (Nat.le_of_lt h),Int.natCast_emod]
 rw[show ((a:Int) - b)=a+(M - b%M)+M*(-1 - b/M) by
  have:=Int.emod_add_mul_ediv (b:Int) M
  rw[Int.mul_sub];omega]
 exact Int.add_mul_emod_self_left _ _ _
theorem x_ {k:IntKind} (ag:k.signed=false) (a b:Nat):k.wrap ((BitVec.ofInt k.bits (Z a)|||BitVec.ofInt k.bits (Z b)).toNat:Int)=Z ((a|||b)%2^k.bits):=by
 show k.wrap (Z _)=_
 rw[ov ag]
 simp only[Z,BitVec.ofInt_natCast,<-BitVec.ofNat_or,BitVec.toNat_ofNat,Nat.mod_mod]
theorem x' {k:IntKind} (ag:k.signed=false) (a b:Nat):k.wrap ((BitVec.ofInt k.bits (Z a)&&&BitVec.ofInt k.bits (Z b)).toNat:Int)=Z ((a&&&b)%2^k.bits):=by
 show k.wrap (Z _)=_
 rw[ov ag]
 simp only[Z,BitVec.ofInt_natCast,<-BitVec.ofNat_and,BitVec.toNat_ofNat,Nat.mod_mod]
theorem ya {k:IntKind} (ag:k.signed=false) (a b:Nat):k.wrap ((BitVec.ofInt k.bits (Z a) ^^^ BitVec.ofInt k.bits (Z b)).toNat:Int)=Z ((a ^^^ b)%2^k.bits):=by
 show k.wrap (Z _)=_
 rw[ov ag]
 simp only[Z,BitVec.ofInt_natCast,<-BitVec.ofNat_xor,BitVec.toNat_ofNat,Nat.mod_mod]
theorem wrap_i64 {x:Int} (U: -9223372036854775808<=x) (h2:x<9223372036854775808):IntKind.i64.wrap x=x:=by
 simp[IntKind.wrap,IntKind.signed,IntKind.bits]
 split<;>omega
theorem eY {a:Nat} (h:a<9223372036854775808):IntKind.i64.wrap (Z a)=Z a:=wrap_i64 (by simp only[Z];omega) (by simp only[Z];omega)
theorem dc {a b:Nat} (h:a+b<9223372036854775808):IntKind.i64.wrap (Z a+Z b)=Z (a+b):=eY h
theorem cf {a b:Nat} (U:b<=a) (h2:a<9223372036854775808):IntKind.i64.wrap (Z a - Z b)=Z (a - b):=by
 rw[wrap_i64 (by simp only[Z];omega) (by simp only[Z];omega)];simp only[Z];omega
theorem tL {a b:Nat} (h:a*b<9223372036854775808):IntKind.i64.wrap (Z a*Z b)=Z (a*b):=by
 rw[show Z a*Z b=Z (a*b) by simp only[Z];norm_cast];exact eY h
theorem gj:IntKind.u8.bits=8:=rfl
theorem gk (a:Nat):IntKind.u8.wrap (Z a)=Z (a%256):=ov rfl a
theorem gl (a b:Nat):IntKind.u8.wrap (Z a+Z b)=Z ((a+b)%256):=x7 rfl a b
theorem gm (a b:Nat):IntKind.u8.wrap (Z a - Z b)=Z ((a+(256 - b%256))%256):=x9 rfl a b
theorem gn (a b:Nat):IntKind.u8.wrap (Z a*Z b)=Z (a*b%256):=x8 rfl a b
theorem gp (a n:Nat):IntKind.u8.wrap (Z a*2^n)=Z (a*2^n%256):=qz rfl a n
theorem gq:IntKind.u16.bits=16:=rfl
theorem gr (a:Nat):IntKind.u16.wrap (Z a)=Z (a%65536):=ov rfl a
theorem gu (a b:Nat):IntKind.u16.wrap (Z a+Z b)=Z ((a+b)%65536):=x7 rfl a b
theorem gv (a b:Nat):IntKind.u16.wrap (Z a - Z b)=Z ((a+(65536 - b%65536))%65536):=x9 rfl a b
theorem gw (a b:Nat):IntKind.u16.wrap (Z a*Z b)=Z (a*b%65536):=x8 rfl a b
theorem gx (a n:Nat):IntKind.u16.wrap (Z a*2^n)=Z (a*2^n%65536):=qz rfl a n
theorem gy:IntKind.u32.bits=32:=rfl
theorem gz (a:Nat):IntKind.u32.wrap (Z a)=Z (a%4294967296):=ov rfl a
theorem gA (a b:Nat):IntKind.u32.wrap (Z a+Z b)=Z ((a+b)%4294967296):=x7 rfl a b
theorem gB (a b:Nat):IntKind.u32.wrap (Z a - Z b)=Z ((a+(4294967296 - b%4294967296))%4294967296):=x9 rfl a b
theorem gC (a b:Nat):IntKind.u32.wrap (Z a*Z b)=Z (a*b%4294967296):=x8 rfl a b
theorem gD (a n:Nat):IntKind.u32.wrap (Z a*2^n)=Z (a*2^n%4294967296):=qz rfl a n
theorem gE:IntKind.u64.bits=64:=rfl
theorem e_ (a:Nat):IntKind.u64.wrap (Z a)=Z (a%18446744073709551616):=ov rfl a
theorem gF (a b:Nat):IntKind.u64.wrap (Z a+Z b)=Z ((a+b)%18446744073709551616):=x7 rfl a b
theorem gG (a b:Nat):IntKind.u64.wrap (Z a - Z b)=Z ((a+(18446744073709551616 - b%18446744073709551616))%18446744073709551616):=x9 rfl a b
theorem gH (a b:Nat):IntKind.u64.wrap (Z a*Z b)=Z (a*b%18446744073709551616):=x8 rfl a b
theorem gI (a n:Nat):IntKind.u64.wrap (Z a*2^n)=Z (a*2^n%18446744073709551616):=qz rfl a n
theorem gJ (k:IntKind) (a b:Int):iI .add k a b=some (.int k (k.wrap (a+b))):=rfl
theorem gK (k:IntKind) (a b:Int):iI .sub k a b=some (.int k (k.wrap (a - b))):=rfl
theorem gL (k:IntKind) (a b:Int):iI .mul k a b=some (.int k (k.wrap (a*b))):=rfl
theorem gM (k:IntKind) (a b:Int):iI .quo k a b=if b=0 then none else some (.int k (k.wrap (a.tdiv b))):=rfl
theorem gN (k:IntKind) (a b:Int):iI .rem k a b=if b=0 then none else some (.int k (a.tmod b)):=rfl
theorem gO (k:IntKind) (a b:Int):iI .eql k a b=some (.bool (a == b)):=rfl
theorem gP (k:IntKind) (a b:Int):iI .neq k a b=some (.bool (a != b)):=rfl
theorem gQ (k:IntKind) (a b:Int):iI .lss k a b=some (.bool (decide (a<b))):=rfl
theorem gR (k:IntKind) (a b:Int):iI .leq k a b=some (.bool (decide (a<=b))):=rfl
theorem gS (k:IntKind) (a b:Int):iI .gtr k a b=some (.bool (decide (a>b))):=rfl
theorem gT (k:IntKind) (a b:Int):iI .geq k a b=some (.bool (decide (a>=b))):=rfl
theorem QX:IntKind.i64.bits=64:=rfl
theorem gU (a b:Nat):iI .and .u8 (Z a) (Z b)=some (.int .u8 (Z ((a&&&b)%256))):=congrArg (fun x=>some (I.int .u8 x)) (x' (k:= .u8) rfl a b)
theorem gV (a b:Nat):iI .or .u8 (Z a) (Z b)=some (.int .u8 (Z ((a|||b)%256))):=congrArg (fun x=>some (I.int .u8 x)) (x_ (k:= .u8) rfl a b)
theorem gW (a b:Nat):iI .xor .u8 (Z a) (Z b)=some (.int .u8 (Z ((a ^^^ b)%256))):=congrArg (fun x=>some (I.int .u8 x)) (ya (k:= .u8) rfl a b)
theorem gX (a b:Nat):iJ .shr .u8 (Z a) (Z b)=some (.int .u8 (Z (a/2^min b 8))):=by
 simp only[iJ,if_neg (eo b),ep,e1];rfl
theorem gY (a b:Nat):iJ .shl .u8 (Z a) (Z b)=some (.int .u8 (Z (a*2^min b 8%256))):=by
 simp only[iJ,if_neg (eo b),ep,qz (k:= .u8) rfl];rfl
theorem gZ (a b:Nat):iI .and .u16 (Z a) (Z b)=some (.int .u16 (Z ((a&&&b)%65536))):=congrArg (fun x=>some (I.int .u16 x)) (x' (k:= .u16) rfl a b)
theorem g0 (a b:Nat):iI .or .u16 (Z a) (Z b)=some (.int .u16 (Z ((a|||b)%65536))):=congrArg (fun x=>some (I.int .u16 x)) (x_ (k:= .u16) rfl a b)
theorem g1 (a b:Nat):iI .xor .u16 (Z a) (Z b)=some (.int .u16 (Z ((a ^^^ b)%65536))):=congrArg (fun x=>some (I.int .u16 x)) (ya (k:= .u16) rfl a b)
theorem g2 (a b:Nat):iJ .shr .u16 (Z a) (Z b)=some (.int .u16 (Z (a/2^min b 16))):=by
 simp only[iJ,if_neg (eo b),ep,e1];rfl
theorem g3 (a b:Nat):iJ .shl .u16 (Z a) (Z b)=some (.int .u16 (Z (a*2^min b 16%65536))):=by
 simp only[iJ,if_neg (eo b),ep,qz (k:= .u16) rfl];rfl
theorem g4 (a b:Nat):iI .and .u32 (Z a) (Z b)=some (.int .u32 (Z ((a&&&b)%4294967296))):=congrArg (fun x=>some (I.int .u32 x)) (x' (k:= .u32) rfl a b)
theorem g5 (a b:Nat):iI .or .u32 (Z a) (Z b)=some (.int .u32 (Z ((a|||b)%4294967296))):=congrArg (fun x=>some (I.int .u32 x)) (x_ (k:= .u32) rfl a b)
theorem g6 (a b:Nat):iI .xor .u32 (Z a) (Z b)=some (.int .u32 (Z ((a ^^^ b)%4294967296))):=congrArg (fun x=>some (I.int .u32 x)) (ya (k:= .u32) rfl a b)
theorem g7 (a b:Nat):iJ .shr .u32 (Z a) (Z b)=some (.int .u32 (Z (a/2^min b 32))):=by
 simp only[iJ,if_neg (eo b),ep,e1];rfl
theorem g8 (a b:Nat):iJ .shl .u32 (Z a) (Z b)=some (.int .u32 (Z (a*2^min b 32%4294967296))):=by
 simp only[iJ,if_neg (eo b),ep,qz (k:= .u32) rfl];rfl
theorem g9 (a b:Nat):iI .and .u64 (Z a) (Z b)=some (.int .u64 (Z ((a&&&b)%18446744073709551616))):=congrArg (fun x=>some (I.int .u64 x)) (x' (k:= .u64) rfl a b)
theorem g_ (a b:Nat):iI .or .u64 (Z a) (Z b)=some (.int .u64 (Z ((a|||b)%18446744073709551616))):=congrArg (fun x=>some (I.int .u64 x)) (x_ (k:= .u64) rfl a b)
theorem g' (a b:Nat):iI .xor .u64 (Z a) (Z b)=some (.int .u64 (Z ((a ^^^ b)%18446744073709551616))):=congrArg (fun x=>some (I.int .u64 x)) (ya (k:= .u64) rfl a b)
theorem ha (a b:Nat):iJ .shr .u64 (Z a) (Z b)=some (.int .u64 (Z (a/2^min b 64))):=by
 simp only[iJ,if_neg (eo b),ep,e1];rfl
theorem hb (a b:Nat):iJ .shl .u64 (Z a) (Z b)=some (.int .u64 (Z (a*2^min b 64%18446744073709551616))):=by
 simp only[iJ,if_neg (eo b),ep,qz (k:= .u64) rfl];rfl
theorem hc (a b:Nat):iJ .shr .i64 (Z a) (Z b)=some (.int .i64 (Z (a/2^min b 64))):=by
 simp only[iJ,if_neg (eo b),ep,e1];rfl
theorem hd {a b:Nat} (h:a*2^min b 64<9223372036854775808):iJ .shl .i64 (Z a) (Z b)=some (.int .i64 (Z (a*2^min b 64))):=by
 have e:Z a*2^min b 64=Z (a*2^min b 64):=by simp only[Z];norm_cast
 simp only[iJ,if_neg (eo b),ep,QX,e,eY h]
theorem hf {a b:Nat} (aK:a<9223372036854775808):iI .and .i64 (Z a) (Z b)=some (.int .i64 (Z (a&&&b%18446744073709551616))):=by
 have U:(BitVec.ofInt 64 (Z a)&&&BitVec.ofInt 64 (Z b)).toNat=a&&&b%18446744073709551616:=by
  simp only[Z,BitVec.ofInt_natCast,BitVec.toNat_and,BitVec.toNat_ofNat];rw[Nat.mod_eq_of_lt (a:=a) (by omega)]
 show some (I.int .i64 (IntKind.i64.wrap (Z _)))=_
 rw[show (BitVec.ofInt IntKind.i64.bits (Z a)&&&BitVec.ofInt IntKind.i64.bits (Z b)).toNat=_ from U]
 rw[eY (Nat.lt_of_le_of_lt Nat.and_le_left aK)]
theorem hg:IntKind.i64.bits=64:=rfl
section
variable {G:Nat->Option I} {Φ:FuncId->Option aM} {tab:FuncId->Option (List I->Option I)} {Y:List cF}
def tM (id k:Nat) (ak:Nat->aI->Prop) (E R:aI->Prop):c0->aI->Prop
 | .normal,s=>∃j,j<k/\ak j s
 | .exit i,s=>i=id/\E s
 | .ret,s=>R s
theorem hh (id k:Nat) (ak:Nat->aI->Prop) (E R:aI->Prop) (s:aI):tM id k ak E R .normal s=∃j,j<k/\ak j s:=rfl
theorem hi (id k i:Nat) (ak:Nat->aI->Prop) (E R:aI->Prop) (s:aI):tM id k ak E R (.exit i) s=(i=id/\E s):=rfl
theorem hj (id k:Nat) (ak:Nat->aI->Prop) (E R:aI->Prop) (s:aI):tM id k ak E R .ret s=R s:=rfl
theorem ld {id:Nat} {b:cU} {Q:c0->aI->Prop} (ak:Nat->aI->Prop) (E R:aI->Prop) (k:Nat) {s:aI} (aD:ak k s) (round:∀k s,ak k s->a7 G Φ tab Y b s (tM id k ak E R))
 (fin:∀s,E s->Q .normal s) (ret:∀s,R s->Q .ret s):a7 G Φ tab Y (.block id (.loop b)) s Q:=by
 refine jX (QR ak (fun k s pq=>(round k s pq).mono fun ex s1 h=>?_) k s aD)
 cases ex with
 | normal=>exact h
 | exit i=>obtain⟨rfl,h⟩:=h;simp only[qx,qy,if_true];exact fin _ h
 | ret=>exact ret _ h
theorem HJ {a b:cU} {s:aI} {Q:c0->aI->Prop} (K:aI->Prop) (h:a7 G Φ tab Y a s (qx Q K)) (h2:∀s1,K s1->a7 G Φ tab Y b s1 Q):a7 G Φ tab Y (.seq a b) s Q:=
 a8 (h.mono fun ex s1 aG=>by
  cases ex with
  | normal=>exact h2 _ aG
  | exit i=>exact aG
  | ret=>exact aG)
end
noncomputable def vQ {A:Type} (pre:A->Prop) (enc:A->List I) (out:A->I):List I->Option I:=fun args=>
 open Classical in if h:∃a,pre a/\enc a=args then some (out (Classical.choose h)) else none
theorem vR {A:Type} {pre:A->Prop} {enc:A->List I} {out:A->I} {args:List I} {v:I} (h:vQ pre enc out args=some v):∃a,pre a/\enc a=args/\out a=v:=by
 unfold vQ at h
 split at h
 · rename_i ae
   cases h
   exact ⟨_,(Classical.choose_spec ae).1,(Classical.choose_spec ae).2,rfl⟩
 · cases h
theorem QY {A:Type} {pre:A->Prop} {enc:A->List I} {out:A->I} (inj:∀a b,pre a->pre b->enc a=enc b->out a=out b) (a:A) (h:pre a):vQ pre enc out (enc a)=some (out a):=by
 unfold vQ
 have ae:∃b,pre b/\enc b=enc a:=⟨a,h,rfl⟩
 rw[dif_pos ae]
 obtain⟨U,h2⟩:=Classical.choose_spec ae
 rw[inj _ _ U h h2]
end Go.Eng
namespace Go.Eng
open Go Go.RowKit Go.ChangeShapes Go.WideShapes
inductive de where
 | int (k:IntKind)
 | bool
 | str
 | sl (e:de)
 | bM (bT:List de)
mutual
def de.size:de->Nat
 | .bM bT=>de.r1 bT
 | _=>1
def de.r1:List de->Nat
 | []=>0
 | f::bT=>f.size+de.r1 bT
end
def de.one (s:de) (cs:List I):I:=match s with
 | .bM _=> .agg cs
 | _=>cs.headD .undef
def vS (P:Program) (bR:TypeId->Option de):Nat->List Field->Option (List de)
 | _,[]=>some []
 | o,f::bT=>if f.offset=o then (bR f.type).bind fun s=>if P.cellsOf f.type=s.size then (vS P bR (o+s.size) bT).map (s:: ·) else none else none
def shape (P:Program):Nat->TypeId->Option de
 | 0,_=>none
 | n+1,t=>match P.underlying t with
   | some .bool=>some .bool
   | some (.int k)=>some (.int k)
   | some .string=>some .str
   | some (.slice e)=>(shape P n e).bind fun s=>if P.cellsOf e=s.size/\0<s.size then some (.sl s) else none
   | some (.struct bT)=>(vS P (shape P n) 0 bT.toList).bind fun l=>if P.cellsOf t=de.r1 l then some (.bM l) else none
   | some (.array k e)=>(shape P n e).bind fun s=>if P.cellsOf e=s.size/\P.cellsOf t=k*s.size then some (.bM (List.replicate k s)) else none
   | _=>none
def de.zero:de->List Value
 | .int k=>[.int k 0]
 | .bool=>[.bool false]
 | .str=>[.string ByteArray.empty]
 | .sl _=>[.slice none 0 0]
 | .bM bT=>HK bT
where HK:List de->List Value
 | []=>[]
 | f::bT=>f.zero++HK bT
section
variable {H:Type}
mutual
def m6:de->List I->DataW H->Prop
 | .int k,cs,d=>∃n,cs= [.int k n]/\d= .lit (.int k n)/\(Lit.int k n).wf=true
 | .bool,cs,d=>∃b,cs= [.bool b]/\d= .lit (.bool b)
 | .str,cs,d=>∃s:ByteArray,cs= [.str s]/\d= .lit (.string s.data.toList)/\s.size<=maxLen
 | .sl e,cs,d=>∃xs,cs= [.sl xs false]/\xs.length<=maxLen/\
     ((d= .nil/\xs= [])\/∃cQ rest,d= .slice cQ rest/\cQ.length=xs.length/\∀i (h:i<xs.length) (h':i<cQ.length),∃cs,xs[i]=e.one cs/\cs.length=e.size/\m6 e cs cQ[i])
 | .bM bT,cs,d=>∃cQ,d= .agg cQ/\lf bT cs cQ
def lf:List de->List I->List (DataW H)->Prop
 | [],cs,cQ=>cs= []/\cQ= []
 | f::bT,cs,cQ=>∃a b d jY,cs=a++b/\cQ=d::jY/\m6 f a d/\lf bT b jY
end
mutual
theorem m6.length:∀ {s:de} {cs:List I} {d:DataW H},m6 s cs d->cs.length=s.size
 | .int k,_,_,h=>by obtain⟨n,rfl,_⟩:=h;rfl
 | .bool,_,_,h=>by obtain⟨n,rfl,_⟩:=h;rfl
 | .str,_,_,h=>by obtain⟨n,rfl,_⟩:=h;rfl
 | .sl e,_,_,h=>by obtain⟨n,rfl,_⟩:=h;rfl
 | .bM bT,_,_,h=>by obtain⟨cQ,_,h⟩:=h;exact lf.length h
theorem lf.length:∀ {s:List de} {cs:List I} {d:List (DataW H)},lf s cs d->cs.length=de.r1 s
 | [],_,_,h=>by obtain⟨rfl,_⟩:=h;rfl
 | f::bT,_,_,h=>by
   obtain⟨a,b,d,jY,rfl,_,U,h2⟩:=h
   rw[List.length_append,U.length,h2.length];rfl
end
theorem de.Cc {s:de} {cs:List I} {d:DataW H} (h:m6 s cs d):(s.one cs).cells=cs:=by
 cases s with
 | int k=>obtain⟨n,rfl,_⟩:=h;rfl
 | bool=>obtain⟨n,rfl,_⟩:=h;rfl
 | str=>obtain⟨n,rfl,_⟩:=h;rfl
 | sl e=>obtain⟨n,rfl,_⟩:=h;rfl
 | bM bT=>rfl
variable {enc:TypeId × Value->H} {P:Program} {w:World} {spare:Nat->Bool} {held:Bool} {ok:Nat->Prop}
def mh (w:World) (ok:Nat->Prop) (cs:List I) (vs:List Value):Prop:=
 vs.length=cs.length/\∀i (h:i<cs.length) (h':i<vs.length),db w ok cs[i] vs[i]
theorem mh.append {a b:List I} {x y:List Value} (h:mh w ok a x) (k:mh w ok b y):mh w ok (a++b) (x++y):=by
 refine⟨by simp[h.1,k.1],fun i ab bI=>?_⟩
 by_cases J:i<a.length
 · rw[List.getElem_append_left J,List.getElem_append_left (by rw[h.1];exact J)]
   exact h.2 i J _
 · rw[List.getElem_append_right (by omega),List.getElem_append_right (by rw[h.1];omega)]
   simp only[h.1]
   exact k.2 (i - a.length) (by simp at ab;omega) _
theorem mh.one {a:I} {x:Value} (h:db w ok a x):mh w ok [a] [x]:=
 ⟨rfl,fun i ab bI=>by
   have:i=0:=by simpa using ab
   subst this;exact h⟩
theorem HL {bR:TypeId->Option de} {n:Nat} {cs:List Value}
 (bV:∀t s vs x,bR t=some s->DataW.trod enc P w 0 spare held n t vs=some x->∃as,m6 s as x.1/\mh w ok as vs):
 ∀(bT:List Field) (o:Nat) (l:List de) (xs:List (DataW H × List MemPlace)),vS P bR o bT=some l->xs.length=bT.length->o+de.r1 l=cs.length->
  (∀(i:Nat) (f:Field),bT[i]? =some f->DataW.trod enc P w 0 spare held n f.type ((cs.drop f.offset).take (P.cellsOf f.type))=xs[i]?)->
  ∃as,lf l as (xs.map (·.1))/\mh w ok as (cs.drop o)
 | [],o,l,xs,h,aw,ay,ae=>by
   simp only[vS,Option.some.injEq] at h
   subst h
   obtain rfl:xs= []:=by simpa using aw
   refine⟨[],⟨rfl,rfl⟩,?_,fun i ab=>by simp at ab⟩
   simp[de.r1] at ay|-;omega
 | f::bT,o,l,xs,h,aw,ay,ae=>by
   simp only[vS] at h
   split at h<;>try(cases h;done)
   rename_i QZ
   obtain⟨s,au,h⟩:=Option.bind_eq_some_iff.1 h
   split at h<;>try(cases h;done)
   rename_i J
   obtain⟨lu,qi,rfl⟩:=Option.map_eq_some_iff.1 h
   match xs,aw with
   | x::xs,aw=>
     have aD:=ae 0 f rfl
     simp only[List.getElem?_cons_zero] at aD
     obtain⟨as,tN,vT⟩:=bV _ _ _ _ au aD
     simp only[de.r1] at ay
     obtain⟨rm,lv,qA⟩:=HL (cs:=cs) bV bT (o+s.size) lu xs qi (by simpa using aw) (by omega) (fun i f bg=>by simpa using ae (i+1) f (by simpa using bg))
     refine⟨as++rm,⟨as,rm,x.1,xs.map (·.1),rfl,by simp,tN,lv⟩,?_⟩
     have e:cs.drop o=(cs.drop f.offset).take (P.cellsOf f.type)++cs.drop (o+s.size):=by
      rw[QZ,J,<-List.drop_drop,List.take_append_drop]
     rw[e]
     exact vT.append qA
theorem HM {bR:de} {n:Nat} {e:TypeId} {cs:List Value}
 (bV:∀vs x,DataW.trod enc P w 0 spare held n e vs=some x->∃as,m6 bR as x.1/\mh w ok as vs) (J:P.cellsOf e=bR.size):
 ∀(k o:Nat) (xs:List (DataW H × List MemPlace)),xs.length=k->(o+k)*bR.size=cs.length->
  (∀i,i<k->DataW.trod enc P w 0 spare held n e ((cs.drop ((o+i)*P.cellsOf e)).take (P.cellsOf e))=xs[i]?)->
  ∃as,lf (List.replicate k bR) as (xs.map (·.1))/\mh w ok as (cs.drop (o*bR.size))
 | 0,o,xs,aw,ay,ae=>by
   obtain rfl:xs= []:=by simpa using aw
   refine⟨[],⟨rfl,rfl⟩,?_,fun i ab=>by simp at ab⟩
   simp at ay|-;omega
 | k+1,o,xs,aw,ay,ae=>by
   match xs,aw with
   | x::xs,aw=>
     have aD:=ae 0 (by omega)
     simp only[List.getElem?_cons_zero,Nat.add_zero] at aD
     obtain⟨as,tN,vT⟩:=bV _ _ aD
     obtain⟨rm,lv,qA⟩:=HM (cs:=cs) bV J k (o+1) xs (by simpa using aw) (by rw[<-ay];congr 1;omega) (fun i ab=>by
      have:=ae (i+1) (by omega)
      simp only[List.getElem?_cons_succ] at this
      rw[<-this]
      congr 3;congr 1;omega)
     refine⟨as++rm,⟨as,rm,x.1,xs.map (·.1),rfl,by simp,tN,lv⟩,?_⟩
     have e:cs.drop (o*bR.size)=(cs.drop (o*P.cellsOf e)).take (P.cellsOf e)++cs.drop ((o+1)*bR.size):=by
      rw[J,show (o+1)*bR.size=o*bR.size+bR.size by rw[Nat.add_mul];simp,<-List.drop_drop,List.take_append_drop]
     rw[e]
     exact vT.append qA
theorem HN (jU:∀b,b<w.heap.size->ok b):∀(m:Nat) (fuel:Nat) (t:TypeId) (s:de) (cs:List Value) (x:DataW H × List MemPlace),shape P m t=some s->
 DataW.trod enc P w 0 spare held fuel t cs=some x->∃as,m6 s as x.1/\mh w ok as cs
 | 0,_,_,_,_,_,h,_=>by cases h
 | m+1,fuel,t,s,cs,x,h,ae=>by
   have a6:=HN jU m
   unfold shape at h
   split at h
   · rename_i aJ
     cases h
     obtain⟨b,rfl,rfl⟩:=DataW.trod_bool aJ ae
     exact ⟨[.bool b],⟨b,rfl,rfl⟩,.one (.bool b)⟩
   · rename_i k aJ
     cases h
     obtain⟨n,rfl,rfl,hw⟩:=DataW.trod_int aJ ae
     exact ⟨[.int k n],⟨n,rfl,rfl,hw⟩,.one (.int k n)⟩
   · rename_i aJ
     cases h
     obtain⟨z,rfl,rfl,hw⟩:=DataW.trod_string aJ ae
     exact ⟨[.str z],⟨z,rfl,rfl,hw⟩,.one (.str z)⟩
   · rename_i e aJ
     obtain⟨aj,au,h⟩:=Option.bind_eq_some_iff.1 h
     split at h<;>try(cases h;done)
     rename_i J
     cases h
     rcases DataW.trod_slice aJ ae with⟨rfl,rfl⟩|⟨a,len,cap,elems,rest,n,_,rfl,rfl,aa,aw,hm,hlen,kv,_,_⟩
     · refine⟨[.sl [] false],⟨[],rfl,by simp,.inl ⟨rfl,rfl⟩⟩,.one ?_⟩
       exact .sl [] false none 0 1 (fun _ _=> .nilFunc) (Nat.le_refl _) (fun h=>by cases h) (fun i ab=>by simp at ab) (fun i j ab=>by simp at ab) (fun h=>by simp at h) (fun i ab=>by simp at ab)
     · have each:∀i:Fin len,∃p:List Value × List I,w.cells? 0 (a.add (i.1*P.cellsOf e)) (P.cellsOf e)=some p.1/\mh w ok p.2 p.1/\∃h:i.1<elems.length,m6 aj p.2 (elems[i.1]).1:=by
        intro i
        have:=kv i.1 i.2
        rw[List.getElem?_eq_getElem (by rw[hlen];exact i.2)] at this
        obtain⟨vs,U,h2⟩:=Option.bind_eq_some_iff.1 this
        obtain⟨as,aK,aH⟩:=a6 _ _ _ _ _ au h2
        exact ⟨(vs,as),U,aH,by rw[hlen];exact i.2,aK⟩
       let g:Fin len->List Value × List I:=fun i=>Classical.choose (each i)
       have aW:∀i:Fin len,w.cells? 0 (a.add (i.1*P.cellsOf e)) (P.cellsOf e)=some (g i).1/\mh w ok (g i).2 (g i).1/\∃h:i.1<elems.length,m6 aj (g i).2 (elems[i.1]).1:=fun i=>Classical.choose_spec (each i)
       refine⟨[.sl (List.ofFn fun i=>aj.one (g i).2) false],⟨_,rfl,by simp;omega,.inr ⟨_,_,rfl,by simp[hlen],fun i ab bI=>?_⟩⟩,.one ?_⟩
       · simp only[List.length_ofFn] at ab
         obtain⟨_,_,he,a_⟩:=aW ⟨i,ab⟩
         exact ⟨(g ⟨i,ab⟩).2,by simp,a_.length,by simpa using a_⟩
       · have key:=db.sl (w:=w) (ok:=ok) (List.ofFn fun i=>aj.one (g i).2) false (some a) cap aj.size
          (fun i j=>if h:i<len then (g ⟨i,h⟩).1.getD j .nilFunc else .nilFunc) (by simpa using aw) (fun h=>by cases h)
          (fun i ab=>by
            simp only[List.length_ofFn] at ab
            obtain⟨_,_,he,a_⟩:=aW ⟨i,ab⟩
            simp only[List.getElem_ofFn]
            rw[de.Cc a_,a_.length])
          (fun i j ab aA=>by
            simp only[List.length_ofFn] at ab
            obtain⟨U,_,_⟩:=aW ⟨i,ab⟩
            obtain⟨_,h2,az⟩:=World.cells?_some U
            have:=az j (by rw[J.1];exact aA)
            rw[List.getElem?_eq_getElem (by rw[h2,J.1];exact aA),Go.Addr.add_add] at this
            refine⟨a,rfl,?_,?_⟩
            · have nq:=World.block_lt_of_cell? w _ this
              rw[Addr.qd] at nq
              exact jU _ nq
            · rw[show i*aj.size+j=i*P.cellsOf e+j by rw[J.1]]
              rw[show w.cell? (a.add (i*P.cellsOf e+j))=_ from this]
              simp[ab,h2,J.1,aA])
          (fun _=>rfl)
          (fun i ab j aA=>by
            simp only[List.length_ofFn] at ab
            obtain⟨_,h2,he,a_⟩:=aW ⟨i,ab⟩
            simp only[List.getElem_ofFn,de.Cc a_] at aA|-
            simp only[ab,dif_pos]
            have j2:j<(g ⟨i,ab⟩).1.length:=by rw[h2.1];exact aA
            rw[show (g ⟨i,ab⟩).1.getD j .nilFunc=(g ⟨i,ab⟩).1[j] by simp[List.getD,j2]]
            exact h2.2 j aA j2)
         simpa using key
   · rename_i bT aJ
     obtain⟨l,aw,h⟩:=Option.bind_eq_some_iff.1 h
     split at h<;>try(cases h;done)
     rename_i J
     cases h
     obtain⟨xs,n,_,rfl,ma,pd,bg⟩:=DataW.trod_struct aJ ae
     obtain⟨as,U,h2⟩:=HL (ok:=ok) (cs:=cs) (fun t s vs x au ae=>a6 _ _ _ _ _ au ae) bT.toList 0 l xs aw (by simpa using pd) (by rw[ma,J];omega) (fun i f ab=>bg i f (by simpa using ab))
     exact ⟨as,⟨_,rfl,U⟩,by simpa using h2⟩
   · rename_i k e aJ
     obtain⟨aj,au,h⟩:=Option.bind_eq_some_iff.1 h
     split at h<;>try(cases h;done)
     rename_i J
     cases h
     obtain⟨xs,n,_,rfl,ma,pd,bg⟩:=DataW.trod_array aJ ae
     obtain⟨as,U,h2⟩:=HM (ok:=ok) (cs:=cs) (fun vs x ae=>a6 _ _ _ _ _ au ae) J.1 k 0 xs pd (by rw[ma,J.2];simp) (fun i ab=>by simpa using bg i ab)
     exact ⟨as,⟨_,rfl,U⟩,by simpa using h2⟩
   · cases h
end
section rows
variable {H:Type} {enc:TypeId × Value->H} {P:Program} {w:World} {spare:Nat->Bool} {held:Bool} {ok:Nat->Prop}
theorem Q0 {s:de} {as:List I} {d:DataW H} {v:Value} (h:m6 s as d) (av:(∃bT,s= .bM bT)->∃cs,v= .agg cs) (aq:(∃cs,v= .agg cs)->∃bT,s= .bM bT) (aH:mh w ok as v.cells.toList):db w ok (s.one as) v:=by
 cases s with
 | bM bT=>
   obtain⟨cs,rfl⟩:=av ⟨bT,rfl⟩
   exact .agg as cs (by simpa[Value.cells] using aH.1) fun i h h'=>by
    have:=aH.2 i h (by simpa[Value.cells] using h')
    simpa[Value.cells] using this
 | _=>
   have J:v.cells= #[v]:=by
    cases v<;>first|rfl|(obtain⟨bT,e⟩:=aq ⟨_,rfl⟩;cases e)
   have U:=h.length
   rw[J] at aH
   match as,U,aH with
   | [a],_,aH=>exact aH.2 0 (by simp) (by simp)
def lS (s:de) (a:I):Prop:=∃(H:Type) (as:List I) (d:DataW H),a=s.one as/\m6 s as d
def r2:List de->List I->Prop
 | [],as=>as= []
 | s::ss,as=>∃a A2,as=a::A2/\lS s a/\r2 ss A2
theorem Q1 {m:Nat} {t:TypeId} {s:de} {r:Reach} {b0:Nat} {v:Value} (h:shape P m t=some s) (av:Value.okWide P w r b0 t v):((∃bT,s= .bM bT)->∃cs,v= .agg cs)/\((∃cs,v= .agg cs)->∃bT,s= .bM bT):=by
 cases m with
 | zero=>cases h
 | succ m=>
   unfold shape at h
   split at h
   · rename_i aJ;cases h
     obtain⟨b,rfl⟩:=okWide_bool aJ av
     exact ⟨(by rintro ⟨bT,e⟩;cases e),(by rintro ⟨bT,e⟩;cases e)⟩
   · rename_i k aJ;cases h
     obtain⟨b,rfl⟩:=okWide_int aJ av
     exact ⟨(by rintro ⟨bT,e⟩;cases e),(by rintro ⟨bT,e⟩;cases e)⟩
   · rename_i aJ;cases h
     obtain⟨b,rfl⟩:=okWide_string aJ av
     exact ⟨(by rintro ⟨bT,e⟩;cases e),(by rintro ⟨bT,e⟩;cases e)⟩
   · rename_i e aJ
     obtain⟨aj,au,h⟩:=Option.bind_eq_some_iff.1 h
     split at h<;>try(cases h;done)
     cases h
     obtain⟨a,b,c,rfl⟩:=okWide_slice aJ av
     exact ⟨(by rintro ⟨bT,e⟩;cases e),(by rintro ⟨bT,e⟩;cases e)⟩
   · rename_i bT aJ
     obtain⟨aj,au,h⟩:=Option.bind_eq_some_iff.1 h
     split at h<;>try(cases h;done)
     cases h
     obtain⟨a,rfl,_⟩:=okWide_struct aJ av
     exact ⟨fun _=>⟨_,rfl⟩,fun _=>⟨_,rfl⟩⟩
   · rename_i k e aJ
     obtain⟨aj,au,h⟩:=Option.bind_eq_some_iff.1 h
     split at h<;>try(cases h;done)
     cases h
     have aK:∃cs,v= .agg cs:=by
      simp only[Value.okWide,aJ] at av
      obtain⟨cs,U,_⟩:=av
      exact ⟨cs,U⟩
     exact ⟨fun _=>aK,fun _=>⟨_,rfl⟩⟩
   · cases h
theorem HO {r:Reach} {b0:Nat} (jU:∀b,b<w.heap.size->ok b) {m:Nat}:∀ {dV:List TypeId} {ss:List de} {vs:List Value} {cQ:List (DataW H)} {ps:List MemPlace},dV.mapM (shape P m)=some ss->
 DataW.TrodAll enc P w 0 spare held dV vs cQ ps->(∀(j:Nat) t v,dV[j]? =some t->vs[j]? =some v->Value.okWide P w r b0 t v)->
 ∃as,r2 ss as/\vs.length=as.length/\∀i (h:i<as.length) (h':i<vs.length),db w ok as[i] vs[i]
 | [],ss,vs,cQ,ps,au,h,_=>by
   obtain⟨rfl,rfl,rfl⟩:=trodAll_nil h
   obtain rfl: []=ss:=by simpa using au
   exact ⟨[],rfl,rfl,fun i ab=>by simp at ab⟩
 | t::dV,ss,vs,cQ,ps,au,h,av=>by
   obtain⟨v,l_,d,jY,p,q,rfl,rfl,rfl,⟨fuel,aD⟩,U⟩:=trodAll_cons h
   rw[List.mapM_cons] at au
   obtain⟨s,ow,au⟩:=Option.bind_eq_some_iff.1 au
   obtain⟨adi,n',au⟩:=Option.bind_eq_some_iff.1 au
   cases au
   obtain⟨as,h2,az,aT⟩:=HO jU n' U (fun j Q2 jT aJ Q3=>av (j+1) Q2 jT (by simpa using aJ) (by simpa using Q3))
   obtain⟨cs,b7,bX⟩:=HN jU _ _ _ _ _ _ ow aD
   obtain⟨jz,dD⟩:=Q1 ow (av 0 t v rfl rfl)
   refine⟨s.one cs::as,⟨_,_,rfl,⟨H,cs,d,rfl,b7⟩,h2⟩,by simp[az],fun i ab bI=>?_⟩
   cases i with
   | zero=>exact Q0 b7 jz dD bX
   | succ i=>exact aT i _ _
theorem HP (aw:laidOutB P=true) {aN:World} (aa:Below w.heap.size w aN):∀ {dV:List TypeId} {vs:List Value} {cQ:List (DataW H)} {ps:List MemPlace},
 (dV.all fun t=>P.readableRec t&&decide (t<P.types.size))=true->
 DataW.TrodAll enc P w 0 (fun _=>true) true dV vs cQ ps->DataW.TrodAll enc P aN 0 (fun b=>decide (b<w.heap.size)) true dV vs cQ ps
 | [],vs,cQ,ps,_,h=>by
   obtain⟨rfl,rfl,rfl⟩:=trodAll_nil h
   exact trodAll_mk0
 | t::dV,vs,cQ,ps,aK,h=>by
   obtain⟨v,l_,d,jY,p,q,rfl,rfl,rfl,aD,U⟩:=trodAll_cons h
   simp only[List.all_cons,Bool.and_eq_true,decide_eq_true_eq] at aK
   obtain⟨m,hm⟩:=aD
   exact trodAll_cons_mk (Below.trod aw aK.1.1 aK.1.2 ⟨m,hm⟩ aa (fun x ae=>DataW.trod_lt m _ _ _ hm x ae)) (HP aw aa aK.2 U)
theorem lifted {C:Checked} {os:Os} {f:FuncId} {fn:Func} {s:ChangeSpec} {m:Nat} {ss:List de} {T:List I->Option I} {G:Nat->Option I} {X:World->Array Value->Prop} {HQ:TypeId} {body:Code}
 (lQ:∀(w aN:World) (args:Array Value),w.heap=aN.heap->X w args->X aN args)
 (own:ownKnob C.prog.godebug=none) (started:os.Started) (Q4:C.prog.inits.idxOf? f=none) (mf:C.prog.funcs[f]? =some fn)
 (witness:∃(w:World) (tape:Tape) (i:Input),w.os=os/\(w.forCall tape i).Shaped C.prog/\i.vars= []/\Input.okWide C.prog (w.forCall tape i) .any w.heap.size f i/\
   ((s.pre enc C.prog fn [] false (w.forCall tape i).memory i.args/\X (w.forCall tape i).memory i.args)/\sizedMet enc C.prog fn (OpenSpec.ofChange s) false (w.forCall tape i).memory i.args)/\({}:Assume).holds C.prog (lone (Frame.enter C.prog f i.args .normal) [] (w.forCall tape i)))
 (aw:laidOutB C.prog=true)
 (au:fn.params.toList.mapM (shape C.prog m)=some ss) (Q5:(fn.params.toList.all fun t=>C.prog.readableRec t&&decide (t<C.prog.types.size))=true)
 (Q6:fn.body=some body) (BZ:fn.name≠ "runtime.NumGoroutine")
 (BY:fn.resultTypes= #[HQ]) (Ba:C.prog.underlying HQ=some .bool) (HR:s.vars= [])
 (Cd:∀cQ:List (DataW H),cQ.length=fn.params.size->s.fn H cQ= {results:=[.lit (.bool true)],args:=cQ})
 (Q7:∀W args,X W args->∀g u,G g=some u->a2 W (fun _=>True) (fun _=>none) (.eK u) (.pointer (some ⟨g,0,none⟩)))
 (J:aP C.prog G f T) (cR:∀as,r2 ss as->T as=some (.bool true)):
 ReturnsInHanded {} C os f .any (fun w args=>(s.pre enc C.prog fn [] false w args/\X w args)/\sizedMet enc C.prog fn (OpenSpec.ofChange s) false w args) (s.post enc C.prog fn false true false false):=by
 refine returnsInHanded_of_change_and lQ own started Q4 mf witness ?_
 intro W base args cQ gs before lr ly _ _ ae _
 have Q8:=ly
 obtain⟨p,q,a4,HS,rfl,adj,oj⟩:=ly
 rw[HR] at HS
 obtain⟨rfl,rfl⟩:=trodVars_none HS
 obtain⟨as,U,h2,az⟩:=HO (ok:=fun _=>True) (fun _ _=>trivial) au a4 (fun j t v aJ av=>lr j t v (by simpa using aJ) (by simpa using av))
 have D:=J as _ (cR as U) (fun _=>True) W args (by simpa using h2) (fun i h h'=>by have:=az i h (by simpa using h');rwa [Array.getElem_toList] at this) (Q7 W args ae)
 have Ce:cQ.length=fn.params.size:=by
  have:∀ {dV:List TypeId} {vs:List Value} {cQ:List (DataW H)} {ps:List MemPlace},DataW.TrodAll enc C.prog W 0 (fun _=>true) true dV vs cQ ps->cQ.length=dV.length:=by
   intro dV
   induction dV with
   | nil=>intro vs cQ ps h;obtain⟨_,rfl,_⟩:=trodAll_nil h;rfl
   | cons t dV a6=>
     intro vs cQ ps h
     obtain⟨v,l_,d,jY,p,q,rfl,rfl,rfl,aD,U⟩:=trodAll_cons h
     simp[a6 U]
  simpa using this a4
 have fin:∀cv aN,db aN (fun b=>True\/W.heap.size<=b) (.bool true) cv/\Below W.heap.size W aN->s.post enc C.prog fn false true false false W args cv aN:=by
  rintro cv aN ⟨aH,aa⟩
  cases aH
  refine⟨cQ,[],_,[],p,[],Q8,?_,?_,?_,aa.frame _,fun h=>by cases h⟩
  · rw[List.append_nil,Cd cQ Ce,BY]
    exact trodAll_mk1 (shut_bool Ba _)
  · rw[List.append_nil,Cd cQ Ce]
    exact HP aw aa Q5 a4
  · rw[HR,List.append_nil,Cd cQ Ce]
    rfl
 rcases D with⟨_,d2⟩|⟨cv,aN,d1,_⟩
 · refine d2.mono fun e aN ⟨cv,he,ee⟩=>⟨cv,he,fin cv aN ee⟩
 · have:=BV mf Q6 BZ args W
   rw[this] at d1
   cases d1
end rows
end Go.Eng
namespace Go.Eng
open Go Go.RowKit
theorem HT {k:IntKind} {n:Int} (h:(Lit.int k n).wf=true):k.min<=n/\n<=k.max:=by
 simpa[Lit.wf] using h
theorem Q9 {k:IntKind} {a:I} (h:lS (.int k) a):∃n:Int,a= .int k n/\k.min<=n/\n<=k.max:=by
 obtain⟨H,zs,d,rfl,n,rfl,_,hw⟩:=h
 exact ⟨n,rfl,(HT hw).1,(HT hw).2⟩
theorem Q_ {a:I} (h:lS .bool a):∃b,a= .bool b:=by
 obtain⟨H,zs,d,rfl,b,rfl,_⟩:=h
 exact ⟨b,rfl⟩
theorem HU {e:de} {a:I} (h:lS (.sl e) a):∃xs,a= .sl xs false/\xs.length<=maxLen/\∀x∈xs,lS e x:=by
 obtain⟨H,zs,d,rfl,xs,rfl,hm,a_⟩:=h
 refine⟨xs,rfl,hm,fun x ae=>?_⟩
 rcases a_ with⟨_,rfl⟩|⟨cQ,rest,_,aw,Q'⟩
 · cases ae
 · obtain⟨i,ab,rfl⟩:=List.mem_iff_getElem.1 ae
   obtain⟨cs,U,_,h2⟩:=Q' i ab (by omega)
   exact ⟨H,cs,_,U,h2⟩
theorem Ra {bT:List de} {a:I} (h:lS (.bM bT) a):∃(H:Type) (cs:List I) (cQ:List (DataW H)),a= .agg cs/\lf bT cs cQ:=by
 obtain⟨H,zs,d,rfl,cQ,rfl,a_⟩:=h
 exact ⟨H,zs,cQ,rfl,a_⟩
theorem Rb {a:I} (h:lS (.int .u32) a):∃n,a= .int .u32 (Z n)/\n<4294967296:=by
 obtain⟨n,rfl,U,h2⟩:=Q9 h
 simp[IntKind.min,IntKind.max,IntKind.signed,IntKind.bits] at U h2
 obtain⟨n,rfl⟩:=Int.eq_ofNat_of_zero_le U
 exact ⟨n,rfl,by omega⟩
theorem Rc {a:I} (h:lS (.sl (.int .u32)) a):∃l:List Nat,a= .sl (l.map fun n=> .int .u32 (Z n)) false/\l.length<=maxLen/\∀x∈l,x<4294967296:=by
 obtain⟨xs,rfl,hm,ae⟩:=HU h
 have:∃l:List Nat,xs=l.map (fun n=> .int .u32 (Z n))/\∀x∈l,x<4294967296:=by
  clear hm h
  induction xs with
  | nil=>exact ⟨[],rfl,fun x ae=>by cases ae⟩
  | cons x xs a6=>
    obtain⟨n,rfl,aq⟩:=Rb (ae x (by simp))
    obtain⟨l,rfl,aw⟩:=a6 (fun y aO=>ae y (by simp[aO]))
    exact ⟨n::l,rfl,fun y aO=>by
     rcases List.mem_cons.1 aO with rfl|aO
     · exact aq
     · exact aw y aO⟩
 obtain⟨l,rfl,aw⟩:=this
 exact ⟨l,rfl,by simpa using hm,aw⟩
theorem Rd {H:Type} {f:de} {bT:List de} {cs:List I} {cQ:List (DataW H)} (h:lf (f::bT) cs cQ):∃(a b:List I) (jY:List (DataW H)),cs=a++b/\lS f (f.one a)/\(f.one a).cells=a/\lf bT b jY:=by
 obtain⟨a,b,d,jY,rfl,_,U,h2⟩:=h
 exact ⟨a,b,jY,rfl,⟨H,a,d,rfl,U⟩,de.Cc U,h2⟩
theorem Re {H:Type} {cs:List I} {cQ:List (DataW H)} (h:lf [] cs cQ):cs= []:=h.1
theorem HV {s:de} {ss:List de} {l:List I} (h:r2 (s::ss) l):∃a lu,l=a::lu/\lS s a/\r2 ss lu:=h
theorem Rf {l:List I} (h:r2 [] l):l= []:=h
end Go.Eng
namespace Go.Eng
open Go Go.RowKit
mutual
def I.loose:I->I
 | .sl xs _=> .sl (kk xs) false
 | .agg cs=> .agg (kk cs)
 | .bo vs=> .bo (kk vs)
 | v=>v
def kk:List I->List I
 | []=>[]
 | v::vs=>v.loose::kk vs
end
theorem nB:∀l:List I,kk l=l.map I.loose
 | []=>rfl
 | v::l=>by simp only[kk,List.map_cons,nB l]
theorem fy:kk []= []:=rfl
theorem fa (v:I) (l:List I):kk (v::l)=v.loose::kk l:=rfl
theorem dP (xs:List I) (e:Bool):(I.sl xs e).loose= .sl (kk xs) false:=by simp only[I.loose]
theorem fj (xs:List I):(I.agg xs).loose= .agg (kk xs):=by simp only[I.loose]
theorem fL (xs:List I):(I.bo xs).loose= .bo (kk xs):=by simp only[I.loose]
theorem fk (k:IntKind) (n:Int):(I.int k n).loose= .int k n:=by simp only[I.loose]
theorem fl (b:Bool):(I.bool b).loose= .bool b:=by simp only[I.loose]
theorem fM (b:ByteArray):(I.str b).loose= .str b:=by simp only[I.loose]
theorem fN:I.nilfn.loose= .nilfn:=by simp only[I.loose]
theorem fO (m:List (Int × FuncId)):(I.mp m).loose= .mp m:=by simp only[I.loose]
theorem Rg (f:FuncId) (a b:List I):(I.fn f a b).loose= .fn f a b:=by simp only[I.loose]
theorem Cf (v:I):v.loose.cells=v.cells.map I.loose:=by
 cases v<;>simp[I.loose,I.cells,nB]
theorem db.loose {w:World} {ok:Nat->Prop} {v:I} {cv:Value} (h:db w ok v cv):db w ok v.loose cv:=by
 induction h with
 | int k n=>rw[fk];exact .int k n
 | bool b=>rw[fl];exact .bool b
 | str s=>rw[fM];exact .str s
 | nilfn=>rw[fN];exact .nilfn
 | fn f=>rw[Rg];exact .fn f
 | mp m r es clock U h2 az aT=>rw[fO];exact .mp m r es clock U h2 az aT
 | sl xs ex A c sz dO U h2 az aT b9 ei a6=>
   rw[dP,nB]
   have R:=db.sl (w:=w) (ok:=ok) (xs.map I.loose) false A c sz dO (by simpa using U) (fun h=>by cases h) (fun i h=>by
    have ab:i<xs.length:=by simpa using h
    rw[List.getElem_map,Cf,List.length_map];exact az i ab) (fun i j ab aA=>aT i j (by simpa using ab) aA) (fun aF=>b9 (by simpa using aF)) (fun i ab j aA=>by
    have bI:i<xs.length:=by simpa using ab
    have j2:j<xs[i].cells.length:=by
     rw[List.getElem_map,Cf,List.length_map] at aA;exact aA
    have e:((xs.map I.loose)[i]'ab).cells[j]=(xs[i].cells[j]).loose:=by
     simp[Cf]
    rw[e]
    exact a6 i bI j j2)
   simpa using R
 | agg cs vs aw h a6=>
   rw[fj,nB]
   refine .agg _ vs (by simpa using aw) fun i ab bI=>?_
   rw[List.getElem_map]
   exact a6 i (by simpa using ab) bI
 | bo cs vs aw h a6=>
   rw[fL,nB]
   refine .bo _ vs (by simpa using aw) fun i ab bI=>?_
   rw[List.getElem_map]
   exact a6 i (by simpa using ab) bI
theorem Rh {P:Program} {G:Nat->Option I} {f:FuncId} {T HW:List I->Option I} (h:aP P G f T) (cR:∀args v,HW args=some v->∃jT,T (args.map I.loose)=some jT/\jT.loose=v):aP P G f HW:=by
 intro args v av ok w dd c7 fu qv
 obtain⟨jT,U,rfl⟩:=cR args v av
 have D:=h _ _ U ok w dd (by simpa using c7) (fun i ab bI=>by
  rw[List.getElem_map]
  exact (fu i (by simpa using ab) bI).loose) qv
 rcases D with⟨d1,d2⟩|⟨cv,aN,d1,d2,d3⟩
 · exact .inl ⟨d1,d2.mono fun e aN ⟨cv,he,ee,aa⟩=>⟨cv,he,ee.loose,aa⟩⟩
 · exact .inr ⟨cv,aN,d1,d2.loose,d3⟩
def fz (res:List l9) (v:I) (ex:c0) (s:aI):Prop:=
 (match ex with
  | .exit _=>False
  | _=>True)/\((dz s.h s.F res).bind fun u=>(iY s.h u).map fun p=>p.1.loose)=some v
theorem Ri {G:Nat->Option I} {Φ:FuncId->Option aM} {tab:FuncId->Option (List I->Option I)} {f:FuncId} {fn:aM} (bg:Φ f=some fn) {args:List I} {v:I} (h:a7 G Φ tab [] fn.body ⟨ds args,aD⟩ (fz fn.res v)):
 ∃jT,jT.loose=v/\∃n,l' G Φ tab n f args=some jT:=by
 obtain⟨n,ex,aj,e,c8,c_⟩:=h
 obtain⟨u,hu,c_⟩:=Option.bind_eq_some_iff.1 c_
 obtain⟨p,aF,rfl⟩:=Option.map_eq_some_iff.1 c_
 refine⟨p.1,rfl,n,?_⟩
 unfold l' xm
 simp only[bg,e]
 cases ex with
 | exit i=>exact c8.elim
 | normal=>simp only[hu,Option.map_some,Option.bind_some,aF]
 | ret=>simp only[hu,Option.map_some,Option.bind_some,aF]
noncomputable def bl {A:Type} (pre:A->Prop) (enc:A->List I) (out:A->I):List I->Option I:=fun args=>vQ pre enc out (args.map I.loose)
theorem bC {A:Type} {pre:A->Prop} {enc:A->List I} {out:A->I} (inj:∀a b,enc a=enc b->out a=out b) (a:A) (h:pre a) {args:List I} (he:args.map I.loose=enc a):bl pre enc out args=some (out a):=by
 unfold bl
 rw[he]
 exact QY (fun a b _ _ h=>inj a b h) a h
theorem bB {P:Program} {G:Nat->Option I} {tab:FuncId->Option (List I->Option I)} (hm:P.follows .mixedOrders=true) (kP:∀f T,tab f=some T->aP P G f T) {f:FuncId} {fn:aM} (bg:aE P f=some fn)
 {A:Type} {pre:A->Prop} {enc:A->List I} {out:A->I} (h:∀a,pre a->a7 G (aE P) tab [] fn.body ⟨ds (enc a),aD⟩ (fz fn.res (out a))):aP P G f (bl pre enc out):=by
 have J:aP P G f (fun args=>open Classical in if h:∃v,∃n,l' G (aE P) tab n f args=some v then some (Classical.choose h) else none):=
  x4 hm kP fun args v cR=>by
   split at cR
   · rename_i ae
     cases cR
     exact Classical.choose_spec ae
   · cases cR
 refine Rh J fun args v cR=>?_
 obtain⟨a,U,h2,rfl⟩:=vR cR
 obtain⟨jT,az,n,aT⟩:=Ri bg (h a U)
 rw[<-h2]
 have ae:∃v,∃n,l' G (aE P) tab n f (enc a)=some v:=⟨jT,n,aT⟩
 refine⟨jT,?_,az⟩
 rw[dif_pos ae]
 congr 1
 obtain⟨m,b9⟩:=Classical.choose_spec ae
 have mono:∀ {n m:Nat} {v:I},n<=m->l' G (aE P) tab n f (enc a)=some v->l' G (aE P) tab m f (enc a)=some v:=by
  intro n m v m5 av
  unfold l' at av|-
  obtain⟨p,U,h2⟩:=Option.bind_eq_some_iff.1 av
  rw[B8] at U
  have:=vO (Y:=[]) m5 (.fn f) (enc a) aD p U
  rw[B8,show j7 G (aE P) tab m [] f (enc a) aD=some p from this]
  exact h2
 have a1:=mono (Nat.le_max_left n m) aT
 have eO:=mono (Nat.le_max_right n m) b9
 rw[a1] at eO
 exact (Option.some.inj eO).symm
theorem hk (k:IntKind):I.int k 0=I.int k (Z 0):=rfl
theorem fA (k:IntKind):I.int k 1=I.int k (Z 1):=rfl
theorem hl (h:af) (k:IntKind) (n:Int):df h (.int k n)=some (.int k n,[]):=rfl
theorem hn (h:af) (k:IntKind) (n:Int):ib h (.int k n)=df h (.int k n):=rfl
theorem ho (h:af) (k:IntKind) (n:Int):iY h (.int k n)=df h (.int k n):=rfl
theorem hp (h:af) (b:Bool):df h (.bool b)=some (.bool b,[]):=rfl
theorem hq (h:af) (b:Bool):ib h (.bool b)=df h (.bool b):=rfl
theorem hr (h:af) (b:Bool):iY h (.bool b)=df h (.bool b):=rfl
theorem hs (h:af) (b:ByteArray):df h (.str b)=some (.str b,[]):=rfl
theorem ht (h:af) (b:ByteArray):ib h (.str b)=df h (.str b):=rfl
theorem hv (h:af) (b:ByteArray):iY h (.str b)=df h (.str b):=rfl
theorem hx (h:af) (xs:List I) (e:Bool):df h (.sl xs e)=some (.sl xs e,[]):=rfl
theorem hy (h:af) (xs:List I) (e:Bool):ib h (.sl xs e)=df h (.sl xs e):=rfl
theorem hz (h:af) (xs:List I) (e:Bool):iY h (.sl xs e)=df h (.sl xs e):=rfl
theorem fm (h:af) (i o l c:Nat):df h (.ref i o l c)=match h.cells i with
 | some blk=>if o+l<=blk.length/\(blk.all I.dh)=true then some (.sl ((blk.drop o).take l) false,[i]) else none
 | none=>none:=rfl
theorem hA (h:af) (i o l c:Nat):ib h (.ref i o l c)=df h (.ref i o l c):=rfl
theorem hB (h:af) (i o l c:Nat):iY h (.ref i o l c)=df h (.ref i o l c):=rfl
theorem hC (h:af):df h (.nilfn)=some (.nilfn,[]):=rfl
theorem hD (h:af):ib h (.nilfn)=df h (.nilfn):=rfl
theorem hE (h:af):iY h (.nilfn)=df h (.nilfn):=rfl
theorem hF (h:af) (m:List (Int × FuncId)):df h (.mp m)=some (.mp m,[]):=rfl
theorem hG (h:af) (m:List (Int × FuncId)):ib h (.mp m)=df h (.mp m):=rfl
theorem hH (h:af) (m:List (Int × FuncId)):iY h (.mp m)=df h (.mp m):=rfl
theorem hI (h:af) (f:FuncId) (x y:List I):df h (.fn f x y)=none:=rfl
theorem hJ (h:af) (f:FuncId) (x y:List I):ib h (.fn f x y)=df h (.fn f x y):=rfl
theorem hK (h:af) (f:FuncId) (x y:List I):iY h (.fn f x y)=df h (.fn f x y):=rfl
theorem hL (h:af) (i j k:Nat):df h (.ptr i j k)=none:=rfl
theorem hM (h:af) (i j k:Nat):ib h (.ptr i j k)=df h (.ptr i j k):=rfl
theorem hN (h:af) (i j k:Nat):iY h (.ptr i j k)=df h (.ptr i j k):=rfl
theorem hO (h:af) (v:I):df h (.eK v)=none:=rfl
theorem hP (h:af) (v:I):ib h (.eK v)=df h (.eK v):=rfl
theorem hQ (h:af) (v:I):iY h (.eK v)=df h (.eK v):=rfl
theorem hR (h:af):df h (.undef)=none:=rfl
theorem hS (h:af):ib h (.undef)=df h (.undef):=rfl
theorem hT (h:af):iY h (.undef)=df h (.undef):=rfl
theorem hU (h:af) (cs:List I):ib h (.agg cs)=(dM h cs).map fun(jk,a)=>(.agg jk,a):=rfl
theorem hV (h:af) (cs:List I):iY h (.agg cs)=(dM h cs).map fun(jk,a)=>(.agg jk,a):=rfl
theorem hW (h:af) (cs:List I):iY h (.bo cs)=(dC h cs).map fun(jk,a)=>(.bo jk,a):=rfl
def jt (r sz bytes:Nat) (h:af) (x y:I):Option (I × af × dy):=(elems h y).bind fun ys=>
    if 0<sz/\0<bytes/\(ys.all fun e=>e.cells.length == sz&&e.cells.all I.bW)=true then
     match x with
     | .sl xs ex=>if ys.length=0 then some (.sl xs ex,h,if j1 y then .pure else .wr) else if ex=true/\(xs.length+ys.length)*bytes<=35184372088832/\0<ys.length/\(xs.all fun e=>e.cells.length == sz)=true
         then some (.ref r 0 (xs.length+ys.length) (xs.length+ys.length),h.new r (xs++ys),if j1 y then .fg else .wr) else none
     | .ref id off len cap=>if ys.length=0 then some (.ref id off len cap,h,if j1 y then .pure else .wr) else if h.shut id=true then none else (h.cells id).bind fun blk=>
         if off+len<=blk.length/\(len+ys.length)*bytes<=35184372088832/\0<ys.length/\(blk.all fun e=>e.cells.length == sz)=true then
          if len+ys.length<=cap then
           if off+cap<=blk.length then some (.ref id off (len+ys.length) cap,h.new id (blk.take (off+len)++ys++blk.drop (off+len+ys.length)),.wr) else none
          else if off=0/\0<len then some (.ref r 0 (len+ys.length) (len+ys.length),{h with cells:=an (an h.cells id none) r (some (blk.take len++ys))},.wr) else none
         else none
     | _=>none
    else none
theorem hX (aX r:Nat) (a5:aQ->I) (h:af) (sz bytes:Nat) (x y:aQ):evalOp aX r a5 h (.app sz bytes x y)=jt r sz bytes h (a5 x) (a5 y):=by rfl
def bS (sz:Nat) (h:af) (v:I) (xs:List I):Prop:=
 (∀j,h.next<=j->h.shut j=false)/\
 ((xs= []/\v= .sl [] true)\/(0<xs.length/\∃q,v= .ref q 0 xs.length xs.length/\h.cells q=some xs/\h.shut q=false/\q<h.next/\(xs.all fun e=>e.cells.length == sz)=true))
def jJ (r:Nat) (h:af) (v:I) (zs:List I):af:=match v with
 | .ref q _ _ _=>{h with cells:=an (an h.cells q none) r (some zs)}
 | _=>h.new r zs
def yb (v:I):dy:=match v with
 | .ref .. => .wr
 | _=> .fg
theorem fB (r:Nat) (h:af) (v:I) (zs:List I):(jJ r h v zs).cells r=some zs:=by
 unfold jJ;split<;>simp[af.new,an]
theorem hY (r:Nat) (h:af) (v:I) (zs:List I):(jJ r h v zs).next=h.next:=by
 unfold jJ;split<;>rfl
theorem hZ (r:Nat) (h:af) (v:I) (zs:List I):(jJ r h v zs).shut=h.shut:=by
 unfold jJ;split<;>rfl
theorem h0 (r:Nat) (h:af) (v:I) (zs:List I):(jJ r h v zs).aS=h.aS:=by
 unfold jJ;split<;>rfl
theorem Rj {r:Nat} {h:af} {v:I} {zs:List I} {q:Nat} (U:q≠r) (h2:∀a b c,v≠ .ref q a b c):(jJ r h v zs).cells q=h.cells q:=by
 unfold jJ
 split
 · rename_i mc a b c
   have:q≠mc:=fun e=>h2 a b c (by rw[e])
   simp[an,U,this]
 · simp[af.new,an,U]
theorem qB {sz:Nat} {h:af} {v:I} {xs:List I} (Rk:bS sz h v xs) (c7:0<sz) {bytes:Nat} (aa:0<bytes) {ys:List I} (j3:0<ys.length) (aO:(ys.all fun e=>e.cells.length == sz&&e.cells.all I.bW)=true)
 (aw:(xs.length+ys.length)*bytes<=35184372088832) (m r:Nat) (e:Bool):
 jt r sz bytes ⟨h.cells,h.shut,m,h.aS⟩ v (.sl ys e)=some (.ref r 0 (xs.length+ys.length) (xs.length+ys.length),jJ r ⟨h.cells,h.shut,m,h.aS⟩ v (xs++ys),yb v):=by
 have aD:¬ys.length=0:=by omega
 unfold jt
 simp only[elems,Option.bind_some,if_pos (And.intro c7 (And.intro aa aO))]
 rcases Rk.2 with⟨rfl,rfl⟩|⟨U,q,rfl,h2,az,aT,b9⟩
 · simp only[if_neg aD,j1,if_true]
   rw[if_pos ⟨trivial,aw,j3,rfl⟩]
   rfl
 · have ei:¬xs.length+ys.length<=xs.length:=by omega
   simp only[if_neg aD,az,Bool.false_eq_true,if_false,h2,Option.bind_some]
   rw[if_pos ⟨by omega,aw,j3,b9⟩,if_neg ei,if_pos ⟨trivial,U⟩]
   simp only[List.take_length,jJ,yb]
theorem bS.mono {sz:Nat} {h h':af} {v:I} {xs:List I} (o:bS sz h v xs) (J:∀q,q<h.next->h'.cells q=h.cells q) (au:∀q,h'.shut q=h.shut q) (aq:h.next<=h'.next):bS sz h' v xs:=by
 refine⟨fun j aA=>by rw[au];exact o.1 j (by omega),?_⟩
 rcases o.2 with o|⟨U,q,h2,az,aT,b9,ei⟩
 · exact .inl o
 · exact .inr ⟨U,q,h2,by rw[J q b9];exact az,by rw[au q];exact aT,by omega,ei⟩
theorem bS.bump {sz:Nat} {h:af} {v:I} {xs:List I} (o:bS sz h v xs) (m:Nat) (hm:h.next<=m):bS sz ⟨h.cells,h.shut,m,h.aS⟩ v xs:=o.mono (fun _ _=>rfl) (fun _=>rfl) hm
theorem bS.nil {sz:Nat} {h:af} (au:∀j,h.next<=j->h.shut j=false):bS sz h (.sl [] true) []:=⟨au,.inl ⟨rfl,rfl⟩⟩
theorem bS.app {sz:Nat} {h:af} {v:I} {xs:List I} (o:bS sz h v xs) {ys:List I} (j3:0<ys.length) (aO:(ys.all fun e=>e.cells.length == sz)=true) (m k3 r:Nat) (p lO:Nat->Option ff) (aH:h.next<=r) (hm:r<k3):
 bS sz ⟨(jJ r ⟨h.cells,h.shut,m,p⟩ v (xs++ys)).cells,h.shut,k3,lO⟩ (.ref r 0 (xs.length+ys.length) (xs.length+ys.length)) (xs++ys):=by
 refine⟨fun j aA=>o.1 j (Nat.le_trans (Nat.le_trans aH (Nat.le_of_lt hm)) aA),.inr ⟨by simp;omega,r,by simp,fB ..,o.1 r aH,hm,?_⟩⟩
 rw[List.all_append,aO]
 rcases o.2 with⟨rfl,_⟩|⟨_,_,_,_,_,_,ei⟩
 · rfl
 · rw[ei];rfl
theorem bS.other {sz:Nat} {h:af} {v:I} {xs:List I} (o:bS sz h v xs) {m:Nat} {p:Nat->Option ff} {r q:Nat} {zs:List I} (U:q≠r) (h2:∀a b c,v≠ .ref q a b c):(jJ r ⟨h.cells,h.shut,m,p⟩ v zs).cells q=h.cells q:=Rj U h2
theorem bS.out {sz:Nat} {h:af} {v:I} {xs:List I} (o:bS sz h v xs) (aa:(xs.all I.dh)=true):∃ids,∀m p,ib ⟨h.cells,h.shut,m,p⟩ v=some (.sl xs (decide (xs= [])),ids)/\iY ⟨h.cells,h.shut,m,p⟩ v=some (.sl xs (decide (xs= [])),ids)/\df ⟨h.cells,h.shut,m,p⟩ v=some (.sl xs (decide (xs= [])),ids):=by
 rcases o.2 with⟨rfl,rfl⟩|⟨U,q,rfl,az,aT,b9,ei⟩
 · exact ⟨[],fun m p=>⟨rfl,rfl,rfl⟩⟩
 · refine⟨[q],fun m p=>?_⟩
   have:xs≠ []:=by rintro rfl;simp at U
   simp only[ib,df,iY,az]
   rw[if_pos ⟨by omega,aa⟩]
   simp[this]
theorem bS.len {sz:Nat} {h:af} {v:I} {xs:List I} (o:bS sz h v xs) (aX r:Nat) (a5:aQ->I) (h':af) (x:aQ) (ae:a5 x=v):evalOp aX r a5 h' (.len false x)=some (.int .i64 xs.length,h',.pure):=by
 rcases o.2 with⟨rfl,rfl⟩|⟨U,q,rfl,az,aT,b9,ei⟩<;>simp[evalOp,ae]
section hand
variable {P:Program} {ops:Array Oper} {Q:Exit->Act->World->Prop} {a:Act} {w aN:World} {rest:List Oper} {o:Oper}
end hand
end Go.Eng
