import Derived.Test.YtemiagcencajeaaGreatDoorXdE6
set_option linter.unusedSimpArgs false
set_option linter.unusedVariables false
set_option linter.unusedSectionVars false
namespace Go.Eng
open Go Go.RowKit
structure Kept (h h':ah):Prop where
 next:h.next<=h'.next
 cells:∀j,j<h.next->h'.cells j=h.cells j
 shut:h'.shut=h.shut
 aV:h'.aV=h.aV
theorem Kept.u4 (h:ah):Kept h h:=⟨Nat.le_refl _,fun _ _=>rfl,rfl,rfl⟩
theorem Kept.trans {a b c:ah} (x:Kept a b) (y:Kept b c):Kept a c:=⟨Nat.le_trans x.next y.next,fun j aB=>by rw[y.cells j (Nat.lt_of_lt_of_le aB x.next),x.cells j aB],by rw[y.shut,x.shut],by rw[y.aV,x.aV]⟩
theorem Kept.bump {a h:ah} (k:Kept a h) (n:Nat) (ak:h.next<=n):Kept a ⟨h.cells,h.shut,n,h.aV⟩:=⟨Nat.le_trans k.next ak,k.cells,k.shut,k.aV⟩
theorem Kept.new {a h:ah} (k:Kept a h) {r:Nat} (v:Option (List I)) (n:Nat) (aR:h.next<=r) (ak:h.next<=n):Kept a ⟨au h.cells r v,h.shut,n,h.aV⟩:=⟨Nat.le_trans k.next ak,fun j aB=>by
 have:=k.next
 rw[<-k.cells j aB]
 simp only[au]
 rw[if_neg (by omega)],k.shut,k.aV⟩
section
variable {G:Nat->Option I} {Φ:FuncId->Option aO} {tab:FuncId->Option (List I->Option I)} {Y:List cJ}
end
theorem bH.cd {sz:Nat} {h:ah} {v:I} {xs:List I} (o:bH sz h v xs):v.cd=true:=by
 rcases o.2 with⟨_,rfl⟩|⟨_,q,rfl,_⟩<;>rfl
theorem bH.one {sz:Nat} {h:ah} {v:I} {xs:List I} (o:bH sz h v xs):v.cells= [v]:=by
 rcases o.2 with⟨_,rfl⟩|⟨_,q,rfl,_⟩<;>rfl
theorem bH.J_ {sz:Nat} {h h':ah} {v:I} {xs:List I} (o:bH sz h v xs) (ax:h'.shut=h.shut) (ak:h'.next=h.next) (J:∀q a b c,v= .ref q a b c->h'.cells q=h.cells q):bH sz h' v xs:=by
 refine⟨fun j aB=>by rw[ax];exact o.1 j (by omega),?_⟩
 rcases o.2 with o|⟨U,q,h2,aA,aT,cj,ei⟩
 · exact .inl o
 · exact .inr ⟨U,q,h2,by rw[J q _ _ _ h2];exact aA,by rw[ax];exact aT,by omega,ei⟩
structure pr (sz:Nat) (h:ah) (b cw:Nat) (xs:List I) (v:I):Prop where
 box:h.cells b=some [v]
 own:bH sz h v xs
 D':∀q a b c,v= .ref q a b c->cw<q
 cc:h.shut b=false
theorem pr.bump {sz b cw:Nat} {h:ah} {xs:List I} {v:I} (x:pr sz h b cw xs v) (n:Nat) (p:Nat->Option fT) (ak:h.next<=n):pr sz ⟨h.cells,h.shut,n,p⟩ b cw xs v:=
 ⟨x.box,x.own.mono (fun _ _=>rfl) (fun _=>rfl) ak,x.D',x.cc⟩
theorem pr.app {sz b cw:Nat} {h:ah} {xs:List I} {v:I} (x:pr sz h b cw xs v) {ys:List I} (e6:0<ys.length) (aQ:(ys.all fun e=>e.cells.length == sz)=true) (m ng r:Nat) (p nZ:Nat->Option fT) (aR:h.next<=r) (hm:r<ng) (n1:cw<r) (ad:b<=cw):
 pr sz ⟨au (k8 r ⟨h.cells,h.shut,m,p⟩ v (xs++ys)).cells b (some [.ref r 0 (xs.length+ys.length) (xs.length+ys.length)]),h.shut,ng,nZ⟩ b cw (xs++ys) (.ref r 0 (xs.length+ys.length) (xs.length+ys.length)):=by
 refine⟨by simp[au],(x.own.app e6 aQ m ng r p nZ aR hm).J_ rfl rfl fun q a c d e=>?_,fun q a c d e=>?_,x.cc⟩
 · obtain⟨rfl,_⟩:=I.ref.inj e
   simp only[au];rw[if_neg (by omega)]
 · obtain⟨rfl,_⟩:=I.ref.inj e
   exact n1
theorem pr.read {sz b cw:Nat} {h:ah} {xs:List I} {v:I} (x:pr sz h b cw xs v) (r m:Nat) (p:Nat->Option fT) (zs:List I) (ad:b<=cw) (aR:b≠r):(k8 r ⟨h.cells,h.shut,m,p⟩ v zs).cells b=some [v]:=by
 rw[bH.other x.own aR (fun a c d e=>by have:=x.D' _ _ _ _ e;omega)];exact x.box
theorem pr.else {sz b cw:Nat} {h:ah} {xs:List I} {v:I} (x:pr sz h b cw xs v) (r m:Nat) (p:Nat->Option fT) (zs:List I) {j:Nat} (aB:j<=cw) (aR:j≠r):(k8 r ⟨h.cells,h.shut,m,p⟩ v zs).cells j=h.cells j:=bH.other x.own aR (fun a c d e=>by have:=x.D' _ _ _ _ e;omega)
theorem J' {r sz bytes:Nat} {h:ah} {id len cap:Nat} {blk ys:List I} (e:Bool) (ax:h.shut id=false) (ad:h.cells id=some blk) (az:blk.length=cap) (hlen:len+ys.length<=cap) (e6:0<ys.length) (c3:0<sz) (wT:0<bytes) (sB:(len+ys.length)*bytes<=35184372088832)
 (aQ:(ys.all fun e=>e.cells.length == sz&&e.cells.all I.cd)=true) (ot:(blk.all fun e=>e.cells.length == sz)=true):
 kR r sz bytes h (.ref id 0 len cap) (.sl ys e)=some (.ref id 0 (len+ys.length) cap,h.new id (blk.take len++ys++blk.drop (len+ys.length)),.wr):=by
 have aG:¬ys.length=0:=by omega
 unfold kR
 simp only[elems,Option.bind_some,if_pos (And.intro c3 (And.intro wT aQ)),if_neg aG,ax,Bool.false_eq_true,if_false,ad,kG,Nat.zero_add]
 rw[if_pos ⟨by omega,sB,e6,ot⟩,if_pos hlen,if_pos (by omega)]
end Go.Eng
namespace Go.Eng
open Go Go.RowKit
def dstsOf:List aU->List Nat
 | []=>[]
 | e::es=>match e.dst with
   | some t=>t::dstsOf es
   | none=>dstsOf es
def c2.writes:c2->List Nat
 | .region _ ops _=>dstsOf ops
 | .seq a b=>a.writes++b.writes
 | .cond _ a b=>a.writes++b.writes
 | .block _ c=>c.writes
 | .loop c=>c.writes
 | _=>[]
section
variable {G:Nat->Option I} {Φ:FuncId->Option aO} {tab:FuncId->Option (List I->Option I)} {Y:List cJ}
theorem T_ {F:Nat->I} {d:Option Nat} {v:I} {t:Nat} (h:∀i,d=some i->t≠i):cA F d v t=F t:=by
 cases d with
 | none=>rfl
 | some i=>simp only[cA,au];rw[if_neg (h i rfl)]
theorem Ka {eF:mx} {aZ r:Nat} {e:aU} {s:aL} {x:aL × eb} (h:cX G tab eF aZ r e s=some x):∃v,x.1.F=cA s.F e.dst v:=by
 unfold cX at h
 split at h
 · split at h
   · split at h
     · split at h
       · rw[Option.map_eq_some_iff] at h;obtain⟨v,_,rfl⟩:=h;exact ⟨v,rfl⟩
       · cases h
     · rw[Option.map_eq_some_iff] at h;obtain⟨⟨v,h'⟩,_,rfl⟩:=h;exact ⟨v,rfl⟩
   · rw[Option.map_eq_some_iff] at h;obtain⟨⟨v,h'⟩,_,rfl⟩:=h;exact ⟨v,rfl⟩
   · cases h
 · rw[Option.map_eq_some_iff] at h;obtain⟨⟨v,h',c⟩,_,rfl⟩:=h;exact ⟨v,rfl⟩
theorem T' {eF:mx} {aZ r:Nat} {e:aU} {s:aL} {x:aL × eb} (h:cB G tab eF aZ r e s=some x):∃v,x.1.F=cA s.F e.dst v:=by
 unfold cB at h
 split at h
 · exact Ka h
 · split at h
   · split at h
     · exact Ka h
     · cases h;exact ⟨_,rfl⟩
   · cases h;exact ⟨_,rfl⟩
   · cases h
theorem Kb {eF:mx} {aZ:Nat}:∀ {es:List aU} {k:Nat} {s:aL} {x:aL × List eb} {t:Nat},cT G tab eF aZ (es.zipIdx k) s=some x->t ∉ dstsOf es->x.1.F t=s.F t
 | [],_,s,x,t,h,_=>by cases h;rfl
 | e::es,k,s,x,t,h,aN=>by
   rw[List.zipIdx_cons,cT] at h
   split at h
   · rename_i ao c ax
     rw[Option.map_eq_some_iff] at h
     obtain⟨⟨CM,cs⟩,h2,rfl⟩:=h
     obtain⟨v,an⟩:=T' ax
     have aA:t ∉ dstsOf es/\∀i,e.dst=some i->t≠i:=by
      unfold dstsOf at aN
      split at aN
      · rename_i i ab
        simp only[List.mem_cons,not_or] at aN
        exact ⟨aN.2,fun j aB=>by rw[ab] at aB;cases aB;exact aN.1⟩
      · rename_i ab
        exact ⟨aN,fun j aB=>by rw[ab] at aB;cases aB⟩
     have aT:=Kb h2 aA.1
     rw[aT]
     show ao.F t=s.F t
     have cj:ao.F=cA s.F e.dst v:=an
     rw[cj,T_ aA.2]
   · cases h
theorem oF:∀(n:Nat) (Y:List cJ) (c:c2) (s:aL) (ex:dg) (ao:aL),exec G Φ tab n Y c s=some (ex,ao)->∀t,t ∉ c.writes->ao.F t=s.F t
 | 0,_,_,_,_,_,h=>by cases h
 | n+1,Y,c,s,ex,ao,h=>by
   intro t aN
   rw[iF] at h
   cases c with
   | skip=>cases h;rfl
   | ret=>cases h;rfl
   | exit id=>cases h;rfl
   | region kx ops e5=>
     simp only[Option.map_eq_some_iff] at h
     obtain⟨s1,U,h2⟩:=h
     cases h2
     unfold ew at U
     split at U
     · rename_i x cs aA
       split at U
       · cases U;exact Kb aA aN
       · cases U
     · cases U
   | seq a b=>
     simp only[c2.writes,List.mem_append,not_or] at aN
     simp only at h
     split at h
     · rename_i s1 U
       rw[oF n Y b _ _ _ h t aN.2,oF n Y a _ _ _ U t aN.1]
     · exact oF n Y a _ _ _ h t aN.1
   | cond x a b=>
     simp only[c2.writes,List.mem_append,not_or] at aN
     simp only at h
     split at h
     · split at h
       · exact oF n Y a _ _ _ h t aN.1
       · exact oF n Y b _ _ _ h t aN.2
     · cases h
   | block id b=>
     simp only at h
     split at h
     · rename_i i s1 U
       split at h<;>(cases h;exact oF n Y b _ _ _ U t aN)
     · exact oF n Y b _ _ _ h t aN
   | loop b=>
     simp only at h
     split at h
     · rename_i s1 U
       rw[oF n Y (.loop b) _ _ _ h t aN,oF n Y b _ _ _ U t aN]
     · exact oF n Y b _ _ _ h t aN
   | lu f ps dI body=>
     simp only at h
     repeat' split at h
     all_goals first|(cases h;rfl)|(cases h;done)
theorem ba.frame {c:c2} {s:aL} {Q:dg->aL->Prop} (h:ba G Φ tab Y c s Q):ba G Φ tab Y c s fun ex ao=>Q ex ao/\∀t,t ∉ c.writes->ao.F t=s.F t:=
 let ⟨n,ex,ao,e,q⟩:=h;⟨n,ex,ao,e,q,oF n Y c s ex ao e⟩
def c2.within (W:List Nat) (c:c2):Bool:=c.writes.all W.contains
theorem Kc {W:List Nat} {c:c2} (h:c.within W=true) {t:Nat} (aN:W.contains t=false):t ∉ c.writes:=fun hm=>by
 have:=List.all_eq_true.1 h t hm
 rw[aN] at this;cases this
theorem Ua {id:Nat} {b:c2} {Q:dg->aL->Prop} (W:List Nat) (lB:b.within W=true) (n:Nat) (aj:Nat->aL->Prop) (E R:aL->Prop) {s:aL} (h:aj 0 s)
 (round:∀i ao,i<=n->(∀t,W.contains t=false->ao.F t=s.F t)->aj i ao->ba G Φ tab Y b ao (u3 id n i aj E R))
 (fin:∀ao,(∀t,W.contains t=false->ao.F t=s.F t)->E ao->Q .normal ao) (ret:∀ao,(∀t,W.contains t=false->ao.F t=s.F t)->R ao->Q .ret ao):ba G Φ tab Y (.block id (.loop b)) s Q:=by
 refine J9 n (fun i ao=>(∀t,W.contains t=false->ao.F t=s.F t)/\aj i ao) (fun ao=>(∀t,W.contains t=false->ao.F t=s.F t)/\E ao) (fun ao=>(∀t,W.contains t=false->ao.F t=s.F t)/\R ao) ⟨fun _ _=>rfl,h⟩ ?_ (fun ao h=>fin ao h.1 h.2) (fun ao h=>ret ao h.1 h.2)
 rintro i ao ab ⟨ag,qk⟩
 refine(round i ao ab ag qk).frame.mono fun ex s2 ⟨aM,bb⟩=>?_
 have kK:∀t,W.contains t=false->s2.F t=s.F t:=fun t aN=>by rw[bb t (Kc lB aN),ag t aN]
 cases ex with
 | normal=>exact ⟨aM.1,kK,aM.2⟩
 | exit j=>exact ⟨aM.1,kK,aM.2⟩
 | ret=>exact ⟨kK,aM⟩
theorem Ub {id:Nat} {b:c2} {Q:dg->aL->Prop} (W:List Nat) (lB:b.within W=true) (aj:Nat->aL->Prop) (E R:aL->Prop) (k:Nat) {s:aL} (h:aj k s)
 (round:∀k ao,(∀t,W.contains t=false->ao.F t=s.F t)->aj k ao->ba G Φ tab Y b ao (uZ id k aj E R))
 (fin:∀ao,(∀t,W.contains t=false->ao.F t=s.F t)->E ao->Q .normal ao) (ret:∀ao,(∀t,W.contains t=false->ao.F t=s.F t)->R ao->Q .ret ao):ba G Φ tab Y (.block id (.loop b)) s Q:=by
 refine lO (fun i ao=>(∀t,W.contains t=false->ao.F t=s.F t)/\aj i ao) (fun ao=>(∀t,W.contains t=false->ao.F t=s.F t)/\E ao) (fun ao=>(∀t,W.contains t=false->ao.F t=s.F t)/\R ao) k ⟨fun _ _=>rfl,h⟩ ?_ (fun ao h=>fin ao h.1 h.2) (fun ao h=>ret ao h.1 h.2)
 rintro i ao ⟨ag,qk⟩
 refine(round i ao ag qk).frame.mono fun ex s2 ⟨aM,bb⟩=>?_
 have kK:∀t,W.contains t=false->s2.F t=s.F t:=fun t aN=>by rw[bb t (Kc lB aN),ag t aN]
 cases ex with
 | normal=>obtain⟨j,aB,aM⟩:=aM;exact ⟨j,aB,kK,aM⟩
 | exit j=>exact ⟨aM.1,kK,aM.2⟩
 | ret=>exact ⟨kK,aM⟩
theorem Kd (c:c2):c.within c.writes=true:=List.all_eq_true.2 fun t h=>List.contains_iff_mem.2 h
theorem gg {id:Nat} {b:c2} {Q:dg->aL->Prop} (n:Nat) (aj:Nat->aL->Prop) (E R:aL->Prop) {s:aL} (h:aj 0 s)
 (round:∀i ao,i<=n->(∀t,b.writes.contains t=false->ao.F t=s.F t)->aj i ao->ba G Φ tab Y b ao (u3 id n i aj E R))
 (fin:∀ao,(∀t,b.writes.contains t=false->ao.F t=s.F t)->E ao->Q .normal ao) (ret:∀ao,(∀t,b.writes.contains t=false->ao.F t=s.F t)->R ao->Q .ret ao):ba G Φ tab Y (.block id (.loop b)) s Q:=
 Ua b.writes (Kd b) n aj E R h round fin ret
theorem m3 {id:Nat} {b:c2} {Q:dg->aL->Prop} (aj:Nat->aL->Prop) (E R:aL->Prop) (k:Nat) {s:aL} (h:aj k s)
 (round:∀k ao,(∀t,b.writes.contains t=false->ao.F t=s.F t)->aj k ao->ba G Φ tab Y b ao (uZ id k aj E R))
 (fin:∀ao,(∀t,b.writes.contains t=false->ao.F t=s.F t)->E ao->Q .normal ao) (ret:∀ao,(∀t,b.writes.contains t=false->ao.F t=s.F t)->R ao->Q .ret ao):ba G Φ tab Y (.block id (.loop b)) s Q:=
 Ub b.writes (Kd b) aj E R k h round fin ret
end
theorem Ke {P:Program} {G:Nat->Option I} {f:FuncId} {A:Type} {pre:A->Prop} {enc:A->List I} {out:A->I} (inj:∀a b,enc a=enc b->out a=out b) (zP:A->Nat)
 (h:∀N,aH P G f (a9 (fun a=>pre a/\zP a<N) enc out)->aH P G f (a9 (fun a=>pre a/\zP a<N+1) enc out)):aH P G f (a9 pre enc out):=by
 have all:∀N,aH P G f (a9 (fun a=>pre a/\zP a<N) enc out):=by
  intro N
  induction N with
  | zero=>
    intro args v cD
    obtain⟨a,⟨_,h⟩,_⟩:=u0 cD
    exact absurd h (Nat.not_lt_zero _)
  | succ N a6=>exact h N a6
 intro args v cD
 obtain⟨a,U,h2,rfl⟩:=u0 cD
 exact all (zP a+1) args (out a) (bk inj a ⟨U,Nat.lt_succ_self _⟩ h2.symm)
end Go.Eng
