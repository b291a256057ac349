import Derived.Test.YtemiagcencajeaaGreatDoorXmE6
set_option linter.unusedSimpArgs false
set_option linter.unusedVariables false
set_option linter.unusedSectionVars false
namespace Go.Eng
open Go Go.RowKit
structure Kept (h h':ai):Prop where
 next:h.next<=h'.next
 cells:∀j,j<h.next->h'.cells j=h.cells j
 shut:h'.shut=h.shut
 aU:h'.aU=h.aU
theorem Kept.ug (h:ai):Kept h h:=⟨Nat.le_refl _,fun _ _=>rfl,rfl,rfl⟩
theorem Kept.trans {a b c:ai} (x:Kept a b) (y:Kept b c):Kept a c:=⟨Nat.le_trans x.next y.next,fun j aA=>by rw[y.cells j (Nat.lt_of_lt_of_le aA x.next),x.cells j aA],by rw[y.shut,x.shut],by rw[y.aU,x.aU]⟩
theorem Kept.bump {a h:ai} (k:Kept a h) (n:Nat) (ak:h.next<=n):Kept a ⟨h.cells,h.shut,n,h.aU⟩:=⟨Nat.le_trans k.next ak,k.cells,k.shut,k.aU⟩
theorem Kept.new {a h:ai} (k:Kept a h) {r:Nat} (v:Option (List I)) (n:Nat) (aT:h.next<=r) (ak:h.next<=n):Kept a ⟨ar h.cells r v,h.shut,n,h.aU⟩:=⟨Nat.le_trans k.next ak,fun j aA=>by
 have:=k.next
 rw[<-k.cells j aA]
 simp only[ar]
 rw[if_neg (by omega)],k.shut,k.aU⟩
section
variable {G:Nat->Option I} {Φ:FuncId->Option aP} {tab:FuncId->Option (List I->Option I)} {Y:List cy}
end
theorem bD.cb {sz:Nat} {h:ai} {v:I} {xs:List I} (o:bD sz h v xs):v.cb=true:=by
 rcases o.2 with⟨_,rfl⟩|⟨_,q,rfl,_⟩<;>rfl
theorem bD.one {sz:Nat} {h:ai} {v:I} {xs:List I} (o:bD sz h v xs):v.cells= [v]:=by
 rcases o.2 with⟨_,rfl⟩|⟨_,q,rfl,_⟩<;>rfl
theorem bD.I5 {sz:Nat} {h h':ai} {v:I} {xs:List I} (o:bD sz h v xs) (aw:h'.shut=h.shut) (ak:h'.next=h.next) (J:∀q a b c,v= .ref q a b c->h'.cells q=h.cells q):bD sz h' v xs:=by
 refine⟨fun j aA=>by rw[aw];exact o.1 j (by omega),?_⟩
 rcases o.2 with o|⟨U,q,h2,aB,aS,ck,ep⟩
 · exact .inl o
 · exact .inr ⟨U,q,h2,by rw[J q _ _ _ h2];exact aB,by rw[aw];exact aS,by omega,ep⟩
structure oY (sz:Nat) (h:ai) (b cj:Nat) (xs:List I) (v:I):Prop where
 box:h.cells b=some [v]
 own:bD sz h v xs
 CS:∀q a b c,v= .ref q a b c->cj<q
 cp:h.shut b=false
theorem oY.bump {sz b cj:Nat} {h:ai} {xs:List I} {v:I} (x:oY sz h b cj xs v) (n:Nat) (p:Nat->Option fu) (ak:h.next<=n):oY sz ⟨h.cells,h.shut,n,p⟩ b cj xs v:=
 ⟨x.box,x.own.mono (fun _ _=>rfl) (fun _=>rfl) ak,x.CS,x.cp⟩
theorem oY.app {sz b cj:Nat} {h:ai} {xs:List I} {v:I} (x:oY sz h b cj xs v) {ys:List I} (eL:0<ys.length) (aQ:(ys.all fun e=>e.cells.length == sz)=true) (m mL r:Nat) (p ny:Nat->Option fu) (aT:h.next<=r) (hm:r<mL) (nA:cj<r) (ad:b<=cj):
 oY sz ⟨ar (kT r ⟨h.cells,h.shut,m,p⟩ v (xs++ys)).cells b (some [.ref r 0 (xs.length+ys.length) (xs.length+ys.length)]),h.shut,mL,ny⟩ b cj (xs++ys) (.ref r 0 (xs.length+ys.length) (xs.length+ys.length)):=by
 refine⟨by simp[ar],(x.own.app eL aQ m mL r p ny aT hm).I5 rfl rfl fun q a c d e=>?_,fun q a c d e=>?_,x.cp⟩
 · obtain⟨rfl,_⟩:=I.ref.inj e
   simp only[ar];rw[if_neg (by omega)]
 · obtain⟨rfl,_⟩:=I.ref.inj e
   exact nA
theorem oY.read {sz b cj:Nat} {h:ai} {xs:List I} {v:I} (x:oY sz h b cj xs v) (r m:Nat) (p:Nat->Option fu) (zs:List I) (ad:b<=cj) (aT:b≠r):(kT r ⟨h.cells,h.shut,m,p⟩ v zs).cells b=some [v]:=by
 rw[bD.other x.own aT (fun a c d e=>by have:=x.CS _ _ _ _ e;omega)];exact x.box
theorem oY.else {sz b cj:Nat} {h:ai} {xs:List I} {v:I} (x:oY sz h b cj xs v) (r m:Nat) (p:Nat->Option fu) (zs:List I) {j:Nat} (aA:j<=cj) (aT:j≠r):(kT r ⟨h.cells,h.shut,m,p⟩ v zs).cells j=h.cells j:=bD.other x.own aT (fun a c d e=>by have:=x.CS _ _ _ _ e;omega)
theorem I6 {r sz bytes:Nat} {h:ai} {id len cap:Nat} {blk ys:List I} (e:Bool) (aw:h.shut id=false) (ad:h.cells id=some blk) (az:blk.length=cap) (hlen:len+ys.length<=cap) (eL:0<ys.length) (cW:0<sz) (vJ:0<bytes) (rT:(len+ys.length)*bytes<=35184372088832)
 (aQ:(ys.all fun e=>e.cells.length == sz&&e.cells.all I.cb)=true) (nX:(blk.all fun e=>e.cells.length == sz)=true):
 kv r sz bytes h (.ref id 0 len cap) (.sl ys e)=some (.ref id 0 (len+ys.length) cap,h.new id (blk.take len++ys++blk.drop (len+ys.length)),.wr):=by
 have aF:¬ys.length=0:=by omega
 unfold kv
 simp only[elems,Option.bind_some,if_pos (And.intro cW (And.intro vJ aQ)),if_neg aF,aw,Bool.false_eq_true,if_false,ad,kl,Nat.zero_add]
 rw[if_pos ⟨by omega,rT,eL,nX⟩,if_pos hlen,if_pos (by omega)]
end Go.Eng
namespace Go.Eng
open Go Go.RowKit
def dstsOf:List aY->List Nat
 | []=>[]
 | e::es=>match e.dst with
   | some t=>t::dstsOf es
   | none=>dstsOf es
def cU.writes:cU->List Nat
 | .region _ ops _=>dstsOf ops
 | .seq a b=>a.writes++b.writes
 | .cond _ a b=>a.writes++b.writes
 | .block _ c=>c.writes
 | .loop c=>c.writes
 | _=>[]
section
variable {G:Nat->Option I} {Φ:FuncId->Option aP} {tab:FuncId->Option (List I->Option I)} {Y:List cy}
theorem SV {F:Nat->I} {d:Option Nat} {v:I} {t:Nat} (h:∀i,d=some i->t≠i):cI F d v t=F t:=by
 cases d with
 | none=>rfl
 | some i=>simp only[cI,ar];rw[if_neg (h i rfl)]
theorem I7 {eM:l5} {aZ r:Nat} {e:aY} {s:aK} {x:aK × dN} (h:c4 G tab eM aZ r e s=some x):∃v,x.1.F=cI s.F e.dst v:=by
 unfold c4 at h
 split at h
 · split at h
   · split at h
     · split at h
       · rw[Option.map_eq_some_iff] at h;obtain⟨v,_,rfl⟩:=h;exact ⟨v,rfl⟩
       · cases h
     · rw[Option.map_eq_some_iff] at h;obtain⟨⟨v,h'⟩,_,rfl⟩:=h;exact ⟨v,rfl⟩
   · rw[Option.map_eq_some_iff] at h;obtain⟨⟨v,h'⟩,_,rfl⟩:=h;exact ⟨v,rfl⟩
   · cases h
 · rw[Option.map_eq_some_iff] at h;obtain⟨⟨v,h',c⟩,_,rfl⟩:=h;exact ⟨v,rfl⟩
theorem SW {eM:l5} {aZ r:Nat} {e:aY} {s:aK} {x:aK × dN} (h:cJ G tab eM aZ r e s=some x):∃v,x.1.F=cI s.F e.dst v:=by
 unfold cJ at h
 split at h
 · exact I7 h
 · split at h
   · split at h
     · exact I7 h
     · cases h;exact ⟨_,rfl⟩
   · cases h;exact ⟨_,rfl⟩
   · cases h
theorem I8 {eM:l5} {aZ:Nat}:∀ {es:List aY} {k:Nat} {s:aK} {x:aK × List dN} {t:Nat},cV G tab eM aZ (es.zipIdx k) s=some x->t ∉ dstsOf es->x.1.F t=s.F t
 | [],_,s,x,t,h,_=>by cases h;rfl
 | e::es,k,s,x,t,h,aL=>by
   rw[List.zipIdx_cons,cV] at h
   split at h
   · rename_i an c aw
     rw[Option.map_eq_some_iff] at h
     obtain⟨⟨Bu,cs⟩,h2,rfl⟩:=h
     obtain⟨v,al⟩:=SW aw
     have aB:t ∉ dstsOf es/\∀i,e.dst=some i->t≠i:=by
      unfold dstsOf at aL
      split at aL
      · rename_i i ab
        simp only[List.mem_cons,not_or] at aL
        exact ⟨aL.2,fun j aA=>by rw[ab] at aA;cases aA;exact aL.1⟩
      · rename_i ab
        exact ⟨aL,fun j aA=>by rw[ab] at aA;cases aA⟩
     have aS:=I8 h2 aB.1
     rw[aS]
     show an.F t=s.F t
     have ck:an.F=cI s.F e.dst v:=al
     rw[ck,SV aB.2]
   · cases h
theorem n9:∀(n:Nat) (Y:List cy) (c:cU) (s:aK) (ex:da) (an:aK),exec G Φ tab n Y c s=some (ex,an)->∀t,t ∉ c.writes->an.F t=s.F t
 | 0,_,_,_,_,_,h=>by cases h
 | n+1,Y,c,s,ex,an,h=>by
   intro t aL
   rw[fW] at h
   cases c with
   | skip=>cases h;rfl
   | ret=>cases h;rfl
   | exit id=>cases h;rfl
   | region kg ops eK=>
     simp only[Option.map_eq_some_iff] at h
     obtain⟨s1,U,h2⟩:=h
     cases h2
     unfold eF at U
     split at U
     · rename_i x cs aB
       split at U
       · cases U;exact I8 aB aL
       · cases U
     · cases U
   | seq a b=>
     simp only[cU.writes,List.mem_append,not_or] at aL
     simp only at h
     split at h
     · rename_i s1 U
       rw[n9 n Y b _ _ _ h t aL.2,n9 n Y a _ _ _ U t aL.1]
     · exact n9 n Y a _ _ _ h t aL.1
   | cond x a b=>
     simp only[cU.writes,List.mem_append,not_or] at aL
     simp only at h
     split at h
     · split at h
       · exact n9 n Y a _ _ _ h t aL.1
       · exact n9 n Y b _ _ _ h t aL.2
     · cases h
   | block id b=>
     simp only at h
     split at h
     · rename_i i s1 U
       split at h<;>(cases h;exact n9 n Y b _ _ _ U t aL)
     · exact n9 n Y b _ _ _ h t aL
   | loop b=>
     simp only at h
     split at h
     · rename_i s1 U
       rw[n9 n Y (.loop b) _ _ _ h t aL,n9 n Y b _ _ _ U t aL]
     · exact n9 n Y b _ _ _ h t aL
   | k6 f ps dt body=>
     simp only at h
     repeat' split at h
     all_goals first|(cases h;rfl)|(cases h;done)
theorem a'.frame {c:cU} {s:aK} {Q:da->aK->Prop} (h:a' G Φ tab Y c s Q):a' G Φ tab Y c s fun ex an=>Q ex an/\∀t,t ∉ c.writes->an.F t=s.F t:=
 let ⟨n,ex,an,e,q⟩:=h;⟨n,ex,an,e,q,n9 n Y c s ex an e⟩
def cU.within (W:List Nat) (c:cU):Bool:=c.writes.all W.contains
theorem I9 {W:List Nat} {c:cU} (h:c.within W=true) {t:Nat} (aL:W.contains t=false):t ∉ c.writes:=fun hm=>by
 have:=List.all_eq_true.1 h t hm
 rw[aL] at this;cases this
theorem SX {id:Nat} {b:cU} {Q:da->aK->Prop} (W:List Nat) (lb:b.within W=true) (n:Nat) (ah:Nat->aK->Prop) (E R:aK->Prop) {s:aK} (h:ah 0 s)
 (round:∀i an,i<=n->(∀t,W.contains t=false->an.F t=s.F t)->ah i an->a' G Φ tab Y b an (uf id n i ah E R))
 (fin:∀an,(∀t,W.contains t=false->an.F t=s.F t)->E an->Q .normal an) (ret:∀an,(∀t,W.contains t=false->an.F t=s.F t)->R an->Q .ret an):a' G Φ tab Y (.block id (.loop b)) s Q:=by
 refine I4 n (fun i an=>(∀t,W.contains t=false->an.F t=s.F t)/\ah i an) (fun an=>(∀t,W.contains t=false->an.F t=s.F t)/\E an) (fun an=>(∀t,W.contains t=false->an.F t=s.F t)/\R an) ⟨fun _ _=>rfl,h⟩ ?_ (fun an h=>fin an h.1 h.2) (fun an h=>ret an h.1 h.2)
 rintro i an ab ⟨ag,pY⟩
 refine(round i an ab ag pY).frame.mono fun ex s2 ⟨aN,a_⟩=>?_
 have kp:∀t,W.contains t=false->s2.F t=s.F t:=fun t aL=>by rw[a_ t (I9 lb aL),ag t aL]
 cases ex with
 | normal=>exact ⟨aN.1,kp,aN.2⟩
 | exit j=>exact ⟨aN.1,kp,aN.2⟩
 | ret=>exact ⟨kp,aN⟩
theorem SY {id:Nat} {b:cU} {Q:da->aK->Prop} (W:List Nat) (lb:b.within W=true) (ah:Nat->aK->Prop) (E R:aK->Prop) (k:Nat) {s:aK} (h:ah k s)
 (round:∀k an,(∀t,W.contains t=false->an.F t=s.F t)->ah k an->a' G Φ tab Y b an (uc id k ah E R))
 (fin:∀an,(∀t,W.contains t=false->an.F t=s.F t)->E an->Q .normal an) (ret:∀an,(∀t,W.contains t=false->an.F t=s.F t)->R an->Q .ret an):a' G Φ tab Y (.block id (.loop b)) s Q:=by
 refine ln (fun i an=>(∀t,W.contains t=false->an.F t=s.F t)/\ah i an) (fun an=>(∀t,W.contains t=false->an.F t=s.F t)/\E an) (fun an=>(∀t,W.contains t=false->an.F t=s.F t)/\R an) k ⟨fun _ _=>rfl,h⟩ ?_ (fun an h=>fin an h.1 h.2) (fun an h=>ret an h.1 h.2)
 rintro i an ⟨ag,pY⟩
 refine(round i an ag pY).frame.mono fun ex s2 ⟨aN,a_⟩=>?_
 have kp:∀t,W.contains t=false->s2.F t=s.F t:=fun t aL=>by rw[a_ t (I9 lb aL),ag t aL]
 cases ex with
 | normal=>obtain⟨j,aA,aN⟩:=aN;exact ⟨j,aA,kp,aN⟩
 | exit j=>exact ⟨aN.1,kp,aN.2⟩
 | ret=>exact ⟨kp,aN⟩
theorem I_ (c:cU):c.within c.writes=true:=List.all_eq_true.2 fun t h=>List.contains_iff_mem.2 h
theorem fA {id:Nat} {b:cU} {Q:da->aK->Prop} (n:Nat) (ah:Nat->aK->Prop) (E R:aK->Prop) {s:aK} (h:ah 0 s)
 (round:∀i an,i<=n->(∀t,b.writes.contains t=false->an.F t=s.F t)->ah i an->a' G Φ tab Y b an (uf id n i ah E R))
 (fin:∀an,(∀t,b.writes.contains t=false->an.F t=s.F t)->E an->Q .normal an) (ret:∀an,(∀t,b.writes.contains t=false->an.F t=s.F t)->R an->Q .ret an):a' G Φ tab Y (.block id (.loop b)) s Q:=
 SX b.writes (I_ b) n ah E R h round fin ret
theorem mr {id:Nat} {b:cU} {Q:da->aK->Prop} (ah:Nat->aK->Prop) (E R:aK->Prop) (k:Nat) {s:aK} (h:ah k s)
 (round:∀k an,(∀t,b.writes.contains t=false->an.F t=s.F t)->ah k an->a' G Φ tab Y b an (uc id k ah E R))
 (fin:∀an,(∀t,b.writes.contains t=false->an.F t=s.F t)->E an->Q .normal an) (ret:∀an,(∀t,b.writes.contains t=false->an.F t=s.F t)->R an->Q .ret an):a' G Φ tab Y (.block id (.loop b)) s Q:=
 SY b.writes (I_ b) ah E R k h round fin ret
end
theorem I' {P:Program} {G:Nat->Option I} {f:FuncId} {A:Type} {pre:A->Prop} {enc:A->List I} {out:A->I} (inj:∀a b,enc a=enc b->out a=out b) (yP:A->Nat)
 (h:∀N,aG P G f (a7 (fun a=>pre a/\yP a<N) enc out)->aG P G f (a7 (fun a=>pre a/\yP a<N+1) enc out)):aG P G f (a7 pre enc out):=by
 have all:∀N,aG P G f (a7 (fun a=>pre a/\yP a<N) enc out):=by
  intro N
  induction N with
  | zero=>
    intro args v ct
    obtain⟨a,⟨_,h⟩,_⟩:=ud ct
    exact absurd h (Nat.not_lt_zero _)
  | succ N a8=>exact h N a8
 intro args v ct
 obtain⟨a,U,h2,rfl⟩:=ud ct
 exact all (yP a+1) args (out a) (bk inj a ⟨U,Nat.lt_succ_self _⟩ h2.symm)
end Go.Eng
