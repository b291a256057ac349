import Derived.Test.YtemiagcencajeaaGreatDoorXeE6
set_option linter.unusedSimpArgs false
set_option linter.unusedVariables false
set_option linter.unusedSectionVars false
namespace Go.Eng
open Go Go.RowKit
structure Kept (h h':af):Prop where
 next:h.next<=h'.next
 cells:∀j,j<h.next->h'.cells j=h.cells j
 shut:h'.shut=h.shut
 aS:h'.aS=h.aS
theorem Kept.mE (h:af):Kept h h:=⟨Nat.le_refl _,fun _ _=>rfl,rfl,rfl⟩
theorem Kept.trans {a b c:af} (x:Kept a b) (y:Kept b c):Kept a c:=⟨Nat.le_trans x.next y.next,fun j aA=>by rw[y.cells j (Nat.lt_of_lt_of_le aA x.next),x.cells j aA],by rw[y.shut,x.shut],by rw[y.aS,x.aS]⟩
theorem Kept.bump {a h:af} (k:Kept a h) (n:Nat) (aq:h.next<=n):Kept a ⟨h.cells,h.shut,n,h.aS⟩:=⟨Nat.le_trans k.next aq,k.cells,k.shut,k.aS⟩
theorem Kept.new {a h:af} (k:Kept a h) {r:Nat} (v:Option (List I)) (n:Nat) (aH:h.next<=r) (aq:h.next<=n):Kept a ⟨an h.cells r v,h.shut,n,h.aS⟩:=⟨Nat.le_trans k.next aq,fun j aA=>by
 have:=k.next
 rw[<-k.cells j aA]
 simp only[an]
 rw[if_neg (by omega)],k.shut,k.aS⟩
section
variable {G:Nat->Option I} {Φ:FuncId->Option aM} {tab:FuncId->Option (List I->Option I)} {Y:List cF}
end
theorem bS.bW {sz:Nat} {h:af} {v:I} {xs:List I} (o:bS sz h v xs):v.bW=true:=by
 rcases o.2 with⟨_,rfl⟩|⟨_,q,rfl,_⟩<;>rfl
theorem bS.one {sz:Nat} {h:af} {v:I} {xs:List I} (o:bS sz h v xs):v.cells= [v]:=by
 rcases o.2 with⟨_,rfl⟩|⟨_,q,rfl,_⟩<;>rfl
theorem bS.HZ {sz:Nat} {h h':af} {v:I} {xs:List I} (o:bS sz h v xs) (au:h'.shut=h.shut) (aq:h'.next=h.next) (J:∀q a b c,v= .ref q a b c->h'.cells q=h.cells q):bS sz h' v xs:=by
 refine⟨fun j aA=>by rw[au];exact o.1 j (by omega),?_⟩
 rcases o.2 with o|⟨U,q,h2,az,aT,b9,ei⟩
 · exact .inl o
 · exact .inr ⟨U,q,h2,by rw[J q _ _ _ h2];exact az,by rw[au];exact aT,by omega,ei⟩
structure ox (sz:Nat) (h:af) (b b':Nat) (xs:List I) (v:I):Prop where
 box:h.cells b=some [v]
 own:bS sz h v xs
 Cg:∀q a b c,v= .ref q a b c->b'<q
 bR:h.shut b=false
theorem ox.bump {sz b b':Nat} {h:af} {xs:List I} {v:I} (x:ox sz h b b' xs v) (n:Nat) (p:Nat->Option ff) (aq:h.next<=n):ox sz ⟨h.cells,h.shut,n,p⟩ b b' xs v:=
 ⟨x.box,x.own.mono (fun _ _=>rfl) (fun _=>rfl) aq,x.Cg,x.bR⟩
theorem ox.app {sz b b':Nat} {h:af} {xs:List I} {v:I} (x:ox sz h b b' xs v) {ys:List I} (j3:0<ys.length) (aO:(ys.all fun e=>e.cells.length == sz)=true) (m k3 r:Nat) (p lO:Nat->Option ff) (aH:h.next<=r) (hm:r<k3) (qt:b'<r) (aa:b<=b'):
 ox sz ⟨an (jJ r ⟨h.cells,h.shut,m,p⟩ v (xs++ys)).cells b (some [.ref r 0 (xs.length+ys.length) (xs.length+ys.length)]),h.shut,k3,lO⟩ b b' (xs++ys) (.ref r 0 (xs.length+ys.length) (xs.length+ys.length)):=by
 refine⟨by simp[an],(x.own.app j3 aO m k3 r p lO aH hm).HZ rfl rfl fun q a c d e=>?_,fun q a c d e=>?_,x.bR⟩
 · obtain⟨rfl,_⟩:=I.ref.inj e
   simp only[an];rw[if_neg (by omega)]
 · obtain⟨rfl,_⟩:=I.ref.inj e
   exact qt
theorem ox.read {sz b b':Nat} {h:af} {xs:List I} {v:I} (x:ox sz h b b' xs v) (r m:Nat) (p:Nat->Option ff) (zs:List I) (aa:b<=b') (aH:b≠r):(jJ r ⟨h.cells,h.shut,m,p⟩ v zs).cells b=some [v]:=by
 rw[bS.other x.own aH (fun a c d e=>by have:=x.Cg _ _ _ _ e;omega)];exact x.box
theorem ox.else {sz b b':Nat} {h:af} {xs:List I} {v:I} (x:ox sz h b b' xs v) (r m:Nat) (p:Nat->Option ff) (zs:List I) {j:Nat} (aA:j<=b') (aH:j≠r):(jJ r ⟨h.cells,h.shut,m,p⟩ v zs).cells j=h.cells j:=bS.other x.own aH (fun a c d e=>by have:=x.Cg _ _ _ _ e;omega)
theorem H0 {r sz bytes:Nat} {h:af} {id len cap:Nat} {blk ys:List I} (e:Bool) (au:h.shut id=false) (aa:h.cells id=some blk) (aw:blk.length=cap) (hlen:len+ys.length<=cap) (j3:0<ys.length) (c7:0<sz) (vk:0<bytes) (rB:(len+ys.length)*bytes<=35184372088832)
 (aO:(ys.all fun e=>e.cells.length == sz&&e.cells.all I.bW)=true) (nq:(blk.all fun e=>e.cells.length == sz)=true):
 jt r sz bytes h (.ref id 0 len cap) (.sl ys e)=some (.ref id 0 (len+ys.length) cap,h.new id (blk.take len++ys++blk.drop (len+ys.length)),.wr):=by
 have aD:¬ys.length=0:=by omega
 unfold jt
 simp only[elems,Option.bind_some,if_pos (And.intro c7 (And.intro vk aO)),if_neg aD,au,Bool.false_eq_true,if_false,aa,j1,Nat.zero_add]
 rw[if_pos ⟨by omega,rB,j3,nq⟩,if_pos hlen,if_pos (by omega)]
end Go.Eng
namespace Go.Eng
open Go Go.RowKit
def dstsOf:List aU->List Nat
 | []=>[]
 | e::es=>match e.dst with
   | some t=>t::dstsOf es
   | none=>dstsOf es
def cU.writes:cU->List Nat
 | .region _ ops _=>dstsOf ops
 | .seq a b=>a.writes++b.writes
 | .cond _ a b=>a.writes++b.writes
 | .block _ c=>c.writes
 | .loop c=>c.writes
 | _=>[]
section
variable {G:Nat->Option I} {Φ:FuncId->Option aM} {tab:FuncId->Option (List I->Option I)} {Y:List cF}
theorem Rl {F:Nat->I} {d:Option Nat} {v:I} {t:Nat} (h:∀i,d=some i->t≠i):cg F d v t=F t:=by
 cases d with
 | none=>rfl
 | some i=>simp only[cg,an];rw[if_neg (h i rfl)]
theorem H2 {cd:lR} {aX r:Nat} {e:aU} {s:aI} {x:aI × dy} (h:cM G tab cd aX r e s=some x):∃v,x.1.F=cg s.F e.dst v:=by
 unfold cM at h
 split at h
 · split at h
   · split at h
     · split at h
       · rw[Option.map_eq_some_iff] at h;obtain⟨v,_,rfl⟩:=h;exact ⟨v,rfl⟩
       · cases h
     · rw[Option.map_eq_some_iff] at h;obtain⟨⟨v,h'⟩,_,rfl⟩:=h;exact ⟨v,rfl⟩
   · rw[Option.map_eq_some_iff] at h;obtain⟨⟨v,h'⟩,_,rfl⟩:=h;exact ⟨v,rfl⟩
   · cases h
 · rw[Option.map_eq_some_iff] at h;obtain⟨⟨v,h',c⟩,_,rfl⟩:=h;exact ⟨v,rfl⟩
theorem Rm {cd:lR} {aX r:Nat} {e:aU} {s:aI} {x:aI × dy} (h:ch G tab cd aX r e s=some x):∃v,x.1.F=cg s.F e.dst v:=by
 unfold ch at h
 split at h
 · exact H2 h
 · split at h
   · split at h
     · exact H2 h
     · cases h;exact ⟨_,rfl⟩
   · cases h;exact ⟨_,rfl⟩
   · cases h
theorem H3 {cd:lR} {aX:Nat}:∀ {es:List aU} {k:Nat} {s:aI} {x:aI × List dy} {t:Nat},cE G tab cd aX (es.zipIdx k) s=some x->t ∉ dstsOf es->x.1.F t=s.F t
 | [],_,s,x,t,h,_=>by cases h;rfl
 | e::es,k,s,x,t,h,aJ=>by
   rw[List.zipIdx_cons,cE] at h
   split at h
   · rename_i aj c au
     rw[Option.map_eq_some_iff] at h
     obtain⟨⟨AV,cs⟩,h2,rfl⟩:=h
     obtain⟨v,av⟩:=Rm au
     have az:t ∉ dstsOf es/\∀i,e.dst=some i->t≠i:=by
      unfold dstsOf at aJ
      split at aJ
      · rename_i i ab
        simp only[List.mem_cons,not_or] at aJ
        exact ⟨aJ.2,fun j aA=>by rw[ab] at aA;cases aA;exact aJ.1⟩
      · rename_i ab
        exact ⟨aJ,fun j aA=>by rw[ab] at aA;cases aA⟩
     have aT:=H3 h2 az.1
     rw[aT]
     show aj.F t=s.F t
     have b9:aj.F=cg s.F e.dst v:=av
     rw[b9,Rl az.2]
   · cases h
theorem nC:∀(n:Nat) (Y:List cF) (c:cU) (s:aI) (ex:c0) (aj:aI),exec G Φ tab n Y c s=some (ex,aj)->∀t,t ∉ c.writes->aj.F t=s.F t
 | 0,_,_,_,_,_,h=>by cases h
 | n+1,Y,c,s,ex,aj,h=>by
   intro t aJ
   rw[ic] at h
   cases c with
   | skip=>cases h;rfl
   | ret=>cases h;rfl
   | exit id=>cases h;rfl
   | region j6 ops eL=>
     simp only[Option.map_eq_some_iff] at h
     obtain⟨s1,U,h2⟩:=h
     cases h2
     unfold dN at U
     split at U
     · rename_i x cs az
       split at U
       · cases U;exact H3 az aJ
       · cases U
     · cases U
   | seq a b=>
     simp only[cU.writes,List.mem_append,not_or] at aJ
     simp only at h
     split at h
     · rename_i s1 U
       rw[nC n Y b _ _ _ h t aJ.2,nC n Y a _ _ _ U t aJ.1]
     · exact nC n Y a _ _ _ h t aJ.1
   | cond x a b=>
     simp only[cU.writes,List.mem_append,not_or] at aJ
     simp only at h
     split at h
     · split at h
       · exact nC n Y a _ _ _ h t aJ.1
       · exact nC n Y b _ _ _ h t aJ.2
     · cases h
   | block id b=>
     simp only at h
     split at h
     · rename_i i s1 U
       split at h<;>(cases h;exact nC n Y b _ _ _ U t aJ)
     · exact nC n Y b _ _ _ h t aJ
   | loop b=>
     simp only at h
     split at h
     · rename_i s1 U
       rw[nC n Y (.loop b) _ _ _ h t aJ,nC n Y b _ _ _ U t aJ]
     · exact nC n Y b _ _ _ h t aJ
   | kM f ps dm body=>
     simp only at h
     repeat' split at h
     all_goals first|(cases h;rfl)|(cases h;done)
theorem a7.frame {c:cU} {s:aI} {Q:c0->aI->Prop} (h:a7 G Φ tab Y c s Q):a7 G Φ tab Y c s fun ex aj=>Q ex aj/\∀t,t ∉ c.writes->aj.F t=s.F t:=
 let ⟨n,ex,aj,e,q⟩:=h;⟨n,ex,aj,e,q,nC n Y c s ex aj e⟩
def cU.within (W:List Nat) (c:cU):Bool:=c.writes.all W.contains
theorem H4 {W:List Nat} {c:cU} (h:c.within W=true) {t:Nat} (aJ:W.contains t=false):t ∉ c.writes:=fun hm=>by
 have:=List.all_eq_true.1 h t hm
 rw[aJ] at this;cases this
theorem Rn {id:Nat} {b:cU} {Q:c0->aI->Prop} (W:List Nat) (ly:b.within W=true) (n:Nat) (ak:Nat->aI->Prop) (E R:aI->Prop) {s:aI} (h:ak 0 s)
 (round:∀i aj,i<=n->(∀t,W.contains t=false->aj.F t=s.F t)->ak i aj->a7 G Φ tab Y b aj (tO id n i ak E R))
 (fin:∀aj,(∀t,W.contains t=false->aj.F t=s.F t)->E aj->Q .normal aj) (ret:∀aj,(∀t,W.contains t=false->aj.F t=s.F t)->R aj->Q .ret aj):a7 G Φ tab Y (.block id (.loop b)) s Q:=by
 refine HY n (fun i aj=>(∀t,W.contains t=false->aj.F t=s.F t)/\ak i aj) (fun aj=>(∀t,W.contains t=false->aj.F t=s.F t)/\E aj) (fun aj=>(∀t,W.contains t=false->aj.F t=s.F t)/\R aj) ⟨fun _ _=>rfl,h⟩ ?_ (fun aj h=>fin aj h.1 h.2) (fun aj h=>ret aj h.1 h.2)
 rintro i aj ab ⟨ag,pq⟩
 refine(round i aj ab ag pq).frame.mono fun ex s2 ⟨aG,bg⟩=>?_
 have jn:∀t,W.contains t=false->s2.F t=s.F t:=fun t aJ=>by rw[bg t (H4 ly aJ),ag t aJ]
 cases ex with
 | normal=>exact ⟨aG.1,jn,aG.2⟩
 | exit j=>exact ⟨aG.1,jn,aG.2⟩
 | ret=>exact ⟨jn,aG⟩
theorem Ro {id:Nat} {b:cU} {Q:c0->aI->Prop} (W:List Nat) (ly:b.within W=true) (ak:Nat->aI->Prop) (E R:aI->Prop) (k:Nat) {s:aI} (h:ak k s)
 (round:∀k aj,(∀t,W.contains t=false->aj.F t=s.F t)->ak k aj->a7 G Φ tab Y b aj (tM id k ak E R))
 (fin:∀aj,(∀t,W.contains t=false->aj.F t=s.F t)->E aj->Q .normal aj) (ret:∀aj,(∀t,W.contains t=false->aj.F t=s.F t)->R aj->Q .ret aj):a7 G Φ tab Y (.block id (.loop b)) s Q:=by
 refine ld (fun i aj=>(∀t,W.contains t=false->aj.F t=s.F t)/\ak i aj) (fun aj=>(∀t,W.contains t=false->aj.F t=s.F t)/\E aj) (fun aj=>(∀t,W.contains t=false->aj.F t=s.F t)/\R aj) k ⟨fun _ _=>rfl,h⟩ ?_ (fun aj h=>fin aj h.1 h.2) (fun aj h=>ret aj h.1 h.2)
 rintro i aj ⟨ag,pq⟩
 refine(round i aj ag pq).frame.mono fun ex s2 ⟨aG,bg⟩=>?_
 have jn:∀t,W.contains t=false->s2.F t=s.F t:=fun t aJ=>by rw[bg t (H4 ly aJ),ag t aJ]
 cases ex with
 | normal=>obtain⟨j,aA,aG⟩:=aG;exact ⟨j,aA,jn,aG⟩
 | exit j=>exact ⟨aG.1,jn,aG.2⟩
 | ret=>exact ⟨jn,aG⟩
theorem H5 (c:cU):c.within c.writes=true:=List.all_eq_true.2 fun t h=>List.contains_iff_mem.2 h
theorem iz {id:Nat} {b:cU} {Q:c0->aI->Prop} (n:Nat) (ak:Nat->aI->Prop) (E R:aI->Prop) {s:aI} (h:ak 0 s)
 (round:∀i aj,i<=n->(∀t,b.writes.contains t=false->aj.F t=s.F t)->ak i aj->a7 G Φ tab Y b aj (tO id n i ak E R))
 (fin:∀aj,(∀t,b.writes.contains t=false->aj.F t=s.F t)->E aj->Q .normal aj) (ret:∀aj,(∀t,b.writes.contains t=false->aj.F t=s.F t)->R aj->Q .ret aj):a7 G Φ tab Y (.block id (.loop b)) s Q:=
 Rn b.writes (H5 b) n ak E R h round fin ret
theorem mF {id:Nat} {b:cU} {Q:c0->aI->Prop} (ak:Nat->aI->Prop) (E R:aI->Prop) (k:Nat) {s:aI} (h:ak k s)
 (round:∀k aj,(∀t,b.writes.contains t=false->aj.F t=s.F t)->ak k aj->a7 G Φ tab Y b aj (tM id k ak E R))
 (fin:∀aj,(∀t,b.writes.contains t=false->aj.F t=s.F t)->E aj->Q .normal aj) (ret:∀aj,(∀t,b.writes.contains t=false->aj.F t=s.F t)->R aj->Q .ret aj):a7 G Φ tab Y (.block id (.loop b)) s Q:=
 Ro b.writes (H5 b) ak E R k h round fin ret
end
theorem H6 {P:Program} {G:Nat->Option I} {f:FuncId} {A:Type} {pre:A->Prop} {enc:A->List I} {out:A->I} (inj:∀a b,enc a=enc b->out a=out b) (yf:A->Nat)
 (h:∀N,aP P G f (bl (fun a=>pre a/\yf a<N) enc out)->aP P G f (bl (fun a=>pre a/\yf a<N+1) enc out)):aP P G f (bl pre enc out):=by
 have all:∀N,aP P G f (bl (fun a=>pre a/\yf a<N) enc out):=by
  intro N
  induction N with
  | zero=>
    intro args v cR
    obtain⟨a,⟨_,h⟩,_⟩:=vR cR
    exact absurd h (Nat.not_lt_zero _)
  | succ N a6=>exact h N a6
 intro args v cR
 obtain⟨a,U,h2,rfl⟩:=vR cR
 exact all (yf a+1) args (out a) (bC inj a ⟨U,Nat.lt_succ_self _⟩ h2.symm)
end Go.Eng
