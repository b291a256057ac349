import Derived.Test.YtemiagcencajeaaGreatDoorCqE6
set_option linter.unusedSimpArgs false
set_option linter.unusedVariables false
set_option linter.unusedSectionVars false
namespace Go.Eng
open Go Go.RowKit
structure Kept (h h':af):Prop where
 next:h.next<=h'.next
 cells:∀j,j<h.next->h'.cells j=h.cells j
 shut:h'.shut=h.shut
 a7:h'.a7=h.a7
theorem Kept.mF (h:af):Kept h h:=⟨Nat.le_refl _,fun _ _=>rfl,rfl,rfl⟩
theorem Kept.trans {a b c:af} (x:Kept a b) (y:Kept b c):Kept a c:=⟨Nat.le_trans x.next y.next,fun j aO=>by rw[y.cells j (Nat.lt_of_lt_of_le aO x.next),x.cells j aO],by rw[y.shut,x.shut],by rw[y.a7,x.a7]⟩
theorem Kept.bump {a h:af} (k:Kept a h) (n:Nat) (az:h.next<=n):Kept a ⟨h.cells,h.shut,n,h.a7⟩:=⟨Nat.le_trans k.next az,k.cells,k.shut,k.a7⟩
theorem Kept.new {a h:af} (k:Kept a h) {r:Nat} (v:Option (List J)) (n:Nat) (aU:h.next<=r) (az:h.next<=n):Kept a ⟨aw h.cells r v,h.shut,n,h.a7⟩:=⟨Nat.le_trans k.next az,fun j aO=>by
 have:=k.next
 rw[<-k.cells j aO]
 simp only[aw]
 rw[if_neg (by omega)],k.shut,k.a7⟩
section
variable {G:Nat->Option J} {Φ:FuncId->Option aZ} {tab:FuncId->Option (List J->Option J)} {Y:List cR}
end
theorem cb.ch {sz:Nat} {h:af} {v:J} {xs:List J} (o:cb sz h v xs):v.ch=true:=by
 rcases o.2 with⟨_,rfl⟩|⟨_,q,rfl,_⟩<;>rfl
theorem cb.one {sz:Nat} {h:af} {v:J} {xs:List J} (o:cb sz h v xs):v.cells= [v]:=by
 rcases o.2 with⟨_,rfl⟩|⟨_,q,rfl,_⟩<;>rfl
theorem cb.Iv {sz:Nat} {h h':af} {v:J} {xs:List J} (o:cb sz h v xs) (aE:h'.shut=h.shut) (az:h'.next=h.next) (I:∀q a b c,v= .ref q a b c->h'.cells q=h.cells q):cb sz h' v xs:=by
 refine⟨fun j aO=>by rw[aE];exact o.1 j (by omega),?_⟩
 rcases o.2 with o|⟨U,q,h2,aN,a8,cr,eF⟩
 · exact .inl o
 · exact .inr ⟨U,q,h2,by rw[I q _ _ _ h2];exact aN,by rw[aE];exact a8,by omega,eF⟩
structure oL (sz:Nat) (h:af) (b cu:Nat) (xs:List J) (v:J):Prop where
 box:h.cells b=some [v]
 own:cb sz h v xs
 CA:∀q a b c,v= .ref q a b c->cu<q
 b9:h.shut b=false
theorem oL.bump {sz b cu:Nat} {h:af} {xs:List J} {v:J} (x:oL sz h b cu xs v) (n:Nat) (p:Nat->Option fr) (az:h.next<=n):oL sz ⟨h.cells,h.shut,n,p⟩ b cu xs v:=
 ⟨x.box,x.own.mono (fun _ _=>rfl) (fun _=>rfl) az,x.CA,x.b9⟩
theorem oL.app {sz b cu:Nat} {h:af} {xs:List J} {v:J} (x:oL sz h b cu xs v) {ys:List J} (ki:0<ys.length) (a2:(ys.all fun e=>e.cells.length == sz)=true) (m lj r:Nat) (p l1:Nat->Option fr) (aU:h.next<=r) (hm:r<lj) (qP:cu<r) (aa:b<=cu):
 oL sz ⟨aw (j1 r ⟨h.cells,h.shut,m,p⟩ v (xs++ys)).cells b (some [.ref r 0 (xs.length+ys.length) (xs.length+ys.length)]),h.shut,lj,l1⟩ b cu (xs++ys) (.ref r 0 (xs.length+ys.length) (xs.length+ys.length)):=by
 refine⟨by simp[aw],(x.own.app ki a2 m lj r p l1 aU hm).Iv rfl rfl fun q a c d e=>?_,fun q a c d e=>?_,x.b9⟩
 · obtain⟨rfl,_⟩:=J.ref.inj e
   simp only[aw];rw[if_neg (by omega)]
 · obtain⟨rfl,_⟩:=J.ref.inj e
   exact qP
theorem oL.read {sz b cu:Nat} {h:af} {xs:List J} {v:J} (x:oL sz h b cu xs v) (r m:Nat) (p:Nat->Option fr) (zs:List J) (aa:b<=cu) (aU:b≠r):(j1 r ⟨h.cells,h.shut,m,p⟩ v zs).cells b=some [v]:=by
 rw[cb.other x.own aU (fun a c d e=>by have:=x.CA _ _ _ _ e;omega)];exact x.box
theorem oL.else {sz b cu:Nat} {h:af} {xs:List J} {v:J} (x:oL sz h b cu xs v) (r m:Nat) (p:Nat->Option fr) (zs:List J) {j:Nat} (aO:j<=cu) (aU:j≠r):(j1 r ⟨h.cells,h.shut,m,p⟩ v zs).cells j=h.cells j:=cb.other x.own aU (fun a c d e=>by have:=x.CA _ _ _ _ e;omega)
theorem Iw {r sz bytes:Nat} {h:af} {id len cap:Nat} {blk ys:List J} (e:Bool) (aE:h.shut id=false) (aa:h.cells id=some blk) (aG:blk.length=cap) (hlen:len+ys.length<=cap) (ki:0<ys.length) (df:0<sz) (vH:0<bytes) (r2:(len+ys.length)*bytes<=35184372088832)
 (a2:(ys.all fun e=>e.cells.length == sz&&e.cells.all J.ch)=true) (nH:(blk.all fun e=>e.cells.length == sz)=true):
 jL r sz bytes h (.ref id 0 len cap) (.sl ys e)=some (.ref id 0 (len+ys.length) cap,h.new id (blk.take len++ys++blk.drop (len+ys.length)),.wr):=by
 have aQ:¬ys.length=0:=by omega
 unfold jL
 simp only[elems,Option.bind_some,if_pos (And.intro df (And.intro vH a2)),if_neg aQ,aE,Bool.false_eq_true,if_false,aa,kg,Nat.zero_add]
 rw[if_pos ⟨by omega,r2,ki,nH⟩,if_pos hlen,if_pos (by omega)]
end Go.Eng
namespace Go.Eng
open Go Go.RowKit
def dstsOf:List a_->List Nat
 | []=>[]
 | e::es=>match e.dst with
   | some t=>t::dstsOf es
   | none=>dstsOf es
def dk.writes:dk->List Nat
 | .region _ ops _=>dstsOf ops
 | .seq a b=>a.writes++b.writes
 | .cond _ a b=>a.writes++b.writes
 | .block _ c=>c.writes
 | .loop c=>c.writes
 | _=>[]
section
variable {G:Nat->Option J} {Φ:FuncId->Option aZ} {tab:FuncId->Option (List J->Option J)} {Y:List cR}
theorem RM {F:Nat->J} {d:Option Nat} {v:J} {t:Nat} (h:∀i,d=some i->t≠i):cD F d v t=F t:=by
 cases d with
 | none=>rfl
 | some i=>simp only[cD,aw];rw[if_neg (h i rfl)]
theorem Ix {cz:l5} {bb r:Nat} {e:a_} {s:aW} {x:aW × dV} (h:c4 G tab cz bb r e s=some x):∃v,x.1.F=cD s.F e.dst v:=by
 unfold c4 at h
 split at h
 · split at h
   · split at h
     · split at h
       · rw[Option.map_eq_some_iff] at h;obtain⟨v,_,rfl⟩:=h;exact ⟨v,rfl⟩
       · cases h
     · rw[Option.map_eq_some_iff] at h;obtain⟨⟨v,h'⟩,_,rfl⟩:=h;exact ⟨v,rfl⟩
   · rw[Option.map_eq_some_iff] at h;obtain⟨⟨v,h'⟩,_,rfl⟩:=h;exact ⟨v,rfl⟩
   · cases h
 · rw[Option.map_eq_some_iff] at h;obtain⟨⟨v,h',c⟩,_,rfl⟩:=h;exact ⟨v,rfl⟩
theorem RN {cz:l5} {bb r:Nat} {e:a_} {s:aW} {x:aW × dV} (h:cE G tab cz bb r e s=some x):∃v,x.1.F=cD s.F e.dst v:=by
 unfold cE at h
 split at h
 · exact Ix h
 · split at h
   · split at h
     · exact Ix h
     · cases h;exact ⟨_,rfl⟩
   · cases h;exact ⟨_,rfl⟩
   · cases h
theorem Iy {cz:l5} {bb:Nat}:∀ {es:List a_} {k:Nat} {s:aW} {x:aW × List dV} {t:Nat},c2 G tab cz bb (es.zipIdx k) s=some x->t ∉ dstsOf es->x.1.F t=s.F t
 | [],_,s,x,t,h,_=>by cases h;rfl
 | e::es,k,s,x,t,h,aY=>by
   rw[List.zipIdx_cons,c2] at h
   split at h
   · rename_i aj c aE
     rw[Option.map_eq_some_iff] at h
     obtain⟨⟨Bd,cs⟩,h2,rfl⟩:=h
     obtain⟨v,aF⟩:=RN aE
     have aN:t ∉ dstsOf es/\∀i,e.dst=some i->t≠i:=by
      unfold dstsOf at aY
      split at aY
      · rename_i i ab
        simp only[List.mem_cons,not_or] at aY
        exact ⟨aY.2,fun j aO=>by rw[ab] at aO;cases aO;exact aY.1⟩
      · rename_i ab
        exact ⟨aY,fun j aO=>by rw[ab] at aO;cases aO⟩
     have a8:=Iy h2 aN.1
     rw[a8]
     show aj.F t=s.F t
     have cr:aj.F=cD s.F e.dst v:=aF
     rw[cr,RM aN.2]
   · cases h
theorem nU:∀(n:Nat) (Y:List cR) (c:dk) (s:aW) (ex:de) (aj:aW),exec G Φ tab n Y c s=some (ex,aj)->∀t,t ∉ c.writes->aj.F t=s.F t
 | 0,_,_,_,_,_,h=>by cases h
 | n+1,Y,c,s,ex,aj,h=>by
   intro t aY
   rw[iv] at h
   cases c with
   | skip=>cases h;rfl
   | ret=>cases h;rfl
   | exit id=>cases h;rfl
   | region kl ops eX=>
     simp only[Option.map_eq_some_iff] at h
     obtain⟨s1,U,h2⟩:=h
     cases h2
     unfold ez at U
     split at U
     · rename_i x cs aN
       split at U
       · cases U;exact Iy aN aY
       · cases U
     · cases U
   | seq a b=>
     simp only[dk.writes,List.mem_append,not_or] at aY
     simp only at h
     split at h
     · rename_i s1 U
       rw[nU n Y b _ _ _ h t aY.2,nU n Y a _ _ _ U t aY.1]
     · exact nU n Y a _ _ _ h t aY.1
   | cond x a b=>
     simp only[dk.writes,List.mem_append,not_or] at aY
     simp only at h
     split at h
     · split at h
       · exact nU n Y a _ _ _ h t aY.1
       · exact nU n Y b _ _ _ h t aY.2
     · cases h
   | block id b=>
     simp only at h
     split at h
     · rename_i i s1 U
       split at h<;>(cases h;exact nU n Y b _ _ _ U t aY)
     · exact nU n Y b _ _ _ h t aY
   | loop b=>
     simp only at h
     split at h
     · rename_i s1 U
       rw[nU n Y (.loop b) _ _ _ h t aY,nU n Y b _ _ _ U t aY]
     · exact nU n Y b _ _ _ h t aY
   | k5 f ps dK body=>
     simp only at h
     repeat' split at h
     all_goals first|(cases h;rfl)|(cases h;done)
theorem br.frame {c:dk} {s:aW} {Q:de->aW->Prop} (h:br G Φ tab Y c s Q):br G Φ tab Y c s fun ex aj=>Q ex aj/\∀t,t ∉ c.writes->aj.F t=s.F t:=
 let ⟨n,ex,aj,e,q⟩:=h;⟨n,ex,aj,e,q,nU n Y c s ex aj e⟩
def dk.within (W:List Nat) (c:dk):Bool:=c.writes.all W.contains
theorem Iz {W:List Nat} {c:dk} (h:c.within W=true) {t:Nat} (aY:W.contains t=false):t ∉ c.writes:=fun hm=>by
 have:=List.all_eq_true.1 h t hm
 rw[aY] at this;cases this
theorem RO {id:Nat} {b:dk} {Q:de->aW->Prop} (W:List Nat) (lL:b.within W=true) (n:Nat) (av:Nat->aW->Prop) (E R:aW->Prop) {s:aW} (h:av 0 s)
 (round:∀i aj,i<=n->(∀t,W.contains t=false->aj.F t=s.F t)->av i aj->br G Φ tab Y b aj (ud id n i av E R))
 (fin:∀aj,(∀t,W.contains t=false->aj.F t=s.F t)->E aj->Q .normal aj) (ret:∀aj,(∀t,W.contains t=false->aj.F t=s.F t)->R aj->Q .ret aj):br G Φ tab Y (.block id (.loop b)) s Q:=by
 refine Iu n (fun i aj=>(∀t,W.contains t=false->aj.F t=s.F t)/\av i aj) (fun aj=>(∀t,W.contains t=false->aj.F t=s.F t)/\E aj) (fun aj=>(∀t,W.contains t=false->aj.F t=s.F t)/\R aj) ⟨fun _ _=>rfl,h⟩ ?_ (fun aj h=>fin aj h.1 h.2) (fun aj h=>ret aj h.1 h.2)
 rintro i aj ab ⟨ag,pI⟩
 refine(round i aj ab ag pI).frame.mono fun ex s2 ⟨aT,bw⟩=>?_
 have jG:∀t,W.contains t=false->s2.F t=s.F t:=fun t aY=>by rw[bw t (Iz lL aY),ag t aY]
 cases ex with
 | normal=>exact ⟨aT.1,jG,aT.2⟩
 | exit j=>exact ⟨aT.1,jG,aT.2⟩
 | ret=>exact ⟨jG,aT⟩
theorem RP {id:Nat} {b:dk} {Q:de->aW->Prop} (W:List Nat) (lL:b.within W=true) (av:Nat->aW->Prop) (E R:aW->Prop) (k:Nat) {s:aW} (h:av k s)
 (round:∀k aj,(∀t,W.contains t=false->aj.F t=s.F t)->av k aj->br G Φ tab Y b aj (ub id k av E R))
 (fin:∀aj,(∀t,W.contains t=false->aj.F t=s.F t)->E aj->Q .normal aj) (ret:∀aj,(∀t,W.contains t=false->aj.F t=s.F t)->R aj->Q .ret aj):br G Φ tab Y (.block id (.loop b)) s Q:=by
 refine lv (fun i aj=>(∀t,W.contains t=false->aj.F t=s.F t)/\av i aj) (fun aj=>(∀t,W.contains t=false->aj.F t=s.F t)/\E aj) (fun aj=>(∀t,W.contains t=false->aj.F t=s.F t)/\R aj) k ⟨fun _ _=>rfl,h⟩ ?_ (fun aj h=>fin aj h.1 h.2) (fun aj h=>ret aj h.1 h.2)
 rintro i aj ⟨ag,pI⟩
 refine(round i aj ag pI).frame.mono fun ex s2 ⟨aT,bw⟩=>?_
 have jG:∀t,W.contains t=false->s2.F t=s.F t:=fun t aY=>by rw[bw t (Iz lL aY),ag t aY]
 cases ex with
 | normal=>obtain⟨j,aO,aT⟩:=aT;exact ⟨j,aO,jG,aT⟩
 | exit j=>exact ⟨aT.1,jG,aT.2⟩
 | ret=>exact ⟨jG,aT⟩
theorem IA (c:dk):c.within c.writes=true:=List.all_eq_true.2 fun t h=>List.contains_iff_mem.2 h
theorem ix {id:Nat} {b:dk} {Q:de->aW->Prop} (n:Nat) (av:Nat->aW->Prop) (E R:aW->Prop) {s:aW} (h:av 0 s)
 (round:∀i aj,i<=n->(∀t,b.writes.contains t=false->aj.F t=s.F t)->av i aj->br G Φ tab Y b aj (ud id n i av E R))
 (fin:∀aj,(∀t,b.writes.contains t=false->aj.F t=s.F t)->E aj->Q .normal aj) (ret:∀aj,(∀t,b.writes.contains t=false->aj.F t=s.F t)->R aj->Q .ret aj):br G Φ tab Y (.block id (.loop b)) s Q:=
 RO b.writes (IA b) n av E R h round fin ret
theorem mZ {id:Nat} {b:dk} {Q:de->aW->Prop} (av:Nat->aW->Prop) (E R:aW->Prop) (k:Nat) {s:aW} (h:av k s)
 (round:∀k aj,(∀t,b.writes.contains t=false->aj.F t=s.F t)->av k aj->br G Φ tab Y b aj (ub id k av E R))
 (fin:∀aj,(∀t,b.writes.contains t=false->aj.F t=s.F t)->E aj->Q .normal aj) (ret:∀aj,(∀t,b.writes.contains t=false->aj.F t=s.F t)->R aj->Q .ret aj):br G Φ tab Y (.block id (.loop b)) s Q:=
 RP b.writes (IA b) av E R k h round fin ret
end
theorem IB {P:Program} {G:Nat->Option J} {f:FuncId} {A:Type} {pre:A->Prop} {enc:A->List J} {out:A->J} (inj:∀a b,enc a=enc b->out a=out b) (yx:A->Nat)
 (h:∀N,a3 P G f (bu (fun a=>pre a/\yx a<N) enc out)->a3 P G f (bu (fun a=>pre a/\yx a<N+1) enc out)):a3 P G f (bu pre enc out):=by
 have all:∀N,a3 P G f (bu (fun a=>pre a/\yx a<N) enc out):=by
  intro N
  induction N with
  | zero=>
    intro args v c6
    obtain⟨a,⟨_,h⟩,_⟩:=wi c6
    exact absurd h (Nat.not_lt_zero _)
  | succ N bj=>exact h N bj
 intro args v c6
 obtain⟨a,U,h2,rfl⟩:=wi c6
 exact all (yx a+1) args (out a) (bM inj a ⟨U,Nat.lt_succ_self _⟩ h2.symm)
end Go.Eng
