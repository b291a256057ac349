import Derived.Test.YtemiagcencajeaaGreatDoorCtE6
set_option linter.unusedSimpArgs false
set_option linter.unusedVariables false
set_option linter.unusedSectionVars false
namespace Go.Eng
open Go Go.RowKit
structure Kept (h av:aA):Prop where
 next:h.next<=av.next
 cells:∀j,j<h.next->av.cells j=h.cells j
 shut:av.shut=h.shut
 bm:av.bm=h.bm
theorem Kept.sC (h:aA):Kept h h:=⟨Nat.le_refl _,fun _ _=>rfl,rfl,rfl⟩
theorem Kept.trans {a b c:aA} (x:Kept a b) (y:Kept b c):Kept a c:=⟨Nat.le_trans x.next y.next,fun j aZ=>by rw[y.cells j (Nat.lt_of_lt_of_le aZ x.next),x.cells j aZ],by rw[y.shut,x.shut],by rw[y.bm,x.bm]⟩
theorem Kept.bump {a h:aA} (k:Kept a h) (n:Nat) (ar:h.next<=n):Kept a ⟨h.cells,h.shut,n,h.bm⟩:=⟨Nat.le_trans k.next ar,k.cells,k.shut,k.bm⟩
theorem Kept.new {a h:aA} (k:Kept a h) {r:Nat} (v:Option (List J)) (n:Nat) (ba:h.next<=r) (ar:h.next<=n):Kept a ⟨aF h.cells r v,h.shut,n,h.bm⟩:=⟨Nat.le_trans k.next ar,fun j aZ=>by
 have:=k.next
 rw[<-k.cells j aZ]
 simp only[aF]
 rw[if_neg (by omega)],k.shut,k.bm⟩
section
variable {G:Nat->Option J} {Φ:FuncId->Option bn} {tab:FuncId->Option (List J->Option J)} {Y:List c4}
end
theorem dh.c0 {sz:Nat} {h:aA} {v:J} {xs:List J} (o:dh sz h v xs):v.c0=true:=by
 rcases o.2 with⟨_,rfl⟩|⟨_,q,rfl,_⟩<;>rfl
theorem dh.one {sz:Nat} {h:aA} {v:J} {xs:List J} (o:dh sz h v xs):v.cells= [v]:=by
 rcases o.2 with⟨_,rfl⟩|⟨_,q,rfl,_⟩<;>rfl
theorem dh.Mk {sz:Nat} {h av:aA} {v:J} {xs:List J} (o:dh sz h v xs) (aG:av.shut=h.shut) (ar:av.next=h.next) (I:∀q a b c,v= .ref q a b c->av.cells q=h.cells q):dh sz av v xs:=by
 refine⟨fun j aZ=>by rw[aG];exact o.1 j (by omega),?_⟩
 rcases o.2 with o|⟨ab,q,h2,aX,aW,cL,fo⟩
 · exact .inl o
 · exact .inr ⟨ab,q,h2,by rw[I q _ _ _ h2];exact aX,by rw[aG];exact aW,by omega,fo⟩
structure og (sz:Nat) (h:aA) (b cH:Nat) (xs:List J) (v:J):Prop where
 box:h.cells b=some [v]
 own:dh sz h v xs
 zA:∀q a b c,v= .ref q a b c->cH<q
 c1:h.shut b=false
theorem og.bump {sz b cH:Nat} {h:aA} {xs:List J} {v:J} (x:og sz h b cH xs v) (n:Nat) (p:Nat->Option fw) (ar:h.next<=n):og sz ⟨h.cells,h.shut,n,p⟩ b cH xs v:=
 ⟨x.box,x.own.mono (fun _ _=>rfl) (fun _=>rfl) ar,x.zA,x.c1⟩
theorem og.app {sz b cH:Nat} {h:aA} {xs:List J} {v:J} (x:og sz h b cH xs v) {ys:List J} (n3:0<ys.length) (bd:(ys.all fun e=>e.cells.length == sz)=true) (m mc r:Nat) (p m7:Nat->Option fw) (ba:h.next<=r) (hm:r<mc) (pN:cH<r) (aj:b<=cH):
 og sz ⟨aF (kD r ⟨h.cells,h.shut,m,p⟩ v (xs++ys)).cells b (some [.ref r 0 (xs.length+ys.length) (xs.length+ys.length)]),h.shut,mc,m7⟩ b cH (xs++ys) (.ref r 0 (xs.length+ys.length) (xs.length+ys.length)):=by
 refine⟨by simp[aF],(x.own.app n3 bd m mc r p m7 ba hm).Mk rfl rfl fun q a c d e=>?_,fun q a c d e=>?_,x.c1⟩
 · obtain⟨rfl,_⟩:=J.ref.inj e
   simp only[aF];rw[if_neg (by omega)]
 · obtain⟨rfl,_⟩:=J.ref.inj e
   exact pN
theorem og.read {sz b cH:Nat} {h:aA} {xs:List J} {v:J} (x:og sz h b cH xs v) (r m:Nat) (p:Nat->Option fw) (ec:List J) (aj:b<=cH) (ba:b≠r):(kD r ⟨h.cells,h.shut,m,p⟩ v ec).cells b=some [v]:=by
 rw[dh.other x.own ba (fun a c d e=>by have:=x.zA _ _ _ _ e;omega)];exact x.box
theorem og.else {sz b cH:Nat} {h:aA} {xs:List J} {v:J} (x:og sz h b cH xs v) (r m:Nat) (p:Nat->Option fw) (ec:List J) {j:Nat} (aZ:j<=cH) (ba:j≠r):(kD r ⟨h.cells,h.shut,m,p⟩ v ec).cells j=h.cells j:=dh.other x.own ba (fun a c d e=>by have:=x.zA _ _ _ _ e;omega)
theorem Ei {r sz bytes:Nat} {h:aA} {id len cap:Nat} {blk ys:List J} (e:Bool) (aG:h.shut id=false) (aj:h.cells id=some blk) (aV:blk.length=cap) (hlen:len+ys.length<=cap) (n3:0<ys.length) (cy:0<sz) (uq:0<bytes) (qx:(len+ys.length)*bytes<=35184372088832)
 (bd:(ys.all fun e=>e.cells.length == sz&&e.cells.all J.c0)=true) (nx:(blk.all fun e=>e.cells.length == sz)=true):
 ki r sz bytes h (.ref id 0 len cap) (.sl ys e)=some (.ref id 0 (len+ys.length) cap,h.new id (blk.take len++ys++blk.drop (len+ys.length)),.wr):=by
 have aJ:¬ys.length=0:=by omega
 unfold ki
 simp only[elems,Option.bind_some,if_pos (And.intro cy (And.intro uq bd)),if_neg aJ,aG,Bool.false_eq_true,if_false,aj,kd,Nat.zero_add]
 rw[if_pos ⟨by omega,qx,n3,nx⟩,if_pos hlen,if_pos (by omega)]
end Go.Eng
namespace Go.Eng
open Go Go.RowKit
def dstsOf:List bx->List Nat
 | []=>[]
 | e::es=>match e.dst with
   | some t=>t::dstsOf es
   | none=>dstsOf es
def dw.writes:dw->List Nat
 | .region _ ops _=>dstsOf ops
 | .seq a b=>a.writes++b.writes
 | .cond _ a b=>a.writes++b.writes
 | .block _ c=>c.writes
 | .loop c=>c.writes
 | _=>[]
section
variable {G:Nat->Option J} {Φ:FuncId->Option bn} {tab:FuncId->Option (List J->Option J)} {Y:List c4}
theorem Ml {F:Nat->J} {d:Option Nat} {v:J} {t:Nat} (h:∀i,d=some i->t≠i):c6 F d v t=F t:=by
 cases d with
 | none=>rfl
 | some i=>simp only[c6,aF];rw[if_neg (h i rfl)]
theorem Ej {fa:lM} {bs r:Nat} {e:bx} {s:a'} {x:a' × dL} (h:dj G tab fa bs r e s=some x):∃v,x.1.F=c6 s.F e.dst v:=by
 unfold dj at h
 split at h
 · split at h
   · split at h
     · split at h
       · rw[Option.map_eq_some_iff] at h;obtain⟨v,_,rfl⟩:=h;exact⟨v,rfl⟩
       · cases h
     · rw[Option.map_eq_some_iff] at h;obtain⟨⟨v,av⟩,_,rfl⟩:=h;exact⟨v,rfl⟩
   · rw[Option.map_eq_some_iff] at h;obtain⟨⟨v,av⟩,_,rfl⟩:=h;exact⟨v,rfl⟩
   · cases h
 · rw[Option.map_eq_some_iff] at h;obtain⟨⟨v,av,c⟩,_,rfl⟩:=h;exact⟨v,rfl⟩
theorem Mm {fa:lM} {bs r:Nat} {e:bx} {s:a'} {x:a' × dL} (h:c7 G tab fa bs r e s=some x):∃v,x.1.F=c6 s.F e.dst v:=by
 unfold c7 at h
 split at h
 · exact Ej h
 · split at h
   · split at h
     · exact Ej h
     · cases h;exact⟨_,rfl⟩
   · cases h;exact⟨_,rfl⟩
   · cases h
theorem Ek {fa:lM} {bs:Nat}:∀ {es:List bx} {k:Nat} {s:a'} {x:a' × List dL} {t:Nat},df G tab fa bs (es.zipIdx k) s=some x->t ∉ dstsOf es->x.1.F t=s.F t
 | [],_,s,x,t,h,_=>by cases h;rfl
 | e::es,k,s,x,t,h,a7=>by
   rw[List.zipIdx_cons,df] at h
   split at h
   · rename_i ax c aG
     rw[Option.map_eq_some_iff] at h
     obtain⟨⟨x_,cs⟩,h2,rfl⟩:=h
     obtain⟨v,aR⟩:=Mm aG
     have aX:t ∉ dstsOf es/\∀i,e.dst=some i->t≠i:=by
      unfold dstsOf at a7
      split at a7
      · rename_i i ag
        simp only[List.mem_cons,not_or] at a7
        exact⟨a7.2,fun j aZ=>by rw[ag] at aZ;cases aZ;exact a7.1⟩
      · rename_i ag
        exact⟨a7,fun j aZ=>by rw[ag] at aZ;cases aZ⟩
     have aW:=Ek h2 aX.1
     rw[aW]
     show ax.F t=s.F t
     have cL:ax.F=c6 s.F e.dst v:=aR
     rw[cL,Ml aX.2]
   · cases h
theorem nJ:∀(n:Nat) (Y:List c4) (c:dw) (s:a') (ex:de) (ax:a'),exec G Φ tab n Y c s=some (ex,ax)->∀t,t ∉ c.writes->ax.F t=s.F t
 | 0,_,_,_,_,_,h=>by cases h
 | n+1,Y,c,s,ex,ax,h=>by
   intro t a7
   rw[fI] at h
   cases c with
   | skip=>cases h;rfl
   | ret=>cases h;rfl
   | exit id=>cases h;rfl
   | region jW ops hz=>
     simp only[Option.map_eq_some_iff] at h
     obtain⟨s1,ab,h2⟩:=h
     cases h2
     unfold eQ at ab
     split at ab
     · rename_i x cs aX
       split at ab
       · cases ab;exact Ek aX a7
       · cases ab
     · cases ab
   | seq a b=>
     simp only[dw.writes,List.mem_append,not_or] at a7
     simp only at h
     split at h
     · rename_i s1 ab
       rw[nJ n Y b _ _ _ h t a7.2,nJ n Y a _ _ _ ab t a7.1]
     · exact nJ n Y a _ _ _ h t a7.1
   | cond x a b=>
     simp only[dw.writes,List.mem_append,not_or] at a7
     simp only at h
     split at h
     · split at h
       · exact nJ n Y a _ _ _ h t a7.1
       · exact nJ n Y b _ _ _ h t a7.2
     · cases h
   | block id b=>
     simp only at h
     split at h
     · rename_i i s1 ab
       split at h<;>(cases h;exact nJ n Y b _ _ _ ab t a7)
     · exact nJ n Y b _ _ _ h t a7
   | loop b=>
     simp only at h
     split at h
     · rename_i s1 ab
       rw[nJ n Y (.loop b) _ _ _ h t a7,nJ n Y b _ _ _ ab t a7]
     · exact nJ n Y b _ _ _ h t a7
   | k4 f ps dA body=>
     simp only at h
     repeat' split at h
     all_goals first|(cases h;rfl)|(cases h;done)
theorem ck.frame {c:dw} {s:a'} {Q:de->a'->Prop} (h:ck G Φ tab Y c s Q):ck G Φ tab Y c s fun ex ax=>Q ex ax/\∀t,t ∉ c.writes->ax.F t=s.F t:=
 let ⟨n,ex,ax,e,q⟩:=h;⟨n,ex,ax,e,q,nJ n Y c s ex ax e⟩
def dw.within (W:List Nat) (c:dw):Bool:=c.writes.all W.contains
theorem El {W:List Nat} {c:dw} (h:c.within W=true) {t:Nat} (a7:W.contains t=false):t ∉ c.writes:=fun hm=>by
 have:=List.all_eq_true.1 h t hm
 rw[a7] at this;cases this
theorem Mn {id:Nat} {b:dw} {Q:de->a'->Prop} (W:List Nat) (ly:b.within W=true) (n:Nat) (a3:Nat->a'->Prop) (E R:a'->Prop) {s:a'} (h:a3 0 s)
 (round:∀i ax,i<=n->(∀t,W.contains t=false->ax.F t=s.F t)->a3 i ax->ck G Φ tab Y b ax (sB id n i a3 E R))
 (fin:∀ax,(∀t,W.contains t=false->ax.F t=s.F t)->E ax->Q .normal ax) (ret:∀ax,(∀t,W.contains t=false->ax.F t=s.F t)->R ax->Q .ret ax):ck G Φ tab Y (.block id (.loop b)) s Q:=by
 refine Eh n (fun i ax=>(∀t,W.contains t=false->ax.F t=s.F t)/\a3 i ax) (fun ax=>(∀t,W.contains t=false->ax.F t=s.F t)/\E ax) (fun ax=>(∀t,W.contains t=false->ax.F t=s.F t)/\R ax) ⟨fun _ _=>rfl,h⟩ ?_ (fun ax h=>fin ax h.1 h.2) (fun ax h=>ret ax h.1 h.2)
 rintro i ax ag ⟨aE,oY⟩
 refine(round i ax ag aE oY).frame.mono fun ex s2 ⟨bc,bI⟩=>?_
 have kz:∀t,W.contains t=false->s2.F t=s.F t:=fun t a7=>by rw[bI t (El ly a7),aE t a7]
 cases ex with
 | normal=>exact⟨bc.1,kz,bc.2⟩
 | exit j=>exact⟨bc.1,kz,bc.2⟩
 | ret=>exact⟨kz,bc⟩
theorem Mo {id:Nat} {b:dw} {Q:de->a'->Prop} (W:List Nat) (ly:b.within W=true) (a3:Nat->a'->Prop) (E R:a'->Prop) (k:Nat) {s:a'} (h:a3 k s)
 (round:∀k ax,(∀t,W.contains t=false->ax.F t=s.F t)->a3 k ax->ck G Φ tab Y b ax (sA id k a3 E R))
 (fin:∀ax,(∀t,W.contains t=false->ax.F t=s.F t)->E ax->Q .normal ax) (ret:∀ax,(∀t,W.contains t=false->ax.F t=s.F t)->R ax->Q .ret ax):ck G Φ tab Y (.block id (.loop b)) s Q:=by
 refine l4 (fun i ax=>(∀t,W.contains t=false->ax.F t=s.F t)/\a3 i ax) (fun ax=>(∀t,W.contains t=false->ax.F t=s.F t)/\E ax) (fun ax=>(∀t,W.contains t=false->ax.F t=s.F t)/\R ax) k ⟨fun _ _=>rfl,h⟩ ?_ (fun ax h=>fin ax h.1 h.2) (fun ax h=>ret ax h.1 h.2)
 rintro i ax ⟨aE,oY⟩
 refine(round i ax aE oY).frame.mono fun ex s2 ⟨bc,bI⟩=>?_
 have kz:∀t,W.contains t=false->s2.F t=s.F t:=fun t a7=>by rw[bI t (El ly a7),aE t a7]
 cases ex with
 | normal=>obtain⟨j,aZ,bc⟩:=bc;exact⟨j,aZ,kz,bc⟩
 | exit j=>exact⟨bc.1,kz,bc.2⟩
 | ret=>exact⟨kz,bc⟩
theorem Em (c:dw):c.within c.writes=true:=List.all_eq_true.2 fun t h=>List.contains_iff_mem.2 h
theorem kO {id:Nat} {b:dw} {Q:de->a'->Prop} (n:Nat) (a3:Nat->a'->Prop) (E R:a'->Prop) {s:a'} (h:a3 0 s)
 (round:∀i ax,i<=n->(∀t,b.writes.contains t=false->ax.F t=s.F t)->a3 i ax->ck G Φ tab Y b ax (sB id n i a3 E R))
 (fin:∀ax,(∀t,b.writes.contains t=false->ax.F t=s.F t)->E ax->Q .normal ax) (ret:∀ax,(∀t,b.writes.contains t=false->ax.F t=s.F t)->R ax->Q .ret ax):ck G Φ tab Y (.block id (.loop b)) s Q:=
 Mn b.writes (Em b) n a3 E R h round fin ret
theorem oh {id:Nat} {b:dw} {Q:de->a'->Prop} (a3:Nat->a'->Prop) (E R:a'->Prop) (k:Nat) {s:a'} (h:a3 k s)
 (round:∀k ax,(∀t,b.writes.contains t=false->ax.F t=s.F t)->a3 k ax->ck G Φ tab Y b ax (sA id k a3 E R))
 (fin:∀ax,(∀t,b.writes.contains t=false->ax.F t=s.F t)->E ax->Q .normal ax) (ret:∀ax,(∀t,b.writes.contains t=false->ax.F t=s.F t)->R ax->Q .ret ax):ck G Φ tab Y (.block id (.loop b)) s Q:=
 Mo b.writes (Em b) a3 E R k h round fin ret
end
theorem En {P:Program} {G:Nat->Option J} {f:FuncId} {A:Type} {pre:A->Prop} {enc:A->List J} {out:A->J} (inj:∀a b,enc a=enc b->out a=out b) (wG:A->Nat)
 (h:∀N,br P G f (cd (fun a=>pre a/\wG a<N) enc out)->br P G f (cd (fun a=>pre a/\wG a<N+1) enc out)):br P G f (cd pre enc out):=by
 have all:∀N,br P G f (cd (fun a=>pre a/\wG a<N) enc out):=by
  intro N
  induction N with
  | zero=>
    intro args v cJ
    obtain⟨a,⟨_,h⟩,_⟩:=uU cJ
    exact absurd h (Nat.not_lt_zero _)
  | succ N bC=>exact h N bC
 intro args v cJ
 obtain⟨a,ab,h2,rfl⟩:=uU cJ
 exact all (wG a+1) args (out a) (cU inj a ⟨ab,Nat.lt_succ_self _⟩ h2.symm)
end Go.Eng
