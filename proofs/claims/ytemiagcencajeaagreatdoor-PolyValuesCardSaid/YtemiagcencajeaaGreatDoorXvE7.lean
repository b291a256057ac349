import Derived.Test.YtemiagcencajeaaGreatDoorXvE6
set_option linter.unusedSimpArgs false
set_option linter.unusedVariables false
set_option linter.unusedSectionVars false
namespace Go.Eng
open Go Go.RowKit
structure Kept (h h':ah):Prop where
 next:h.next<=h'.next
 cells:∀j,j<h.next->h'.cells j=h.cells j
 shut:h'.shut=h.shut
 aV:h'.aV=h.aV
theorem Kept.qn (h:ah):Kept h h:=⟨Nat.le_refl _,fun _ _=>rfl,rfl,rfl⟩
theorem Kept.trans {a b c:ah} (x:Kept a b) (y:Kept b c):Kept a c:=⟨Nat.le_trans x.next y.next,fun j aC=>by rw[y.cells j (Nat.lt_of_lt_of_le aC x.next),x.cells j aC],by rw[y.shut,x.shut],by rw[y.aV,x.aV]⟩
theorem Kept.bump {a h:ah} (k:Kept a h) (n:Nat) (ai:h.next<=n):Kept a ⟨h.cells,h.shut,n,h.aV⟩:=⟨Nat.le_trans k.next ai,k.cells,k.shut,k.aV⟩
theorem Kept.new {a h:ah} (k:Kept a h) {r:Nat} (v:Option (List I)) (n:Nat) (aR:h.next<=r) (ai:h.next<=n):Kept a ⟨au h.cells r v,h.shut,n,h.aV⟩:=⟨Nat.le_trans k.next ai,fun j aC=>by
 have:=k.next
 rw[<-k.cells j aC]
 simp only[au]
 rw[if_neg (by omega)],k.shut,k.aV⟩
section
variable {G:Nat->Option I} {Φ:FuncId->Option aP} {tab:FuncId->Option (List I->Option I)} {Y:List cy}
end
theorem bH.ca {sz:Nat} {h:ah} {v:I} {xs:List I} (o:bH sz h v xs):v.ca=true:=by
 rcases o.2 with⟨_,rfl⟩|⟨_,q,rfl,_⟩<;>rfl
theorem bH.one {sz:Nat} {h:ah} {v:I} {xs:List I} (o:bH sz h v xs):v.cells= [v]:=by
 rcases o.2 with⟨_,rfl⟩|⟨_,q,rfl,_⟩<;>rfl
theorem bH.J4 {sz:Nat} {h h':ah} {v:I} {xs:List I} (o:bH sz h v xs) (aw:h'.shut=h.shut) (ai:h'.next=h.next) (J:∀q a b c,v= .ref q a b c->h'.cells q=h.cells q):bH sz h' v xs:=by
 refine⟨fun j aC=>by rw[aw];exact o.1 j (by omega),?_⟩
 rcases o.2 with o|⟨U,q,h2,aB,aS,cd,ee⟩
 · exact .inl o
 · exact .inr ⟨U,q,h2,by rw[J q _ _ _ h2];exact aB,by rw[aw];exact aS,by omega,ee⟩
structure po (sz:Nat) (h:ah) (b cr:Nat) (xs:List I) (v:I):Prop where
 box:h.cells b=some [v]
 own:bH sz h v xs
 D8:∀q a b c,v= .ref q a b c->cr<q
 cc:h.shut b=false
theorem po.bump {sz b cr:Nat} {h:ah} {xs:List I} {v:I} (x:po sz h b cr xs v) (n:Nat) (p:Nat->Option fX) (ai:h.next<=n):po sz ⟨h.cells,h.shut,n,p⟩ b cr xs v:=
 ⟨x.box,x.own.mono (fun _ _=>rfl) (fun _=>rfl) ai,x.D8,x.cc⟩
theorem po.app {sz b cr:Nat} {h:ah} {xs:List I} {v:I} (x:po sz h b cr xs v) {ys:List I} (e4:0<ys.length) (aN:(ys.all fun e=>e.cells.length == sz)=true) (m nb r:Nat) (p nS:Nat->Option fX) (aR:h.next<=r) (hm:r<nb) (nU:cr<r) (ad:b<=cr):
 po sz ⟨au (k3 r ⟨h.cells,h.shut,m,p⟩ v (xs++ys)).cells b (some [.ref r 0 (xs.length+ys.length) (xs.length+ys.length)]),h.shut,nb,nS⟩ b cr (xs++ys) (.ref r 0 (xs.length+ys.length) (xs.length+ys.length)):=by
 refine⟨by simp[au],(x.own.app e4 aN m nb r p nS aR hm).J4 rfl rfl fun q a c d e=>?_,fun q a c d e=>?_,x.cc⟩
 · obtain⟨rfl,_⟩:=I.ref.inj e
   simp only[au];rw[if_neg (by omega)]
 · obtain⟨rfl,_⟩:=I.ref.inj e
   exact nU
theorem po.read {sz b cr:Nat} {h:ah} {xs:List I} {v:I} (x:po sz h b cr xs v) (r m:Nat) (p:Nat->Option fX) (zs:List I) (ad:b<=cr) (aR:b≠r):(k3 r ⟨h.cells,h.shut,m,p⟩ v zs).cells b=some [v]:=by
 rw[bH.other x.own aR (fun a c d e=>by have:=x.D8 _ _ _ _ e;omega)];exact x.box
theorem po.else {sz b cr:Nat} {h:ah} {xs:List I} {v:I} (x:po sz h b cr xs v) (r m:Nat) (p:Nat->Option fX) (zs:List I) {j:Nat} (aC:j<=cr) (aR:j≠r):(k3 r ⟨h.cells,h.shut,m,p⟩ v zs).cells j=h.cells j:=bH.other x.own aR (fun a c d e=>by have:=x.D8 _ _ _ _ e;omega)
theorem J5 {r sz bytes:Nat} {h:ah} {id len cap:Nat} {blk ys:List I} (e:Bool) (aw:h.shut id=false) (ad:h.cells id=some blk) (ay:blk.length=cap) (hlen:len+ys.length<=cap) (e4:0<ys.length) (c6:0<sz) (wL:0<bytes) (su:(len+ys.length)*bytes<=35184372088832)
 (aN:(ys.all fun e=>e.cells.length == sz&&e.cells.all I.ca)=true) (oi:(blk.all fun e=>e.cells.length == sz)=true):
 kK r sz bytes h (.ref id 0 len cap) (.sl ys e)=some (.ref id 0 (len+ys.length) cap,h.new id (blk.take len++ys++blk.drop (len+ys.length)),.wr):=by
 have aD:¬ys.length=0:=by omega
 unfold kK
 simp only[elems,Option.bind_some,if_pos (And.intro c6 (And.intro wL aN)),if_neg aD,aw,Bool.false_eq_true,if_false,ad,kC,Nat.zero_add]
 rw[if_pos ⟨by omega,su,e4,oi⟩,if_pos hlen,if_pos (by omega)]
end Go.Eng
namespace Go.Eng
open Go Go.RowKit
def dstsOf:List aU->List Nat
 | []=>[]
 | e::es=>match e.dst with
   | some t=>t::dstsOf es
   | none=>dstsOf es
def c5.writes:c5->List Nat
 | .region _ ops _=>dstsOf ops
 | .seq a b=>a.writes++b.writes
 | .cond _ a b=>a.writes++b.writes
 | .block _ c=>c.writes
 | .loop c=>c.writes
 | _=>[]
section
variable {G:Nat->Option I} {Φ:FuncId->Option aP} {tab:FuncId->Option (List I->Option I)} {Y:List cy}
theorem Uf {F:Nat->I} {d:Option Nat} {v:I} {t:Nat} (h:∀i,d=some i->t≠i):cw F d v t=F t:=by
 cases d with
 | none=>rfl
 | some i=>simp only[cw,au];rw[if_neg (h i rfl)]
theorem J6 {eC:ml} {aZ r:Nat} {e:aU} {s:aL} {x:aL × eb} (h:cW G tab eC aZ r e s=some x):∃v,x.1.F=cw s.F e.dst v:=by
 unfold cW at h
 split at h
 · split at h
   · split at h
     · split at h
       · rw[Option.map_eq_some_iff] at h;obtain⟨v,_,rfl⟩:=h;exact ⟨v,rfl⟩
       · cases h
     · rw[Option.map_eq_some_iff] at h;obtain⟨⟨v,h'⟩,_,rfl⟩:=h;exact ⟨v,rfl⟩
   · rw[Option.map_eq_some_iff] at h;obtain⟨⟨v,h'⟩,_,rfl⟩:=h;exact ⟨v,rfl⟩
   · cases h
 · rw[Option.map_eq_some_iff] at h;obtain⟨⟨v,h',c⟩,_,rfl⟩:=h;exact ⟨v,rfl⟩
theorem Ug {eC:ml} {aZ r:Nat} {e:aU} {s:aL} {x:aL × eb} (h:cx G tab eC aZ r e s=some x):∃v,x.1.F=cw s.F e.dst v:=by
 unfold cx at h
 split at h
 · exact J6 h
 · split at h
   · split at h
     · exact J6 h
     · cases h;exact ⟨_,rfl⟩
   · cases h;exact ⟨_,rfl⟩
   · cases h
theorem J7 {eC:ml} {aZ:Nat}:∀ {es:List aU} {k:Nat} {s:aL} {x:aL × List eb} {t:Nat},cR G tab eC aZ (es.zipIdx k) s=some x->t ∉ dstsOf es->x.1.F t=s.F t
 | [],_,s,x,t,h,_=>by cases h;rfl
 | e::es,k,s,x,t,h,aO=>by
   rw[List.zipIdx_cons,cR] at h
   split at h
   · rename_i ar c aw
     rw[Option.map_eq_some_iff] at h
     obtain⟨⟨CJ,cs⟩,h2,rfl⟩:=h
     obtain⟨v,al⟩:=Ug aw
     have aB:t ∉ dstsOf es/\∀i,e.dst=some i->t≠i:=by
      unfold dstsOf at aO
      split at aO
      · rename_i i ab
        simp only[List.mem_cons,not_or] at aO
        exact ⟨aO.2,fun j aC=>by rw[ab] at aC;cases aC;exact aO.1⟩
      · rename_i ab
        exact ⟨aO,fun j aC=>by rw[ab] at aC;cases aC⟩
     have aS:=J7 h2 aB.1
     rw[aS]
     show ar.F t=s.F t
     have cd:ar.F=cw s.F e.dst v:=al
     rw[cd,Uf aB.2]
   · cases h
theorem oA:∀(n:Nat) (Y:List cy) (c:c5) (s:aL) (ex:dd) (ar:aL),exec G Φ tab n Y c s=some (ex,ar)->∀t,t ∉ c.writes->ar.F t=s.F t
 | 0,_,_,_,_,_,h=>by cases h
 | n+1,Y,c,s,ex,ar,h=>by
   intro t aO
   rw[iD] at h
   cases c with
   | skip=>cases h;rfl
   | ret=>cases h;rfl
   | exit id=>cases h;rfl
   | region ku ops e3=>
     simp only[Option.map_eq_some_iff] at h
     obtain⟨s1,U,h2⟩:=h
     cases h2
     unfold ej at U
     split at U
     · rename_i x cs aB
       split at U
       · cases U;exact J7 aB aO
       · cases U
     · cases U
   | seq a b=>
     simp only[c5.writes,List.mem_append,not_or] at aO
     simp only at h
     split at h
     · rename_i s1 U
       rw[oA n Y b _ _ _ h t aO.2,oA n Y a _ _ _ U t aO.1]
     · exact oA n Y a _ _ _ h t aO.1
   | cond x a b=>
     simp only[c5.writes,List.mem_append,not_or] at aO
     simp only at h
     split at h
     · split at h
       · exact oA n Y a _ _ _ h t aO.1
       · exact oA n Y b _ _ _ h t aO.2
     · cases h
   | block id b=>
     simp only at h
     split at h
     · rename_i i s1 U
       split at h<;>(cases h;exact oA n Y b _ _ _ U t aO)
     · exact oA n Y b _ _ _ h t aO
   | loop b=>
     simp only at h
     split at h
     · rename_i s1 U
       rw[oA n Y (.loop b) _ _ _ h t aO,oA n Y b _ _ _ U t aO]
     · exact oA n Y b _ _ _ h t aO
   | lj f ps dL body=>
     simp only at h
     repeat' split at h
     all_goals first|(cases h;rfl)|(cases h;done)
theorem ba.frame {c:c5} {s:aL} {Q:dd->aL->Prop} (h:ba G Φ tab Y c s Q):ba G Φ tab Y c s fun ex ar=>Q ex ar/\∀t,t ∉ c.writes->ar.F t=s.F t:=
 let ⟨n,ex,ar,e,q⟩:=h;⟨n,ex,ar,e,q,oA n Y c s ex ar e⟩
def c5.within (W:List Nat) (c:c5):Bool:=c.writes.all W.contains
theorem J8 {W:List Nat} {c:c5} (h:c.within W=true) {t:Nat} (aO:W.contains t=false):t ∉ c.writes:=fun hm=>by
 have:=List.all_eq_true.1 h t hm
 rw[aO] at this;cases this
theorem Uh {id:Nat} {b:c5} {Q:dd->aL->Prop} (W:List Nat) (lq:b.within W=true) (n:Nat) (ak:Nat->aL->Prop) (E R:aL->Prop) {s:aL} (h:ak 0 s)
 (round:∀i ar,i<=n->(∀t,W.contains t=false->ar.F t=s.F t)->ak i ar->ba G Φ tab Y b ar (u0 id n i ak E R))
 (fin:∀ar,(∀t,W.contains t=false->ar.F t=s.F t)->E ar->Q .normal ar) (ret:∀ar,(∀t,W.contains t=false->ar.F t=s.F t)->R ar->Q .ret ar):ba G Φ tab Y (.block id (.loop b)) s Q:=by
 refine J3 n (fun i ar=>(∀t,W.contains t=false->ar.F t=s.F t)/\ak i ar) (fun ar=>(∀t,W.contains t=false->ar.F t=s.F t)/\E ar) (fun ar=>(∀t,W.contains t=false->ar.F t=s.F t)/\R ar) ⟨fun _ _=>rfl,h⟩ ?_ (fun ar h=>fin ar h.1 h.2) (fun ar h=>ret ar h.1 h.2)
 rintro i ar ab ⟨ag,ql⟩
 refine(round i ar ab ag ql).frame.mono fun ex s2 ⟨aM,bc⟩=>?_
 have jz:∀t,W.contains t=false->s2.F t=s.F t:=fun t aO=>by rw[bc t (J8 lq aO),ag t aO]
 cases ex with
 | normal=>exact ⟨aM.1,jz,aM.2⟩
 | exit j=>exact ⟨aM.1,jz,aM.2⟩
 | ret=>exact ⟨jz,aM⟩
theorem Ui {id:Nat} {b:c5} {Q:dd->aL->Prop} (W:List Nat) (lq:b.within W=true) (ak:Nat->aL->Prop) (E R:aL->Prop) (k:Nat) {s:aL} (h:ak k s)
 (round:∀k ar,(∀t,W.contains t=false->ar.F t=s.F t)->ak k ar->ba G Φ tab Y b ar (uX id k ak E R))
 (fin:∀ar,(∀t,W.contains t=false->ar.F t=s.F t)->E ar->Q .normal ar) (ret:∀ar,(∀t,W.contains t=false->ar.F t=s.F t)->R ar->Q .ret ar):ba G Φ tab Y (.block id (.loop b)) s Q:=by
 refine lD (fun i ar=>(∀t,W.contains t=false->ar.F t=s.F t)/\ak i ar) (fun ar=>(∀t,W.contains t=false->ar.F t=s.F t)/\E ar) (fun ar=>(∀t,W.contains t=false->ar.F t=s.F t)/\R ar) k ⟨fun _ _=>rfl,h⟩ ?_ (fun ar h=>fin ar h.1 h.2) (fun ar h=>ret ar h.1 h.2)
 rintro i ar ⟨ag,ql⟩
 refine(round i ar ag ql).frame.mono fun ex s2 ⟨aM,bc⟩=>?_
 have jz:∀t,W.contains t=false->s2.F t=s.F t:=fun t aO=>by rw[bc t (J8 lq aO),ag t aO]
 cases ex with
 | normal=>obtain⟨j,aC,aM⟩:=aM;exact ⟨j,aC,jz,aM⟩
 | exit j=>exact ⟨aM.1,jz,aM.2⟩
 | ret=>exact ⟨jz,aM⟩
theorem J9 (c:c5):c.within c.writes=true:=List.all_eq_true.2 fun t h=>List.contains_iff_mem.2 h
theorem fR {id:Nat} {b:c5} {Q:dd->aL->Prop} (n:Nat) (ak:Nat->aL->Prop) (E R:aL->Prop) {s:aL} (h:ak 0 s)
 (round:∀i ar,i<=n->(∀t,b.writes.contains t=false->ar.F t=s.F t)->ak i ar->ba G Φ tab Y b ar (u0 id n i ak E R))
 (fin:∀ar,(∀t,b.writes.contains t=false->ar.F t=s.F t)->E ar->Q .normal ar) (ret:∀ar,(∀t,b.writes.contains t=false->ar.F t=s.F t)->R ar->Q .ret ar):ba G Φ tab Y (.block id (.loop b)) s Q:=
 Uh b.writes (J9 b) n ak E R h round fin ret
theorem mY {id:Nat} {b:c5} {Q:dd->aL->Prop} (ak:Nat->aL->Prop) (E R:aL->Prop) (k:Nat) {s:aL} (h:ak k s)
 (round:∀k ar,(∀t,b.writes.contains t=false->ar.F t=s.F t)->ak k ar->ba G Φ tab Y b ar (uX id k ak E R))
 (fin:∀ar,(∀t,b.writes.contains t=false->ar.F t=s.F t)->E ar->Q .normal ar) (ret:∀ar,(∀t,b.writes.contains t=false->ar.F t=s.F t)->R ar->Q .ret ar):ba G Φ tab Y (.block id (.loop b)) s Q:=
 Ui b.writes (J9 b) ak E R k h round fin ret
end
theorem J_ {P:Program} {G:Nat->Option I} {f:FuncId} {A:Type} {pre:A->Prop} {enc:A->List I} {out:A->I} (inj:∀a b,enc a=enc b->out a=out b) (zJ:A->Nat)
 (h:∀N,aH P G f (a9 (fun a=>pre a/\zJ a<N) enc out)->aH P G f (a9 (fun a=>pre a/\zJ a<N+1) enc out)):aH P G f (a9 pre enc out):=by
 have all:∀N,aH P G f (a9 (fun a=>pre a/\zJ a<N) enc out):=by
  intro N
  induction N with
  | zero=>
    intro args v cA
    obtain⟨a,⟨_,h⟩,_⟩:=uY cA
    exact absurd h (Nat.not_lt_zero _)
  | succ N a8=>exact h N a8
 intro args v cA
 obtain⟨a,U,h2,rfl⟩:=uY cA
 exact all (zJ a+1) args (out a) (bk inj a ⟨U,Nat.lt_succ_self _⟩ h2.symm)
end Go.Eng
