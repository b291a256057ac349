import Derived.Test.YtcikknajimdjoaaGreatDoorFpE6
set_option linter.unusedSimpArgs false
set_option linter.unusedVariables false
set_option linter.unusedSectionVars false
namespace Go.Eng
open Go Go.RowKit
structure Kept (h ay:aF):Prop where
 next:h.next<=ay.next
 cells:∀j,j<h.next->ay.cells j=h.cells j
 shut:ay.shut=h.shut
 bu:ay.bu=h.bu
theorem Kept.yw (h:aF):Kept h h:=⟨Nat.le_refl _,fun _ _=>rfl,rfl,rfl⟩
theorem Kept.trans {a b c:aF} (x:Kept a b) (y:Kept b c):Kept a c:=⟨Nat.le_trans x.next y.next,fun j bb=>by rw[y.cells j (Nat.lt_of_lt_of_le bb x.next),x.cells j bb],by rw[y.shut,x.shut],by rw[y.bu,x.bu]⟩
theorem Kept.bump {a h:aF} (k:Kept a h) (n:Nat) (aC:h.next<=n):Kept a ⟨h.cells,h.shut,n,h.bu⟩:=⟨Nat.le_trans k.next aC,k.cells,k.shut,k.bu⟩
theorem Kept.new {a h:aF} (k:Kept a h) {r:Nat} (v:Option (List J)) (n:Nat) (bf:h.next<=r) (aC:h.next<=n):Kept a ⟨aG h.cells r v,h.shut,n,h.bu⟩:=⟨Nat.le_trans k.next aC,fun j bb=>by
 have:=k.next
 rw[<-k.cells j bb]
 simp only[aG]
 rw[if_neg (by omega)],k.shut,k.bu⟩
section
variable {G:Nat->Option J} {Φ:FuncId->Option bt} {tab:FuncId->Option (List J->Option J)} {Y:List dm}
end
theorem eE.dp {sz:Nat} {h:aF} {v:J} {xs:List J} (o:eE sz h v xs):v.dp=true:=by
 rcases o.2 with⟨_,rfl⟩|⟨_,q,rfl,_⟩<;>rfl
theorem eE.one {sz:Nat} {h:aF} {v:J} {xs:List J} (o:eE sz h v xs):v.cells= [v]:=by
 rcases o.2 with⟨_,rfl⟩|⟨_,q,rfl,_⟩<;>rfl
theorem eE.OV {sz:Nat} {h ay:aF} {v:J} {xs:List J} (o:eE sz h v xs) (aP:ay.shut=h.shut) (aC:ay.next=h.next) (I:∀q a b c,v= .ref q a b c->ay.cells q=h.cells q):eE sz ay v xs:=by
 refine⟨fun j bb=>by rw[aP];exact o.1 j (by omega),?_⟩
 rcases o.2 with o|⟨ae,q,h2,aO,a2,cf,dS⟩
 · exact .inl o
 · exact .inr ⟨ae,q,h2,by rw[I q _ _ _ h2];exact aO,by rw[aP];exact a2,by omega,dS⟩
structure pO (sz:Nat) (h:aF) (b bd:Nat) (xs:List J) (v:J):Prop where
 box:h.cells b=some [v]
 own:eE sz h v xs
 By:∀q a b c,v= .ref q a b c->bd<q
 bD:h.shut b=false
theorem pO.bump {sz b bd:Nat} {h:aF} {xs:List J} {v:J} (x:pO sz h b bd xs v) (n:Nat) (p:Nat->Option fu) (aC:h.next<=n):pO sz ⟨h.cells,h.shut,n,p⟩ b bd xs v:=
 ⟨x.box,x.own.mono (fun _ _=>rfl) (fun _=>rfl) aC,x.By,x.bD⟩
theorem pO.app {sz b bd:Nat} {h:aF} {xs:List J} {v:J} (x:pO sz h b bd xs v) {ys:List J} (pz:0<ys.length) (bj:(ys.all fun e=>e.cells.length == sz)=true) (m p3 r:Nat) (p qh:Nat->Option fu) (bf:h.next<=r) (hm:r<p3) (q9:bd<r) (au:b<=bd):
 pO sz ⟨aG (mh r ⟨h.cells,h.shut,m,p⟩ v (xs++ys)).cells b (some [.ref r 0 (xs.length+ys.length) (xs.length+ys.length)]),h.shut,p3,qh⟩ b bd (xs++ys) (.ref r 0 (xs.length+ys.length) (xs.length+ys.length)):=by
 refine⟨by simp[aG],(x.own.app pz bj m p3 r p qh bf hm).OV rfl rfl fun q a c d e=>?_,fun q a c d e=>?_,x.bD⟩
 · obtain⟨rfl,_⟩:=J.ref.inj e
   simp only[aG];rw[if_neg (by omega)]
 · obtain⟨rfl,_⟩:=J.ref.inj e
   exact q9
theorem pO.read {sz b bd:Nat} {h:aF} {xs:List J} {v:J} (x:pO sz h b bd xs v) (r m:Nat) (p:Nat->Option fu) (gU:List J) (au:b<=bd) (bf:b≠r):(mh r ⟨h.cells,h.shut,m,p⟩ v gU).cells b=some [v]:=by
 rw[eE.other x.own bf (fun a c d e=>by have:=x.By _ _ _ _ e;omega)];exact x.box
theorem pO.else {sz b bd:Nat} {h:aF} {xs:List J} {v:J} (x:pO sz h b bd xs v) (r m:Nat) (p:Nat->Option fu) (gU:List J) {j:Nat} (bb:j<=bd) (bf:j≠r):(mh r ⟨h.cells,h.shut,m,p⟩ v gU).cells j=h.cells j:=eE.other x.own bf (fun a c d e=>by have:=x.By _ _ _ _ e;omega)
theorem FY {r sz bytes:Nat} {h:aF} {id len cap:Nat} {blk ys:List J} (e:Bool) (aP:h.shut id=false) (au:h.cells id=some blk) (a6:blk.length=cap) (hlen:len+ys.length<=cap) (pz:0<ys.length) (dC:0<sz) (v7:0<bytes) (sb:(len+ys.length)*bytes<=35184372088832)
 (bj:(ys.all fun e=>e.cells.length == sz&&e.cells.all J.dp)=true) (oY:(blk.all fun e=>e.cells.length == sz)=true):
 mR r sz bytes h (.ref id 0 len cap) (.sl ys e)=some (.ref id 0 (len+ys.length) cap,h.new id (blk.take len++ys++blk.drop (len+ys.length)),.wr):=by
 have aS:¬ys.length=0:=by omega
 unfold mR
 simp only[elems,Option.bind_some,if_pos (And.intro dC (And.intro v7 bj)),if_neg aS,aP,Bool.false_eq_true,if_false,au,lQ,Nat.zero_add]
 rw[if_pos ⟨by omega,sb,pz,oY⟩,if_pos hlen,if_pos (by omega)]
end Go.Eng
namespace Go.Eng
open Go Go.RowKit
def dstsOf:List bH->List Nat
 | []=>[]
 | e::es=>match e.dst with
   | some t=>t::dstsOf es
   | none=>dstsOf es
def ee.writes:ee->List Nat
 | .region _ ops _=>dstsOf ops
 | .seq a b=>a.writes++b.writes
 | .cond _ a b=>a.writes++b.writes
 | .block _ c=>c.writes
 | .loop c=>c.writes
 | _=>[]
section
variable {G:Nat->Option J} {Φ:FuncId->Option bt} {tab:FuncId->Option (List J->Option J)} {Y:List dm}
theorem OW {F:Nat->J} {d:Option Nat} {v:J} {t:Nat} (h:∀i,d=some i->t≠i):dq F d v t=F t:=by
 cases d with
 | none=>rfl
 | some i=>simp only[dq,aG];rw[if_neg (h i rfl)]
theorem FZ {lJ:mP} {bm r:Nat} {e:bH} {s:bg} {x:bg × ey} (h:dJ G tab lJ bm r e s=some x):∃v,x.1.F=dq s.F e.dst v:=by
 unfold dJ at h
 split at h
 · split at h
   · split at h
     · split at h
       · rw[Option.map_eq_some_iff] at h;obtain⟨v,_,rfl⟩:=h;exact ⟨v,rfl⟩
       · cases h
     · rw[Option.map_eq_some_iff] at h;obtain⟨⟨v,ay⟩,_,rfl⟩:=h;exact ⟨v,rfl⟩
   · rw[Option.map_eq_some_iff] at h;obtain⟨⟨v,ay⟩,_,rfl⟩:=h;exact ⟨v,rfl⟩
   · cases h
 · rw[Option.map_eq_some_iff] at h;obtain⟨⟨v,ay,c⟩,_,rfl⟩:=h;exact ⟨v,rfl⟩
theorem OX {lJ:mP} {bm r:Nat} {e:bH} {s:bg} {x:bg × ey} (h:dr G tab lJ bm r e s=some x):∃v,x.1.F=dq s.F e.dst v:=by
 unfold dr at h
 split at h
 · exact FZ h
 · split at h
   · split at h
     · exact FZ h
     · cases h;exact ⟨_,rfl⟩
   · cases h;exact ⟨_,rfl⟩
   · cases h
theorem F0 {lJ:mP} {bm:Nat}:∀ {es:List bH} {k:Nat} {s:bg} {x:bg × List ey} {t:Nat},dG G tab lJ bm (es.zipIdx k) s=some x->t ∉ dstsOf es->x.1.F t=s.F t
 | [],_,s,x,t,h,_=>by cases h;rfl
 | e::es,k,s,x,t,h,a'=>by
   rw[List.zipIdx_cons,dG] at h
   split at h
   · rename_i aD c aP
     rw[Option.map_eq_some_iff] at h
     obtain⟨⟨z6,cs⟩,h2,rfl⟩:=h
     obtain⟨v,aY⟩:=OX aP
     have aO:t ∉ dstsOf es/\∀i,e.dst=some i->t≠i:=by
      unfold dstsOf at a'
      split at a'
      · rename_i i an
        simp only[List.mem_cons,not_or] at a'
        exact ⟨a'.2,fun j bb=>by rw[an] at bb;cases bb;exact a'.1⟩
      · rename_i an
        exact ⟨a',fun j bb=>by rw[an] at bb;cases bb⟩
     have a2:=F0 h2 aO.1
     rw[a2]
     show aD.F t=s.F t
     have cf:aD.F=dq s.F e.dst v:=aY
     rw[cf,OW aO.2]
   · cases h
theorem o7:∀(n:Nat) (Y:List dm) (c:ee) (s:bg) (ex:cX) (aD:bg),exec G Φ tab n Y c s=some (ex,aD)->∀t,t ∉ c.writes->aD.F t=s.F t
 | 0,_,_,_,_,_,h=>by cases h
 | n+1,Y,c,s,ex,aD,h=>by
   intro t a'
   rw[gC] at h
   cases c with
   | skip=>cases h;rfl
   | ret=>cases h;rfl
   | exit id=>cases h;rfl
   | region k0 ops kz=>
     simp only[Option.map_eq_some_iff] at h
     obtain⟨s1,ae,h2⟩:=h
     cases h2
     unfold fh at ae
     split at ae
     · rename_i x cs aO
       split at ae
       · cases ae;exact F0 aO a'
       · cases ae
     · cases ae
   | seq a b=>
     simp only[ee.writes,List.mem_append,not_or] at a'
     simp only at h
     split at h
     · rename_i s1 ae
       rw[o7 n Y b _ _ _ h t a'.2,o7 n Y a _ _ _ ae t a'.1]
     · exact o7 n Y a _ _ _ h t a'.1
   | cond x a b=>
     simp only[ee.writes,List.mem_append,not_or] at a'
     simp only at h
     split at h
     · split at h
       · exact o7 n Y a _ _ _ h t a'.1
       · exact o7 n Y b _ _ _ h t a'.2
     · cases h
   | block id b=>
     simp only at h
     split at h
     · rename_i i s1 ae
       split at h<;>(cases h;exact o7 n Y b _ _ _ ae t a')
     · exact o7 n Y b _ _ _ h t a'
   | loop b=>
     simp only at h
     split at h
     · rename_i s1 ae
       rw[o7 n Y (.loop b) _ _ _ h t a',o7 n Y b _ _ _ ae t a']
     · exact o7 n Y b _ _ _ h t a'
   | ma f ps ei body=>
     simp only at h
     repeat' split at h
     all_goals first|(cases h;rfl)|(cases h;done)
theorem cQ.frame {c:ee} {s:bg} {Q:cX->bg->Prop} (h:cQ G Φ tab Y c s Q):cQ G Φ tab Y c s fun ex aD=>Q ex aD/\∀t,t ∉ c.writes->aD.F t=s.F t:=
 let ⟨n,ex,aD,e,q⟩:=h;⟨n,ex,aD,e,q,o7 n Y c s ex aD e⟩
def ee.within (W:List Nat) (c:ee):Bool:=c.writes.all W.contains
theorem F1 {W:List Nat} {c:ee} (h:c.within W=true) {t:Nat} (a':W.contains t=false):t ∉ c.writes:=fun hm=>by
 have:=List.all_eq_true.1 h t hm
 rw[a'] at this;cases this
theorem OY {id:Nat} {b:ee} {Q:cX->bg->Prop} (W:List Nat) (mx:b.within W=true) (n:Nat) (a3:Nat->bg->Prop) (E R:bg->Prop) {s:bg} (h:a3 0 s)
 (round:∀i aD,i<=n->(∀t,W.contains t=false->aD.F t=s.F t)->a3 i aD->cQ G Φ tab Y b aD (ui id n i a3 E R))
 (fin:∀aD,(∀t,W.contains t=false->aD.F t=s.F t)->E aD->Q .normal aD) (ret:∀aD,(∀t,W.contains t=false->aD.F t=s.F t)->R aD->Q .ret aD):cQ G Φ tab Y (.block id (.loop b)) s Q:=by
 refine FX n (fun i aD=>(∀t,W.contains t=false->aD.F t=s.F t)/\a3 i aD) (fun aD=>(∀t,W.contains t=false->aD.F t=s.F t)/\E aD) (fun aD=>(∀t,W.contains t=false->aD.F t=s.F t)/\R aD) ⟨fun _ _=>rfl,h⟩ ?_ (fun aD h=>fin aD h.1 h.2) (fun aD h=>ret aD h.1 h.2)
 rintro i aD an ⟨aI,qn⟩
 refine(round i aD an aI qn).frame.mono fun ex s2 ⟨bo,aT⟩=>?_
 have lS:∀t,W.contains t=false->s2.F t=s.F t:=fun t a'=>by rw[aT t (F1 mx a'),aI t a']
 cases ex with
 | normal=>exact ⟨bo.1,lS,bo.2⟩
 | exit j=>exact ⟨bo.1,lS,bo.2⟩
 | ret=>exact ⟨lS,bo⟩
theorem OZ {id:Nat} {b:ee} {Q:cX->bg->Prop} (W:List Nat) (mx:b.within W=true) (a3:Nat->bg->Prop) (E R:bg->Prop) (k:Nat) {s:bg} (h:a3 k s)
 (round:∀k aD,(∀t,W.contains t=false->aD.F t=s.F t)->a3 k aD->cQ G Φ tab Y b aD (ug id k a3 E R))
 (fin:∀aD,(∀t,W.contains t=false->aD.F t=s.F t)->E aD->Q .normal aD) (ret:∀aD,(∀t,W.contains t=false->aD.F t=s.F t)->R aD->Q .ret aD):cQ G Φ tab Y (.block id (.loop b)) s Q:=by
 refine mg (fun i aD=>(∀t,W.contains t=false->aD.F t=s.F t)/\a3 i aD) (fun aD=>(∀t,W.contains t=false->aD.F t=s.F t)/\E aD) (fun aD=>(∀t,W.contains t=false->aD.F t=s.F t)/\R aD) k ⟨fun _ _=>rfl,h⟩ ?_ (fun aD h=>fin aD h.1 h.2) (fun aD h=>ret aD h.1 h.2)
 rintro i aD ⟨aI,qn⟩
 refine(round i aD aI qn).frame.mono fun ex s2 ⟨bo,aT⟩=>?_
 have lS:∀t,W.contains t=false->s2.F t=s.F t:=fun t a'=>by rw[aT t (F1 mx a'),aI t a']
 cases ex with
 | normal=>obtain⟨j,bb,bo⟩:=bo;exact ⟨j,bb,lS,bo⟩
 | exit j=>exact ⟨bo.1,lS,bo.2⟩
 | ret=>exact ⟨lS,bo⟩
theorem F2 (c:ee):c.within c.writes=true:=List.all_eq_true.2 fun t h=>List.contains_iff_mem.2 h
theorem o8 {id:Nat} {b:ee} {Q:cX->bg->Prop} (n:Nat) (a3:Nat->bg->Prop) (E R:bg->Prop) {s:bg} (h:a3 0 s)
 (round:∀i aD,i<=n->(∀t,b.writes.contains t=false->aD.F t=s.F t)->a3 i aD->cQ G Φ tab Y b aD (ui id n i a3 E R))
 (fin:∀aD,(∀t,b.writes.contains t=false->aD.F t=s.F t)->E aD->Q .normal aD) (ret:∀aD,(∀t,b.writes.contains t=false->aD.F t=s.F t)->R aD->Q .ret aD):cQ G Φ tab Y (.block id (.loop b)) s Q:=
 OY b.writes (F2 b) n a3 E R h round fin ret
theorem na {id:Nat} {b:ee} {Q:cX->bg->Prop} (a3:Nat->bg->Prop) (E R:bg->Prop) (k:Nat) {s:bg} (h:a3 k s)
 (round:∀k aD,(∀t,b.writes.contains t=false->aD.F t=s.F t)->a3 k aD->cQ G Φ tab Y b aD (ug id k a3 E R))
 (fin:∀aD,(∀t,b.writes.contains t=false->aD.F t=s.F t)->E aD->Q .normal aD) (ret:∀aD,(∀t,b.writes.contains t=false->aD.F t=s.F t)->R aD->Q .ret aD):cQ G Φ tab Y (.block id (.loop b)) s Q:=
 OZ b.writes (F2 b) a3 E R k h round fin ret
end
theorem F3 {P:Program} {G:Nat->Option J} {f:FuncId} {A:Type} {pre:A->Prop} {enc:A->List J} {out:A->J} (inj:∀a b,enc a=enc b->out a=out b) (yx:A->Nat)
 (h:∀N,bl P G f (cl (fun a=>pre a/\yx a<N) enc out)->bl P G f (cl (fun a=>pre a/\yx a<N+1) enc out)):bl P G f (cl pre enc out):=by
 have all:∀N,bl P G f (cl (fun a=>pre a/\yx a<N) enc out):=by
  intro N
  induction N with
  | zero=>
    intro args v dn
    obtain⟨a,⟨_,h⟩,_⟩:=wF dn
    exact absurd h (Nat.not_lt_zero _)
  | succ N b_=>exact h N b_
 intro args v dn
 obtain⟨a,ae,h2,rfl⟩:=wF dn
 exact all (yx a+1) args (out a) (cI inj a ⟨ae,Nat.lt_succ_self _⟩ h2.symm)
end Go.Eng
