import Derived.Test.YtemiagcencajeaaGreatDoorXdE2
import Derived.RangeFuncRecord
import Derived.OrdersIn
import Derived.RangeFuncLeaves
import Derived.RangeFuncBox
import Derived.LoopNIn
import Derived.RangeFuncNested
import Derived.Scope
set_option linter.unusedSimpArgs false
set_option linter.unusedVariables false
set_option linter.unusedSectionVars false
namespace Go.Eng
open Go Go.RowKit
section
variable {G:Nat->Option I}
theorem aS.eH {F F':Nat->I} {x:aS} (h:∀t∈x.rd,F t=F' t):x.ev G F=x.ev G F':=by
 cases x with
 | t n=>exact h n (by simp[aS.rd])
 | _=>rfl
theorem w1 {F F':Nat->I} {xs:List aS} (h:∀t∈xs.flatMap aS.rd,F t=F' t):xs.map (aS.ev G F)=xs.map (aS.ev G F'):=by
 apply List.map_congr_left
 intro x ae
 exact aS.eH fun t aN=>h t (List.mem_flatMap.2 ⟨x,ae,aN⟩)
theorem IP {F F':Nat->I}:∀ {ps:List (Nat × Nat × aS)} {cs:List I},(∀t∈ps.flatMap (fun p=>p.2.2.rd),F t=F' t)->eW cs (aS.ev G F) ps=eW cs (aS.ev G F') ps
 | [],cs,_=>rfl
 | (off,sz,x)::ps,cs,h=>by
   have ae:x.ev G F=x.ev G F':=aS.eH fun t aN=>h t (by simp[aN])
   simp only[eW,ae]
   rw[IP (ps:=ps) fun t aN=>h t (by simp only[List.flatMap_cons,List.mem_append];exact .inr aN)]
theorem IQ {F F':Nat->I} {sz:Nat}:∀ {ps:List (Nat × aS)} {es:List I},(∀t∈ps.flatMap (fun p=>p.2.rd),F t=F' t)->eX sz es (aS.ev G F) ps=eX sz es (aS.ev G F') ps
 | [],es,_=>rfl
 | (i,x)::ps,es,h=>by
   have ae:x.ev G F=x.ev G F':=aS.eH fun t aN=>h t (by simp[aN])
   simp only[eX,ae]
   rw[IQ (ps:=ps) fun t aN=>h t (by simp only[List.flatMap_cons,List.mem_append];exact .inr aN)]
theorem Di {F F':Nat->I} {d:Nat} {x:Option aS} (h:∀t∈aS.yU x,F t=F' t):bound d (aS.ev G F) x=bound d (aS.ev G F') x:=by
 cases x with
 | none=>rfl
 | some x=>simp only[bound];rw[aS.eH (G:=G) (F:=F) (F':=F') (x:=x) h]
theorem Ss {F F':Nat->I} {aZ r:Nat} {h:ah} {op:ke} (bt:∀t∈op.reads,F t=F' t):evalOp aZ r (aS.ev G F) h op=evalOp aZ r (aS.ev G F') h op:=by
 cases op<;>simp only[evalOp,ke.reads,List.mem_append] at bt|-
 case mv x=>rw[aS.eH bt]
 case pick c a b=>
  rw[aS.eH (x:=c) fun t aN=>bt t (.inl (.inl aN)),aS.eH (x:=a) fun t aN=>bt t (.inl (.inr aN)),aS.eH (x:=b) fun t aN=>bt t (.inr aN)]
 case box x=>rw[aS.eH bt]
 case build z ps=>rw[IP bt]
 case bsl sz z n ps=>rw[IQ bt]
 case load bS sz x=>rw[aS.eH bt]
 case store sz x y=>rw[aS.eH (x:=x) fun t aN=>bt t (.inl aN),aS.eH (x:=y) fun t aN=>bt t (.inr aN)]
 case bin ty op x y=>rw[aS.eH (x:=x) fun t aN=>bt t (.inl aN),aS.eH (x:=y) fun t aN=>bt t (.inr aN)]
 case eqA uE n x y=>rw[aS.eH (x:=x) fun t aN=>bt t (.inl aN),aS.eH (x:=y) fun t aN=>bt t (.inr aN)]
 case un op x=>rw[aS.eH bt]
 case conv k x=>rw[aS.eH bt]
 case mkfn f a b=>rw[w1 (xs:=a) fun t aN=>bt t (.inl aN),w1 (xs:=b) fun t aN=>bt t (.inr aN)]
 case mksl z sz uF x y=>rw[aS.eH (x:=x) fun t aN=>bt t (.inl aN),aS.eH (x:=y) fun t aN=>bt t (.inr aN)]
 case slice sz x cw ab jN=>
  rw[aS.eH (x:=x) fun t aN=>bt t (.inl (.inl (.inl aN)))]
  simp only[Di (x:=cw) fun t aN=>bt t (.inl (.inl (.inr aN))),Di (x:=ab) fun t aN=>bt t (.inl (.inr aN)),Di (x:=jN) fun t aN=>bt t (.inr aN)]
 case faddr bS off sz x=>rw[aS.eH bt]
 case field bS off sz x=>rw[aS.eH bt]
 case iaddrS sz x y=>rw[aS.eH (x:=x) fun t aN=>bt t (.inl aN),aS.eH (x:=y) fun t aN=>bt t (.inr aN)]
 case iaddrA bS n sz x y=>rw[aS.eH (x:=x) fun t aN=>bt t (.inl aN),aS.eH (x:=y) fun t aN=>bt t (.inr aN)]
 case idxA bS n sz x y=>rw[aS.eH (x:=x) fun t aN=>bt t (.inl aN),aS.eH (x:=y) fun t aN=>bt t (.inr aN)]
 case idxS x y=>rw[aS.eH (x:=x) fun t aN=>bt t (.inl aN),aS.eH (x:=y) fun t aN=>bt t (.inr aN)]
 case extract x i=>rw[aS.eH bt]
 case len s x=>rw[aS.eH bt]
 case mlook x y=>rw[aS.eH (x:=x) fun t aN=>bt t (.inl aN),aS.eH (x:=y) fun t aN=>bt t (.inr aN)]
 case isnil uE x=>rw[aS.eH bt]
 case app sz uF x y=>rw[aS.eH (x:=x) fun t aN=>bt t (.inl aN),aS.eH (x:=y) fun t aN=>bt t (.inr aN)]
 case min xs=>rw[w1 bt]
 case max xs=>rw[w1 bt]
def Dj (aZ r:Nat) (a':aS->I) (h:ah) (op:ke) (v:I) (h':ah):eb->Prop
 | .pure=>h'=h/\∀h2,evalOp aZ r a' h2 op=some (v,h2,.pure)
 | .jv=>∃blk,h'=h.new r blk/\∀h2,evalOp aZ r a' h2 op=some (v,h2.new r blk,.jv)
 | .rd=>h'=h/\∀h2:ah,(∀id,id<aZ->h2.cells id=h.cells id)->evalOp aZ r a' h2 op=some (v,h2,.rd)
 | .wr=>True
 | .l0 id=>h'=h/\id<aZ/\∀h2:ah,h2.cells id=h.cells id->evalOp aZ r a' h2 op=some (v,h2,.l0 id)
 | .lI _=>False
theorem iV {aZ r:Nat} {a':aS->I} {h h':ah} {op:ke} {v:I} {c:eb} (X:Option I) (cL:∀h2,evalOp aZ r a' h2 op=X.map fun v=>(v,h2,.pure))
 (he:evalOp aZ r a' h op=some (v,h',c)):(h'.next,h'.aV)=(h.next,h.aV)/\Dj aZ r a' h op v h' c:=by
 rw[cL] at he
 obtain⟨u,hu,he⟩:=Option.map_eq_some_iff.1 he
 cases he
 exact ⟨rfl,rfl,fun h2=>by rw[cL,hu];rfl⟩
theorem Dk {aZ r:Nat} {a':aS->I} {h h':ah} {op:ke} {v:I} {c:eb} (X:Option (I × List I)) (cL:∀h2,evalOp aZ r a' h2 op=X.map fun p=>(p.1,ah.new h2 r p.2,.jv))
 (he:evalOp aZ r a' h op=some (v,h',c)):(h'.next,h'.aV)=(h.next,h.aV)/\Dj aZ r a' h op v h' c:=by
 rw[cL] at he
 obtain⟨u,hu,he⟩:=Option.map_eq_some_iff.1 he
 cases he
 exact ⟨rfl,u.2,rfl,fun h2=>by rw[cL,hu];rfl⟩
theorem uG {aZ r:Nat} {a':aS->I} {h h':ah} {op:ke} {v:I} {c:eb} (he:evalOp aZ r a' h op=some (v,h',c)):
 (h'.next,h'.aV)=(h.next,h.aV)/\Dj aZ r a' h op v h' c:=by
 cases op
 case mv x=>exact iV (some (a' x)) (fun h2=>rfl) he
 case pick c a b=>
  cases J:a' c<;>first
   | (simp only[evalOp,J] at he;cases he;done)
   | (rename_i t;exact iV (some (if t then a' a else a' b)) (fun h2=>by simp only[evalOp,J];rfl) he)
 case alloc z=>exact Dk (some (.ptr r 0 0,[z])) (fun h2=>rfl) he
 case box x=>
  by_cases ax:(a' x).cells.all I.cd=true
  · exact Dk (some (.ptr r 0 0,[a' x])) (fun h2=>by simp only[evalOp,if_pos ax];rfl) he
  · simp only[evalOp,if_neg ax] at he;cases he
 case build z ps=>exact iV ((eW z a' ps).map I.agg) (fun h2=>by simp only[evalOp,Option.map_map];rfl) he
 case bsl sz z n ps=>
  by_cases ax:z.cells.length=sz/\0<sz/\z.ea=true
  · exact iV ((eX sz (List.replicate n z) a' ps).map fun es=> .sl es true) (fun h2=>by simp only[evalOp,if_pos ax,Option.map_map];rfl) he
  · simp only[evalOp,if_neg ax] at he;cases he
 case load bS sz x=>
  cases ae:a' x<;>first
   | (simp only[evalOp,ae] at he;cases he;done)
   | skip
  · rename_i id idx cN
    simp only[evalOp,ae] at he
    obtain⟨blk,U,he⟩:=Option.bind_eq_some_iff.1 he
    obtain⟨e,h2,he⟩:=Option.bind_eq_some_iff.1 he
    obtain⟨cs,aA,he⟩:=Option.bind_eq_some_iff.1 he
    obtain⟨u,aT,he⟩:=Option.map_eq_some_iff.1 he
    cases he
    refine⟨rfl,?_⟩
    by_cases bz:id<aZ
    · rw[if_pos bz]
      refine⟨rfl,bz,fun cU dF=>?_⟩
      simp only[evalOp,ae,dF,U,Option.bind_some,h2,aA,aT,if_pos bz];rfl
    · rw[if_neg bz];trivial
  · rename_i u
    exact iV ((cut u.cells 0 sz).bind (partOf bS)) (fun h2=>by
     simp only[evalOp,ae]
     cases cut u.cells 0 sz<;>simp) he
 case store sz a w=>
  simp only[evalOp] at he
  split at he
  · split at he<;>try(cases he;done)
    obtain⟨blk,U,he⟩:=Option.bind_eq_some_iff.1 he
    obtain⟨e,h2,he⟩:=Option.bind_eq_some_iff.1 he
    split at he<;>try(cases he;done)
    split at he
    · cases he;exact ⟨rfl,trivial⟩
    · split at he
      · cases he;exact ⟨rfl,trivial⟩
      · cases he
  · cases he
 case bin ty op x y=>exact iV (fw ty op (a' x) (a' y)) (fun h2=>rfl) he
 case mlook x y=>
  cases ae:a' x<;>first
   | (simp only[evalOp,ae] at he;cases he;done)
   | skip
  rename_i m
  cases aQ:a' y<;>first
   | (simp only[evalOp,ae,aQ] at he;cases he;done)
   | skip
  rename_i k n
  cases k<;>first
   | (simp only[evalOp,ae,aQ] at he;cases he;done)
   | (exact iV (some (.bK [match m.lookup n with
       | some f=> .fn f [] []
       | none=> .nilfn,.bool (m.lookup n).isSome])) (fun h2=>by simp only[evalOp,ae,aQ];rfl) he)
 case isnil uE x=>
  cases ae:a' x<;>first
   | (simp only[evalOp,ae] at he;cases he;done)
   | skip
  · rename_i xs ex
    exact iV (if 0<xs.length then some (.bool uE) else none) (fun h2=>by simp only[evalOp,ae];split<;>rfl) he
  · rename_i id off len cap
    exact iV (if 0<len\/0<cap then some (.bool uE) else none) (fun h2=>by simp only[evalOp,ae];split<;>rfl) he
 case eqA uE n x y=>
  cases ae:a' x<;>first
   | (simp only[evalOp,ae] at he;cases he;done)
   | skip
  cases aQ:a' y<;>first
   | (simp only[evalOp,ae,aQ] at he;cases he;done)
   | skip
  rename_i xs ys
  by_cases ak:xs.length=n
  · exact iV ((eV xs ys).map fun b=> .bool (b != uE)) (fun h2=>by simp only[evalOp,ae,aQ,if_pos ak,Option.map_map];rfl) he
  · simp only[evalOp,ae,aQ,if_neg ak] at he;cases he
 case un op x=>exact iV (fx op (a' x)) (fun h2=>rfl) he
 case conv k x=>
  cases ae:a' x<;>first
   | (simp only[evalOp,ae] at he;cases he;done)
   | (rename_i k' n;exact iV (some (.int k (k.wrap n))) (fun h2=>by simp only[evalOp,ae];rfl) he)
 case mkfn f a b=>exact iV (some (.fn f (a.map a') (b.map a'))) (fun h2=>rfl) he
 case mksl z sz bytes l c=>
  cases ae:a' l<;>first
   | (simp only[evalOp,ae] at he;cases he;done)
   | skip
  cases aQ:a' c<;>first
   | (simp only[evalOp,ae,aQ] at he;cases he;done)
   | skip
  rename_i k a k' b
  by_cases ak:0<=a/\a<=b/\b*bytes<=140737488355328/\0<bytes/\z.cells.length=sz/\0<sz/\(z.cells.all I.cd)=true
  · exact Dk (some (.ref r 0 a.toNat b.toNat,List.replicate b.toNat z)) (fun h2=>by simp only[evalOp,ae,aQ,if_pos ak];rfl) he
  · simp only[evalOp,ae,aQ,if_neg ak] at he;cases he
 case slice sz x cw ab jN=>
  cases ae:a' x<;>first
   | (simp only[evalOp,ae] at he;cases he;done)
   | skip
  · rename_i xs ex
    refine iV (match bound 0 a' cw,bound xs.length a' ab,bound xs.length a' jN with
     | some l,some u,some m=>if l<=u/\u<=m/\m<=xs.length/\(l=0\/(xs.all fun e=>e.cells.length == sz)=true) then some (.sl ((xs.drop l).take (u - l)) ((jN.isSome||ex)&&m == u)) else none
     | _,_,_=>none) (fun h2=>?_) he
    simp only[evalOp,ae]
    cases bound 0 a' cw<;>cases bound xs.length a' ab<;>cases bound xs.length a' jN<;>simp only[Option.map_none]
    split<;>rfl
  · rename_i id off len cap
    simp only[evalOp,ae] at he
    split at he<;>try(cases he;done)
    rename_i l u m b1 eo k4
    split at he<;>try(cases he;done)
    rename_i aM
    cases he
    refine⟨rfl,?_⟩
    by_cases bz:id<aZ
    · rw[if_pos bz]
      refine⟨rfl,fun cU dF=>?_⟩
      simp only[evalOp,ae,b1,eo,k4,dF id bz,if_pos aM,if_pos bz]
    · rw[if_neg bz];trivial
 case faddr bS off sz x=>
  cases ae:a' x<;>first
   | (simp only[evalOp,ae] at he;cases he;done)
   | skip
  · rename_i id idx cN
    exact iV (some (.ptr id idx (cN+off))) (fun h2=>by simp only[evalOp,ae];rfl) he
  · rename_i u
    exact iV (((cut u.cells off sz).bind (partOf bS)).map I.e4) (fun h2=>by
     simp only[evalOp,ae]
     cases cut u.cells off sz<;>simp[Function.comp_def]) he
 case field bS off sz x=>
  cases ae:a' x<;>first
   | (simp only[evalOp,ae] at he;cases he;done)
   | skip
  rename_i cs
  exact iV ((cut cs off sz).bind (partOf bS)) (fun h2=>by
   simp only[evalOp,ae]
   cases cut cs off sz<;>simp) he
 case iaddrS sz x i=>
  cases ae:a' x<;>first
   | (simp only[evalOp,ae] at he;cases he;done)
   | skip
  · cases aQ:a' i<;>first
     | (simp only[evalOp,ae,aQ] at he;cases he;done)
     | skip
    rename_i xs ex k n
    refine iV (if 0<=n then (xs[n.toNat]?).bind fun e=>if e.cells.length=sz then some (.e4 e) else none else none) (fun h2=>?_) he
    simp only[evalOp,ae,aQ]
    split
    · cases xs[n.toNat]? with
      | none=>rfl
      | some e=>simp only[Option.bind_some];split<;>rfl
    · rfl
  · cases aQ:a' i<;>first
     | (simp only[evalOp,ae,aQ] at he;cases he;done)
     | skip
    rename_i id off len cap k n
    simp only[evalOp,ae,aQ] at he
    split at he<;>try(cases he;done)
    rename_i aM
    cases he
    refine⟨rfl,?_⟩
    by_cases bz:id<aZ
    · rw[if_pos bz]
      refine⟨rfl,fun cU dF=>?_⟩
      simp only[evalOp,ae,aQ,dF id bz,if_pos aM,if_pos bz]
    · rw[if_neg bz];trivial
 case iaddrA bS n sz x i=>
  cases ae:a' x<;>first
   | (simp only[evalOp,ae] at he;cases he;done)
   | skip
  · cases aQ:a' i<;>first
     | (simp only[evalOp,ae,aQ] at he;cases he;done)
     | skip
    rename_i id idx cN k j
    refine iV (if 0<=j/\j<n then some (.ptr id idx (cN+j.toNat*sz)) else none) (fun h2=>?_) he
    simp only[evalOp,ae,aQ]
    split<;>rfl
  · cases aQ:a' i<;>first
     | (simp only[evalOp,ae,aQ] at he;cases he;done)
     | skip
    rename_i u k j
    refine iV (if 0<=j/\j<n then ((cut u.cells (j.toNat*sz) sz).bind (partOf bS)).map I.e4 else none) (fun h2=>?_) he
    simp only[evalOp,ae,aQ]
    split
    · cases cut u.cells (j.toNat*sz) sz<;>simp[Function.comp_def]
    · rfl
 case idxA bS n sz x i=>
  cases ae:a' x<;>first
   | (simp only[evalOp,ae] at he;cases he;done)
   | skip
  cases aQ:a' i<;>first
   | (simp only[evalOp,ae,aQ] at he;cases he;done)
   | skip
  rename_i cs k j
  refine iV (if 0<=j/\j<n then (cut cs (j.toNat*sz) sz).bind (partOf bS) else none) (fun h2=>?_) he
  simp only[evalOp,ae,aQ]
  split
  · cases cut cs (j.toNat*sz) sz<;>simp
  · rfl
 case idxS x i=>
  cases ae:a' x<;>first
   | (simp only[evalOp,ae] at he;cases he;done)
   | skip
  cases aQ:a' i<;>first
   | (simp only[evalOp,ae,aQ] at he;cases he;done)
   | skip
  rename_i s k j
  refine iV (if 0<=j then (s[j.toNat]?).map fun b=> .int .u8 b.toNat else none) (fun h2=>?_) he
  simp only[evalOp,ae,aQ]
  split
  · simp[Option.map_map,Function.comp_def]
  · rfl
 case extract x i=>
  cases ae:a' x<;>first
   | (simp only[evalOp,ae] at he;cases he;done)
   | skip
  rename_i vs
  exact iV (vs[i]?) (fun h2=>by simp only[evalOp,ae]) he
 case call f as=>simp only[evalOp] at he;cases he
 case len s x=>
  cases ae:a' x<;>first
   | (simp only[evalOp,ae] at he;cases he;done)
   | skip
  · rename_i st
    refine iV (if s=true then some (.int .i64 st.size) else none) (fun h2=>?_) he
    simp only[evalOp,ae];split<;>rfl
  · rename_i xs ex
    refine iV (if s=false then some (.int .i64 xs.length) else none) (fun h2=>?_) he
    simp only[evalOp,ae];split<;>rfl
  · rename_i id off len cap
    refine iV (if s=false then some (.int .i64 len) else none) (fun h2=>?_) he
    simp only[evalOp,ae];split<;>rfl
 case app sz bytes x y=>
  simp only[evalOp] at he
  obtain⟨ys,U,he⟩:=Option.bind_eq_some_iff.1 he
  split at he<;>try(cases he;done)
  rename_i aM
  split at he
  · rename_i xs ex ae
    split at he
    · rename_i j5
      cases he
      refine⟨rfl,?_⟩
      cases aQ:a' y<;>simp only[kG]<;>try trivial
      refine⟨rfl,fun h2=>?_⟩
      rw[aQ] at U
      simp only[elems] at U
      cases U
      simp only[evalOp,aQ,elems,Option.bind_some,if_pos aM,ae,if_pos j5,kG,if_true]
    rename_i j5
    split at he<;>try(cases he;done)
    rename_i kv
    cases he
    refine⟨rfl,?_⟩
    cases aQ:a' y<;>simp only[kG]<;>try trivial
    refine⟨_,rfl,fun h2=>?_⟩
    rw[aQ] at U
    simp only[elems] at U
    cases U
    simp only[evalOp,aQ,elems,Option.bind_some,if_pos aM,ae,if_neg j5,if_pos kv,kG,if_true]
  · rename_i id off len cap ae
    split at he
    · rename_i j5
      cases he
      refine⟨rfl,?_⟩
      cases aQ:a' y<;>simp only[kG]<;>try trivial
      refine⟨rfl,fun h2=>?_⟩
      rw[aQ] at U
      simp only[elems] at U
      cases U
      simp only[evalOp,aQ,elems,Option.bind_some,if_pos aM,ae,if_pos j5,kG,if_true]
    split at he<;>try(cases he;done)
    obtain⟨blk,h2,he⟩:=Option.bind_eq_some_iff.1 he
    split at he<;>try(cases he;done)
    split at he
    · split at he<;>try(cases he;done)
      cases he;exact ⟨rfl,trivial⟩
    · split at he<;>try(cases he;done)
      cases he;exact ⟨rfl,trivial⟩
  · cases he
 case min xs=>exact iV (j2 (fun a b=>if b<a then b else a) (xs.map a')) (fun h2=>rfl) he
 case max xs=>exact iV (j2 (fun a b=>if a<b then b else a) (xs.map a')) (fun h2=>rfl) he
end
end Go.Eng
namespace Go.Eng
open Go Go.RowKit
theorem IS {h h2:ah} {v u:I} {ids:List Nat} (ay:dE h v=some (u,ids)) (J:∀id∈ids,h2.cells id=h.cells id):dE h2 v=some (u,ids):=by
 cases v<;>simp only[dE] at ay|- <;>try(first|exact ay|cases ay)
 rename_i id off len cap
 split at ay<;>try(cases ay;done)
 rename_i blk ad
 split at ay<;>try(cases ay;done)
 rename_i aM
 cases ay
 rw[J id (by simp),ad]
 simp only[if_pos aM]
theorem IT {h h2:ah}:∀ {vs us:List I} {ids:List Nat},eu h vs=some (us,ids)->(∀id∈ids,h2.cells id=h.cells id)->eu h2 vs=some (us,ids)
 | [],us,ids,ay,_=>by simp only[eu] at ay|-;exact ay
 | v::vs,us,ids,ay,J=>by
   simp only[eu] at ay|-
   split at ay<;>try(cases ay;done)
   rename_i kg a mU b U sG
   cases ay
   rw[IS U fun id bz=>J id (by simp[bz]),IT sG fun id bz=>J id (by simp[bz])]
theorem St {h h2:ah} {v u:I} {ids:List Nat} (ay:iU h v=some (u,ids)) (J:∀id∈ids,h2.cells id=h.cells id):iU h2 v=some (u,ids):=by
 cases v<;>simp only[iU] at ay|- <;>try(exact IS ay J)
 obtain⟨p,U,he⟩:=Option.map_eq_some_iff.1 ay
 cases he
 rw[IT U J];rfl
theorem zl {h h2:ah}:∀ {vs us:List I} {ids:List Nat},eh h vs=some (us,ids)->(∀id∈ids,h2.cells id=h.cells id)->eh h2 vs=some (us,ids)
 | [],us,ids,ay,_=>by simp only[eh] at ay|-;exact ay
 | v::vs,us,ids,ay,J=>by
   simp only[eh] at ay|-
   split at ay<;>try(cases ay;done)
   rename_i kg a mU b U sG
   cases ay
   rw[St U fun id bz=>J id (by simp[bz]),zl sG fun id bz=>J id (by simp[bz])]
theorem uH (h:ah) {bD de:Nat} (b1 eo:List I) (bP:bD≠de):(h.new bD b1).new de eo=(h.new de eo).new bD b1:=by
 simp only[ah.new,ah.mk.injEq,and_true]
 funext t
 simp only[au]
 by_cases U:t=bD<;>by_cases h2:t=de<;>simp_all
theorem pd (h:ah) {r id:Nat} (b:List I) (bP:id≠r):(h.new r b).cells id=h.cells id:=by
 simp only[ah.new,au,if_neg bP]
theorem Su {aZ q:Nat} {a':aS->I} {h h':ah} {op:ke} {v:I} {c:eb} {r:Nat} {blk:List I} (he:evalOp aZ q a' h op=some (v,h',c)) (ak:h.cells r=none) (pe:r≠q):
 evalOp aZ q a' (h.new r blk) op=some (v,h'.new r blk,c)/\h'.cells r=none:=by
 have bP:∀ {id b},h.cells id=some b->id≠r:=by rintro id b ad rfl;rw[ak] at ad;cases ad
 have p':∀ {id b},h.cells id=some b->(h.new r blk).cells id=some b:=fun ad=>by rw[pd _ _ (bP ad)];exact ad
 have c3:∀ {sz id},sizedB sz (h.cells id)=true->sizedB sz ((h.new r blk).cells id)=true:=fun {sz id} ax=>by
  cases ad:h.cells id with
  | none=>rw[ad] at ax;cases ax
  | some b=>rw[p' ad,<-ad];exact ax
 have k3:∀ {y ys},elems h y=some ys->elems (h.new r blk) y=some ys:=fun {y ys} aQ=>by
  cases y<;>simp only[elems] at aQ|- <;>try(first|exact aQ|cases aQ)
  split at aQ<;>try(cases aQ;done)
  rename_i b ad
  rw[p' ad];exact aQ
 obtain⟨_,E⟩:=uG he
 have pu:c= .pure->evalOp aZ q a' (h.new r blk) op=some (v,h'.new r blk,c)/\h'.cells r=none:=by
  rintro rfl
  obtain⟨rfl,av⟩:=E
  exact ⟨av _,ak⟩
 have jv:c= .jv->evalOp aZ q a' (h.new r blk) op=some (v,h'.new r blk,c)/\h'.cells r=none:=by
  rintro rfl
  obtain⟨eo,rfl,av⟩:=E
  exact ⟨by rw[av,uH _ _ _ pe],by rw[pd _ _ pe];exact ak⟩
 clear E
 cases op
 case load bS sz x=>
  cases ae:a' x<;>(try(simp only[evalOp,ae] at he;cases he;done))
  · rename_i id idx cN
    simp only[evalOp,ae] at he|-
    obtain⟨b,ad,he⟩:=Option.bind_eq_some_iff.1 he
    obtain⟨e,U,he⟩:=Option.bind_eq_some_iff.1 he
    obtain⟨cs,h2,he⟩:=Option.bind_eq_some_iff.1 he
    obtain⟨u,aA,he⟩:=Option.map_eq_some_iff.1 he
    cases he
    exact ⟨by simp only[p' ad,Option.bind_some,U,h2,aA,Option.map_some],ak⟩
  · refine pu ?_
    simp only[evalOp,ae] at he
    obtain⟨cs,h2,he⟩:=Option.bind_eq_some_iff.1 he
    obtain⟨u,aA,he⟩:=Option.map_eq_some_iff.1 he
    cases he;rfl
 case store sz a x=>
  cases ae:a' a<;>(try(simp only[evalOp,ae] at he;cases he;done))
  rename_i id idx cN
  simp only[evalOp,ae] at he|-
  split at he<;>try(cases he;done)
  rename_i ax
  obtain⟨b,ad,he⟩:=Option.bind_eq_some_iff.1 he
  obtain⟨e,U,he⟩:=Option.bind_eq_some_iff.1 he
  have rf:=bP ad
  split at he<;>try(cases he;done)
  rename_i aM
  rw[if_neg (show ¬(h.new r blk).shut id=true from ax),p' ad]
  simp only[Option.bind_some,U,if_pos aM]
  split at he
  · cases he
    exact ⟨by rw[uH _ _ _ (Ne.symm rf)],by rw[pd _ _ (Ne.symm rf)];exact ak⟩
  · split at he<;>try(cases he;done)
    cases he
    exact ⟨by rw[uH _ _ _ (Ne.symm rf)],by rw[pd _ _ (Ne.symm rf)];exact ak⟩
 case slice sz x cw ab jN=>
  cases ae:a' x<;>(try(simp only[evalOp,ae] at he;cases he;done))
  · refine pu ?_
    simp only[evalOp,ae] at he
    split at he<;>try(cases he;done)
    split at he<;>try(cases he;done)
    cases he;rfl
  · rename_i id off len cap
    simp only[evalOp,ae] at he|-
    split at he<;>try(cases he;done)
    split at he<;>try(cases he;done)
    rename_i aM
    cases he
    rw[if_pos ⟨aM.1,aM.2.1,aM.2.2.1,aM.2.2.2.imp (fun h=>h) c3⟩]
    exact ⟨rfl,ak⟩
 case iaddrS sz x i=>
  cases ae:a' x<;>(try(simp only[evalOp,ae] at he;cases he;done))
  · refine pu ?_
    cases ab:a' i<;>(try(simp only[evalOp,ae,ab] at he;cases he;done))
    simp only[evalOp,ae,ab] at he
    split at he<;>try(cases he;done)
    obtain⟨e,U,he⟩:=Option.bind_eq_some_iff.1 he
    split at he<;>try(cases he;done)
    cases he;rfl
  · rename_i id off len cap
    cases ab:a' i<;>(try(simp only[evalOp,ae,ab] at he;cases he;done))
    simp only[evalOp,ae,ab] at he|-
    split at he<;>try(cases he;done)
    rename_i aM
    cases he
    rw[if_pos ⟨aM.1,aM.2.1,c3 aM.2.2⟩]
    exact ⟨rfl,ak⟩
 case app sz bytes x y=>
  simp only[evalOp] at he|-
  obtain⟨ys,aQ,he⟩:=Option.bind_eq_some_iff.1 he
  simp only[k3 aQ,Option.bind_some]
  split at he<;>try(cases he;done)
  rename_i aM
  rw[if_pos aM]
  cases ae:a' x<;>(try(simp only[ae] at he;cases he;done))
  · simp only[ae] at he|-
    split at he
    · rename_i aG
      cases he
      rw[if_pos aG];exact ⟨rfl,ak⟩
    · rename_i aG
      split at he<;>try(cases he;done)
      rename_i U
      cases he
      rw[if_neg aG,if_pos U]
      exact ⟨by rw[uH _ _ _ pe],by rw[pd _ _ pe];exact ak⟩
  · rename_i id off len cap
    simp only[ae] at he|-
    split at he
    · rename_i aG
      cases he
      rw[if_pos aG];exact ⟨rfl,ak⟩
    · rename_i aG
      split at he<;>try(cases he;done)
      rename_i ax
      obtain⟨b,ad,he⟩:=Option.bind_eq_some_iff.1 he
      have rf:=bP ad
      rw[if_neg aG,if_neg (show ¬(h.new r blk).shut id=true from ax),p' ad]
      simp only[Option.bind_some]
      split at he<;>try(cases he;done)
      rename_i U
      rw[if_pos U]
      split at he
      · rename_i h2
        rw[if_pos h2]
        split at he<;>try(cases he;done)
        rename_i aA
        cases he
        rw[if_pos aA]
        exact ⟨by rw[uH _ _ _ (Ne.symm rf)],by rw[pd _ _ (Ne.symm rf)];exact ak⟩
      · rename_i h2
        rw[if_neg h2]
        split at he<;>try(cases he;done)
        rename_i aA
        cases he
        rw[if_pos aA]
        refine⟨?_,by simp only[au];rw[if_neg pe,if_neg (Ne.symm rf)];exact ak⟩
        simp only[ah.new,Option.some.injEq,Prod.mk.injEq,ah.mk.injEq,and_true,true_and]
        funext t
        simp only[au]
        by_cases t1:t=r<;>by_cases t2:t=id<;>by_cases t3:t=q<;>simp_all
 all_goals
  cases c with
  | pure=>exact pu rfl
  | jv=>exact jv rfl
  | _=>
    exfalso
    simp only[evalOp] at he
    repeat' split at he
    all_goals first
     | (cases he;done)
     | (obtain⟨_,_,he⟩:=Option.map_eq_some_iff.1 he;cases he;done)
     | (obtain⟨_,_,he⟩:=Option.bind_eq_some_iff.1 he;obtain⟨_,_,he⟩:=Option.map_eq_some_iff.1 he;cases he;done)
     | (obtain⟨_,_,he⟩:=Option.bind_eq_some_iff.1 he;split at he<;>cases he;done)
theorem IU {h:ah} {v u:I} {ids:List Nat} (ay:dE h v=some (u,ids)):∀id∈ids,∃b,h.cells id=some b:=by
 cases v<;>simp only[dE] at ay<;>try(first|(cases ay;done)|(cases ay;intro id bz;cases bz;done))
 split at ay<;>try(cases ay;done)
 rename_i b ad
 split at ay<;>try(cases ay;done)
 cases ay
 intro id bz
 rw[List.mem_singleton] at bz
 subst bz
 exact ⟨b,ad⟩
theorem IV {h:ah}:∀ {vs us:List I} {ids:List Nat},eu h vs=some (us,ids)->∀id∈ids,∃b,h.cells id=some b
 | [],us,ids,ay=>by simp only[eu] at ay;cases ay;intro id bz;cases bz
 | v::vs,us,ids,ay=>by
   simp only[eu] at ay
   split at ay<;>try(cases ay;done)
   rename_i kg a mU b U sG
   cases ay
   intro id bz
   rcases List.mem_append.1 bz with bz|bz
   · exact IU U id bz
   · exact IV sG id bz
theorem Sv {h:ah} {v u:I} {ids:List Nat} (ay:iU h v=some (u,ids)):∀id∈ids,∃b,h.cells id=some b:=by
 cases v<;>simp only[iU] at ay<;>try(exact IU ay)
 obtain⟨p,U,he⟩:=Option.map_eq_some_iff.1 ay
 cases he
 exact IV U
theorem IW {h:ah}:∀ {vs us:List I} {ids:List Nat},eh h vs=some (us,ids)->∀id∈ids,∃b,h.cells id=some b
 | [],us,ids,ay=>by simp only[eh] at ay;cases ay;intro id bz;cases bz
 | v::vs,us,ids,ay=>by
   simp only[eh] at ay
   split at ay<;>try(cases ay;done)
   rename_i kg a mU b U sG
   cases ay
   intro id bz
   rcases List.mem_append.1 bz with bz|bz
   · exact Sv U id bz
   · exact IW sG id bz
theorem Sw {h:ah} {vs us:List I} {ids:List Nat} {r:Nat} {blk:List I} (ay:eh h vs=some (us,ids)) (ak:h.cells r=none):eh (h.new r blk) vs=some (us,ids):=
 zl ay fun id bz=>pd _ _ (by
  rintro rfl
  obtain⟨b,ad⟩:=IW ay _ bz
  rw[ak] at ad;cases ad)
def rh (ch:k2->List I->ah->Option (I × ah)):Prop:=
 ∀t args h v h' r blk,ch t args h=some (v,h')->h.cells r=none->r<h.next->ch t args (h.new r blk)=some (v,h'.new r blk)/\h'.cells r=none/\h.next<=h'.next
theorem Sx {aZ:Nat} {h h':ah} {r:Nat} {blk:List I} (ak:h.cells r=none) (pf:h'.cells r=none):q3 aZ (h.new r blk) (h'.new r blk)=q3 aZ h h':=by
 funext id
 simp only[q3]
 by_cases e:id=r
 · subst e
   simp only[ah.new,au,if_true,ak,pf,yW]
 · rw[pd _ _ e,pd _ _ e]
theorem IX {G:Nat->Option I} {tab:FuncId->Option (List I->Option I)} {ch:k2->List I->ah->Option (I × ah)} (bb:rh ch) {aZ q:Nat} {e:aU} {s ao:aL} {c:eb} {r:Nat} {blk:List I}
 (he:cX G tab ch aZ q e s=some (ao,c)) (ak:s.h.cells r=none) (aR:r<s.h.next) (pe:r≠q):
 cX G tab ch aZ q e ⟨s.F,s.h.new r blk⟩=some (⟨ao.F,ao.h.new r blk⟩,c)/\ao.h.cells r=none/\s.h.next<=ao.h.next:=by
 unfold cX at he|-
 split at he
 · split at he
   · split at he
     · split at he<;>try(cases he;done)
       rename_i vs ids ay
       obtain⟨v,an,he⟩:=Option.map_eq_some_iff.1 he
       cases he
       simp_all only
       refine⟨?_,ak,Nat.le_refl _⟩
       simp only[Sw ay ak,an,Option.map_some]
       rfl
     · obtain⟨p,an,he⟩:=Option.map_eq_some_iff.1 he
       obtain⟨v,h'⟩:=p
       cases he
       obtain⟨bu,ca,c5⟩:=bb _ _ _ _ _ r blk an ak aR
       simp_all only
       refine⟨?_,by first|exact ca|trivial,by first|exact c5|trivial⟩
       simp only[bu,Option.map_some,Sx ak ca]
   · obtain⟨p,an,he⟩:=Option.map_eq_some_iff.1 he
     obtain⟨v,h'⟩:=p
     cases he
     obtain⟨bu,ca,c5⟩:=bb _ _ _ _ _ r blk an ak aR
     simp_all only
     exact ⟨by simp only[bu,Option.map_some],by first|exact ca|trivial,by first|exact c5|trivial⟩
   · cases he
 · obtain⟨p,an,he⟩:=Option.map_eq_some_iff.1 he
   obtain⟨v,h',c'⟩:=p
   cases he
   obtain⟨bu,ca⟩:=Su (blk:=blk) an ak pe
   have c5:=(uG an).1
   simp only[Prod.mk.injEq] at c5
   exact ⟨by simp only[bu,Option.map_some],ca,by simp only[c5.1];exact Nat.le_refl _⟩
theorem Dl {G:Nat->Option I} {tab:FuncId->Option (List I->Option I)} {ch:k2->List I->ah->Option (I × ah)} (bb:rh ch) {aZ q:Nat} {e:aU} {s ao:aL} {c:eb} {r:Nat} {blk:List I}
 (he:cB G tab ch aZ q e s=some (ao,c)) (ak:s.h.cells r=none) (aR:r<s.h.next) (pe:r≠q):
 cB G tab ch aZ q e ⟨s.F,s.h.new r blk⟩=some (⟨ao.F,ao.h.new r blk⟩,c)/\ao.h.cells r=none/\s.h.next<=ao.h.next:=by
 unfold cB at he|-
 split at he
 · exact IX bb he ak aR pe
 · split at he
   · rename_i b ad
     split at he
     · rename_i hw
       simp only[ad,if_pos hw]
       exact IX bb he ak aR pe
     · rename_i hw
       cases he
       simp only[ad,if_neg hw]
       exact ⟨by first|rfl|trivial,ak,Nat.le_refl _⟩
   · rename_i ad
     cases he
     simp only[ad]
     exact ⟨by first|rfl|trivial,ak,Nat.le_refl _⟩
   · cases he
theorem sH (h:ah):h.close []=h:=by
 cases h;simp[ah.close]
section
variable {G:Nat->Option I} {tab:FuncId->Option (List I->Option I)} {ch:k2->List I->ah->Option (I × ah)}
def IY (G:Nat->Option I) (tab:FuncId->Option (List I->Option I)) (ch:k2->List I->ah->Option (I × ah)) (aZ r:Nat) (e:aU) (s:aL) (v:I) (h':ah):eb->Prop
 | .pure=>h'=s.h/\∀cG h2,(∀t∈e.reads,cG t=s.F t)->cB G tab ch aZ r e ⟨cG,h2⟩=some (⟨cA cG e.dst v,h2⟩,.pure)
 | .jv=>∃blk,h'=s.h.new r blk/\∀cG h2,(∀t∈e.reads,cG t=s.F t)->cB G tab ch aZ r e ⟨cG,h2⟩=some (⟨cA cG e.dst v,h2.new r blk⟩,.jv)
 | .rd=>∃ids,h'=s.h.close ids/\∀cG (h2:ah),(∀t∈e.reads,cG t=s.F t)->(∀id,id<aZ->h2.cells id=s.h.cells id)->cB G tab ch aZ r e ⟨cG,h2⟩=some (⟨cA cG e.dst v,h2.close ids⟩,.rd)
 | .wr=>∀cG,(∀t∈e.reads,cG t=s.F t)->cB G tab ch aZ r e ⟨cG,s.h⟩=some (⟨cA cG e.dst v,h'⟩,.wr)
 | .l0 id=>h'=s.h/\id<aZ/\∀cG (h2:ah),(∀t∈e.reads,cG t=s.F t)->h2.cells id=s.h.cells id->cB G tab ch aZ r e ⟨cG,h2⟩=some (⟨cA cG e.dst v,h2⟩,.l0 id)
 | .lI q2=>(∀id,q2 id=true->h'.cells id=s.h.cells id)/\∀cG,(∀t∈e.reads,cG t=s.F t)->cB G tab ch aZ r e ⟨cG,s.h⟩=some (⟨cA cG e.dst v,h'⟩,.lI q2)
theorem IZ {aZ r:Nat} {e:aU} {s ao:aL} {c:eb} (aY:cX G tab ch aZ r e s=some (ao,c))
 (cx:∀cG h2,(∀t∈e.reads,cG t=s.F t)->cB G tab ch aZ r e ⟨cG,h2⟩=cX G tab ch aZ r e ⟨cG,h2⟩):
 ∃v h',ao=⟨cA s.F e.dst v,h'⟩/\IY G tab ch aZ r e s v h' c:=by
 have I0:∀t∈e.op.reads,t∈e.reads:=fun t aN=>by simp only[aU.reads,List.mem_append];exact .inr aN
 by_cases jB:∃f args,e.op= .call f args
 · obtain⟨f,args,cL⟩:=jB
   have w2:∀cG,(∀t∈e.reads,cG t=s.F t)->f.ev G cG=f.ev G s.F/\args.map (aS.ev G cG)=args.map (aS.ev G s.F):=by
    intro cG h2
    have aA:∀t∈e.op.reads,cG t=s.F t:=fun t aN=>h2 t (I0 t aN)
    rw[cL] at aA
    simp only[ke.reads,List.mem_append] at aA
    exact ⟨aS.eH fun t aN=>aA t (.inl aN),w1 fun t aN=>aA t (.inr aN)⟩
   unfold cX at aY
   simp only[cL] at aY
   split at aY<;>try(cases aY;done)
   rotate_left
   · rename_i id bb
     obtain⟨p,an,aY⟩:=Option.map_eq_some_iff.1 aY
     cases aY
     refine⟨p.1,p.2,rfl,fun cG dF=>?_⟩
     rw[cx cG s.h dF]
     obtain⟨aq,av⟩:=w2 cG dF
     unfold cX
     simp only[cL,aq,bb,av,an,Option.map_some]
   rename_i n first caps bb
   split at aY
   · rename_i T cD
     split at aY<;>try(cases aY;done)
     rename_i vs ids ay
     obtain⟨v,an,aY⟩:=Option.map_eq_some_iff.1 aY
     cases aY
     refine⟨v,_,rfl,?_⟩
     by_cases ab:ids.isEmpty=true
     · rw[if_pos ab]
       have Sy:ids= []:=by simpa using ab
       subst Sy
       refine⟨sH _,fun cG h2 dF=>?_⟩
       rw[cx cG h2 dF]
       obtain⟨aq,av⟩:=w2 cG dF
       unfold cX
       simp only[cL,aq,bb,cD,av,zl ay (h2:=h2) (fun id bz=>absurd bz (by simp)),an,Option.map_some,sH]
       rfl
     · rw[if_neg ab]
       by_cases ak:ids.all (fun i=>decide (i<aZ))=true
       · rw[if_pos ak]
         refine⟨ids,rfl,fun cG h2 dF J=>?_⟩
         rw[cx cG h2 dF]
         obtain⟨aq,av⟩:=w2 cG dF
         unfold cX
         simp only[cL,aq,bb,cD,av,zl ay (h2:=h2) (fun id bz=>J id (by simpa using List.all_eq_true.1 ak id bz)),an,Option.map_some,if_neg ab,if_pos ak]
       · rw[if_neg ak]
         intro cG dF
         rw[cx cG s.h dF]
         obtain⟨aq,av⟩:=w2 cG dF
         unfold cX
         simp only[cL,aq,bb,cD,av,ay,an,Option.map_some,if_neg ab,if_neg ak]
   · rename_i cD
     obtain⟨p,an,aY⟩:=Option.map_eq_some_iff.1 aY
     cases aY
     refine⟨p.1,p.2,rfl,fun id ag=>?_,fun cG dF=>?_⟩
     · simp only[q3,Bool.and_eq_true] at ag
       exact (Ru ag.2).symm
     rw[cx cG s.h dF]
     obtain⟨aq,av⟩:=w2 cG dF
     unfold cX
     simp only[cL,aq,bb,cD,av,an,Option.map_some]
 · have sF:∀kM,cX G tab ch aZ r e kM=(evalOp aZ r (aS.ev G kM.F) kM.h e.op).map fun(v,h',c)=>(⟨cA kM.F e.dst v,h'⟩,c):=by
    intro kM
    unfold cX
    split
    · exact absurd ⟨_,_,‹_›⟩ jB
    · rfl
   rw[sF] at aY
   obtain⟨p,aF,aY⟩:=Option.map_eq_some_iff.1 aY
   obtain⟨v,h',cO⟩:=p
   have Dm:(⟨cA s.F e.dst v,h'⟩:aL)=ao:=congrArg Prod.fst aY
   have Sz:cO=c:=congrArg Prod.snd aY
   subst Dm;subst Sz
   refine⟨v,h',rfl,?_⟩
   obtain⟨_,E⟩:=uG aF
   have key:∀cG h2,(∀t∈e.reads,cG t=s.F t)->cB G tab ch aZ r e ⟨cG,h2⟩=(evalOp aZ r (aS.ev G s.F) h2 e.op).map fun(v,h',c)=>(⟨cA cG e.dst v,h'⟩,c):=by
    intro cG h2 dF
    rw[cx cG h2 dF,sF]
    simp only
    rw[Ss (F:=cG) (F':=s.F) fun t aN=>dF t (I0 t aN)]
   cases cO with
   | pure=>
     obtain⟨aq,av⟩:=E
     exact ⟨aq,fun cG h2 dF=>by rw[key cG h2 dF,av h2];rfl⟩
   | jv=>
     obtain⟨blk,aq,av⟩:=E
     exact ⟨blk,aq,fun cG h2 dF=>by rw[key cG h2 dF,av h2];rfl⟩
   | rd=>
     obtain⟨aq,av⟩:=E
     refine⟨[],by rw[sH];exact aq,fun cG h2 dF J=>?_⟩
     rw[key cG h2 dF,av h2 J,sH];rfl
   | wr=>exact fun cG dF=>by rw[key cG s.h dF,aF];rfl
   | l0 id=>
     obtain⟨aq,aW,av⟩:=E
     exact ⟨aq,aW,fun cG h2 dF J=>by rw[key cG h2 dF,av h2 J];rfl⟩
   | lI k=>exact E.elim
theorem I1 {aZ r:Nat} {e:aU} {s ao:aL} {c:eb} (aY:cB G tab ch aZ r e s=some (ao,c)):
 ∃v h',ao=⟨cA s.F e.dst v,h'⟩/\IY G tab ch aZ r e s v h' c:=by
 cases ri:e.guard with
 | none=>
   have aR:∀kM,cB G tab ch aZ r e kM=cX G tab ch aZ r e kM:=fun kM=>by unfold cB;rw[ri]
   rw[aR] at aY
   exact IZ aY fun cG h2 _=>aR _
 | some g=>
   obtain⟨t,want⟩:=g
   have aN:t∈e.reads:=by simp[aU.reads,ri]
   cases ad:s.F t<;>first
    | (unfold cB at aY;simp only[ri,ad] at aY;cases aY;done)
    | skip
   · unfold cB at aY
     simp only[ri,ad] at aY
     cases aY
     refine⟨.kF,s.h,rfl,rfl,fun cG h2 dF=>?_⟩
     unfold cB;simp only[ri,dF t aN,ad]
   rename_i b
   by_cases ox:b=want
   · have aR:∀cG h2,(∀t∈e.reads,cG t=s.F t)->cB G tab ch aZ r e ⟨cG,h2⟩=cX G tab ch aZ r e ⟨cG,h2⟩:=fun cG h2 dF=>by
      unfold cB;simp only[ri,dF t aN,ad,if_pos ox]
     have aG:=aR s.F s.h (fun _ _=>rfl)
     have:cB G tab ch aZ r e s=cX G tab ch aZ r e s:=aG
     rw[this] at aY
     exact IZ aY aR
   · unfold cB at aY
     simp only[ri,ad,if_neg ox] at aY
     cases aY
     refine⟨.kF,s.h,rfl,rfl,fun cG h2 dF=>?_⟩
     unfold cB;simp only[ri,dF t aN,ad,if_neg ox]
theorem SA {F:Nat->I} {d e:Option Nat} {u v:I} (h:∀x,d=some x->e≠some x):cA (cA F d u) e v=cA (cA F e v) d u:=by
 cases d with
 | none=>rfl
 | some x=>
   cases e with
   | none=>rfl
   | some y=>
     have bP:x≠y:=fun q=>h x rfl (by rw[q])
     funext t
     simp only[cA,au]
     by_cases U:t=x<;>by_cases h2:t=y<;>simp_all
theorem I2 {F:Nat->I} {d:Option Nat} {v:I} {t:Nat} (h:∀x,d=some x->t≠x):cA F d v t=F t:=by
 cases d with
 | none=>rfl
 | some x=>simp[cA,au,h x rfl]
theorem apart_spec {e f:aU} (h:e.apart f=true):(∀x,e.dst=some x->x ∉ f.reads)/\(∀x,e.dst=some x->f.dst≠some x)/\(∀x,f.dst=some x->x ∉ e.reads):=by
 refine⟨fun d a3=>?_,fun d a3=>?_,fun d a3=>?_⟩<;>simp[aU.apart,a3] at h
 · exact h.1.1
 · exact h.1.2
 · exact h.2
theorem SB (h:ah) (a b:List Nat):(h.close a).close b=(h.close b).close a:=by
 simp only[ah.close,ah.mk.injEq,true_and,and_true]
 funext t
 cases h.shut t<;>cases a.contains t<;>cases b.contains t<;>rfl
theorem SC {aZ o_ jR:Nat} {sI sJ:aU} {s s1 s2:aL} {ci qa:eb} (U:cB G tab ch aZ o_ sI s=some (s1,ci)) (h2:cB G tab ch aZ jR sJ s1=some (s2,qa))
 (I3:sI.apart sJ=true) (J:kH ci qa=true) (aR:o_≠jR) (ab:aZ<=o_) (aB:aZ<=jR) (w3:rh ch) (SD:s.h.cells jR=none) (SE:jR<s.h.next):
 ∃w4,cB G tab ch aZ jR sJ s=some (w4,qa)/\cB G tab ch aZ o_ sI w4=some (s2,ci):=by
 obtain⟨a1,eZ,zm⟩:=apart_spec I3
 obtain⟨Dn,bV,rfl,pg⟩:=I1 U
 obtain⟨jC,ks,rfl,jS⟩:=I1 h2
 have j6:∀t∈sJ.reads,s.F t=(cA s.F sI.dst Dn) t:=fun t aN=>(I2 fun x ae=>by rintro rfl;exact a1 _ ae aN).symm
 have j7:∀v t,t∈sI.reads->(cA s.F sJ.dst v) t=s.F t:=fun v t aN=>I2 fun x ae=>by rintro rfl;exact zm _ ae aN
 have jT:cA (cA s.F sJ.dst jC) sI.dst Dn=cA (cA s.F sI.dst Dn) sJ.dst jC:=(SA fun x ae=>eZ x ae).symm
 cases ci with
 | pure=>
   obtain⟨aq,av⟩:=pg
   subst aq
   cases qa with
   | pure=>
     obtain⟨aW,bT⟩:=jS
     subst aW
     exact ⟨_,bT s.F s.h j6,by rw[av _ _ (j7 jC),jT]⟩
   | jv=>
     obtain⟨blk,aW,bT⟩:=jS
     subst aW
     exact ⟨_,bT s.F s.h j6,by rw[av _ _ (j7 jC),jT]⟩
   | rd=>
     obtain⟨ids,aW,bT⟩:=jS
     subst aW
     exact ⟨_,bT s.F s.h j6 (fun _ _=>rfl),by rw[av _ _ (j7 jC),jT]⟩
   | wr=>exact ⟨_,jS s.F j6,by rw[av _ _ (j7 jC),jT]⟩
   | l0 id=>
     obtain⟨aW,fj,bT⟩:=jS
     subst aW
     exact ⟨_,bT s.F s.h j6 rfl,by rw[av _ _ (j7 jC),jT]⟩
   | lI k=>exact ⟨_,jS.2 s.F j6,by rw[av _ _ (j7 jC),jT]⟩
 | jv=>
   obtain⟨blk,aq,av⟩:=pg
   subst aq
   cases qa with
   | pure=>
     obtain⟨aW,bT⟩:=jS
     subst aW
     exact ⟨_,bT s.F s.h j6,by rw[av _ _ (j7 jC),jT]⟩
   | jv=>
     obtain⟨uI,aW,bT⟩:=jS
     subst aW
     exact ⟨_,bT s.F s.h j6,by rw[av _ _ (j7 jC),jT,uH _ _ _ aR]⟩
   | rd=>
     obtain⟨ids,aW,bT⟩:=jS
     subst aW
     have aM:∀id,id<aZ->s.h.cells id=(s.h.new o_ blk).cells id:=fun id bz=>by
      simp only[ah.new,au];rw[if_neg (by omega)]
     exact ⟨_,bT s.F s.h j6 aM,by rw[av _ _ (j7 jC),jT];rfl⟩
   | wr=>simp[kH] at J
   | l0 id=>
     obtain⟨aW,fj,bT⟩:=jS
     subst aW
     have aM:s.h.cells id=(s.h.new o_ blk).cells id:=by
      simp only[ah.new,au];rw[if_neg (by omega)]
     exact ⟨_,bT s.F s.h j6 aM,by rw[av _ _ (j7 jC),jT]⟩
   | lI k=>simp[kH] at J
 | rd=>
   obtain⟨ids,aq,av⟩:=pg
   subst aq
   cases qa with
   | pure=>
     obtain⟨aW,bT⟩:=jS
     subst aW
     exact ⟨_,bT s.F s.h j6,by rw[av _ _ (j7 jC) (fun _ _=>rfl),jT]⟩
   | jv=>
     obtain⟨uI,aW,bT⟩:=jS
     subst aW
     have aM:∀id,id<aZ->(s.h.new jR uI).cells id=s.h.cells id:=fun id bz=>by
      simp only[ah.new,au];rw[if_neg (by omega)]
     exact ⟨_,bT s.F s.h j6,by rw[av _ _ (j7 jC) aM,jT];rfl⟩
   | rd=>
     obtain⟨Dp,aW,bT⟩:=jS
     subst aW
     exact ⟨_,bT s.F s.h j6 (fun _ _=>rfl),by rw[av _ (s.h.close Dp) (j7 jC) (fun _ _=>rfl),jT,SB]⟩
   | wr=>simp[kH] at J
   | l0 id=>
     obtain⟨aW,fj,bT⟩:=jS
     subst aW
     exact ⟨_,bT s.F s.h j6 rfl,by rw[av _ s.h (j7 jC) (fun _ _=>rfl),jT]⟩
   | lI k=>simp[kH] at J
 | l0 id=>
   obtain⟨aq,fj,av⟩:=pg
   subst aq
   cases qa with
   | pure=>
     obtain⟨aW,bT⟩:=jS
     subst aW
     exact ⟨_,bT s.F s.h j6,by rw[av _ _ (j7 jC) rfl,jT]⟩
   | jv=>
     obtain⟨uI,aW,bT⟩:=jS
     subst aW
     have aM:(s.h.new jR uI).cells id=s.h.cells id:=by
      simp only[ah.new,au];rw[if_neg (by omega)]
     exact ⟨_,bT s.F s.h j6,by rw[av _ _ (j7 jC) aM,jT]⟩
   | rd=>
     obtain⟨Dp,aW,bT⟩:=jS
     subst aW
     exact ⟨_,bT s.F s.h j6 (fun _ _=>rfl),by rw[av _ (s.h.close Dp) (j7 jC) rfl,jT]⟩
   | wr=>simp[kH] at J
   | l0 ajc=>
     obtain⟨aW,lz,bT⟩:=jS
     subst aW
     exact ⟨_,bT s.F s.h j6 rfl,by rw[av _ _ (j7 jC) rfl,jT]⟩
   | lI k=>
     exact ⟨_,jS.2 s.F j6,by rw[av _ _ (j7 jC) (jS.1 id J),jT]⟩
 | lI k=>
   obtain⟨kN,pg⟩:=pg
   cases qa with
   | pure=>
     obtain⟨aW,bT⟩:=jS
     subst aW
     exact ⟨_,bT s.F s.h j6,by rw[pg _ (j7 jC),jT]⟩
   | jv=>
     obtain⟨uI,aW,bT⟩:=jS
     subst aW
     have fj:=(Dl (blk:=uI) w3 (pg _ (j7 jC)) SD SE (Ne.symm aR)).1
     exact ⟨_,bT s.F s.h j6,by rw[jT] at fj;exact fj⟩
   | rd=>simp[kH] at J
   | wr=>simp[kH] at J
   | l0 id=>
     obtain⟨aW,fj,bT⟩:=jS
     subst aW
     exact ⟨_,bT s.F s.h j6 (kN id J).symm,by rw[pg _ (j7 jC),jT]⟩
   | lI k=>simp[kH] at J
 | wr=>
   cases qa with
   | pure=>
     obtain⟨aW,bT⟩:=jS
     subst aW
     exact ⟨_,bT s.F s.h j6,by rw[pg _ (j7 jC),jT]⟩
   | jv=>simp[kH] at J
   | rd=>simp[kH] at J
   | wr=>simp[kH] at J
   | l0 id=>simp[kH] at J
   | lI k=>simp[kH] at J
theorem I4 {aZ:Nat} {e:aU} {i:Nat}:∀ {fD k5:List (aU × Nat)} {s ao:aL} {cs:List eb},cT G tab ch aZ (fD++(e,i)::k5) s=some (ao,cs)->
 (∀k (ag:k<fD.length) (j4:k<cs.length) (az:fD.length<cs.length),fD[k].1.apart e=true/\kH cs[k] cs[fD.length]=true/\fD[k].2≠i)->rh ch->s.h.cells (aZ+i)=none->aZ+i<s.h.next->
 ∃s1 c b8 bQ,cB G tab ch aZ (aZ+i) e s=some (s1,c)/\cT G tab ch aZ (fD++k5) s1=some (ao,b8++bQ)/\cs=b8++c::bQ/\b8.length=fD.length
 | [],k5,s,ao,cs,h,_,_,_,_=>by
   simp only[List.nil_append,cT] at h
   split at h<;>try(cases h;done)
   rename_i s1 c U
   obtain⟨p,h2,aA⟩:=Option.map_eq_some_iff.1 h
   cases aA
   exact ⟨s1,c,[],p.2,U,h2,rfl,rfl⟩
 | (bJ,i0)::fD,k5,s,ao,cs,h,aM,w3,ph,I5=>by
   simp only[List.cons_append,cT] at h
   split at h<;>try(cases h;done)
   rename_i uJ cO U
   obtain⟨p,h2,aA⟩:=Option.map_eq_some_iff.1 h
   obtain⟨CM,jO⟩:=p
   cases aA
   have hlen:∀ {L:List (aU × Nat)} {s ao:aL} {cs:List eb},cT G tab ch aZ L s=some (ao,cs)->cs.length=L.length:=by
    intro L
    induction L with
    | nil=>intro s ao cs h;simp only[cT] at h;cases h;rfl
    | cons q L a6=>
      intro s ao cs h
      simp only[cT] at h
      split at h<;>try(cases h;done)
      obtain⟨p,h2,aA⟩:=Option.map_eq_some_iff.1 h
      cases aA
      simp[a6 h2]
   have jm:=hlen h2
   have SF:=(aM 0 (by simp) (by simp) (by simp[jm])).2.2
   simp only[List.getElem_cons_zero] at SF
   obtain⟨-,bh,ej⟩:=Dl (blk:=[]) w3 U ph I5 (by omega)
   obtain⟨uK,c,b8,bQ,bL,cq,rfl,iE⟩:=I4 h2 (fun k ag j4 az=>by
    have:=aM (k+1) (by simp;omega) (by simp;omega) (by simp;omega)
    simpa using this) w3 bh (by omega)
   have aG:=aM 0 (by simp) (by simp) (by simp[iE])
   simp only[List.getElem_cons_zero,List.length_cons,List.getElem_cons_succ] at aG
   have nT:(b8++c::bQ)[fD.length]'(by simp[iE])=c:=by simp[<-iE]
   rw[nT] at aG
   obtain⟨w4,bu,ca⟩:=SC U bL aG.1 aG.2.1 (by have:=aG.2.2;simp at this;omega) (by omega) (by omega) w3 ph I5
   refine⟨w4,c,cO::b8,bQ,bu,?_,rfl,by simp[iE]⟩
   simp only[List.cons_append,cT,ca,cq,Option.map_some]
end
end Go.Eng
namespace Go.Eng
open Go Go.RowKit
theorem a4.SG {w:World} {ok:Nat->Prop} {σ bd:Nat->Option (Nat × Nat)} {v:I} {cv:Value} (h:a4 w ok σ (.e4 v) cv):a4 w ok bd (.e4 v) cv:=by
 obtain⟨cp,ey,rfl,U,h2⟩:=h.y6
 exact .e4 v cp ey U h2
def jU (F:Fence):Prop:=F=Fence.wide\/∃l,F=Fence.wide.inRound l
theorem jU.fn {F:Fence} (h:jU F) (f:FuncId):F.fn f:=by
 rcases h with rfl|⟨l,rfl⟩<;>trivial
theorem jU.depth {F:Fence} (h:jU F):F.depth=none:=by
 rcases h with rfl|⟨l,rfl⟩<;>rfl
theorem jU.room {F:Fence} (h:jU F) (n:Nat):F.room n:=fun d a3=>by rw[h.depth] at a3;cases a3
theorem jU.one {F:Fence} (h:jU F) (n:Nat):F.depth.isSome=true->1<=n:=fun a3=>by rw[h.depth] at a3;cases a3
theorem jU.inRound {F:Fence} (h:jU F) (l:Nat):jU (F.inRound l):=by
 rcases h with rfl|⟨k,rfl⟩
 · exact .inr ⟨l,rfl⟩
 · exact .inr ⟨l,rfl⟩
theorem jU.calls {F:Fence} (h:jU F) {n:Nat} {P:Program} {f:FuncId} {args:Array Value} {w:World} {R:Ending->World->Prop} (J:Calls P f args w R):CallsIn F n P f args w R:=by
 rcases h with rfl|⟨l,rfl⟩
 · exact callsIn_wide.2 J
 · exact (callsIn_wide (n:=n)).2 J
structure dp (base:Nat) (okin:Nat->Prop) (σ:Nat->Option (Nat × Nat)) (h:ah) (w:World) (bd:Nat->Option (Nat × Nat)) (h':ah) (aP:World):Prop where
 sub:∀id x,σ id=some x->bd id=some x
 still:uq w aP (br base okin σ h) (br base okin bd h')
 below:Below base w aP
 grow:∀b,iK w b<=iK aP b
 loop:∀(b:Nat) (r:Loop),w.heap[b]? =some (.loop r)->∃st jV,aP.heap[b]? =some (.loop {r with state:=st,pending:=jV})
 oy:∀b:Nat,w.heap[b]? =some (.deferred (some []))->aP.heap[b]? =some (.deferred (some []))
theorem dp.refl (base:Nat) (okin:Nat->Prop) (σ:Nat->Option (Nat × Nat)) (h:ah) (w:World):dp base okin σ h w σ h w:=
 ⟨fun _ _ h=>h,fun _ _ _ _ h=>⟨h,rfl⟩,Below.refl _ _,fun _=>Nat.le_refl _,fun _ r h=>⟨r.state,r.pending,h⟩,fun _ h=>h⟩
theorem dp.trans {base:Nat} {okin:Nat->Prop} {σ jx pZ:Nat->Option (Nat × Nat)} {h U h2:ah} {w b7 c9:World}
 (p:dp base okin σ h w jx U b7) (q:dp base okin jx U b7 pZ h2 c9):dp base okin σ h w pZ h2 c9:=
 ⟨fun id x ae=>q.sub id x (p.sub id x ae),fun b o ad ag ay=>by
   obtain⟨j3,aq⟩:=p.still b o ad ag ay
   obtain⟨dz,av⟩:=q.still b o (by rw[aq];exact ad) ag j3
   exact ⟨dz,av.trans aq⟩,p.below.trans q.below,fun b=>Nat.le_trans (p.grow b) (q.grow b),fun b r ad=>by
   obtain⟨s1,a_,aq⟩:=p.loop b r ad
   obtain⟨s2,bn,av⟩:=q.loop b _ aq
   exact ⟨s2,bn,av⟩,fun b ad=>q.oy b (p.oy b ad)⟩
theorem dp.rep {base:Nat} {okin:Nat->Prop} {σ bd:Nat->Option (Nat × Nat)} {h h':ah} {w aP:World} (p:dp base okin σ h w bd h' aP)
 {v:I} {cv:Value} (r:a4 w (br base okin σ h) σ v cv):a4 aP (br base okin bd h') bd v cv:=r.mono p.still p.sub p.grow
theorem qb {w:World} {b:Nat} {o:Obj} (h:w.heap[b]? =some o):b<w.heap.size:=(Array.getElem?_eq_some_iff.1 h).1
theorem cK.other {base:Nat} {okin:Nat->Prop} {σ bd:Nat->Option (Nat × Nat)} {h h':ah} {w aP:World} (H:cK base okin σ h w) (p:Prog base okin σ h w bd h' aP) {b:Nat} {o:Obj} (ad:w.heap[b]? =some o)
 (ak:∀arr ty e,o≠ .cells arr ty e):aP.heap[b]? =some o:=by
 have bF:=qb ad
 by_cases w5:b<base
 · rw[p.below.block b w5];exact ad
 · have:=(p.q2 b bF (.inr ⟨Nat.le_of_not_lt w5,fun id s ax az=>by
    obtain⟨blk,ot⟩:=Option.isSome_iff_exists.1 az
    obtain⟨kf,ao,arr,ty,aq,av,_⟩:=H.blk id blk ot
    rw[ax] at aq;cases aq
    rw[ad] at av
    exact absurd (Option.some.inj av) (ak _ _ _)⟩)).2
   rw[this];exact ad
theorem dp.of {base:Nat} {okin:Nat->Prop} {σ bd:Nat->Option (Nat × Nat)} {h h':ah} {w aP:World} (H:cK base okin σ h w) (p:Prog base okin σ h w bd h' aP):dp base okin σ h w bd h' aP:=
 ⟨p.sub,p.still,p.below,p.grow,fun b r ad=>⟨r.state,r.pending,H.other p ad (fun _ _ _ h=>by cases h)⟩,fun b ad=>H.other p ad (fun _ _ _ h=>by cases h)⟩
def oz:fT->LoopState
 | .ready=> .ready
 | .busy=> .busy
 | .done _=> .done
def SH:dg->Option Code
 | .normal=>none
 | .exit id=>some (.exit id)
 | .ret=>some .ret
def oA:fT->Option Code
 | .ready=>none
 | .busy=>none
 | .done e=>SH e
structure j8 (σ:Nat->Option (Nat × Nat)) (aV:Nat->Option fT) (w:World):Prop where
 look:∀id p,aV id=some p->∃(l s:Nat) (r:Loop),σ id=some (l,s)/\w.heap[l]? =some (.loop r)/\r.state=oz p/\r.pending=oA p
 inj:∀id iu p nZ l s ao,aV id=some p->aV iu=some nZ->σ id=some (l,s)->σ iu=some (l,ao)->id=iu
theorem j8.of {base:Nat} {okin:Nat->Prop} {σ bd:Nat->Option (Nat × Nat)} {h h':ah} {w aP:World} (L:j8 σ h.aV w) (H:cK base okin σ h w) (p:Prog base okin σ h w bd h' aP) (aF:h'.aV=h.aV):j8 bd h'.aV aP:=by
 rw[aF]
 refine⟨fun id q aM=>?_,fun id iu q nq l s ao U h2 aq av=>?_⟩
 · obtain⟨l,s,r,aq,av,aW,bT⟩:=L.look id q aM
   exact ⟨l,s,r,p.sub _ _ aq,H.other p av (fun _ _ _ h=>by cases h),aW,bT⟩
 · obtain⟨bG,s1,bD,a1,_⟩:=L.look id q U
   obtain⟨ds,s2,de,eZ,_⟩:=L.look iu nq h2
   have b1:=p.sub _ _ a1;rw[aq] at b1
   have eo:=p.sub _ _ eZ;rw[av] at eo
   cases b1;cases eo
   exact L.inj id iu q nq l s ao U h2 a1 eZ
def pj (P:Program) (G:Nat->Option I) (base:Nat) (okin:Nat->Prop) (Y:List cJ) (σ:Nat->Option (Nat × Nat)) (h:ah) (w:World):Prop:=
 ∀L∈Y,∃(l s:Nat) (r:Loop) (n0:Nat),σ L.id=some (l,s)/\w.heap[l]? =some (.loop r)/\n0<=r.tmps.size/\L.ps=r.params.toList/\(∀p∈L.ps,p<n0)/\
  gj P n0 r.assign=some L.dI/\gj P n0 r.body=some L.body/\ki G (br base okin σ h) σ w L.F {tmps:=r.tmps,defers:=[]}
theorem pj.mono {P:Program} {G:Nat->Option I} {base:Nat} {okin:Nat->Prop} {Y:List cJ} {σ bd:Nat->Option (Nat × Nat)} {h h':ah} {w aP:World} (C:pj P G base okin Y σ h w) (p:dp base okin σ h w bd h' aP):pj P G base okin Y bd h' aP:=by
 intro L bf
 obtain⟨l,s,r,n0,aq,av,aW,bT,fj,lz,Dq,rj⟩:=C L bf
 obtain⟨st,jV,SI⟩:=p.loop l r av
 exact ⟨l,s,_,n0,p.sub _ _ aq,SI,aW,bT,fj,lz,Dq,⟨fun t=>p.rep (rj.slot t),fun g v aY=>p.rep (rj.nj g v aY)⟩⟩
structure Marks (bJ:Nat) (cH:List Deferred) (w:World):Prop where
 each:∀d∈cH,∃D,d.target= .collected D/\bJ<=D/\w.heap[D]? =some (.deferred (some []))
 nodup:cH.Pairwise fun d o4=>d.target≠o4.target
theorem Marks.mono {bJ:Nat} {cH:List Deferred} {w aP:World} (M:Marks bJ cH w) (a3:∀b:Nat,w.heap[b]? =some (.deferred (some []))->aP.heap[b]? =some (.deferred (some []))):Marks bJ cH aP:=
 ⟨fun d h=>by
   obtain⟨D,U,h2,aA⟩:=M.each d h
   exact ⟨D,U,h2,a3 D aA⟩,M.nodup⟩
def Dr (P:Program) (f:FuncId) (args:Array Value) (w:World) (R:Value->World->Prop):Prop:=
 ((callFunc f args).run P w= .ok (.enter f args) w/\Calls P f args w fun e aP=>∃cv,e= .returned cv/\R cv aP)\/
 ∃cv aP,(callFunc f args).run P w= .ok (.value cv) aP/\R cv aP
def Ds (P:Program) (l:Nat) (args:Array Value) (w:World) (R:Value->World->Prop):Prop:=
 ∃f tmps dI body,(Instr.yield l args).run P w= .ok (.round l f tmps dI body) w/\∀F n,jU F->RoundIn F n P l f tmps dI body w fun e aP=>∃cv,e= .returned cv/\R cv aP
def aH (P:Program) (G:Nat->Option I) (f:FuncId) (T:List I->Option I):Prop:=
 ∀args v,T args=some v->∀(ok:Nat->Prop) (w:World) (dm:Array Value),dm.size=args.length->
  (∀i (h:i<args.length) (h':i<dm.size),du w ok args[i] dm[i])->
  (∀g u,G g=some u->a4 w ok (fun _=>none) (.e4 u) (.pointer (some ⟨g,0,none⟩)))->
  Dr P f dm w fun cv aP=>du aP (fun b=>ok b\/w.heap.size<=b) v cv/\Below w.heap.size w aP
def uL (base:Nat) (okin:Nat->Prop) (σ:Nat->Option (Nat × Nat)) (h:ah) (w:World) (h':ah) (v:I) (cv:Value) (aP:World):Prop:=
 ∃bd,dp base okin σ h w bd h' aP/\cK base okin bd h' aP/\j8 bd h'.aV aP/\a4 aP (br base okin bd h') bd v cv/\(∀id,h'.next<=id->bd id=none)/\∀id,id<h.next->bd id=σ id
structure uM (P:Program) (G:Nat->Option I) (Y:List cJ) (ch:k2->List I->ah->Option (I × ah)):Prop where
 next:∀t args h v h',ch t args h=some (v,h')->h.next<=h'.next
 frame:rh ch
 fn:∀f args h v h',ch (.fn f) args h=some (v,h')->∀base okin σ w (dm:Array Value),cK base okin σ h w->j8 σ h.aV w->pj P G base okin Y σ h w->dm.size=args.length->
    (∀i (ab:i<args.length) (bV:i<dm.size),a4 w (br base okin σ h) σ args[i] dm[i])->
    (∀g u,G g=some u->a4 w (br base okin σ h) σ (.e4 u) (.pointer (some ⟨g,0,none⟩)))->(∀id,h.next<=id->σ id=none)->
    Dr P f dm w (uL base okin σ h w h' v)
 lv:∀id args h v h',ch (.lv id) args h=some (v,h')->∀base okin σ w (dm:Array Value) l s,cK base okin σ h w->j8 σ h.aV w->pj P G base okin Y σ h w->σ id=some (l,s)->dm.size=args.length->
    (∀i (ab:i<args.length) (bV:i<dm.size),a4 w (br base okin σ h) σ args[i] dm[i])->
    (∀g u,G g=some u->a4 w (br base okin σ h) σ (.e4 u) (.pointer (some ⟨g,0,none⟩)))->(∀id,h.next<=id->σ id=none)->
    Ds P l dm w (uL base okin σ h w h' v)
structure fE (P:Program) (G:Nat->Option I) (Y:List cJ) (jD:Option Nat) (bJ:Nat) (base:Nat) (okin:Nat->Prop) (N:Nat) (cP:Nat) (cS:Nat->Option (Nat × Nat)) (cw:Nat->Prop) (σ:Nat->Option (Nat × Nat)) (s:aL) (a:Act) (w:World):Prop where
 ax:cK base okin σ s.h w
 lM:j8 σ s.h.aV w
 jy:pj P G base okin Y σ s.h w
 bI:ki G (br base okin σ s.h) σ w s.F a
 size:N<=a.tmps.size
 marks:Marks bJ a.defers w
 rd:∀l,jD=some l->∃r,w.heap[l]? =some (.loop r)
 sK:bJ<=w.heap.size
 free:∀id,cw id->cP<=id/\id<s.h.next/\σ id=none
 low:cP<=s.h.next
 mn:∀id,id<cP->σ id=cS id
 fresh:∀id,s.h.next<=id->σ id=none
section
variable {P:Program} {G:Nat->Option I} {base:Nat} {okin:Nat->Prop} {N:Nat} {cP:Nat} {cS:Nat->Option (Nat × Nat)} {cw:Nat->Prop} {σ:Nat->Option (Nat × Nat)} {w:World} {a:Act}
theorem ki.mono {bd:Nat->Option (Nat × Nat)} {h h':ah} {aP:World} {F:Nat->I} (bI:ki G (br base okin σ h) σ w F a) (p:dp base okin σ h w bd h' aP):ki G (br base okin bd h') bd aP F a:=
 ⟨fun t=>p.rep (bI.slot t),fun g v aY=>p.rep (bI.nj g v aY)⟩
theorem ki.put {h:ah} {F:Nat->I} (bI:ki G (br base okin σ h) σ w F a) {d:Option Nat} (a3:d.all (fun d=>decide (d<N))=true) (iN:N<=a.tmps.size) {v:I} {cv:Value} (an:a4 w (br base okin σ h) σ v cv):
 ki G (br base okin σ h) σ w (cA F d v) (a.put d cv):=by
 refine⟨fun t=>?_,bI.nj⟩
 cases d with
 | none=>exact bI.slot t
 | some d=>
   have bF:d<a.tmps.size:=by
    have:d<N:=by simpa using a3
    omega
   simp only[cA,au,Act.put]
   by_cases e:t=d
   · subst e
     rw[if_pos rfl]
     simpa[Array.getD,bF] using an
   · rw[if_neg e]
     have:=bI.slot t
     have av:(a.tmps.setIfInBounds d cv).getD t undef=a.tmps.getD t undef:=by
      simp only[Array.getD_eq_getD_getElem?]
      rw[Array.getElem?_setIfInBounds_ne (Ne.symm e)]
     rw[av];exact this
theorem SJ (a:Act) (d:Option Nat) (v:Value):(a.put d v).tmps.size=a.tmps.size:=by
 cases d<;>simp[Act.put]
theorem put_defers (a:Act) (d:Option Nat) (v:Value):(a.put d v).defers=a.defers:=by
 cases d<;>rfl
theorem cK.grown {h:ah} (H:cK base okin σ h w) {aP:World} (ad:Below w.heap.size w aP):cK base okin σ h aP/\Prog base okin σ h w σ h aP:=by
 have P:Prog base okin σ h w σ h aP:=⟨fun _ _ x=>x,fun b bF ay=>⟨ay,ad.block b bF⟩,ad.mono H.base,RB ad⟩
 refine⟨⟨fun id b s ab=>⟨(H.val id b s ab).1,Nat.lt_of_lt_of_le (H.val id b s ab).2 ad.size⟩,fun id gk iL=>?_,H.inj,Nat.le_trans H.base ad.size⟩,P⟩
 obtain⟨b,s,rb,ty,aq,av,aW⟩:=H.blk id gk iL
 refine⟨b,s,rb,ty,aq,by rw[ad.block b (H.val _ _ _ aq).2];exact av,fun i ab=>⟨(aW i ab).1,fun j aB=>?_⟩⟩
 obtain⟨v,bL,cq⟩:=(aW i ab).2 j aB
 exact ⟨v,bL,P.rep cq⟩
theorem w6 {h:ah} {x y:List Nat} (mq:∀i∈x,i∈y) (b:Nat) (ay:br base okin σ (h.close x) b):br base okin σ (h.close y) b:=by
 rcases ay with ay|⟨U,h2⟩
 · exact .inl ay
 · refine .inr ⟨U,fun id s ax az=>?_⟩
   have:=h2 id s ax az
   simp only[ah.close,Bool.or_eq_true,List.contains_iff_mem] at this|-
   exact this.imp (fun q=>q) (mq id)
theorem I6 {h:ah} (H:cK base okin σ h w) {v u:I} {cv:Value} {ids:List Nat} (aR:a4 w (br base okin σ h) σ v cv) (ay:dE h v=some (u,ids)):du w (br base okin σ (h.close ids)) u cv:=by
 cases v<;>simp only[dE] at ay<;>try(cases ay;done)
 case int k n=>cases ay;rw[aR.jP];exact .int k n
 case bool b=>cases ay;rw[aR.q7];exact .bool b
 case str s=>cases ay;rw[aR.wJ];exact .str s
 case nilfn=>cases ay;rw[aR.Rz];exact .nilfn
 case mp m=>
  cases ay
  have:=aR.HU
  rw[sH]
  exact this
 case sl xs ex=>
  cases ay
  have:=aR.q8
  rw[sH]
  exact this
 case ref id off len cap=>
  split at ay<;>try(cases ay;done)
  rename_i blk ad
  split at ay<;>try(cases ay;done)
  rename_i aM
  obtain⟨db,dc⟩:=aM
  cases ay
  obtain⟨A,c,b,sz,rfl,aq,av,aW,bT⟩:=aR.q9
  obtain⟨kf,fV,arr,ty,f1,f2,f3⟩:=H.blk id blk ad
  rw[aq] at f1;cases f1
  have hlen:((blk.drop off).take len).length=len:=by simp;omega
  have k3:∀i (ab:i<len),((blk.drop off).take len)[i]'(by rw[hlen];exact ab)=blk[off+i]'(by omega):=by intro i ab;simp
  have kh:br base okin σ (h.close [id]) b:=by
   refine .inr ⟨(H.val _ _ _ aq).1,fun iu s ax az=>?_⟩
   have:iu=id:=H.inj iu id b s sz az (by simp[ad]) ax aq
   subst this
   simp[ah.close]
  have R:=du.sl (w:=w) (ok:=br base okin σ (h.close [id])) ((blk.drop off).take len) false A c sz (fun i j=>(arr[(off+i)*sz+j]?).getD undef) (by rw[hlen];exact av) (fun cU=>absurd cU (by simp))
   (fun i ab=>by rw[hlen] at ab;rw[k3 i ab];exact (f3 _ _).1)
   (fun i j ab aB=>by
     rw[hlen] at ab
     obtain⟨rfl,_⟩:=bT (by omega)
     refine⟨_,rfl,kh,?_⟩
     obtain⟨l1,bL,_⟩:=(f3 (off+i) (by omega)).2 j (by rw[(f3 (off+i) (by omega)).1];exact aB)
     rw[p2]
     simp only[World.cell?,f2,Option.isSome_none,Bool.false_eq_true,if_false]
     rw[show off*sz+(i*sz+j)=(off+i)*sz+j by rw[Nat.add_mul];omega,bL];rfl)
   (fun sE=>by
     rw[hlen] at sE
     obtain⟨rfl,_⟩:=bT (by omega)
     rfl)
   (fun i ab j aB=>by
     rw[hlen] at ab
     have he:=k3 i ab
     simp only[he] at aB|-
     obtain⟨l1,bL,cq⟩:=(f3 (off+i) (by omega)).2 j aB
     show du _ _ _ ((arr[(off+i)*sz+j]?).getD undef)
     rw[bL]
     have nr:(blk[off+i]'(by omega)).cells[j].dP=true:=List.all_eq_true.1 (List.all_eq_true.1 dc _ (List.getElem_mem _)) _ (List.getElem_mem aB)
     exact (du.Ie cq nr).sr fun k ag kh=>by
      have:=w6 (base:=base) (okin:=okin) (σ:=σ) (h:=h) (x:=[]) (y:=[id]) (by simp) k (by rw[sH];exact kh)
      exact this)
  rw[hlen] at R
  exact R
theorem I7 {h:ah} (H:cK base okin σ h w):∀ {vs us:List I} {ids:List Nat} (cs:Nat->Value),(∀i (ab:i<vs.length),a4 w (br base okin σ h) σ vs[i] (cs i))->eu h vs=some (us,ids)->
 us.length=vs.length/\∀i (ab:i<us.length),du w (br base okin σ (h.close ids)) us[i] (cs i)
 | [],us,ids,cs,_,ay=>by simp only[eu] at ay;cases ay;exact ⟨rfl,fun i ab=>absurd ab (by simp)⟩
 | v::vs,us,ids,cs,aR,ay=>by
   simp only[eu] at ay
   split at ay<;>try(cases ay;done)
   rename_i kg x mU y U h2
   cases ay
   obtain⟨l,q⟩:=I7 H (fun i=>cs (i+1)) (fun i ab=>aR (i+1) (by simpa using ab)) h2
   refine⟨by simp[l],fun i ab=>?_⟩
   cases i with
   | zero=>exact (I6 H (aR 0 (by simp)) U).sr fun b _ ad=>w6 (fun i ab=>by simp[ab]) b ad
   | succ i=>exact (q i (by simpa using ab)).sr fun b _ ad=>w6 (fun i ab=>by simp[ab]) b ad
theorem I8 {h:ah} (H:cK base okin σ h w) {v u:I} {cv:Value} {ids:List Nat} (aR:a4 w (br base okin σ h) σ v cv) (ay:iU h v=some (u,ids)):du w (br base okin σ (h.close ids)) u cv:=by
 by_cases an:∃cs,v= .agg cs
 · obtain⟨cs,rfl⟩:=an
   simp only[iU] at ay
   obtain⟨p,U,he⟩:=Option.map_eq_some_iff.1 ay
   obtain⟨us,SK⟩:=p
   cases he
   obtain⟨vs,rfl,bG,bD⟩:=aR.ur
   obtain⟨ds,de⟩:=I7 H (fun i=>vs.getD i undef) (fun i ab=>by
    have bF:i<vs.size:=by omega
    have:=bD i ab bF
    simpa[Array.getD,bF] using this) U
   refine .agg _ _ (by show vs.size=us.length;omega) (fun i ab bV=>?_)
   have:=de i ab
   simpa[Array.getD,bV] using this
 · refine I6 H aR ?_
   cases v<;>first|exact ay|exact absurd ⟨_,rfl⟩ an
theorem Dt {h:ah} (H:cK base okin σ h w):∀ {vs us:List I} {ids:List Nat} (cs:Nat->Value),(∀i (ab:i<vs.length),a4 w (br base okin σ h) σ vs[i] (cs i))->eh h vs=some (us,ids)->
 us.length=vs.length/\∀i (ab:i<us.length),du w (br base okin σ (h.close ids)) us[i] (cs i)
 | [],us,ids,cs,_,ay=>by simp only[eh] at ay;cases ay;exact ⟨rfl,fun i ab=>absurd ab (by simp)⟩
 | v::vs,us,ids,cs,aR,ay=>by
   simp only[eh] at ay
   split at ay<;>try(cases ay;done)
   rename_i kg x mU y U h2
   cases ay
   obtain⟨l,q⟩:=Dt H (fun i=>cs (i+1)) (fun i ab=>aR (i+1) (by simpa using ab)) h2
   refine⟨by simp[l],fun i ab=>?_⟩
   cases i with
   | zero=>exact (I8 H (aR 0 (by simp)) U).sr fun b _ ad=>w6 (fun i ab=>by simp[ab]) b ad
   | succ i=>exact (q i (by simpa using ab)).sr fun b _ ad=>w6 (fun i ab=>by simp[ab]) b ad
theorem SL {h:ah} (H:cK base okin σ h w) {v u:I} {cv:Value} {ids:List Nat} (aR:a4 w (br base okin σ h) σ v cv) (ay:jw h v=some (u,ids)):du w (br base okin σ (h.close ids)) u cv:=by
 by_cases an:∃cs,v= .bK cs
 · obtain⟨cs,rfl⟩:=an
   simp only[jw] at ay
   obtain⟨p,U,he⟩:=Option.map_eq_some_iff.1 ay
   obtain⟨us,SK⟩:=p
   cases he
   obtain⟨vs,rfl,bG,bD⟩:=aR.HW
   obtain⟨ds,de⟩:=Dt H (fun i=>vs.getD i undef) (fun i ab=>by
    have bF:i<vs.size:=by omega
    have:=bD i ab bF
    simpa[Array.getD,bF] using this) U
   refine .bK _ _ (by show vs.size=us.length;omega) (fun i ab bV=>?_)
   have:=de i ab
   simpa[Array.getD,bV] using this
 · refine I8 H aR ?_
   cases v<;>first|exact ay|exact absurd ⟨_,rfl⟩ an
end
end Go.Eng
namespace Go.Eng
open Go Go.RowKit
section
variable {P:Program} {G:Nat->Option I} {base:Nat} {okin:Nat->Prop} {N:Nat} {cP:Nat} {cS:Nat->Option (Nat × Nat)} {cw:Nat->Prop} {σ:Nat->Option (Nat × Nat)} {w:World} {a:Act}
 {tab:FuncId->Option (List I->Option I)} {ch:k2->List I->ah->Option (I × ah)} {Y:List cJ} {jD:Option Nat} {bJ:Nat} {c6:Fence} {dK:Nat}
theorem Du (x:Array Value) (i:Nat) (h:i<x.size):x.getD i undef=x[i]:=by simp[Array.getD,h]
theorem I9 {ops:Array Oper} {o:Oper} {e:aU} (h:pX P N ops o=some e):
 e.dst=o.dst/\fU P o.op=some e.op/\o.dst.all (fun d=>decide (d<N))=true/\
   ((o.guard=none/\e.guard=none)\/∃j t want,o.guard=some (j,want)/\(ops[j]?).bind (·.dst)=some t/\e.guard=some (t,want)):=by
 unfold pX at h
 split at h<;>try(cases h;done)
 rename_i a3
 split at h<;>try(cases h;done)
 rename_i op cL
 split at h
 · rename_i aY
   cases h
   exact ⟨rfl,cL,a3,.inl ⟨aY,rfl⟩⟩
 · rename_i j w aY
   split at h<;>try(cases h;done)
   rename_i t aN
   cases h
   exact ⟨rfl,cL,a3,.inr ⟨j,t,w,aY,aN,rfl⟩⟩
theorem SM {o:Oper} {x:Operand} {args:Array Operand} {argTypes:Array TypeId} (cL:o.op= .call {callee:= .value x,args,argTypes}) {f:FuncId} {fi cv:Array Value} (ae:a.eval x= .func (.func f) fi cv):
 (execOp a.eval o).run P w=(callFunc f (fi++args.map a.eval++cv)).run P w:=by
 simp[execOp,cL,resolve,Deferred.ofValue,ae,invoke]
theorem SN {o:Oper} {x:Operand} {args:Array Operand} {argTypes:Array TypeId} (cL:o.op= .call {callee:= .value x,args,argTypes}) {l:Nat} (ae:a.eval x= .func (.yield l) #[] #[]):
 (execOp a.eval o).run P w=(Instr.yield l (args.map a.eval)).run P w:=by
 simp[execOp,cL,resolve,Deferred.ofValue,ae,invoke]
theorem fE.step {bd:Nat->Option (Nat × Nat)} {s:aL} (S:fE P G Y jD bJ base okin N cP cS cw σ s a w) {d:Option Nat} (a3:d.all (fun d=>decide (d<N))=true) {v:I} {cv:Value} {h':ah} {aP:World} {r:Nat}
 (p:dp base okin σ s.h w bd h' aP) (H:cK base okin bd h' aP) (L:j8 bd h'.aV aP) (aR:a4 aP (br base okin bd h') bd v cv) (ak:s.h.next<=h'.next) (bb:∀id,cw id->id≠r->bd id=none) (SO:∀id,h'.next<=id->bd id=none) (ay:∀id,id<cP->bd id=σ id):
 fE P G Y jD bJ base okin N cP cS (fun id=>cw id/\id≠r) bd ⟨cA s.F d v,h'⟩ (a.put d cv) aP:=
 ⟨H,L,S.jy.mono p,(S.bI.mono p).put a3 S.size aR,by rw[SJ];exact S.size,by rw[put_defers];exact S.marks.mono p.oy,fun l az=>by
   obtain⟨IJ,U⟩:=S.rd l az
   obtain⟨st,jV,h2⟩:=p.loop l IJ U
   exact ⟨_,h2⟩,Nat.le_trans S.sK p.below.size,fun id bz=>⟨(S.free id bz.1).1,Nat.lt_of_lt_of_le (S.free id bz.1).2.1 ak,bb id bz.1 bz.2⟩,Nat.le_trans S.low ak,fun id bz=>(ay id bz).trans (S.mn id bz),SO⟩
theorem I_ (bt:jU c6) {Q:Exit->Act->World->Prop} {K:Act->World->Prop} {o:Oper} {f:FuncId} {dm:Array Value} {R:Value->World->Prop} (a3:Dr P f dm w R) (pk:∀c,o.op≠ .defer c) (cx:(execOp a.eval o).run P w=(callFunc f dm).run P w)
 (mY:∀cv aP,R cv aP->K (a.put o.dst cv) aP):o.wpIn c6 dK P a w K Q:=by
 unfold Oper.wpIn
 refine⟨fun f _=>bt.fn f,?_⟩
 rw[Oper.semAt_eq _ _ _ pk,cx]
 rcases a3 with⟨U,h2⟩|⟨cv,aP,U,h2⟩
 · rw[U,Oper.uponIn_enter]
   refine⟨bt.one dK,bt.calls (h2.mono fun e aP ⟨cv,he,e0⟩=>?_)⟩
   subst he
   exact mY cv aP e0
 · rw[U]
   exact mY cv aP h2
theorem SP (bt:jU c6) {Q:Exit->Act->World->Prop} {K:Act->World->Prop} {o:Oper} {l:Nat} {dm:Array Value} {R:Value->World->Prop} (a3:Ds P l dm w R) (pk:∀c,o.op≠ .defer c) (cx:(execOp a.eval o).run P w=(Instr.yield l dm).run P w)
 (mY:∀cv aP,R cv aP->K (a.put o.dst cv) aP):o.wpIn c6 dK P a w K Q:=by
 unfold Oper.wpIn
 refine⟨fun f _=>bt.fn f,?_⟩
 rw[Oper.semAt_eq _ _ _ pk,cx]
 obtain⟨f,tmps,dI,body,U,h2⟩:=a3
 rw[U,Oper.uponIn_round]
 refine⟨bt.one dK,(h2 c6 _ bt).mono fun e aP ⟨cv,he,e0⟩=>?_⟩
 subst he
 exact mY cv aP e0
theorem I' (bt:jU c6) (jB:uM P G Y ch) (lA:∀f T,tab f=some T->aH P G f T) {ops:Array Oper} {o:Oper} {e:aU} (iN:pX P N ops o=some e) {aZ r:Nat} {s ao:aL} {c:eb}
 (cx:cX G tab ch aZ r e s=some (ao,c)) (S:fE P G Y jD bJ base okin N cP cS cw σ s a w) (n1:cw r) {K:Act->World->Prop} {Q:Exit->Act->World->Prop}
 (mY:∀bd eG aP,fE P G Y jD bJ base okin N cP cS (fun id=>cw id/\id≠r) bd ao eG aP->dp base okin σ s.h w bd ao.h aP->K eG aP):o.wpIn c6 dK P a w K Q:=by
 obtain⟨d1,d2,d3,_⟩:=I9 iN
 have a3:e.dst.all (fun d=>decide (d<N))=true:=by rw[d1];exact d3
 by_cases J:∃f args,e.op= .call f args
 · obtain⟨f,args,cL⟩:=J
   rw[cL] at d2
   have nR:∃x as dR,o.op= .call {callee:= .value x,args:=as,argTypes:=dR}/\en x=some f/\pW as.toList=some args:=by
    cases ay:o.op<;>rw[ay] at d2<;>simp only[fU] at d2<;>try(first|(cases d2;done)|(split at d2<;>cases d2;done))
    case call pc=>
     obtain⟨callee,as,dR⟩:=pc
     cases callee with
     | value x=>
       simp only at d2
       split at d2<;>try(cases d2;done)
       rename_i U h2
       cases d2
       exact ⟨x,as,dR,rfl,U,h2⟩
     | invoke _ _=>simp only at d2;cases d2
     | builtin b=>
       exfalso
       cases b<;>simp only at d2<;>(repeat' split at d2)<;>first|(cases d2;done)|(obtain⟨_,_,d2⟩:=Option.map_eq_some_iff.1 d2;cases d2)
    all_goals
     exfalso
     first
      | (obtain⟨_,_,d2⟩:=Option.map_eq_some_iff.1 d2;cases d2;done)
      | ((repeat' split at d2)<;>first|contradiction|(cases d2;done)|(obtain⟨_,_,d2⟩:=Option.map_eq_some_iff.1 d2;cases d2;done))
   obtain⟨x,as,dR,ay,ae,has⟩:=nR
   unfold cX at cx
   simp only[cL] at cx
   have pk:∀c,o.op≠ .defer c:=fun c J=>by rw[ay] at J;cases J
   split at cx<;>try(cases cx;done)
   rotate_left
   · rename_i id bb
     obtain⟨p,aF,cx⟩:=Option.map_eq_some_iff.1 cx
     obtain⟨v,h'⟩:=p
     cases cx
     have rx:=S.bI.ec ae
     rw[bb] at rx
     obtain⟨l,sl,ex,pn⟩:=rx.RA
     obtain⟨iv,kO⟩:=sx S.bI has
     have ak:=jB.next _ _ _ _ _ aF
     refine SP bt (jB.lv _ _ _ _ _ aF base okin σ w (as.map a.eval) l sl S.ax S.lM S.jy pn (by simp at iv|-;omega) (fun i ab bV=>by
      have:=kO i (by simpa using ab) (by simpa using bV)
      simpa using this) S.bI.nj S.fresh) pk (SN ay ex) (fun Dv aP e0=>?_)
     obtain⟨bd,bu,ca,uN,c5,mr,ku⟩:=e0
     rw[<-d1]
     exact mY bd _ aP (S.step a3 bu ca uN c5 ak (fun id bz _=>by rw[ku id (S.free id bz).2.1];exact (S.free id bz).2.2) mr (fun id bz=>ku id (Nat.lt_of_lt_of_le bz S.low))) bu
   rename_i n first caps bb
   have rx:=S.bI.ec ae
   rw[bb] at rx
   obtain⟨fi,cv,ex,bG,ds,bD,de⟩:=rx.HV
   obtain⟨iv,kO⟩:=sx S.bI has
   have Ja:=SM (P:=P) (w:=w) ay ex
   have c3:(fi++as.map a.eval++cv).size=(first++args.map (aS.ev G s.F)++caps).length:=by simp at iv|-;omega
   have fy:∀i (ab:i<(first++args.map (aS.ev G s.F)++caps).length) (bV:i<(fi++as.map a.eval++cv).size),a4 w (br base okin σ s.h) σ (first++args.map (aS.ev G s.F)++caps)[i] (fi++as.map a.eval++cv)[i]:=by
    intro i ab bV
    by_cases U:i<first.length
    · have aq:(first++args.map (aS.ev G s.F)++caps)[i]=first[i]:=by
       rw[List.getElem_append_left (by simp;omega),List.getElem_append_left U]
      have av:(fi++as.map a.eval++cv)[i]=fi[i]'(by omega):=by
       rw[Array.getElem_append_left (by simp;omega),Array.getElem_append_left (by omega)]
      rw[aq,av];exact bD i U (by omega)
    · by_cases h2:i<first.length+args.length
      · have aq:(first++args.map (aS.ev G s.F)++caps)[i]=args[i - first.length].ev G s.F:=by
         rw[List.getElem_append_left (by simp;omega),List.getElem_append_right (by omega)];simp
        have av:(fi++as.map a.eval++cv)[i]=a.eval (as.toList[i - first.length]'(by simp at iv|-;omega)):=by
         rw[Array.getElem_append_left (by simp at iv|-;omega),Array.getElem_append_right (by omega)]
         simp[bG]
        rw[aq,av];exact kO _ (by omega) (by simp at iv|-;omega)
      · have aq:(first++args.map (aS.ev G s.F)++caps)[i]=caps[i -(first.length+args.length)]'(by simp at ab;omega):=by
         rw[List.getElem_append_right (by simp;omega)];simp
        have av:(fi++as.map a.eval++cv)[i]=cv[i -(first.length+args.length)]'(by simp at ab;omega):=by
         rw[Array.getElem_append_right (by simp at iv|-;omega)]
         congr 1
         simp at iv|-;omega
        rw[aq,av];exact de _ (by simp at ab;omega) (by simp at ab;omega)
   split at cx
   · rename_i T cD
     split at cx<;>try(cases cx;done)
     rename_i vs ids pY
     obtain⟨v,an,cx⟩:=Option.map_eq_some_iff.1 cx
     cases cx
     obtain⟨SQ,Jb⟩:=S.ax.close ids
     obtain⟨cC,dk⟩:=Dt S.ax (fun i=>(fi++as.map a.eval++cv).getD i undef) (fun i ab=>by
      have bF:i<(fi++as.map a.eval++cv).size:=by rw[c3];exact ab
      have:=fy i ab bF
      rw[Du _ _ bF];exact this) pY
     refine I_ bt (lA n T cD vs v an (br base okin σ (s.h.close ids)) w (fi++as.map a.eval++cv) (by rw[c3,cC]) (fun i ab bV=>by
      have:=dk i ab
      rw[Du _ _ bV] at this;exact this) (fun g u aY=>(Jb.rep (S.bI.nj g u aY)).SG)) pk Ja (fun Dv aP e0=>?_)
     obtain⟨db,dc⟩:=e0
     obtain⟨Dw,Dx⟩:=SQ.grown dc
     have Jc:=Jb.trans Dx
     have Jd:=dp.of S.ax Jc
     rw[<-d1]
     refine mY σ _ aP (S.step a3 Jd Dw (S.lM.of S.ax Jc rfl) (.val _ _ (db.sr fun b _ ad=>?_)) (Nat.le_refl _) (fun id bz _=>(S.free id bz).2.2) S.fresh (fun _ _=>rfl)) Jd
     rcases ad with ad|ad
     · exact ad
     · exact .inr ⟨Nat.le_trans S.ax.base ad,fun id sz ax _=>by have:=(S.ax.val _ _ _ ax).2;omega⟩
   · rename_i cD
     obtain⟨p,aF,cx⟩:=Option.map_eq_some_iff.1 cx
     obtain⟨v,h'⟩:=p
     cases cx
     have ak:=jB.next _ _ _ _ _ aF
     refine I_ bt (jB.fn _ _ _ _ _ aF base okin σ w _ S.ax S.lM S.jy c3 fy S.bI.nj S.fresh) pk Ja (fun Dv aP e0=>?_)
     obtain⟨bd,bu,ca,uN,c5,mr,ku⟩:=e0
     rw[<-d1]
     exact mY bd _ aP (S.step a3 bu ca uN c5 ak (fun id bz _=>by rw[ku id (S.free id bz).2.1];exact (S.free id bz).2.2) mr (fun id bz=>ku id (Nat.lt_of_lt_of_le bz S.low))) bu
 · have sF:cX G tab ch aZ r e s=(evalOp aZ r (aS.ev G s.F) s.h e.op).map fun(v,h',c)=>(⟨cA s.F e.dst v,h'⟩,c):=by
    unfold cX
    split
    · exact absurd ⟨_,_,‹_›⟩ J
    · rfl
   rw[sF] at cx
   obtain⟨p,aF,cx⟩:=Option.map_eq_some_iff.1 cx
   obtain⟨v,h',cO⟩:=p
   have o8:(⟨cA s.F e.dst v,h'⟩:aL)=ao:=congrArg Prod.fst cx
   subst o8
   have zn:h'.next=s.h.next:=congrArg Prod.fst (uG aF).1
   have SR:h'.aV=s.h.aV:=congrArg Prod.snd (uG aF).1
   obtain⟨bd,cv,aP,aq,av,aW,bT,fj⟩:=Sm S.ax S.bI (S.free r n1).2.2 o d2 aF
   have fin:fE P G Y jD bJ base okin N cP cS (fun id=>cw id/\id≠r) bd ⟨cA s.F e.dst v,h'⟩ (a.put e.dst cv) aP:=
    S.step a3 (dp.of S.ax av) aW (S.lM.of S.ax av SR) bT (by rw[zn];exact Nat.le_refl _) (fun id bz bP=>by rw[fj id bP];exact (S.free id bz).2.2) (fun id bz=>by
      rw[zn] at bz
      have:id≠r:=by have:=(S.free r n1).2.1;omega
      rw[fj id this];exact S.fresh id bz) (fun id bz=>fj id (by have:=(S.free r n1).1;omega))
   have Je:=mY bd _ aP fin (dp.of S.ax av)
   have pk:∀c,o.op≠ .defer c:=fun c J=>by rw[J] at d2;simp only[fU] at d2;cases d2
   unfold Oper.wpIn
   refine⟨fun f _=>bt.fn f,?_⟩
   rw[Oper.semAt_eq _ _ _ pk]
   rcases aq with aq|⟨aq,rfl⟩
   · rw[aq,Oper.uponIn_value,<-d1];exact Je
   · rw[aq,Oper.uponIn_skip,<-d1];exact Je
theorem Jf (bt:jU c6) (jB:uM P G Y ch) (lA:∀f T,tab f=some T->aH P G f T) {ops:Array Oper} {i:Nat} {o:Oper} (ab:ops[i]? =some o) {e:aU} (iN:pX P N ops o=some e) {aZ r:Nat} {s ao:aL} {c:eb}
 (cx:cB G tab ch aZ r e s=some (ao,c)) (S:fE P G Y jD bJ base okin N cP cS cw σ s a w) (n1:cw r) {K:Act->World->Prop} {Q:Exit->Act->World->Prop}
 (mY:∀bd eG aP,fE P G Y jD bJ base okin N cP cS (fun id=>cw id/\id≠r) bd ao eG aP->dp base okin σ s.h w bd ao.h aP->K eG aP):wpOpIn c6 dK P ops Q i K a w:=by
 obtain⟨d1,d2,d3,aY⟩:=I9 iN
 unfold wpOpIn
 rw[ab]
 simp only
 unfold cB at cx
 rcases aY with⟨bL,cq⟩|⟨j,t,want,bL,cq,eE⟩
 · rw[cq] at cx
   simp only[Region.wanted,bL,if_true]
   exact I' bt jB lA iN cx S n1 mY
 · rw[eE] at cx
   simp only at cx
   cases ad:s.F t<;>rw[ad] at cx<;>try(cases cx;done)
   · cases cx
     have aN:=S.bI.slot t
     rw[ad] at aN
     have po:=aN.Ry
     have aQ:yielded ops a.tmps j=none:=by
      rw[Array.getD_eq_getD_getElem?] at po
      cases aM:a.tmps[t]? with
      | none=>simp[yielded,cq,aM]
      | some v=>
        rw[aM] at po
        simp only[Option.getD_some] at po
        subst po
        simp[yielded,cq,aM,Go.undef]
     simp only[Region.wanted,bL,aQ]
     have bP:((none:Option Bool) == some want)=false:=rfl
     rw[bP]
     simp only[Bool.false_eq_true,if_false]
     have a3:e.dst.all (fun d=>decide (d<N))=true:=by rw[d1];exact d3
     refine⟨fun f _=>bt.fn f,?_⟩
     rw[<-d1]
     exact mY σ _ w (S.step a3 (dp.refl ..) S.ax S.lM .kF (Nat.le_refl _) (fun id bz _=>(S.free id bz).2.2) S.fresh (fun _ _=>rfl)) (dp.refl ..)
   rename_i b
   have aN:=S.bI.slot t
   rw[ad] at aN
   have po:=aN.q7
   have w7:a.tmps[t]? =some (.bool b):=by
    rw[Array.getD_eq_getD_getElem?] at po
    cases aM:a.tmps[t]? with
    | none=>rw[aM] at po;simp[undef] at po
    | some v=>rw[aM] at po;simpa using po
   have aQ:yielded ops a.tmps j=some b:=by
    simp[yielded,cq,w7]
   simp only[Region.wanted,bL,aQ]
   by_cases ox:b=want
   · subst ox
     simp only[if_true] at cx
     simp only[BEq.rfl,if_true]
     exact I' bt jB lA iN cx S n1 mY
   · simp only[if_neg ox] at cx
     cases cx
     have bP:(some b == some want)=false:=by simpa using ox
     rw[bP]
     simp only[Bool.false_eq_true,if_false]
     have a3:e.dst.all (fun d=>decide (d<N))=true:=by rw[d1];exact d3
     refine⟨fun f _=>bt.fn f,?_⟩
     rw[<-d1]
     exact mY σ _ w (S.step a3 (dp.refl ..) S.ax S.lM .kF (Nat.le_refl _) (fun id bz _=>(S.free id bz).2.2) S.fresh (fun _ _=>rfl)) (dp.refl ..)
end
end Go.Eng
namespace Go.Eng
open Go Go.RowKit
section
variable {P:Program} {G:Nat->Option I} {base:Nat} {okin:Nat->Prop} {N:Nat} {cP:Nat} {cS:Nat->Option (Nat × Nat)} {tab:FuncId->Option (List I->Option I)} {ch:k2->List I->ah->Option (I × ah)} {Y:List cJ} {jD:Option Nat} {bJ:Nat} {c6:Fence} {dK:Nat}
theorem Dy {aZ:Nat}:∀ {L:List (aU × Nat)} {s ao:aL} {cs:List eb},cT G tab ch aZ L s=some (ao,cs)->cs.length=L.length
 | [],s,ao,cs,h=>by simp only[cT] at h;cases h;rfl
 | q::L,s,ao,cs,h=>by
   simp only[cT] at h
   split at h<;>try(cases h;done)
   obtain⟨p,h2,aA⟩:=Option.map_eq_some_iff.1 h
   cases aA
   simp[Dy h2]
theorem fE.weaken {cw uy:Nat->Prop} {σ:Nat->Option (Nat × Nat)} {s:aL} {a:Act} {w:World} (S:fE P G Y jD bJ base okin N cP cS cw σ s a w) (h:∀i,uy i->cw i):fE P G Y jD bJ base okin N cP cS uy σ s a w:=
 ⟨S.ax,S.lM,S.jy,S.bI,S.size,S.marks,S.rd,S.sK,fun i ab=>S.free i (h i ab),S.low,S.mn,S.fresh⟩
theorem Jg (bt:jU c6) (jB:uM P G Y ch) (lA:∀f T,tab f=some T->aH P G f T) {ops:Array Oper} {aZ:Nat} {ao:aL} {Q:Exit->Act->World->Prop}:∀(L:List (aU × Nat)) (s:aL) (cs:List eb) (σ:Nat->Option (Nat × Nat)) (a:Act) (w:World),
 (∀p∈L,∃o,ops[p.2]? =some o/\pX P N ops o=some p.1)->L.Pairwise (fun p q=>p.2<q.2)->cT G tab ch aZ L s=some (ao,cs)->
 fE P G Y jD bJ base okin N cP cS (fun id=>∃p∈L,id=aZ+p.2) σ s a w->
 (∀bd eG aP,fE P G Y jD bJ base okin N cP cS (fun _=>False) bd ao eG aP->dp base okin σ s.h w bd ao.h aP->Q .normal eG aP)->wpOpsIn c6 dK P ops Q (L.map (·.2)) a w
 | [],s,cs,σ,a,w,_,_,cx,S,dL=>by
   simp only[cT] at cx;cases cx
   exact dL σ a w (S.weaken fun _ h=>h.elim) (dp.refl ..)
 | (e,i)::L,s,cs,σ,a,w,bf,a3,cx,S,dL=>by
   simp only[cT] at cx
   split at cx<;>try(cases cx;done)
   rename_i s1 c U
   obtain⟨p,h2,aA⟩:=Option.map_eq_some_iff.1 cx
   obtain⟨s2,Jh⟩:=p
   have qc:s2=ao:=congrArg Prod.fst aA
   subst qc
   obtain⟨o,ay,zo⟩:=bf (e,i) (by simp)
   rw[List.map_cons,wpOpsIn_cons]
   refine Jf bt jB lA ay zo U S ⟨(e,i),by simp,rfl⟩ (fun bd eG aP mu ad=>?_)
   refine Jg bt jB lA L s1 Jh bd eG aP (fun p aF=>bf p (by simp[aF])) (List.pairwise_cons.1 a3).2 h2 (mu.weaken ?_) (fun Dz DA DB DC sL=>dL Dz DA DB DC (ad.trans sL))
   rintro id ⟨p,aF,rfl⟩
   refine⟨⟨p,by simp[aF],rfl⟩,?_⟩
   have:=(List.pairwise_cons.1 a3).1 p aF
   simp only at this|-
   omega
theorem SS {ops:Array Oper} {b:List Nat} (h:y5 ops b=true) {i k:Nat} {o:Oper} (ay:ops[i]? =some o) (ag:k<i) (ad:(b.getD i 0).testBit k=true):
 ∃e∈o.after,Region.binds .any e=true/\(e.on=k\/(k<e.on/\(b.getD e.on 0).testBit k=true)):=by
 unfold y5 at h
 have U:=List.all_eq_true.1 h (o,i) (by
  rw[List.mem_zipIdx_iff_getElem?]
  simpa using ay)
 have h2:=List.all_eq_true.1 U k (by simpa using ag)
 simp only[ad,Bool.not_true,Bool.false_or] at h2
 obtain⟨e,he,aA⟩:=Array.any_eq_true'.1 h2
 simp only[Bool.and_eq_true,Bool.or_eq_true,beq_iff_eq,decide_eq_true_eq] at aA
 exact ⟨e,he,aA.1,aA.2⟩
theorem Ji {ops:Array Oper} (h:y4 ops=true) {i:Nat} {o:Oper} (ay:ops[i]? =some o) {e:Edge} (he:e∈o.after) (ad:Region.binds .any e=true):e.on<i:=by
 unfold y4 at h
 have U:=List.all_eq_true.1 h (o,i) (by
  rw[List.mem_zipIdx_iff_getElem?]
  simpa using ay)
 have h2:=Array.all_eq_true'.1 U e he
 simpa[ad] using h2
structure Left (P:Program) (N:Nat) (ops:Array Oper) (b:List Nat) (L:List (aU × Nat)) (cs:List eb) (listed:Array Bool):Prop where
 size:listed.size=ops.size
 mem:∀p∈L,∃o,ops[p.2]? =some o/\pX P N ops o=some p.1/\listed.getD p.2 true=false
 all:∀i,i<ops.size->listed.getD i true=false->∃e,(e,i)∈L
 zp:L.Pairwise (fun p q=>p.2<q.2)
 shut:∀i,i<ops.size->listed.getD i false=true->∀k,k<i->(b.getD i 0).testBit k=true->listed.getD k false=true
 Jj:∀p q (aF:p<q) (aM:q<L.length) (re:q<cs.length),(b.getD L[q].2 0).testBit L[p].2=true\/(L[p].1.apart L[q].1=true/\kH cs[p] cs[q]=true)
theorem SU {listed:Array Bool} {n i:Nat} (ax:listed.size=n) (ab:i<n):listed.getD i true=false\/listed.getD i false=true:=by
 have:i<listed.size:=by omega
 simp only[Array.getD_eq_getD_getElem?,Array.getElem?_eq_getElem this,Option.getD_some]
 cases listed[i]<;>simp
theorem SV (bt:jU c6) (jB:uM P G Y ch) (lA:∀f T,tab f=some T->aH P G f T) {ops:Array Oper} {b:List Nat} (SW:y5 ops b=true) (Jk:y4 ops=true) {aZ:Nat} {ao:aL} {Q:Exit->Act->World->Prop}:
 ∀(fuel:Nat) (L:List (aU × Nat)) (s:aL) (cs:List eb) (listed:Array Bool) (σ:Nat->Option (Nat × Nat)) (a:Act) (w:World),L.length<=fuel->
 Left P N ops b L cs listed->cT G tab ch aZ L s=some (ao,cs)->
 fE P G Y jD bJ base okin N cP cS (fun id=>∃p∈L,id=aZ+p.2) σ s a w->
 (∀bd eG aP,fE P G Y jD bJ base okin N cP cS (fun _=>False) bd ao eG aP->dp base okin σ s.h w bd ao.h aP->Q .normal eG aP)->wpAnyIn c6 dK P .any ops Q fuel listed a w:=by
 have fin:∀(s:aL) (cs:List eb) (σ:Nat->Option (Nat × Nat)) (a:Act) (w:World),cT G tab ch aZ [] s=some (ao,cs)->
  fE P G Y jD bJ base okin N cP cS (fun id=>∃p∈([]:List (aU × Nat)),id=aZ+p.2) σ s a w->
  (∀bd eG aP,fE P G Y jD bJ base okin N cP cS (fun _=>False) bd ao eG aP->dp base okin σ s.h w bd ao.h aP->Q .normal eG aP)->Q .normal a w:=by
  intro s cs σ a w cx S dL
  simp only[cT] at cx;cases cx
  exact dL σ a w (S.weaken fun _ h=>h.elim) (dp.refl ..)
 have SX:∀ {cs:List eb} {listed:Array Bool},Left P N ops b [] cs listed->Region.ready .any ops listed= []:=by
  intro cs listed bf
  apply List.eq_nil_iff_forall_not_mem.2
  intro i ab
  have aR:=mem_ready.1 ab
  obtain⟨az,o,ay,_⟩:=aR
  obtain⟨e,he⟩:=bf.all i (Array.getElem?_eq_some_iff.1 ay).1 az
  simp at he
 intro fuel
 induction fuel with
 | zero=>
   intro L s cs listed σ a w bb bf cx S dL
   have:L= []:=List.eq_nil_of_length_eq_zero (by omega)
   subst this
   exact ⟨SX bf,fin s cs σ a w cx S dL⟩
 | succ fuel a6=>
   intro L s cs listed σ a w bb bf cx S dL
   refine⟨fun aR=>?_,fun i ab=>?_⟩
   · cases L with
     | nil=>exact fin s cs σ a w cx S dL
     | cons p L=>
       exfalso
       obtain⟨o,ay,zo,az⟩:=bf.mem p (by simp)
       have:p.2∈Region.ready .any ops listed:=by
        refine mem_ready.2 ⟨az,o,ay,fun e he ad=>?_⟩
        have bF:=Ji Jk ay he ad
        have c3:=(Array.getElem?_eq_some_iff.1 ay).1
        rcases SU bf.size (show e.on<ops.size by omega) with U|U
        · obtain⟨q,aM⟩:=bf.all e.on (by omega) U
          rcases List.mem_cons.1 aM with aM|aM
          · rw[<-aM] at bF;simp at bF
          · have:=(List.pairwise_cons.1 bf.zp).1 _ aM
            simp at this;omega
        · exact U
       rw[aR] at this;simp at this
   · obtain⟨az,o,ay,SY⟩:=mem_ready.1 ab
     have uC:=(Array.getElem?_eq_some_iff.1 ay).1
     obtain⟨e,he⟩:=bf.all i uC az
     obtain⟨fD,k5,rfl⟩:=List.append_of_mem he
     have zh:∀k,k<i->listed.getD k false=false->(b.getD i 0).testBit k=false:=by
      intro k ag uO
      cases aN:(b.getD i 0).testBit k with
      | false=>rfl
      | true=>
        exfalso
        obtain⟨Jl,U,h2,aA⟩:=SS SW ay ag aN
        have Jm:=SY Jl U h2
        rcases aA with rfl|⟨aA,aT⟩
        · rw[Jm] at uO;cases uO
        · have bF:=Ji Jk ay U h2
          have:=bf.shut Jl.on (by omega) Jm k aA aT
          rw[this] at uO;cases uO
     have hlen:=Dy cx
     have SZ:∀p∈fD++(e,i)::k5,listed.getD p.2 false=false:=by
      intro p aF
      obtain⟨o',pY,_,q'⟩:=bf.mem p aF
      have c3:=(Array.getElem?_eq_some_iff.1 pY).1
      have kt:p.2<listed.size:=by rw[bf.size];exact c3
      simp only[Array.getD_eq_getD_getElem?,Array.getElem?_eq_getElem kt,Option.getD_some] at q'|-
      exact q'
     obtain⟨s1,c,b8,bQ,bu,ca,rfl,mr⟩:=I4 cx (fun k ag j4 q'=>by
      have p5:(fD++(e,i)::k5)[k]'(by simp;omega)=fD[k]:=List.getElem_append_left ag
      have wQ:(fD++(e,i)::k5)[fD.length]'(by simp)=(e,i):=by simp
      have aF:=bf.Jj k fD.length ag (by simp) q'
      rw[p5,wQ] at aF
      have bF:fD[k].2<i:=by
       have:=List.pairwise_append.1 bf.zp
       exact this.2.2 _ (List.getElem_mem ag) (e,i) (by simp)
      have bb:=zh fD[k].2 bF (SZ _ (by simp[List.getElem_mem ag]))
      rcases aF with aF|aF
      · rw[bb] at aF;cases aF
      · exact ⟨aF.1,aF.2,by omega⟩) jB.frame (by
        have S0:=S.free (aZ+i) ⟨(e,i),by simp,rfl⟩
        cases ad:s.h.cells (aZ+i) with
        | none=>rfl
        | some b=>
          obtain⟨_,_,_,_,U,_⟩:=S.ax.blk _ _ ad
          rw[S0.2.2] at U;cases U) (S.free (aZ+i) ⟨(e,i),by simp,rfl⟩).2.1
     obtain⟨o',pY,zo,_⟩:=bf.mem (e,i) (by simp)
     refine Jf bt jB lA pY zo bu S ⟨(e,i),by simp,rfl⟩ (fun bd eG aP mu ly=>?_)
     have Jn:∀p∈fD++k5,p.2≠i:=by
      intro p aF
      have aM:=List.pairwise_append.1 bf.zp
      rcases List.mem_append.1 aF with aF|aF
      · have:=aM.2.2 p aF (e,i) (by simp);simp at this;omega
      · have:=(List.pairwise_cons.1 aM.2.1).1 p aF;simp at this;omega
     have Jo:∀p∈fD++k5,p∈fD++(e,i)::k5:=by
      intro p aF
      rcases List.mem_append.1 aF with aF|aF
      · simp[aF]
      · simp[aF]
     have uP:∀(j:Nat) (d:Bool),j≠i->(listed.setIfInBounds i true).getD j d=listed.getD j d:=fun j d aB=>by
      simp only[Array.getD_eq_getD_getElem?]
      rw[Array.getElem?_setIfInBounds_ne (Ne.symm aB)]
     have S1:(listed.setIfInBounds i true).getD i false=true:=by
      have:i<listed.size:=by rw[bf.size];exact uC
      simp[Array.getD_eq_getD_getElem?,this]
     have S2:Left P N ops b (fD++k5) (b8++bQ) (listed.setIfInBounds i true):=by
      refine⟨by simpa using bf.size,fun p aF=>?_,fun j aB sw=>?_,?_,fun j aB sw k ag aN=>?_,fun p q aF aM re=>?_⟩
      · obtain⟨j3,U,h2,aA⟩:=bf.mem p (Jo p aF)
        exact ⟨j3,U,h2,by rw[uP _ _ (Jn p aF)];exact aA⟩
      · by_cases rk:j=i
        · subst rk
          have:j<listed.size:=by rw[bf.size];exact uC
          simp[Array.getD_eq_getD_getElem?,this] at sw
        · rw[uP _ _ rk] at sw
          obtain⟨e',S3⟩:=bf.all j aB sw
          refine⟨e',?_⟩
          rcases List.mem_append.1 S3 with h|h
          · simp[h]
          · rcases List.mem_cons.1 h with h|h
            · exact absurd (congrArg Prod.snd h) rk
            · simp[h]
      · have aM:=List.pairwise_append.1 bf.zp
        exact List.pairwise_append.2 ⟨aM.1,(List.pairwise_cons.1 aM.2.1).2,fun p aF q re=>aM.2.2 p aF q (by simp[re])⟩
      · by_cases uQ:k=i
        · subst uQ;exact S1
        · rw[uP _ _ uQ]
          by_cases rk:j=i
          · subst rk
            cases uO:listed.getD k false with
            | true=>rfl
            | false=>rw[zh k ag uO] at aN;cases aN
          · rw[uP _ _ rk] at sw
            exact bf.shut j aB sw k ag aN
      ·
       have Jp:b8.length=fD.length:=mr
       have pos:∀(r:Nat) (aR:r<(fD++k5).length) (nk:r<(b8++bQ).length),∃jd,(jd=if r<fD.length then r else r+1)/\∃(U:jd<(fD++(e,i)::k5).length) (h2:jd<(b8++c::bQ).length),(fD++k5)[r]=(fD++(e,i)::k5)[jd]/\(b8++bQ)[r]=(b8++c::bQ)[jd]:=by
        intro r aR nk
        simp only[List.length_append] at aR nk
        by_cases h:r<fD.length
        · refine⟨r,by rw[if_pos h],by simp;omega,by simp;omega,?_,?_⟩
          · rw[List.getElem_append_left h,List.getElem_append_left h]
          · rw[List.getElem_append_left (by omega),List.getElem_append_left (by omega)]
        · refine⟨r+1,by rw[if_neg h],by simp;omega,by simp;omega,?_,?_⟩
          · rw[List.getElem_append_right (by omega),List.getElem_append_right (by omega)]
            have:r+1 - fD.length=(r - fD.length)+1:=by omega
            simp[this]
          · rw[List.getElem_append_right (by omega),List.getElem_append_right (by omega)]
            have:r+1 - b8.length=(r - b8.length)+1:=by omega
            simp[this]
       obtain⟨nZ,S4,a_,bn,bN,cb⟩:=pos p (by omega) (by omega)
       obtain⟨nq,S5,db,dc,fK,kj⟩:=pos q aM re
       have:=bf.Jj nZ nq (by subst S4;subst S5;split<;>split<;>omega) db dc
       rw[bN,fK,cb,kj]
       exact this
     refine a6 (fD++k5) s1 (b8++bQ) (listed.setIfInBounds i true) bd eG aP (by simp at bb|-;omega) S2 ca (mu.weaken ?_) (fun Dz DA DB DC sL=>dL Dz DA DB DC (ly.trans sL))
     rintro id ⟨p,aF,rfl⟩
     exact ⟨⟨p,Jo p aF,rfl⟩,by have:=Jn p aF;omega⟩
theorem Jq {ops:Array Oper}:∀ {os:List Oper} {es:List aU},wI P N ops os=some es->es.length=os.length/\∀i (h:i<es.length) (h':i<os.length),pX P N ops os[i]=some es[i]
 | [],es,h=>by simp only[wI] at h;cases h;exact ⟨rfl,fun i h=>absurd h (by simp)⟩
 | o::os,es,h=>by
   simp only[wI] at h
   split at h<;>try(cases h;done)
   rename_i e ra U h2
   cases h
   obtain⟨l,q⟩:=Jq h2
   refine⟨by simp[l],fun i ab bV=>?_⟩
   cases i with
   | zero=>exact U
   | succ i=>exact q i (by simpa using ab) (by simpa using bV)
end
end Go.Eng
namespace Go.Eng
open Go Go.RowKit
section
variable {P:Program} {G:Nat->Option I} {base:Nat} {okin:Nat->Prop} {σ:Nat->Option (Nat × Nat)} {h:ah} {w:World}
theorem DD {l:Nat} {o o':Obj} (az:w.heap[l]? =some o) (ak:∀arr ty e,o≠ .cells arr ty e) (pf:∀es c,o≠ .map es c) (ok:Nat->Prop):uq w (w.putObj l o') ok ok:=fun b x ad ag ay=>
 ⟨ay,World.putObj_heap_other (by
   rintro rfl
   rw[az] at ad
   cases ad
   rcases ag with⟨_,_,_,rfl⟩|⟨_,_,rfl⟩
   · exact ak _ _ _ rfl
   · exact pf _ _ rfl)⟩
theorem DE {l:Nat} {o o':Obj} (az:w.heap[l]? =some o) (ak:∀arr ty e,o≠ .cells arr ty e) (b:Nat):iK w b<=iK (w.putObj l o') b:=by
 by_cases e:b=l
 · subst e
   have:iK w b=0:=by
    unfold iK
    rw[az]
    cases o<;>first|rfl|exact absurd rfl (ak _ _ _)
   omega
 · unfold iK
   rw[World.putObj_heap_other e];exact Nat.le_refl _
theorem cK.put (H:cK base okin σ h w) {l:Nat} {o:Obj} (o':Obj) (az:w.heap[l]? =some o) (ak:∀arr ty e,o≠ .cells arr ty e) (pf:∀es c,o≠ .map es c):cK base okin σ h (w.putObj l o'):=by
 refine⟨fun id b s ab=>⟨(H.val id b s ab).1,by simpa using (H.val id b s ab).2⟩,fun id gk iL=>?_,H.inj,by simpa using H.base⟩
 obtain⟨b,s,rb,ty,aq,av,aW⟩:=H.blk id gk iL
 refine⟨b,s,rb,ty,aq,?_,fun i ab=>⟨(aW i ab).1,fun j aB=>?_⟩⟩
 · rw[World.putObj_heap_other (by rintro rfl;rw[az] at av;exact ak _ _ _ (Option.some.inj av))];exact av
 · obtain⟨v,bL,cq⟩:=(aW i ab).2 j aB
   exact ⟨v,bL,cq.mono (DD az ak pf _) (fun _ _ x=>x) (DE az ak)⟩
theorem Jr {l:Nat} (o':Obj) (ad:base<=l):Below base w (w.putObj l o'):=⟨rfl,rfl,rfl,by simp,fun k ag=>World.putObj_heap_other (by omega)⟩
theorem dp.DF {l:Nat} {r:Loop} (az:w.heap[l]? =some (.loop r)) (ad:base<=l) (st:LoopState) (jV:Option Code) {h':ah} (kh:∀b,br base okin σ h b->br base okin σ h' b):
 dp base okin σ h w σ h' (w.putObj l (.loop {r with state:=st,pending:=jV})):=by
 have ak:∀arr ty e,Obj.loop r≠ .cells arr ty e:=fun _ _ _ h=>by cases h
 have pf:∀es c,Obj.loop r≠ .map es c:=fun _ _ h=>by cases h
 refine⟨fun _ _ x=>x,fun b o U ag h2=>⟨kh b h2,(DD az ak pf (fun _=>True) b o U ag trivial).2⟩,Jr _ ad,DE az ak,fun b r0 aG=>?_,fun b aG=>?_⟩
 · by_cases e:b=l
   · subst e
     rw[az] at aG;cases aG
     exact ⟨st,jV,World.putObj_heap_same (qb az)⟩
   · exact ⟨r0.state,r0.pending,by rw[World.putObj_heap_other e];exact aG⟩
 · rw[World.putObj_heap_other (by rintro rfl;rw[az] at aG;cases aG)];exact aG
theorem j8.set {aV:Nat->Option fT} (L:j8 σ aV w) {id l s:Nat} {r:Loop} {bR:fT} (aF:aV id=some bR) (pn:σ id=some (l,s)) (az:w.heap[l]? =some (.loop r)) (p:fT):
 j8 σ (au aV id (some p)) (w.putObj l (.loop {r with state:=oz p,pending:=oA p})):=by
 refine⟨fun iu q aM=>?_,fun i jc q nq a s1 s2 U h2 aq av=>?_⟩
 · by_cases e:iu=id
   · subst e
     simp only[au,if_true] at aM
     cases aM
     exact ⟨l,s,_,pn,World.putObj_heap_same (qb az),rfl,rfl⟩
   · simp only[au,e,if_false] at aM
     obtain⟨l3,ao,jd,aq,av,aW,bT⟩:=L.look iu q aM
     refine⟨l3,ao,jd,aq,?_,aW,bT⟩
     rw[World.putObj_heap_other]
     · exact av
     · rintro rfl
       exact e (L.inj iu id q bR _ _ _ aM aF aq pn)
 · have f:∀i q,au aV id (some p) i=some q->∃q,aV i=some q:=by
    intro i q aM
    by_cases e:i=id
    · subst e;exact ⟨bR,aF⟩
    · exact ⟨q,by simpa[au,e] using aM⟩
   obtain⟨db,U⟩:=f i q U
   obtain⟨dc,h2⟩:=f jc nq h2
   exact L.inj i jc db dc a s1 s2 U h2 aq av
theorem j8.del {aV:Nat->Option fT} (L:j8 σ aV w) {id l s:Nat} {bR:fT} (aF:aV id=some bR) (pn:σ id=some (l,s)) (o':Obj):j8 σ (au aV id none) (w.putObj l o'):=by
 have f:∀i q,au aV id none i=some q->i≠id/\aV i=some q:=by
  intro i q aM
  by_cases e:i=id
  · simp[au,e] at aM
  · exact ⟨e,by simpa[au,e] using aM⟩
 refine⟨fun iu q aM=>?_,fun i jc q nq a s1 s2 U h2 aq av=>L.inj i jc q nq a s1 s2 (f i q U).2 (f jc nq h2).2 aq av⟩
 obtain⟨e,aM⟩:=f iu q aM
 obtain⟨l3,ao,jd,aq,av,aW,bT⟩:=L.look iu q aM
 refine⟨l3,ao,jd,aq,?_,aW,bT⟩
 rw[World.putObj_heap_other]
 · exact av
 · rintro rfl
   exact e (L.inj iu id q bR _ _ _ aM aF aq pn)
theorem j8.add {aV:Nat->Option fT} (L:j8 σ aV w) (l2:∀id b s,σ id=some (b,s)->b<w.heap.size) {id:Nat} (bz:σ id=none) {b7:World} (ad:Below w.heap.size w b7) {l:Nat} (bF:w.heap.size<=l) {r:Loop}
 (az:b7.heap[l]? =some (.loop r)) (ax:r.state= .ready) (aF:r.pending=none):j8 (au σ id (some (l,0))) (au aV id (some .ready)) b7:=by
 refine⟨fun iu q aM=>?_,fun i jc q nq a s1 s2 U h2 aq av=>?_⟩
 · by_cases e:iu=id
   · subst e
     simp only[au,if_true] at aM
     cases aM
     exact ⟨l,0,r,by simp[au],az,ax,aF⟩
   · simp only[au,e,if_false] at aM
     obtain⟨l3,ao,jd,aq,av,aW,bT⟩:=L.look iu q aM
     exact ⟨l3,ao,jd,by simpa[au,e] using aq,by rw[ad.block l3 (qb av)];exact av,aW,bT⟩
 · by_cases e:i=id<;>by_cases e':jc=id
   · rw[e,e']
   · exfalso
     simp only[au,e,e',if_true,if_false] at aq av
     have:=l2 _ _ _ av
     cases aq;omega
   · exfalso
     simp only[au,e,e',if_true,if_false] at aq av
     have:=l2 _ _ _ aq
     cases av;omega
   · simp only[au,e,e',if_false] at U h2 aq av
     exact L.inj i jc q nq a s1 s2 U h2 aq av
theorem cK.named (H:cK base okin σ h w) {id l:Nat} (bz:σ id=none) (ad:base<=l) (az:l<w.heap.size):cK base okin (au σ id (some (l,0))) h w/\Prog base okin σ h w (au σ id (some (l,0))) h w:=by
 have J:=H.CS bz
 have sub:∀i x,σ i=some x->au σ id (some (l,0)) i=some x:=by
  intro i x ae
  unfold au
  by_cases e:i=id
  · subst e;rw[bz] at ae;cases ae
  · rw[if_neg e];exact ae
 have ok:∀b,br base okin σ h b->br base okin (au σ id (some (l,0))) h b:=by
  rintro b (ay|⟨U,h2⟩)
  · exact .inl ay
  · refine .inr ⟨U,fun i s ax DG=>?_⟩
    by_cases e:i=id
    · subst e;rw[J] at DG;simp at DG
    · exact h2 i s (by simpa[au,e] using ax) DG
 have P:Prog base okin σ h w (au σ id (some (l,0))) h w:=⟨sub,fun b _ ay=>⟨ok b ay,rfl⟩,Below.refl _ _,fun _=>Nat.le_refl _⟩
 refine⟨⟨fun i b s ab=>?_,fun i gk iL=>?_,fun i jc b s ao U h2 aq av=>?_,H.base⟩,P⟩
 · by_cases e:i=id
   · simp only[au,e,if_true] at ab;cases ab;exact ⟨ad,az⟩
   · simp only[au,e,if_false] at ab;exact H.val i b s ab
 · obtain⟨b,s,rb,ty,aq,av,aW⟩:=H.blk i gk iL
   refine⟨b,s,rb,ty,sub _ _ aq,av,fun j aB=>⟨(aW j aB).1,fun k ag=>?_⟩⟩
   obtain⟨v,bL,cq⟩:=(aW j aB).2 k ag
   exact ⟨v,bL,P.rep cq⟩
 · have lK:i≠id:=by rintro rfl;rw[J] at U;simp at U
   have mi:jc≠id:=by rintro rfl;rw[J] at h2;simp at h2
   exact H.inj i jc b s ao U h2 (by simpa[au,lK] using aq) (by simpa[au,mi] using av)
inductive Drop (bJ:Nat):World->World->Prop
 | refl (w:World):Drop bJ w w
 | step {w c9:World} {D:Nat}:bJ<=D->w.heap[D]? =some (.deferred (some []))->Drop bJ (w.putObj D (.deferred none)) c9->Drop bJ w c9
theorem Drop.keeps {bJ:Nat} {w c9:World} (d:Drop bJ w c9):∀ {j9:World} {cS:Nat->Option (Nat × Nat)} {aG:ah},bJ=j9.heap.size->base<=bJ->dp base okin cS aG j9 σ h w->cK base okin σ h w->j8 σ h.aV w->
 dp base okin cS aG j9 σ h c9/\cK base okin σ h c9/\j8 σ h.aV c9/\(∀v cv,a4 w (br base okin σ h) σ v cv->a4 c9 (br base okin σ h) σ v cv):=by
 induction d with
 | refl w=>exact fun _ _ p H L=>⟨p,H,L,fun _ _ r=>r⟩
 | @step w c9 D U h2 _ a6=>
   intro j9 cS aG he ad p H L
   have ak:∀arr ty e,Obj.deferred (some [])≠ .cells arr ty e:=fun _ _ _ h=>by cases h
   have pf:∀es c,Obj.deferred (some [])≠ .map es c:=fun _ _ h=>by cases h
   have st:=DD (o':= .deferred none) h2 ak pf (br base okin σ h)
   have Js:=DE (o':= .deferred none) h2 ak
   have bn:dp base okin cS aG j9 σ h (w.putObj D (.deferred none)):=by
    refine⟨p.sub,fun b o bL Jt cq=>?_,p.below.trans (Jr _ (Nat.le_trans ad U)),fun b=>Nat.le_trans (p.grow b) (Js b),fun b r g=>?_,fun b g=>?_⟩
    · obtain⟨j3,aq⟩:=p.still b o bL Jt cq
      obtain⟨dz,av⟩:=st b o (by rw[aq];exact bL) Jt j3
      exact ⟨dz,av.trans aq⟩
    · obtain⟨s1,a_,aq⟩:=p.loop b r g
      exact ⟨s1,a_,by rw[World.putObj_heap_other (by rintro rfl;rw[h2] at aq;cases aq)];exact aq⟩
    · have:=qb g
      rw[World.putObj_heap_other (by omega)]
      exact p.oy b g
   have k5:j8 σ h.aV (w.putObj D (.deferred none)):=⟨fun id q aM=>by
    obtain⟨l,s,r,aq,av,aW,bT⟩:=L.look id q aM
    exact ⟨l,s,r,aq,by rw[World.putObj_heap_other (by rintro rfl;rw[h2] at av;cases av)];exact av,aW,bT⟩,L.inj⟩
   obtain⟨db,dc,fK,kj⟩:=a6 he ad bn (H.put _ h2 ak pf) k5
   exact ⟨db,dc,fK,fun v cv r=>kj v cv (r.mono st (fun _ _ x=>x) Js)⟩
theorem Ju {Fn:Func} {tmps:Array Value} {R:Ending->World->Prop} {bJ:Nat}:∀(cH:List Deferred) (w:World),Marks bJ cH w->(∀c9,Drop bJ w c9->∃v,(results Fn tmps).run P c9= .ok v c9/\R (.returned v) c9)->
 LeavesInM Fence.wide 0 P Fn tmps R cH .returning w
 | [],w,_,e0=>e0 w (.refl w)
 | d::cH,w,M,e0=>by
   obtain⟨D,U,h2,aA⟩:=M.each d (by simp)
   refine⟨by simp,.inl ⟨D,w.putObj D (.deferred none),U,run_takeDeferred aA,Ju cH _ ⟨fun o4 uR=>?_,(List.pairwise_cons.1 M.nodup).2⟩ (fun c9 a3=>e0 c9 (.step h2 aA a3))⟩⟩
   obtain⟨Jv,bL,cq,eE⟩:=M.each o4 (by simp[uR])
   refine⟨Jv,bL,cq,?_⟩
   rw[World.putObj_heap_other]
   · exact eE
   · rintro rfl
     exact (List.pairwise_cons.1 M.nodup).1 o4 uR (by rw[U,bL])
end
end Go.Eng
namespace Go.Eng
open Go Go.RowKit
def zq:dg->Exit
 | .normal=> .normal
 | .exit id=> .exit id
 | .ret=> .ret
section
variable {P:Program} {G:Nat->Option I} {base:Nat} {okin:Nat->Prop} {N:Nat} {cP:Nat} {cS:Nat->Option (Nat × Nat)} {tab:FuncId->Option (List I->Option I)} {Y:List cJ} {jD:Option Nat} {bJ:Nat}
theorem fE.bump {cw:Nat->Prop} {σ:Nat->Option (Nat × Nat)} {s:aL} {a:Act} {w:World} (S:fE P G Y jD bJ base okin N cP cS cw σ s a w) (m:Nat):
 fE P G Y jD bJ base okin N cP cS (fun id=>s.h.next<=id/\id<s.h.next+m) σ ⟨s.F,{s.h with next:=s.h.next+m}⟩ a w:=
 ⟨⟨S.ax.val,S.ax.blk,S.ax.inj,S.ax.base⟩,S.lM,S.jy,S.bI,S.size,S.marks,S.rd,S.sK,fun id bz=>⟨Nat.le_trans S.low bz.1,bz.2,S.fresh id bz.1⟩,Nat.le_trans S.low (Nat.le_add_right _ _),S.mn,fun id bz=>S.fresh id (Nat.le_trans (Nat.le_add_right _ _) bz)⟩
theorem dp.next {σ bd:Nat->Option (Nat × Nat)} {h h':ah} {w aP:World} {m:Nat} (p:dp base okin σ {h with next:=m} w bd h' aP):dp base okin σ h w bd h' aP:=⟨p.sub,p.still,p.below,p.grow,p.loop,p.oy⟩
theorem fE.drew {cw:Nat->Prop} {σ:Nat->Option (Nat × Nat)} {s:aL} {a:Act} {w:World} (S:fE P G Y jD bJ base okin N cP cS cw σ s a w):fE P G Y jD bJ base okin N cP cS cw σ s a w.drew:=by
 obtain⟨H,p⟩:=S.ax.drew
 have q:=dp.of S.ax p
 exact ⟨H,S.lM.of S.ax p rfl,S.jy.mono q,S.bI.mono q,S.size,S.marks.mono q.oy,fun l az=>by
  obtain⟨r,U⟩:=S.rd l az
  obtain⟨st,jV,h2⟩:=q.loop l r U
  exact ⟨_,h2⟩,Nat.le_trans S.sK q.below.size,S.free,S.low,S.mn,S.fresh⟩
theorem S6 (hm:P.follows .mixedOrders=true) {c6:Fence} {dK:Nat} (bt:jU c6) {ch:k2->List I->ah->Option (I × ah)} (jB:uM P G Y ch) (lA:∀f T,tab f=some T->aH P G f T)
 {id:Nat} {ops:Array Oper} {draw:Bool} {es:List aU} {b:List Nat} {kx:Bool} (J:gj P N (.region id ops draw)=some (.region kx es b)) {s ao:aL} (cx:ew G tab ch kx es b s=some ao)
 {cw:Nat->Prop} {σ:Nat->Option (Nat × Nat)} {a:Act} {w:World} (S:fE P G Y jD bJ base okin N cP cS cw σ s a w) {Q:Exit->Act->World->Prop}
 (dL:∀bd eG aP,fE P G Y jD bJ base okin N cP cS (fun _=>False) bd ao eG aP->dp base okin σ s.h w bd ao.h aP->Q .normal eG aP):(Code.region id ops draw).wpIn c6 dK P Q a w:=by
 simp only[gj] at J
 split at J<;>try(cases J;done)
 rename_i Jw S7
 obtain⟨bG,db⟩:=Jq S7
 have c3:Jw.length=ops.size:=by simpa using bG
 unfold ew at cx
 split at cx<;>try(cases cx;done)
 rename_i s1 cs aR
 split at cx<;>try(cases cx;done)
 rename_i kh
 cases cx
 have zr:∀(es:List aU),es=Jw->∀p∈es.zipIdx,∃o,ops[p.2]? =some o/\pX P N ops o=some p.1/\p.2<ops.size:=by
  rintro es rfl p aF
  obtain⟨e,i⟩:=p
  have U:=List.mem_zipIdx_iff_getElem?.1 aF
  simp only at U
  obtain⟨ab,rfl⟩:=List.getElem?_eq_some_iff.1 U
  have bV:i<ops.toList.length:=by simp;omega
  have:=db i ab bV
  refine⟨ops[i]'(by simpa using bV),by simp[Array.getElem?_eq_getElem (show i<ops.size by simpa using bV)],by simpa using this,by simpa using bV⟩
 have Jx:∀(es:List aU),es.zipIdx.Pairwise (fun p q=>p.2<q.2):=by
  intro es
  rw[List.pairwise_iff_getElem]
  intro i j ab aB S8
  simpa using S8
 cases draw with
 | false=>
   simp only[Bool.false_eq_true,if_false] at J
   cases J
   refine wpIn_region ?_
   have S9:es.zipIdx.map (·.2)=List.range ops.size:=by
    rw[<-c3]
    apply List.ext_getElem
    · simp
    · intro i U h2;simp
   rw[<-S9]
   refine Jg bt jB lA _ _ cs σ a w (fun p aF=>by obtain⟨o,U,h2,_⟩:=zr es rfl p aF;exact ⟨o,U,h2⟩) (Jx es) aR ((S.bump es.length).weaken ?_) (fun bd eG aP mu ad=>dL bd eG aP mu ad.next)
   rintro id ⟨p,aF,rfl⟩
   obtain⟨_,_,_,aA⟩:=zr es rfl p aF
   exact ⟨Nat.le_add_right _ _,by omega⟩
 | true=>
   simp only[if_true] at J
   split at J<;>try(cases J;done)
   rename_i Jy
   cases J
   simp only[Bool.and_eq_true] at Jy
   obtain⟨⟨⟨lK,mi⟩,CX⟩,ajd⟩:=Jy
   simp only[Bool.not_true,Bool.false_or] at kh
   refine wpIn_region_any hm ?_
   have hlen:=Dy aR
   refine SV bt jB lA CX mi ops.size es.zipIdx _ cs _ σ a _ (by simp;omega) ?_ aR (((S.drew).bump es.length).weaken ?_) (fun bd eG aP mu ad=>dL bd eG aP mu ?_)
   · refine⟨by simp,fun p aF=>?_,fun i ab _=>?_,Jx es,fun i ab az=>?_,fun p q aF aM re=>?_⟩
     · obtain⟨o,U,h2,aA⟩:=zr es rfl p aF
       exact ⟨o,U,h2,by simp[Array.getD_eq_getD_getElem?,aA]⟩
     · exact ⟨es[i]'(by omega),by rw[List.mem_zipIdx_iff_getElem?];simp[List.getElem?_eq_getElem (show i<es.length by omega)]⟩
     · simp[Array.getD_eq_getD_getElem?,ab] at az
     · have kv:q<es.length:=by simpa using aM
       have qd:p<es.length:=by omega
       simp only[List.getElem_zipIdx,Nat.zero_add]
       have a1:=List.all_eq_true.1 lK (es[q],q) (by rw[List.mem_zipIdx_iff_getElem?];simp[List.getElem?_eq_getElem kv])
       have eZ:=List.all_eq_true.1 a1 (es[p],p) (by rw[List.mem_zipIdx_iff_getElem?];simp[List.getElem?_eq_getElem qd])
       have b1:=List.all_eq_true.1 kh (cs[q],q) (by rw[List.mem_zipIdx_iff_getElem?];simp[List.getElem?_eq_getElem re])
       have eo:=List.all_eq_true.1 b1 (cs[p]'(by omega),p) (by rw[List.mem_zipIdx_iff_getElem?];simp[List.getElem?_eq_getElem (show p<cs.length by omega)])
       simp only[decide_eq_true aF,Bool.not_true,Bool.false_or,Bool.or_eq_true] at eZ eo
       rcases eZ with eZ|eZ
       · exact .inl eZ
       · rcases eo with eo|eo
         · exact .inl eo
         · exact .inr ⟨eZ,eo⟩
   · rintro id ⟨p,aF,rfl⟩
     obtain⟨_,_,_,aA⟩:=zr es rfl p aF
     exact ⟨Nat.le_add_right _ _,by simp;omega⟩
   · exact dp.trans (dp.of S.ax S.ax.drew.2) ad.next
def zt (tmps:Array Value):ResultVar->Sem Value
 | .tmp t=>pure (tmps.getD t undef)
 | .cell a t=>do loadVar t (<-asAddr (tmps.getD a undef))
theorem S_ (fn:Func) (tmps:Array Value):results fn tmps=(do let vs <-fn.results.mapM (zt tmps);pure (if h:vs.size=1 then vs[0] else .tuple vs)):=by
 unfold results
 congr 1
theorem S' {fn:Func} {rs:List mT} (DH:sq P fn.results.toList=some rs) {σ:Nat->Option (Nat × Nat)} {s:aL} {a:Act} {w:World} (dv:cK base okin σ s.h w) (Jz:ki G (br base okin σ s.h) σ w s.F a) {v:I} (an:dJ s.h s.F rs=some v):
 ∃cv,(results fn a.tmps).run P w= .ok cv w/\a4 w (br base okin σ s.h) σ v cv:=by
 have main:∀(mW:List ResultVar) (rs:List mT) (vs:List I),sq P mW=some rs->rs.mapM (eY s.h s.F)=some vs->
  ∃jf:List Value,(mW.mapM (zt a.tmps)).run P w= .ok jf w/\jf.length=vs.length/\∀i (h:i<vs.length) (h':i<jf.length),a4 w (br base okin σ s.h) σ vs[i] jf[i]:=by
  intro mW
  induction mW with
  | nil=>
    intro rs vs U h2
    simp only[sq] at U;cases U
    simp only[List.mapM_nil] at h2;cases h2
    exact ⟨[],by simp,rfl,fun i h=>absurd h (by simp)⟩
  | cons r mW a6=>
    intro rs vs U h2
    simp only[sq] at U
    split at U<;>try(cases U;done)
    rename_i x xs ae ou
    cases U
    rw[List.mapM_cons] at h2
    obtain⟨u,hu,h2⟩:=Option.bind_eq_some_iff.1 h2
    obtain⟨us,CZ,h2⟩:=Option.bind_eq_some_iff.1 h2
    cases h2
    obtain⟨jf,aq,av,aW⟩:=a6 xs us ou CZ
    have one:∃nS,(zt a.tmps r).run P w= .ok nS w/\a4 w (br base okin σ s.h) σ u nS:=by
     cases r with
     | tmp t=>
       simp only[CP] at ae;cases ae
       simp only[eY] at hu;cases hu
       exact ⟨_,rfl,Jz.slot t⟩
     | cell eG t=>
       simp only[CP] at ae
       split at ae<;>try(cases ae;done)
       rename_i bS sz dF c3
       split at ae<;>try(cases ae;done)
       rename_i aT
       cases ae
       simp only[eY] at hu
       split at hu<;>try(cases hu;done)
       rename_i id idx cN bt
       obtain⟨blk,ad,hu⟩:=Option.bind_eq_some_iff.1 hu
       obtain⟨e,he,hu⟩:=Option.bind_eq_some_iff.1 hu
       obtain⟨cs,pb,aF⟩:=Option.bind_eq_some_iff.1 hu
       have rt:=Jz.slot eG
       rw[bt] at rt
       obtain⟨IN,b_,ev,ax⟩:=rt.wK
       obtain⟨ey,bL,cq⟩:=dv.elem ad he ax pb
       obtain⟨cv,bu,ca⟩:=CV (P:=P) (w:=w) (σ:=σ) (ok:=br base okin σ s.h) dF c3 aT _ ey bL (uu pb).2.1 cq aF
       exact ⟨cv,by simp[zt,ev,asAddr,bu],ca⟩
    obtain⟨nS,b8,bQ⟩:=one
    refine⟨nS::jf,?_,by simp[av],fun i ab bV=>?_⟩
    · rw[List.mapM_cons]
      simp only[Sem.run_bind]
      rw[b8]
      simp only[Result.andThen_ok]
      rw[aq]
      simp
    · cases i with
      | zero=>exact bQ
      | succ i=>exact aW i (by simpa using ab) (by simpa using bV)
 unfold dJ at an
 obtain⟨vs,U,h2⟩:=Option.map_eq_some_iff.1 an
 obtain⟨jf,aq,av,aW⟩:=main _ _ _ DH U
 have cx:(results fn a.tmps).run P w= .ok (if h:jf.toArray.size=1 then jf.toArray[0] else .tuple jf.toArray) w:=by
  rw[S_,Array.mapM_eq_mapM_toList]
  simp only[Sem.run_bind,Sem.run_map]
  rw[aq]
  simp
 refine⟨_,cx,?_⟩
 split at h2
 · rename_i v0
   subst h2
   have az:jf.length=1:=by simpa using av
   rw[dif_pos (by simpa using az)]
   have:=aW 0 (by simp) (by omega)
   simpa using this
 · rename_i bP
   subst h2
   have az:jf.length≠1:=by
    intro az
    rw[av] at az
    obtain⟨v0,rfl⟩:=List.length_eq_one_iff.1 az
    exact bP v0 rfl
   rw[dif_neg (by simpa using az)]
   exact .bK _ _ (by simpa using av) (fun i ab bV=>by simpa using aW i ab (by simpa using bV))
theorem Ta {fn:Func} {f:aO} (h:CQ P fn=some f):∃c,fn.body=some c/\gj P fn.ntmps c=some f.body/\sq P fn.results.toList=some f.res/\fn.name≠ "runtime.NumGoroutine":=by
 unfold CQ at h
 split at h<;>try(cases h;done)
 rename_i ak
 split at h<;>try(cases h;done)
 rename_i c ad
 split at h<;>try(cases h;done)
 rename_i b rs U h2
 cases h
 exact ⟨c,ad,U,h2,by simpa using ak⟩
theorem zu {f:FuncId} {fn:Func} (bb:P.funcs[f]? =some fn) {c:Code} (ad:fn.body=some c) (ak:fn.name≠ "runtime.NumGoroutine") (args:Array Value) (w:World):(callFunc f args).run P w= .ok (.enter f args) w:=by
 simp[callFunc,bb,ad,ak]
def ky (G:Nat->Option I) (Φ:FuncId->Option aO) (tab:FuncId->Option (List I->Option I)) (n:Nat) (Y:List cJ) (f:FuncId) (args:List I) (h:ah):Option (I × ah):=
 match Φ f with
 | some fn=>match exec G Φ tab n Y fn.body ⟨dQ args,h⟩ with
   | some (.normal,ao)|some (.ret,ao)=>(dJ ao.h ao.F fn.res).map fun v=>(v,ao.h)
   | _=>none
 | none=>none
def oB (G:Nat->Option I) (Φ:FuncId->Option aO) (tab:FuncId->Option (List I->Option I)) (n:Nat) (Y:List cJ) (id:Nat) (args:List I) (h:ah):Option (I × ah):=
 match om id Y with
 | some (L,Y')=>if L.ps.length=args.length then
    match exec G Φ tab n Y' L.dI ⟨nh L.F L.ps args,h⟩ with
    | some (.normal,s1)=>match s1.h.aV id with
      | some .ready=>match exec G Φ tab n Y' L.body ⟨s1.F,s1.h.set id (some .busy)⟩ with
        | some (e,ao)=>match ao.h.aV id with
          | some .busy=>match e with
            | .normal=>some (.bool true,ao.h.set id (some .ready))
            | e=>some (.bool false,ao.h.set id (some (.done e)))
          | _=>none
        | none=>none
      | _=>none
    | _=>none
   else none
 | none=>none
def kP (G:Nat->Option I) (Φ:FuncId->Option aO) (tab:FuncId->Option (List I->Option I)) (n:Nat) (Y:List cJ) (t:k2) (args:List I) (h:ah):Option (I × ah):=
 match t with
 | .fn f=>ky G Φ tab n Y f args h
 | .lv id=>oB G Φ tab n Y id args h
theorem rl {Φ:FuncId->Option aO} {n:Nat} {f:FuncId} {args:List I} {h h':ah} {v:I} (J:ky G Φ tab n Y f args h=some (v,h')):
 ∃fn ex ao,Φ f=some fn/\exec G Φ tab n Y fn.body ⟨dQ args,h⟩=some (ex,ao)/\(ex= .normal\/ex= .ret)/\dJ ao.h ao.F fn.res=some v/\ao.h=h':=by
 unfold ky at J
 split at J<;>try(cases J;done)
 rename_i fn bb
 split at J
 · rename_i ao he
   obtain⟨u,hu,J⟩:=Option.map_eq_some_iff.1 J
   cases J
   exact ⟨fn,_,ao,bb,he,.inl rfl,hu,rfl⟩
 · rename_i ao he
   obtain⟨u,hu,J⟩:=Option.map_eq_some_iff.1 J
   cases J
   exact ⟨fn,_,ao,bb,he,.inr rfl,hu,rfl⟩
 · cases J
theorem uS {Φ:FuncId->Option aO} {n:Nat} {id:Nat} {args:List I} {h h':ah} {v:I} (J:oB G Φ tab n Y id args h=some (v,h')):
 ∃L Y' s1 ex ao,om id Y=some (L,Y')/\L.ps.length=args.length/\exec G Φ tab n Y' L.dI ⟨nh L.F L.ps args,h⟩=some (.normal,s1)/\s1.h.aV id=some .ready/\
  exec G Φ tab n Y' L.body ⟨s1.F,s1.h.set id (some .busy)⟩=some (ex,ao)/\ao.h.aV id=some .busy/\((ex= .normal/\v= .bool true/\h'=ao.h.set id (some .ready))\/(ex≠ .normal/\v= .bool false/\h'=ao.h.set id (some (.done ex)))):=by
 unfold oB at J
 split at J<;>try(cases J;done)
 rename_i L Y' bf
 split at J<;>try(cases J;done)
 rename_i hlen
 split at J<;>try(cases J;done)
 rename_i s1 U
 split at J<;>try(cases J;done)
 rename_i aF
 split at J<;>try(cases J;done)
 rename_i e ao h2
 split at J<;>try(cases J;done)
 rename_i ad
 split at J
 · cases J
   exact ⟨L,Y',s1,_,ao,bf,hlen,U,aF,h2,ad,.inl ⟨rfl,rfl,rfl⟩⟩
 · rename_i bP
   cases J
   exact ⟨L,Y',s1,e,ao,bf,hlen,U,aF,h2,ad,.inr ⟨bP,rfl,rfl⟩⟩
theorem JA {id:Nat} {L:cJ} {Y':List cJ}:∀ {Y:List cJ},om id Y=some (L,Y')->L∈Y/\L.id=id/\∀X∈Y',X∈Y
 | [],h=>by cases h
 | X::Y,h=>by
   unfold om at h
   split at h
   · rename_i bz
     cases h
     exact ⟨by simp,bz,fun Z DI=>by simp[DI]⟩
   · obtain⟨U,h2,aA⟩:=JA h
     exact ⟨by simp[U],h2,fun Z DI=>by simp[aA Z DI]⟩
def uT (P:Program) (G:Nat->Option I) (tab:FuncId->Option (List I->Option I)) (n:Nat):Prop:=
 ∀(N:Nat) (Y:List cJ) (c:Code) (qe:c2) (s:aL) (ex:dg) (ao:aL),gj P N c=some qe->exec G (aI P) tab n Y qe s=some (ex,ao)->
  ∀(c6:Fence) (dK:Nat) (_:jU c6) (bJ:Nat) (base:Nat) (okin:Nat->Prop) (cP:Nat) (cS:Nat->Option (Nat × Nat)) (σ:Nat->Option (Nat × Nat)) (a:Act) (w:World) (Q:Exit->Act->World->Prop),fE P G Y c6.round bJ base okin N cP cS (fun _=>False) σ s a w->
   (∀bd eG aP,fE P G Y c6.round bJ base okin N cP cS (fun _=>False) bd ao eG aP->dp base okin σ s.h w bd ao.h aP->Q (zq ex) eG aP)->c.wpIn c6 dK P Q a w
theorem DJ {n:Nat} (fX:uT P G tab n) {f:FuncId} {args:List I} {h h':ah} {v:I} (J:ky G (aI P) tab n Y f args h=some (v,h')):
 ∀base okin σ w (dm:Array Value),cK base okin σ h w->j8 σ h.aV w->pj P G base okin Y σ h w->dm.size=args.length->
  (∀i (ab:i<args.length) (bV:i<dm.size),a4 w (br base okin σ h) σ args[i] dm[i])->
  (∀g u,G g=some u->a4 w (br base okin σ h) σ (.e4 u) (.pointer (some ⟨g,0,none⟩)))->(∀id,h.next<=id->σ id=none)->
  (callFunc f dm).run P w= .ok (.enter f dm) w/\Calls P f dm w fun e aP=>∃cv,e= .returned cv/\uL base okin σ h w h' v cv aP:=by
 obtain⟨fn,ex,ao,bb,he,hex,DK,rfl⟩:=rl J
 obtain⟨Fn,bt,Tb⟩:=Option.bind_eq_some_iff.1 bb
 obtain⟨c,ad,nT,DH,DL⟩:=Ta Tb
 have Tc:=fX Fn.ntmps Y c fn.body ⟨dQ args,h⟩ ex ao nT he
 refine fun base okin σ w dm H DM zv c3 fy qf w8=>⟨zu bt ad DL _ _,?_⟩
 refine(callsIn_wide (n:=0)).1 (callsIn_of_wp_marks bt ad trivial ?_)
 have S:fE P G Y Fence.wide.round w.heap.size base okin Fn.ntmps h.next σ (fun _=>False) σ ⟨dQ args,h⟩ {tmps:=dm++Array.replicate (Fn.ntmps - dm.size) undef,defers:=[]} w:=by
  refine⟨H,DM,zv,⟨fun t=>?_,qf⟩,by simp;omega,⟨fun d a3=>absurd a3 (by simp),List.Pairwise.nil⟩,fun l az=>(by cases az),Nat.le_refl _,fun id bz=>bz.elim,Nat.le_refl _,fun _ _=>rfl,w8⟩
  simp only[dQ]
  by_cases aN:t<args.length
  · have bF:t<dm.size:=by omega
    have aq:args.getD t .undef=args[t]:=by simp[List.getD,aN]
    have av:(dm++Array.replicate (Fn.ntmps - dm.size) undef).getD t undef=dm[t]:=by
     rw[Du _ _ (by simp;omega),Array.getElem_append_left bF]
    rw[aq,av]
    exact fy t aN bF
  · have aq:args.getD t .undef= .undef:=by simp[List.getD,List.getElem?_eq_none (Nat.le_of_not_lt aN)]
    rw[aq];exact .undef _
 refine Tc Fence.wide 0 (.inl rfl) w.heap.size base okin h.next σ σ _ w _ S (fun bd eG aP mu p=>?_)
 have fin:LeavesInM Fence.wide 0 P Fn eG.tmps (fun e aP=>∃cv,e= .returned cv/\uL base okin σ h w ao.h v cv aP) eG.defers .returning aP:=by
  refine Ju _ _ mu.marks fun c9 a3=>?_
  obtain⟨db,dc,fK,kj⟩:=a3.keeps rfl H.base p mu.ax mu.lM
  obtain⟨cv,bu,ca⟩:=S' DH dc ⟨fun t=>kj _ _ (mu.bI.slot t),fun g u aY=>kj _ _ (mu.bI.nj g u aY)⟩ DK
  exact ⟨cv,bu,cv,rfl,bd,db,dc,fK,ca,mu.fresh,mu.mn⟩
 rcases hex with rfl|rfl
 · exact fin
 · exact fin
theorem Td {ps:List Nat}:∀ {vs:List I} {jf:List Value} {w:World} {ok:Nat->Prop} {σ:Nat->Option (Nat × Nat)} {F:Nat->I} {b':Array Value},vs.length=ps.length->jf.length=ps.length->(∀p∈ps,p<b'.size)->
 (∀t,a4 w ok σ (F t) (b'.getD t undef))->(∀i (h:i<vs.length) (h':i<jf.length),a4 w ok σ vs[i] jf[i])->
 ∀t,a4 w ok σ (nh F ps vs t) (((ps.zip jf).foldl (fun tmps (t,a)=>tmps.setIfInBounds t a) b').getD t undef):=by
 induction ps with
 | nil=>intro vs jf w ok σ F b' U h2 aF bt an t;simpa[nh] using bt t
 | cons p ps a6=>
   intro vs jf w ok σ F b' U h2 aF bt an t
   cases vs with
   | nil=>simp at U
   | cons v vs=>
     cases jf with
     | nil=>simp at h2
     | cons c jf=>
       simp only[nh,List.zip_cons_cons,List.foldl_cons]
       refine a6 (by simpa using U) (by simpa using h2) (fun q aM=>by simpa using aF q (by simp[aM])) (fun t=>?_) (fun i ab bV=>by
        have:=an (i+1) (by simpa using ab) (by simpa using bV)
        simpa using this) t
       have bF:=aF p (by simp)
       by_cases e:t=p
       · subst e
         have:=an 0 (by simp) (by simp)
         simpa[au,Array.getD,bF] using this
       · have av:(b'.setIfInBounds p c).getD t undef=b'.getD t undef:=by
          simp only[Array.getD_eq_getD_getElem?]
          rw[Array.getElem?_setIfInBounds_ne (Ne.symm e)]
         rw[av]
         simpa[au,e] using bt t
theorem Te {ps:List Nat}:∀ {jf:List Value} {b':Array Value},((ps.zip jf).foldl (fun tmps (t,a)=>tmps.setIfInBounds t a) b').size=b'.size:=by
 induction ps with
 | nil=>intro jf b';simp
 | cons p ps a6=>
   intro jf b'
   cases jf with
   | nil=>simp
   | cons c jf=>simp only[List.zip_cons_cons,List.foldl_cons];rw[a6];simp
theorem JB {ch:k2->List I->ah->Option (I × ah)} (jB:∀t args h v h',ch t args h=some (v,h')->h.next<=h'.next) {aZ:Nat}:∀ {L:List (aU × Nat)} {s ao:aL} {cs:List eb},cT G tab ch aZ L s=some (ao,cs)->s.h.next<=ao.h.next
 | [],s,ao,cs,h=>by simp only[cT] at h;cases h;exact Nat.le_refl _
 | (e,i)::L,s,ao,cs,h=>by
   simp only[cT] at h
   split at h<;>try(cases h;done)
   rename_i s1 c U
   obtain⟨p,h2,aA⟩:=Option.map_eq_some_iff.1 h
   cases aA
   refine Nat.le_trans ?_ (JB jB h2)
   have go:∀ {s1:aL} {c:eb},cX G tab ch aZ (aZ+i) e s=some (s1,c)->s.h.next<=s1.h.next:=by
    intro s1 c aY
    unfold cX at aY
    split at aY
    · split at aY<;>try(cases aY;done)
      · split at aY
        · split at aY<;>try(cases aY;done)
          obtain⟨v,_,aY⟩:=Option.map_eq_some_iff.1 aY
          cases aY
          exact Nat.le_refl _
        · obtain⟨q,aM,aY⟩:=Option.map_eq_some_iff.1 aY
          obtain⟨v,h'⟩:=q
          cases aY
          exact jB _ _ _ _ _ aM
      · obtain⟨q,aM,aY⟩:=Option.map_eq_some_iff.1 aY
        obtain⟨v,h'⟩:=q
        cases aY
        exact jB _ _ _ _ _ aM
    · obtain⟨q,aM,aY⟩:=Option.map_eq_some_iff.1 aY
      obtain⟨v,h',cO⟩:=q
      have o8:(⟨cA s.F e.dst v,h'⟩:aL)=s1:=congrArg Prod.fst aY
      subst o8
      exact Nat.le_of_eq (congrArg Prod.fst (uG aM).1).symm
   unfold cB at U
   split at U
   · exact go U
   · split at U<;>try(cases U;done)
     · split at U
       · exact go U
       · cases U;exact Nat.le_refl _
     · cases U;exact Nat.le_refl _
theorem iF (G:Nat->Option I) (Φ:FuncId->Option aO) (tab:FuncId->Option (List I->Option I)) (n:Nat) (Y:List cJ) (c:c2) (s:aL):exec G Φ tab (n+1) Y c s=match c with
 | .skip=>some (.normal,s)
 | .ret=>some (.ret,s)
 | .exit id=>some (.exit id,s)
 | .region draw ops e5=>(ew G tab (kP G Φ tab n Y) draw ops e5 s).map fun ao=>(.normal,ao)
 | .seq a b=>match exec G Φ tab n Y a s with
   | some (.normal,ao)=>exec G Φ tab n Y b ao
   | r=>r
 | .cond x a b=>match x.ev G s.F with
   | .bool t=>if t then exec G Φ tab n Y a s else exec G Φ tab n Y b s
   | _=>none
 | .block id b=>match exec G Φ tab n Y b s with
   | some (.exit i,ao)=>if i=id then some (.normal,ao) else some (.exit i,ao)
   | r=>r
 | .loop b=>match exec G Φ tab n Y b s with
   | some (.normal,ao)=>exec G Φ tab n Y (.loop b) ao
   | r=>r
 | .lu f ps dI body=>match f.ev G s.F with
   | .fn g first caps=>match Φ g with
     | some fn=>match exec G Φ tab n (⟨s.h.next,s.F,ps,dI,body⟩::Y) fn.body ⟨dQ (first++ [.gi s.h.next]++caps),{s.h with next:=s.h.next+1,aV:=au s.h.aV s.h.next (some .ready)}⟩ with
       | some (.normal,ao)|some (.ret,ao)=>match dJ ao.h ao.F fn.res with
         | some _=>match ao.h.aV s.h.next with
           | some .ready=>some (.normal,⟨s.F,ao.h.set s.h.next none⟩)
           | some (.done e)=>some (e,⟨s.F,ao.h.set s.h.next none⟩)
           | _=>none
         | none=>none
       | _=>none
     | none=>none
   | _=>none:=by
 cases c<;>rfl
theorem zw {Φ:FuncId->Option aO} {n:Nat} {f:aS} {ps:List Nat} {dI body:c2} {s ao:aL} {ex:dg} (he:exec G Φ tab (n+1) Y (.lu f ps dI body) s=some (ex,ao)):
 ∃g first caps v h' p,f.ev G s.F= .fn g first caps/\
  ky G Φ tab n (⟨s.h.next,s.F,ps,dI,body⟩::Y) g (first++ [.gi s.h.next]++caps) {s.h with next:=s.h.next+1,aV:=au s.h.aV s.h.next (some .ready)}=some (v,h')/\
  h'.aV s.h.next=some p/\((p= .ready/\ex= .normal)\/p= .done ex)/\ao=⟨s.F,h'.set s.h.next none⟩:=by
 rw[iF] at he
 simp only at he
 split at he<;>try(cases he;done)
 rename_i g first caps bb
 split at he<;>try(cases he;done)
 rename_i fn mZ
 have key:∀(s1:aL),(exec G Φ tab n (⟨s.h.next,s.F,ps,dI,body⟩::Y) fn.body ⟨dQ (first++ [.gi s.h.next]++caps),{s.h with next:=s.h.next+1,aV:=au s.h.aV s.h.next (some .ready)}⟩=some (.normal,s1)\/
  exec G Φ tab n (⟨s.h.next,s.F,ps,dI,body⟩::Y) fn.body ⟨dQ (first++ [.gi s.h.next]++caps),{s.h with next:=s.h.next+1,aV:=au s.h.aV s.h.next (some .ready)}⟩=some (.ret,s1))->
  (match dJ s1.h s1.F fn.res with
    | some _=>match s1.h.aV s.h.next with
      | some .ready=>some (dg.normal,(⟨s.F,s1.h.set s.h.next none⟩:aL))
      | some (.done e)=>some (e,⟨s.F,s1.h.set s.h.next none⟩)
      | _=>none
    | none=>none)=some (ex,ao)->
  ∃dS JC JD v h' p,I.fn g first caps= .fn dS JC JD/\
  ky G Φ tab n (⟨s.h.next,s.F,ps,dI,body⟩::Y) dS (JC++ [.gi s.h.next]++JD) {s.h with next:=s.h.next+1,aV:=au s.h.aV s.h.next (some .ready)}=some (v,h')/\
  h'.aV s.h.next=some p/\((p= .ready/\ex= .normal)\/p= .done ex)/\ao=⟨s.F,h'.set s.h.next none⟩:=by
  intro s1 U h2
  split at h2<;>try(cases h2;done)
  rename_i v an
  refine⟨g,first,caps,v,s1.h,?_⟩
  have C8:ky G Φ tab n (⟨s.h.next,s.F,ps,dI,body⟩::Y) g (first++ [.gi s.h.next]++caps) {s.h with next:=s.h.next+1,aV:=au s.h.aV s.h.next (some .ready)}=some (v,s1.h):=by
   unfold ky
   rw[mZ]
   rcases U with U|U<;>simp only[U,an,Option.map_some]
  split at h2
  · rename_i aF
    cases h2
    exact ⟨_,rfl,C8,aF,.inl ⟨rfl,rfl⟩,rfl⟩
  · rename_i e aF
    cases h2
    exact ⟨_,rfl,C8,aF,.inr rfl,rfl⟩
  · cases h2
 rw[bb]
 split at he
 · rename_i s1 U
   exact key s1 (.inl U) he
 · rename_i s1 U
   exact key s1 (.inr U) he
 · cases he
theorem zx {Φ:FuncId->Option aO}:∀(n:Nat) (Y:List cJ) (c:c2) (s:aL) (ex:dg) (ao:aL),exec G Φ tab n Y c s=some (ex,ao)->s.h.next<=ao.h.next:=by
 intro n
 induction n with
 | zero=>intro Y c s ex ao he;unfold exec at he;cases he
 | succ n a6=>
   have bB:∀ {Y:List cJ} {f:FuncId} {args:List I} {h h':ah} {v:I},ky G Φ tab n Y f args h=some (v,h')->h.next<=h'.next:=by
    intro Y f args h h' v J
    obtain⟨fn,ex,ao,_,he,_,_,rfl⟩:=rl J
    exact a6 _ _ _ _ _ he
   have m0:∀ {Y:List cJ} {id:Nat} {args:List I} {h h':ah} {v:I},oB G Φ tab n Y id args h=some (v,h')->h.next<=h'.next:=by
    intro Y id args h h' v J
    obtain⟨L,Y',s1,ex,ao,_,_,U,_,h2,_,aA⟩:=uS J
    have a1:=a6 _ _ _ _ _ U
    have eZ:=a6 _ _ _ _ _ h2
    have:h'.next=ao.h.next:=by rcases aA with⟨_,_,rfl⟩|⟨_,_,rfl⟩<;>rfl
    rw[this]
    exact Nat.le_trans a1 eZ
   intro Y c s ex ao he
   have zy:=he
   rw[iF] at he
   cases c with
   | skip=>cases he;exact Nat.le_refl _
   | ret=>cases he;exact Nat.le_refl _
   | exit id=>cases he;exact Nat.le_refl _
   | region draw ops e5=>
     simp only at he
     obtain⟨s1,U,he⟩:=Option.map_eq_some_iff.1 he
     cases he
     unfold ew at U
     split at U<;>try(cases U;done)
     rename_i s2 cs h2
     split at U<;>try(cases U;done)
     cases U
     refine Nat.le_trans (Nat.le_add_right _ _) (JB (fun t args h v h' J=>?_) h2)
     cases t with
     | fn f=>exact bB J
     | lv id=>exact m0 J
   | seq a b=>
     simp only at he
     split at he
     · rename_i s1 U
       exact Nat.le_trans (a6 _ _ _ _ _ U) (a6 _ _ _ _ _ he)
     · exact a6 _ _ _ _ _ he
   | cond x a b=>
     simp only at he
     split at he<;>try(cases he;done)
     split at he
     · exact a6 _ _ _ _ _ he
     · exact a6 _ _ _ _ _ he
   | block id b=>
     simp only at he
     split at he
     · rename_i i s1 U
       have:=a6 _ _ _ _ _ U
       split at he<;>(cases he;exact this)
     · exact a6 _ _ _ _ _ he
   | loop b=>
     simp only at he
     split at he
     · rename_i s1 U
       exact Nat.le_trans (a6 _ _ _ _ _ U) (a6 _ _ _ _ _ he)
     · exact a6 _ _ _ _ _ he
   | lu f ps dI body=>
     obtain⟨g,first,caps,v,h',p,_,J,_,_,rfl⟩:=zw zy
     have:=bB J
     simp only at this
     show s.h.next<=h'.next
     omega
theorem Tf {Φ:FuncId->Option aO} {n:Nat} {t:k2} {args:List I} {h h':ah} {v:I} (J:kP G Φ tab n Y t args h=some (v,h')):h.next<=h'.next:=by
 cases t with
 | fn f=>
   obtain⟨fn,ex,ao,_,he,_,_,rfl⟩:=rl J
   exact zx _ _ _ _ _ _ he
 | lv id=>
   obtain⟨L,Y',s1,ex,ao,_,_,U,_,h2,_,aA⟩:=uS J
   have a1:=zx _ _ _ _ _ _ U
   have eZ:=zx _ _ _ _ _ _ h2
   have:h'.next=ao.h.next:=by rcases aA with⟨_,_,rfl⟩|⟨_,_,rfl⟩<;>rfl
   rw[this]
   exact Nat.le_trans a1 eZ
end
end Go.Eng
namespace Go.Eng
open Go Go.RowKit
section
variable {G:Nat->Option I} {Φ:FuncId->Option aO} {tab:FuncId->Option (List I->Option I)}
theorem Tg {h:ah} {F:Nat->I} {r:Nat} {blk:List I} (ak:h.cells r=none):∀ {x:mT} {v:I},eY h F x=some v->eY (h.new r blk) F x=some v
 | .tmp t,v,an=>an
 | .cell t bS sz,v,an=>by
   simp only[eY] at an|-
   split at an<;>try(cases an;done)
   rename_i id idx cN bt
   obtain⟨b,ad,an⟩:=Option.bind_eq_some_iff.1 an
   try simp only[bt]
   have bP:id≠r:=by rintro rfl;rw[ak] at ad;cases ad
   rw[pd _ _ bP,ad]
   exact an
theorem JE {h:ah} {F:Nat->I} {r:Nat} {blk:List I} (ak:h.cells r=none):∀ {rs:List mT} {vs:List I},rs.mapM (eY h F)=some vs->rs.mapM (eY (h.new r blk) F)=some vs
 | [],vs,an=>an
 | x::rs,vs,an=>by
   rw[List.mapM_cons] at an|-
   simp only[Option.bind_eq_bind,Option.bind_eq_some_iff,Option.pure_def,Option.some.injEq] at an|-
   obtain⟨a,aC,b,ad,e⟩:=an
   exact ⟨a,Tg ak aC,b,JE ak ad,e⟩
theorem Th {h:ah} {F:Nat->I} {r:Nat} {blk:List I} (ak:h.cells r=none) {rs:List mT} {v:I} (an:dJ h F rs=some v):dJ (h.new r blk) F rs=some v:=by
 unfold dJ at an|-
 obtain⟨vs,U,h2⟩:=Option.map_eq_some_iff.1 an
 rw[JE ak U]
 exact congrArg some h2
theorem JF {ch:k2->List I->ah->Option (I × ah)} (bb:rh ch) {aZ r:Nat} {blk:List I} (rm:r<aZ):∀ {L:List (aU × Nat)} {s ao:aL} {cs:List eb},cT G tab ch aZ L s=some (ao,cs)->s.h.cells r=none->r<s.h.next->
 cT G tab ch aZ L ⟨s.F,s.h.new r blk⟩=some (⟨ao.F,ao.h.new r blk⟩,cs)/\ao.h.cells r=none/\s.h.next<=ao.h.next
 | [],s,ao,cs,h,ak,aR=>by
   simp only[cT] at h|-
   cases h
   exact ⟨rfl,ak,Nat.le_refl _⟩
 | (e,i)::L,s,ao,cs,h,ak,aR=>by
   simp only[cT] at h|-
   split at h<;>try(cases h;done)
   rename_i s1 c U
   obtain⟨p,h2,aA⟩:=Option.map_eq_some_iff.1 h
   obtain⟨s2,Jh⟩:=p
   cases aA
   obtain⟨bu,ca,c5⟩:=Dl (blk:=blk) bb U ak aR (by omega)
   obtain⟨db,dc,fK⟩:=JF (blk:=blk) bb rm h2 ca (by omega)
   exact ⟨by simp only[bu,db,Option.map_some],dc,by show s.h.next<=s2.h.next;omega⟩
theorem DN {n:Nat} (fX:∀(Y:List cJ) (c:c2) (s:aL) (ex:dg) (ao:aL),exec G Φ tab n Y c s=some (ex,ao)->∀r blk,s.h.cells r=none->r<s.h.next->exec G Φ tab n Y c ⟨s.F,s.h.new r blk⟩=some (ex,⟨ao.F,ao.h.new r blk⟩)/\ao.h.cells r=none/\s.h.next<=ao.h.next)
 (Y:List cJ):rh (kP G Φ tab n Y):=by
 intro t args h v h' r blk J ak aR
 cases t with
 | fn f=>
   obtain⟨fn,ex,ao,mZ,he,hex,an,rfl⟩:=rl J
   obtain⟨bu,ca,c5⟩:=fX _ _ _ _ _ he r blk ak aR
   refine⟨?_,ca,c5⟩
   show ky G Φ tab n Y f args (h.new r blk)=_
   unfold ky
   simp only at bu
   rcases hex with rfl|rfl<;>simp only[mZ,bu,Th ca an,Option.map_some]
 | lv id=>
   obtain⟨L,Y',s1,ex,ao,bf,hlen,U,aF,h2,ad,aA⟩:=uS J
   obtain⟨bu,ca,c5⟩:=fX _ _ _ _ _ U r blk ak aR
   obtain⟨db,dc,fK⟩:=fX _ _ _ _ _ h2 r blk ca (show r<s1.h.next by simp only at c5;omega)
   simp only at bu db
   have az:h.next<=ao.h.next:=Nat.le_trans c5 fK
   have JG:exec G Φ tab n Y' L.body ⟨s1.F,(s1.h.new r blk).set id (some .busy)⟩=some (ex,⟨ao.F,ao.h.new r blk⟩):=db
   rcases aA with⟨rfl,rfl,rfl⟩|⟨bP,rfl,rfl⟩
   · refine⟨?_,dc,az⟩
     show oB G Φ tab n Y id args (h.new r blk)=_
     unfold oB
     simp only[bf,if_pos hlen,bu,show (s1.h.new r blk).aV id=some .ready from aF,JG,show (ao.h.new r blk).aV id=some .busy from ad]
     rfl
   · refine⟨?_,dc,az⟩
     show oB G Φ tab n Y id args (h.new r blk)=_
     unfold oB
     simp only[bf,if_pos hlen,bu,show (s1.h.new r blk).aV id=some .ready from aF,JG,show (ao.h.new r blk).aV id=some .busy from ad]
     cases ex with
     | normal=>exact absurd rfl bP
     | exit i=>rfl
     | ret=>rfl
theorem JH:∀(n:Nat) (Y:List cJ) (c:c2) (s:aL) (ex:dg) (ao:aL),exec G Φ tab n Y c s=some (ex,ao)->∀r blk,s.h.cells r=none->r<s.h.next->
 exec G Φ tab n Y c ⟨s.F,s.h.new r blk⟩=some (ex,⟨ao.F,ao.h.new r blk⟩)/\ao.h.cells r=none/\s.h.next<=ao.h.next
 | 0,Y,c,s,ex,ao,he,r,blk,ak,aR=>by unfold exec at he;cases he
 | n+1,Y,c,s,ex,ao,he,r,blk,ak,aR=>by
   have fX:=JH n
   have aG:=he
   rw[iF] at he|-
   cases c with
   | skip=>cases he;exact ⟨rfl,ak,Nat.le_refl _⟩
   | ret=>cases he;exact ⟨rfl,ak,Nat.le_refl _⟩
   | exit id=>cases he;exact ⟨rfl,ak,Nat.le_refl _⟩
   | region kx ops e5=>
     simp only at he|-
     obtain⟨s1,U,he⟩:=Option.map_eq_some_iff.1 he
     cases he
     unfold ew at U|-
     split at U<;>try(cases U;done)
     rename_i s2 cs cx
     split at U<;>try(cases U;done)
     rename_i kh
     cases U
     obtain⟨bu,ca,c5⟩:=JF (blk:=blk) (DN fX Y) aR cx ak (show r<s.h.next+ops.length by omega)
     simp only at bu c5
     refine⟨?_,ca,by omega⟩
     have Ti:cT G tab (kP G Φ tab n Y) (s.h.new r blk).next ops.zipIdx ⟨s.F,{(s.h.new r blk) with next:=(s.h.new r blk).next+ops.length}⟩=some (⟨ao.F,ao.h.new r blk⟩,cs):=bu
     rw[Ti]
     simp only[if_pos kh,Option.map_some]
   | seq a b=>
     simp only at he|-
     split at he
     · rename_i s1 U
       obtain⟨bu,ca,c5⟩:=fX _ _ _ _ _ U r blk ak aR
       obtain⟨db,dc,fK⟩:=fX _ _ _ _ _ he r blk ca (by omega)
       exact ⟨by simp only[bu];exact db,dc,by omega⟩
     · rename_i bP
       obtain⟨bu,ca,c5⟩:=fX _ _ _ _ _ he r blk ak aR
       refine⟨?_,ca,c5⟩
       rw[bu]
       cases ex with
       | normal=>exact absurd he (bP ao)
       | exit i=>rfl
       | ret=>rfl
   | cond x a b=>
     simp only at he|-
     split at he<;>try(cases he;done)
     rename_i t aN
     try simp only[aN]
     split at he
     · rename_i sM;simp only[if_pos sM];exact fX _ _ _ _ _ he r blk ak aR
     · rename_i sM;simp only[if_neg sM];exact fX _ _ _ _ _ he r blk ak aR
   | block id b=>
     simp only at he|-
     split at he
     · rename_i i s1 U
       obtain⟨bu,ca,c5⟩:=fX _ _ _ _ _ U r blk ak aR
       rw[bu]
       simp only
       split at he<;>rename_i ab<;>cases he<;>simp only[ab,if_true,if_false]<;>exact ⟨by first|rfl|trivial,ca,c5⟩
     · rename_i bP
       obtain⟨bu,ca,c5⟩:=fX _ _ _ _ _ he r blk ak aR
       refine⟨?_,ca,c5⟩
       rw[bu]
       cases ex with
       | normal=>rfl
       | exit i=>exact absurd he (bP i ao)
       | ret=>rfl
   | loop b=>
     simp only at he|-
     split at he
     · rename_i s1 U
       obtain⟨bu,ca,c5⟩:=fX _ _ _ _ _ U r blk ak aR
       obtain⟨db,dc,fK⟩:=fX _ _ _ _ _ he r blk ca (by omega)
       exact ⟨by simp only[bu];exact db,dc,by omega⟩
     · rename_i bP
       obtain⟨bu,ca,c5⟩:=fX _ _ _ _ _ he r blk ak aR
       refine⟨?_,ca,c5⟩
       rw[bu]
       cases ex with
       | normal=>exact absurd he (bP ao)
       | exit i=>rfl
       | ret=>rfl
   | lu f ps dI body=>
     obtain⟨g,first,caps,v,h',p,bb,J,aF,oC,rfl⟩:=zw aG
     have DO:kP G Φ tab n (⟨s.h.next,s.F,ps,dI,body⟩::Y) (.fn g) (first++ [.gi s.h.next]++caps) {s.h with next:=s.h.next+1,aV:=au s.h.aV s.h.next (some .ready)}=some (v,h'):=J
     obtain⟨bu,ca,c5⟩:=DN fX _ _ _ _ _ _ r blk DO ak (show r<s.h.next+1 by omega)
     obtain⟨fn,e,s2,mZ,oD,hex,an,cU⟩:=rl (show ky G Φ tab n _ g _ _=some (v,h'.new r blk) from bu)
     refine⟨?_,ca,by simp only at c5;show s.h.next<=h'.next;omega⟩
     simp only[bb,mZ]
     have w9:exec G Φ tab n (⟨(s.h.new r blk).next,s.F,ps,dI,body⟩::Y) fn.body ⟨dQ (first++ [.gi (s.h.new r blk).next]++caps),{(s.h.new r blk) with next:=(s.h.new r blk).next+1,aV:=au (s.h.new r blk).aV (s.h.new r blk).next (some .ready)}⟩=some (e,s2):=oD
     have qd:s2.h.aV (s.h.new r blk).next=some p:=by rw[cU];exact aF
     rw[w9]
     rcases hex with rfl|rfl<;>simp only[an,qd]<;>rcases oC with⟨rfl,rfl⟩|rfl<;>simp only[cU]<;>rfl
theorem Tj (n:Nat) (Y:List cJ):rh (kP G Φ tab n Y):=DN (JH n) Y
end
end Go.Eng
namespace Go.Eng
open Go Go.RowKit
section
variable {P:Program} {G:Nat->Option I} {tab:FuncId->Option (List I->Option I)} {Y:List cJ}
theorem Tk {n:Nat} (fX:uT P G tab n) {id:Nat} {args:List I} {h h':ah} {v:I} (J:oB G (aI P) tab n Y id args h=some (v,h')):
 ∀base okin σ w (dm:Array Value) l s,cK base okin σ h w->j8 σ h.aV w->pj P G base okin Y σ h w->σ id=some (l,s)->dm.size=args.length->
  (∀i (ab:i<args.length) (bV:i<dm.size),a4 w (br base okin σ h) σ args[i] dm[i])->
  (∀g u,G g=some u->a4 w (br base okin σ h) σ (.e4 u) (.pointer (some ⟨g,0,none⟩)))->(∀id,h.next<=id->σ id=none)->
  Ds P l dm w (uL base okin σ h w h' v):=by
 obtain⟨L,Y',s1,ex,ao,bf,hlen,Tl,w_,oD,Tm,jE⟩:=uS J
 obtain⟨cC,dk,lJ⟩:=JA bf
 intro base okin σ w dm l s H DM zv pn c3 fy qf w8
 obtain⟨l3,kM,r,n0,b8,bQ,cF,cY,k6,m1,kk,oE⟩:=zv L cC
 rw[dk,pn] at b8;cases b8
 have sN:r.params.size=L.ps.length:=by rw[cY];simp
 have p':dm.size=r.params.size:=by omega
 have Tn:pj P G base okin Y' σ h w:=fun X mw=>zv X (lJ X mw)
 have ly:base<=l:=(H.val _ _ _ pn).1
 refine⟨r.fn,_,r.assign,r.body,run_yield bQ p',fun F dK bt=>?_⟩
 have To:(r.params.zip dm).foldl (fun tmps (t,a)=>tmps.setIfInBounds t a) r.tmps=(L.ps.zip dm.toList).foldl (fun tmps (t,a)=>tmps.setIfInBounds t a) r.tmps:=by
  rw[cY,<-Array.foldl_toList,Array.toList_zip]
 rw[To]
 have S:fE P G Y' (F.inRound l).round w.heap.size base okin n0 h.next σ (fun _=>False) σ ⟨nh L.F L.ps args,h⟩ {tmps:=(L.ps.zip dm.toList).foldl (fun tmps (t,a)=>tmps.setIfInBounds t a) r.tmps,defers:=[]} w:=by
  refine⟨H,DM,Tn,⟨fun t=>?_,qf⟩,?_,⟨fun d a3=>absurd a3 (by simp),List.Pairwise.nil⟩,fun ds jm=>?_,Nat.le_refl _,fun id bz=>bz.elim,Nat.le_refl _,fun _ _=>rfl,w8⟩
  · exact Td (by omega) (by simp;omega) (fun p aF=>Nat.lt_of_lt_of_le (k6 p aF) cF) (fun t=>oE.slot t) (fun i ab bV=>by
     have:=fy i ab (by simpa using bV)
     simpa using this) t
  · show n0<=(Array.size _)
    rw[Te];exact cF
  · cases jm;exact ⟨r,bQ⟩
 refine roundIn_of_wpIn (bt.fn _) ?_
 refine fX n0 Y' r.assign L.dI _ _ s1 m1 Tl (F.inRound l) dK (bt.inRound l) w.heap.size base okin h.next σ σ _ w _ S (fun jx a1 b7 jn a_=>?_)
 obtain⟨bG,w4,bD,d1,d2,d3,d4⟩:=jn.lM.look id _ w_
 have DP:jx id=some (l,s):=a_.sub _ _ pn
 rw[DP] at d1;cases d1
 refine⟨_,run_beginRound d2 d3,?_⟩
 have av:({bD with state:= .busy}:Loop)= {bD with state:=oz .busy,pending:=oA .busy}:=by
  have:oA .busy=bD.pending:=by rw[d4];rfl
  rw[this];rfl
 rw[av]
 have ak:∀arr ty e,Obj.loop bD≠ .cells arr ty e:=fun _ _ _ h=>by cases h
 have bn:dp base okin jx s1.h b7 jx (s1.h.set id (some .busy)) (b7.putObj l (.loop {bD with state:=oz .busy,pending:=oA .busy})):=dp.DF d2 ly _ _ (fun b ad=>ad)
 have zz:=jn.ax.put (.loop {bD with state:=oz .busy,pending:=oA .busy}) d2 ak (fun _ _ h=>by cases h)
 have w':fE P G Y' (F.inRound l).round w.heap.size base okin n0 h.next σ (fun _=>False) jx ⟨s1.F,s1.h.set id (some .busy)⟩ a1 (b7.putObj l (.loop {bD with state:=oz .busy,pending:=oA .busy})):=
  ⟨⟨zz.val,zz.blk,zz.inj,zz.base⟩,jn.lM.set w_ DP d2 .busy,jn.jy.mono bn,jn.bI.mono bn,jn.size,jn.marks.mono bn.oy,fun ds jm=>by
    obtain⟨de,bL⟩:=jn.rd ds jm
    obtain⟨x,y,cq⟩:=bn.loop ds de bL
    exact ⟨_,cq⟩,Nat.le_trans jn.sK bn.below.size,fun _ h=>h.elim,jn.low,jn.mn,jn.fresh⟩
 refine fX n0 Y' r.body L.body _ ex ao kk oD (F.inRound l) dK (bt.inRound l) w.heap.size base okin h.next σ jx _ _ _ w' (fun ns zm iW zA bN=>?_)
 have zB:=bN.sub _ _ DP
 obtain⟨Tp,Tq,f1⟩:=bN.loop l _ (World.putObj_heap_same (qb d2))
 generalize aje:({bD with state:=Tp,pending:=Tq}:Loop)=kO at f1
 have f2:iW.heap[l]? =some (.loop kO):=f1
 have sO:∀arr ty e,Obj.loop kO≠ .cells arr ty e:=fun _ _ _ h=>by cases h
 have fin:∀(p:fT) (cv:Value),h'=ao.h.set id (some p)->a4 (iW.putObj l (.loop {kO with state:=oz p,pending:=oA p})) (br base okin ns (ao.h.set id (some p))) ns v cv->
  uL base okin σ h w h' v cv (iW.putObj l (.loop {kO with state:=oz p,pending:=oA p})):=by
  rintro p cv rfl aR
  have cb:dp base okin ns ao.h iW ns (ao.h.set id (some p)) (iW.putObj l (.loop {kO with state:=oz p,pending:=oA p})):=dp.DF f2 ly _ _ (fun b ad=>ad)
  have qg:=zA.ax.put (.loop {kO with state:=oz p,pending:=oA p}) f2 sO (fun _ _ h=>by cases h)
  exact ⟨ns,((a_.trans bn).trans bN).trans cb,⟨qg.val,qg.blk,qg.inj,qg.base⟩,zA.lM.set Tm zB f2 p,aR,zA.fresh,zA.mn⟩
 rcases jE with⟨rfl,rfl,cU⟩|⟨bP,rfl,cU⟩
 · exact ⟨_,_,run_endRound none f2,.bool true,rfl,fin .ready _ cU (.val _ _ (.bool _))⟩
 · cases ex with
   | normal=>exact absurd rfl bP
   | ret=>exact ⟨_,_,run_endRound (some .ret) f2,.bool false,rfl,fin (.done .ret) _ cU (.val _ _ (.bool _))⟩
   | exit i=>exact ⟨_,_,run_endRound (some (.exit i)) f2,.bool false,rfl,fin (.done (.exit i)) _ cU (.val _ _ (.bool _))⟩
theorem Tr {n:Nat} (fX:uT P G tab n):uM P G Y (kP G (aI P) tab n Y):=
 ⟨fun _ _ _ _ _ J=>Tf J,Tj n Y,fun _ _ _ _ _ J base okin σ w dm H L C U h2 aA aT=> .inl (DJ fX J base okin σ w dm H L C U h2 aA aT),
   fun _ _ _ _ _ J=>Tk fX J⟩
theorem JI {N:Nat} {c:Code} {qe:c2} (J:gj P N c=some qe):∀(m:Nat),(∀k,k<m->uT P G tab k)->∀(s:aL) (ex:dg) (ao:aL),exec G (aI P) tab m Y (.loop qe) s=some (ex,ao)->
 ∀(c6:Fence) (dK:Nat) (_:jU c6) (bJ:Nat) (base:Nat) (okin:Nat->Prop) (cP:Nat) (cS σ:Nat->Option (Nat × Nat)) (a:Act) (w:World) (Q:Exit->Act->World->Prop),fE P G Y c6.round bJ base okin N cP cS (fun _=>False) σ s a w->
  (∀bd eG aP,fE P G Y c6.round bJ base okin N cP cS (fun _=>False) bd ao eG aP->dp base okin σ s.h w bd ao.h aP->Q (zq ex) eG aP)->Code.roundsIn c6 dK P c Q m a w
 | 0,_,s,ex,ao,he=>by unfold exec at he;cases he
 | m+1,fX,s,ex,ao,he=>by
   rw[iF] at he
   simp only at he
   split at he
   · rename_i s1 U
     have b7:=fX m (Nat.lt_succ_self m) N Y c qe s _ s1 J U
     have c9:=JI J m (fun k ag=>fX k (Nat.lt_succ_of_lt ag)) s1 ex ao he
     refine fun c6 dK bt bJ base okin cP cS σ a w Q S dL=>?_
     rw[roundsIn_succ]
     exact b7 c6 dK bt bJ base okin cP cS σ a w _ S fun jx a1 nt jn a_=>c9 c6 dK bt bJ base okin cP cS jx a1 nt Q jn fun pZ eZ DQ w' bn=>dL pZ eZ DQ w' (a_.trans bn)
   · rename_i bP
     have b7:=fX m (Nat.lt_succ_self m) N Y c qe s ex ao J he
     refine fun c6 dK bt bJ base okin cP cS σ a w Q S dL=>?_
     rw[roundsIn_succ]
     refine b7 c6 dK bt bJ base okin cP cS σ a w _ S fun jx a1 nt jn a_=>?_
     have:=dL jx a1 nt jn a_
     cases ex with
     | normal=>exact absurd he (bP ao)
     | exit id=>exact this
     | ret=>exact this
theorem Ts {n N:Nat} (fX:uT P G tab n) {x:Operand} {ps:Array Tmp} {dI body:Code} {f:aS} {xa xb:c2} (ae:en x=some f) (aC:gj P N dI=some xa) (ad:gj P N body=some xb) (sN:ps.toList.all (fun p=>decide (p<N))=true)
 {s ao:aL} {ex:dg} (he:exec G (aI P) tab (n+1) Y (.lu f ps.toList xa xb) s=some (ex,ao))
 (c6:Fence) (dK:Nat) (bt:jU c6) (bJ:Nat) (base:Nat) (okin:Nat->Prop) (cP:Nat) (cS σ:Nat->Option (Nat × Nat)) (a:Act) (w:World) (Q:Exit->Act->World->Prop) (S:fE P G Y c6.round bJ base okin N cP cS (fun _=>False) σ s a w)
 (dL:∀bd eG aP,fE P G Y c6.round bJ base okin N cP cS (fun _=>False) bd ao eG aP->dp base okin σ s.h w bd ao.h aP->Q (zq ex) eG aP):(Code.rangeFunc x ps dI body).wpIn c6 dK P Q a w:=by
 obtain⟨g,first,caps,v,h',p,bb,jB,aF,oC,rfl⟩:=zw he
 have rx:=S.bI.ec ae
 rw[bb] at rx
 obtain⟨fi,cv,Tt,bG,ds,bD,de⟩:=rx.HV
 have bz:σ s.h.next=none:=S.fresh _ (Nat.le_refl _)
 have enter:∀fn,∃(l:Nat) (mark:List Deferred) (b7:World) (r:Loop),(Instr.enterLoop fn a.tmps ps dI body c6.round).run P w= .ok (l,mark) b7/\Below w.heap.size w b7/\w.heap.size<=l/\b7.heap[l]? =some (.loop r)/\
  r.state= .ready/\r.pending=none/\r.tmps=a.tmps/\r.params=ps/\r.assign=dI/\r.body=body/\Marks w.heap.size mark b7:=by
  intro fn
  cases DR:c6.round with
  | none=>
    refine⟨_,_,_,{state:= .ready,pending:=none,fn,tmps:=a.tmps,params:=ps,assign:=dI,body,defers:=w.heap.size},run_enterLoop_outer fn a.tmps ps dI body,((Below.refl _ _).alloc (Nat.le_refl _) _).alloc (by simp) _,Nat.le_succ _,?_,rfl,rfl,rfl,rfl,rfl,rfl,⟨fun d a3=>?_,?_⟩⟩
    · have:=World.alloc_heap_new (w.alloc (.deferred (some []))) (.loop {state:= .ready,pending:=none,fn,tmps:=a.tmps,params:=ps,assign:=dI,body,defers:=w.heap.size})
      rwa [World.size_alloc] at this
    · simp at a3
      subst a3
      refine⟨w.heap.size,rfl,Nat.le_refl _,?_⟩
      rw[Below.heap_alloc _ _ _ (by simp)]
      exact World.alloc_heap_new w _
    · simp
  | some uU=>
    obtain⟨r0,aG⟩:=S.rd uU DR
    refine⟨_,_,_,{state:= .ready,pending:=none,fn,tmps:=a.tmps,params:=ps,assign:=dI,body,defers:=r0.defers},run_enterLoop_inner aG fn a.tmps ps dI body,(Below.refl _ _).alloc (Nat.le_refl _) _,Nat.le_refl _,World.alloc_heap_new w _,rfl,rfl,rfl,rfl,rfl,rfl,⟨fun d a3=>absurd a3 (by simp),List.Pairwise.nil⟩⟩
 refine wpIn_rangeFunc fun fn mZ=>?_
 obtain⟨l,mark,b7,r,aq,ly,hle,av,aW,bT,fj,lz,Dq,rj,JJ⟩:=enter fn
 have bF:=qb av
 have w5:=Nat.le_trans S.ax.base hle
 obtain⟨Dw,Dx⟩:=S.ax.grown ly
 obtain⟨zC,qh⟩:=Dw.named bz w5 bF
 have a_:dp base okin σ s.h w (au σ s.h.next (some (l,0))) s.h b7:=dp.of S.ax (Dx.trans qh)
 have fD:=S.lM.add (fun id b s ax=>(S.ax.val id b s ax).2) bz ly hle av aW bT
 have xc:dp base okin σ s.h w (au σ s.h.next (some (l,0))) {s.h with next:=s.h.next+1,aV:=au s.h.aV s.h.next (some .ready)} b7:=⟨a_.sub,a_.still,a_.below,a_.grow,a_.loop,a_.oy⟩
 have H1:cK base okin (au σ s.h.next (some (l,0))) {s.h with next:=s.h.next+1,aV:=au s.h.aV s.h.next (some .ready)} b7:=⟨zC.val,zC.blk,zC.inj,zC.base⟩
 have DS:=S.bI.mono xc
 have Tu:pj P G base okin (⟨s.h.next,s.F,ps.toList,xa,xb⟩::Y) (au σ s.h.next (some (l,0))) {s.h with next:=s.h.next+1,aV:=au s.h.aV s.h.next (some .ready)} b7:=by
  intro L bf
  rcases List.mem_cons.1 bf with rfl|bf
  · refine⟨l,0,r,N,by simp[au],av,by rw[fj];exact S.size,by rw[lz],fun q aM=>by simpa using List.all_eq_true.1 sN q aM,by rw[Dq];exact aC,by rw[rj];exact ad,⟨fun t=>?_,DS.nj⟩⟩
    rw[fj];exact DS.slot t
  · exact S.jy.mono xc L bf
 have fy:∀i (ab:i<(first++ [I.gi s.h.next]++caps).length) (bV:i<(fi++ #[Value.func (.yield l) #[] #[]]++cv).size),a4 b7 (br base okin (au σ s.h.next (some (l,0))) {s.h with next:=s.h.next+1,aV:=au s.h.aV s.h.next (some .ready)}) (au σ s.h.next (some (l,0))) (first++ [I.gi s.h.next]++caps)[i] (fi++ #[Value.func (.yield l) #[] #[]]++cv)[i]:=by
  intro i ab bV
  by_cases U:i<first.length
  · have db:(first++ [I.gi s.h.next]++caps)[i]=first[i]:=by
     rw[List.getElem_append_left (by simp;omega),List.getElem_append_left U]
    have dc:(fi++ #[Value.func (.yield l) #[] #[]]++cv)[i]=fi[i]'(by omega):=by
     rw[Array.getElem_append_left (by simp;omega),Array.getElem_append_left (by omega)]
    rw[db,dc];exact xc.rep (bD i U (by omega))
  · by_cases h2:i=first.length
    · have db:(first++ [I.gi s.h.next]++caps)[i]=I.gi s.h.next:=by
       rw[List.getElem_append_left (by simp;omega),List.getElem_append_right (by omega)];simp
      have dc:(fi++ #[Value.func (.yield l) #[] #[]]++cv)[i]=Value.func (.yield l) #[] #[]:=by
       rw[Array.getElem_append_left (by simp;omega),Array.getElem_append_right (by omega)];simp
      rw[db,dc]
      exact .gi _ l 0 (by simp[au])
    · have db:(first++ [I.gi s.h.next]++caps)[i]=caps[i -(first.length+1)]'(by simp at ab;omega):=by
       rw[List.getElem_append_right (by simp;omega)];simp
      have dc:(fi++ #[Value.func (.yield l) #[] #[]]++cv)[i]=cv[i -(first.length+1)]'(by simp at bV;omega):=by
       rw[Array.getElem_append_right (by simp;omega)]
       congr 1
       simp;omega
      rw[db,dc];exact xc.rep (de _ (by simp at ab;omega) (by simp at bV;omega))
 have c3:(fi++ #[Value.func (.yield l) #[] #[]]++cv).size=(first++ [I.gi s.h.next]++caps).length:=by simp;omega
 have w8:∀id,s.h.next+1<=id->au σ s.h.next (some (l,0)) id=none:=fun id bz=>by
  have:id≠s.h.next:=by omega
  simp only[au,this,if_false]
  exact S.fresh id (by omega)
 obtain⟨b8,bQ⟩:=DJ fX jB base okin _ b7 _ H1 fD Tu c3 fy DS.nj w8
 refine⟨l,mark,b7,{target:= .fn (.func g) cv,args:=fi++ #[Value.func (.yield l) #[] #[]]},b7,g,fi++ #[Value.func (.yield l) #[] #[]]++cv,b7,aq,?_,fun p1 _=>bt.fn p1,?_,bt.one dK,bt.calls (bQ.mono ?_)⟩
 · simp[resolve,Deferred.ofValue,Tt]
   rfl
 · simpa[invoke] using b8
 rintro e iW ⟨Dv,rfl,ns,bN,Tv,JK,_,f3,ov⟩
 obtain⟨l3,ao,jd,d1,d2,d3,d4⟩:=JK.look _ p aF
 have zB:ns s.h.next=some (l,0):=bN.sub _ _ (by simp[au])
 rw[zB] at d1;cases d1
 have qi:jd.state≠ .busy:=by
  rw[d3]
  rcases oC with⟨rfl,_⟩|rfl<;>simp[oz]
 have sO:∀arr ty e,Obj.loop jd≠ .cells arr ty e:=fun _ _ _ h=>by cases h
 have cb:dp base okin ns h' iW ns (h'.set s.h.next none) (iW.putObj l (.loop {jd with state:= .exhausted})):=dp.DF d2 w5 .exhausted jd.pending (fun b ad=>ad)
 have qg:=Tv.put (.loop {jd with state:= .exhausted}) d2 sO (fun _ _ h=>by cases h)
 have Tw:j8 ns (au h'.aV s.h.next none) (iW.putObj l (.loop {jd with state:= .exhausted})):=JK.del aF zB _
 have sP:dp base okin σ s.h w ns (h'.set s.h.next none) (iW.putObj l (.loop {jd with state:= .exhausted})):=(xc.trans bN).trans cb
 have zn:=(zx (G:=G) (tab:=tab) (Φ:=aI P) (n+1) Y (.lu f ps.toList xa xb) s ex _ he)
 have Tx:fE P G Y c6.round bJ base okin N cP cS (fun _=>False) ns ⟨s.F,h'.set s.h.next none⟩ {a with defers:=mark++a.defers} (iW.putObj l (.loop {jd with state:= .exhausted})):=by
  refine⟨⟨qg.val,qg.blk,qg.inj,qg.base⟩,Tw,S.jy.mono sP,⟨fun t=>sP.rep (S.bI.slot t),fun g v aY=>sP.rep (S.bI.nj g v aY)⟩,S.size,?_,fun ds jm=>?_,Nat.le_trans S.sK sP.below.size,fun _ h=>h.elim,Nat.le_trans S.low zn,fun id bz=>?_,f3⟩
  · have cC:=JJ.mono (fun b ad=>cb.oy b (bN.oy b ad))
    have dk:=S.marks.mono sP.oy
    refine⟨fun d a3=>?_,List.pairwise_append.2 ⟨cC.nodup,dk.nodup,fun d a3 o4 uR=>?_⟩⟩
    · rcases List.mem_append.1 a3 with a3|a3
      · obtain⟨D,bL,cq,eE⟩:=cC.each d a3
        exact ⟨D,bL,Nat.le_trans S.sK cq,eE⟩
      · exact dk.each d a3
    · obtain⟨D,bL,cq,_⟩:=JJ.each d a3
      obtain⟨Jv,Ty,_,DT⟩:=S.marks.each o4 uR
      have:=qb DT
      rw[bL,Ty]
      intro cU
      cases cU
      omega
  · obtain⟨de,bL⟩:=S.rd ds jm
    obtain⟨x1,x2,cq⟩:=sP.loop ds de bL
    exact ⟨_,cq⟩
  · have:id≠s.h.next:=by have:=S.low;omega
    rw[ov id (by have:=S.low;show id<s.h.next+1;omega)]
    simp only[au,this,if_false]
    exact S.mn id bz
 have aM:=dL ns _ _ Tx sP
 refine⟨_,_,run_endLoop d2 qi,?_⟩
 rw[d4] at aM|-
 rcases oC with⟨rfl,rfl⟩|rfl
 · exact aM
 · cases ex with
   | normal=>exact aM
   | ret=>exact wpIn_ret aM
   | exit i=>exact wpIn_exit aM
theorem uV {P:Program} {b:Frame} {a:Act} {k:List Item} {cs:List Frame} {w:World} {c:Code}:step P (lone (b.atR a (.code (.scope c)::k)) cs w)= .next (lone (b.atR a (.code c:: .inScope c::k)) cs w):=
 step_lone_go (by simp[stepG,stepG.exec,Frame.atR])
theorem Tz {P:Program} {b:Frame} {a:Act} {k:List Item} {cs:List Frame} {w:World} {c:Code}:step P (lone (b.atR a (.inScope c::k)) cs w)= .next (lone (b.atR a k) cs w):=
 step_lone_go (by simp[stepG,stepG.exec,Frame.atR])
theorem TA {F:Fence} {n:Nat} {P:Program} {c:Code} {Q:Exit->Act->World->Prop} {a:Act} {w:World} (h:c.wpIn F n P (Exit.noGoto Q) a w):(Code.scope c).wpIn F n P Q a w:=by
 intro b k cs DR ad aR
 have aG:(lone (b.atR a (.code (.scope c)::k)) cs w).fenced P F:=fenced_calm ad aR rfl
 obtain⟨e,xd,xe,aM,uW⟩:=h b (.inScope c::k) cs DR ad aR
 cases e with
 | normal=>exact ⟨.normal,xd,xe,aM,.head aG uV (StepsIn.trans uW (.one (fenced_calm ad aR rfl) Tz))⟩
 | exit id=>
   have ae:exitTo id (.inScope c::k)=exitTo id k:=by simp[exitTo]
   exact ⟨_,xd,xe,aM,fun k' ag=> .head aG uV (uW.1 k' (by rw[ae];exact ag)),fun nk ag=>let ⟨k₁,U,h2⟩:=uW.2 nk (by rw[ae];exact ag);⟨k₁,U,.head aG uV h2⟩⟩
 | goto l=>exact aM.elim
 | ret=>exact ⟨_,xd,xe,aM,.of_steps (.one aG uV) uW⟩
 | panic ajf=>exact ⟨_,xd,xe,aM,.of_steps (.one aG uV) uW⟩
 | outgrown=>exact ⟨_,xd,xe,aM,.of_steps (.one aG uV) uW⟩
theorem TB (hm:P.follows .mixedOrders=true) (lA:∀f T,tab f=some T->aH P G f T):∀n,uT P G tab n:=by
 intro n
 induction n using Nat.strongRecOn with
 | _ n fX=>
 intro N Y c qe s ex ao J he
 cases n with
 | zero=>unfold exec at he;cases he
 | succ n=>
 have a6:=fX n (Nat.lt_succ_self n)
 have zy:=he
 rw[iF] at he
 cases c with
 | skip=>
   simp only[gj] at J;cases J
   cases he
   exact fun c6 dK bt bJ base okin cP cS σ a w Q S dL=>wpIn_skip (dL σ a w S (dp.refl ..))
 | ret=>
   simp only[gj] at J;cases J
   cases he
   exact fun c6 dK bt bJ base okin cP cS σ a w Q S dL=>wpIn_ret (dL σ a w S (dp.refl ..))
 | exit id=>
   simp only[gj] at J;cases J
   cases he
   exact fun c6 dK bt bJ base okin cP cS σ a w Q S dL=>wpIn_exit (dL σ a w S (dp.refl ..))
 | region id ops draw=>
   have iM:=J
   have TC:∃kx es b,qe= .region kx es b:=by
    simp only[gj] at J
    split at J<;>try(cases J;done)
    split at J
    · split at J<;>try(cases J;done)
      cases J;exact ⟨_,_,_,rfl⟩
    · cases J;exact ⟨_,_,_,rfl⟩
   obtain⟨kx,es,b,rfl⟩:=TC
   simp only at he
   obtain⟨s1,U,he⟩:=Option.map_eq_some_iff.1 he
   cases he
   exact fun c6 dK bt bJ base okin cP cS σ a w Q S dL=>S6 hm bt (Tr a6) lA iM U S dL
 | seq x y=>
   simp only[gj] at J
   split at J<;>try(cases J;done)
   rename_i qj DU ae aQ
   cases J
   simp only at he
   split at he
   · rename_i s1 U
     have b7:=a6 N Y x qj s _ s1 ae U
     have c9:=a6 N Y y DU s1 ex ao aQ he
     refine fun c6 dK bt bJ base okin cP cS σ a w Q S dL=>wpIn_seq ?_
     exact b7 c6 dK bt bJ base okin cP cS σ a w _ S fun jx a1 nt jn a_=>c9 c6 dK bt bJ base okin cP cS jx a1 nt Q jn fun pZ eZ DQ w' bn=>dL pZ eZ DQ w' (a_.trans bn)
   · rename_i bP
     have b7:=a6 N Y x qj s ex ao ae he
     refine fun c6 dK bt bJ base okin cP cS σ a w Q S dL=>wpIn_seq ?_
     refine b7 c6 dK bt bJ base okin cP cS σ a w _ S fun jx a1 nt jn a_=>?_
     have:=dL jx a1 nt jn a_
     cases ex with
     | normal=>exact absurd he (bP ao)
     | exit id=>exact this
     | ret=>exact this
 | cond x y z=>
   simp only[gj] at J
   split at J<;>try(cases J;done)
   rename_i qj DU TD ae aQ ar
   cases J
   simp only at he
   split at he<;>try(cases he;done)
   rename_i t aN
   cases t with
   | true=>
     simp only[if_true] at he
     have b7:=a6 N Y y DU s ex ao aQ he
     refine fun c6 dK bt bJ base okin cP cS σ a w Q S dL=>?_
     have r:=S.bI.ec ae
     rw[aN] at r
     exact wpIn_cond_true r.q7 (b7 c6 dK bt bJ base okin cP cS σ a w Q S dL)
   | false=>
     simp only[Bool.false_eq_true,if_false] at he
     have b7:=a6 N Y z TD s ex ao ar he
     refine fun c6 dK bt bJ base okin cP cS σ a w Q S dL=>?_
     have r:=S.bI.ec ae
     rw[aN] at r
     exact wpIn_cond_false r.q7 (b7 c6 dK bt bJ base okin cP cS σ a w Q S dL)
 | block id x=>
   simp only[gj] at J
   obtain⟨qj,ae,rfl⟩:=Option.map_eq_some_iff.1 J
   simp only at he
   split at he
   · rename_i i s1 U
     have b7:=a6 N Y x qj s _ s1 ae U
     have ax:s1=ao:=by split at he<;>(cases he;rfl)
     subst ax
     refine fun c6 dK bt bJ base okin cP cS σ a w Q S dL=>wpIn_block ?_
     refine b7 c6 dK bt bJ base okin cP cS σ a w _ S fun jx a1 nt jn a_=>?_
     have:=dL jx a1 nt jn a_
     simp only[zq,Exit.inBlock]
     split at he
     · rename_i bz
       cases he
       rw[if_pos bz];exact this
     · rename_i bz
       cases he
       rw[if_neg bz];exact this
   · rename_i bP
     have b7:=a6 N Y x qj s ex ao ae he
     refine fun c6 dK bt bJ base okin cP cS σ a w Q S dL=>wpIn_block ?_
     refine b7 c6 dK bt bJ base okin cP cS σ a w _ S fun jx a1 nt jn a_=>?_
     have:=dL jx a1 nt jn a_
     cases ex with
     | normal=>exact this
     | exit i=>exact absurd he (bP i ao)
     | ret=>exact this
 | loop x=>
   simp only[gj] at J
   obtain⟨qj,ae,rfl⟩:=Option.map_eq_some_iff.1 J
   have b7:=JI ae (n+1) fX s ex ao zy
   exact fun c6 dK bt bJ base okin cP cS σ a w Q S dL=>wpIn_loop_rounds (n+1) (b7 c6 dK bt bJ base okin cP cS σ a w Q S dL)
 | rangeFunc x ps dI body=>
   simp only[gj] at J
   split at J<;>try(cases J;done)
   rename_i f xa xb ae aC ad
   split at J<;>try(cases J;done)
   rename_i sN
   cases J
   exact fun c6 dK bt bJ base okin cP cS σ a w Q S dL=>Ts a6 ae aC ad sN zy c6 dK bt bJ base okin cP cS σ a w Q S dL
 | scope x=>
   simp only[gj] at J
   obtain⟨qj,ae,rfl⟩:=Option.map_eq_some_iff.1 J
   simp only at he
   cases n with
   | zero=>
     have aG:exec G (aI P) tab 0 Y .skip s=none:=by unfold exec;rfl
     rw[aG] at he;cases he
   | succ n=>
     have aG:exec G (aI P) tab (n+1) Y .skip s=some (.normal,s):=by rw[iF]
     rw[aG] at he
     simp only at he
     have b7:=a6 N Y x qj s ex ao ae he
     refine fun c6 dK bt bJ base okin cP cS σ a w Q S dL=>TA ?_
     refine b7 c6 dK bt bJ base okin cP cS σ a w _ S fun jx a1 nt jn a_=>?_
     have:=dL jx a1 nt jn a_
     cases ex<;>exact this
 | label _=>
   simp only[gj] at J;cases J
   cases he
   exact fun c6 dK bt bJ base okin cP cS σ a w Q S dL=>wpIn_label (dL σ a w S (dp.refl ..))
 | goto _=>simp only[gj] at J;cases J
 | refuse _=>simp only[gj] at J;cases J
theorem DV (n:Nat) (f:FuncId) (args:List I) (h:ah):yX G (aI P) tab n Y f args h=ky G (aI P) tab n Y f args h:=rfl
theorem zD (hm:P.follows .mixedOrders=true) (lA:∀f T,tab f=some T->aH P G f T) {f:FuncId} {T:List I->Option I}
 (cD:∀args v,T args=some v->∃n,mV G (aI P) tab n f args=some v):aH P G f T:=by
 intro args v an ok w dm c3 fy qf
 obtain⟨n,ak⟩:=cD args v an
 unfold mV at ak
 obtain⟨p,U,h2⟩:=Option.bind_eq_some_iff.1 ak
 obtain⟨u,h'⟩:=p
 obtain⟨q,aA,aT⟩:=Option.map_eq_some_iff.1 h2
 obtain⟨kg,ids⟩:=q
 cases aT
 rw[DV] at U
 have H:cK w.heap.size ok (fun _=>none) aG w:=⟨fun id b sz h=>(by cases h),fun id blk h=>(by cases h),fun id iu b sz fV h=>(by cases h),Nat.le_refl _⟩
 have kh:∀b,b<w.heap.size->ok b->br w.heap.size ok (fun _=>none) aG b:=fun b ad ay=> .inl ⟨ad,ay⟩
 have st:uq w w ok (br w.heap.size ok (fun _=>none) aG):=fun b o ad _ ay=>⟨kh b (qb ad) ay,rfl⟩
 obtain⟨d1,d2⟩:=DJ (TB hm lA n) U w.heap.size ok (fun _=>none) w dm H ⟨fun id p h=>(by cases h),fun id iu p nZ l s ao h=>(by cases h)⟩ (fun L bf=>absurd bf (by simp)) c3 (fun i ab bV=> .val _ _ ((fy i ab bV).mono st))
  (fun g u aY=>(qf g u aY).mono st (fun _ _ h=>h) (fun _=>Nat.le_refl _)) (fun _ _=>rfl)
 refine .inl ⟨d1,d2.mono fun e aP e0=>?_⟩
 obtain⟨cv,he,bd,p,TE,_,r,_,_⟩:=e0
 refine⟨cv,he,(SL TE r aA).sr fun b _ ad=>?_,p.below⟩
 rcases ad with ad|ad
 · exact .inl ad.2
 · exact .inr ad.1
end
#print axioms zD
end Go.Eng
