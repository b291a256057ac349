import Derived.Test.YtemiagcencajeaaGreatDoorXvE2
import Derived.RangeFuncRecord
import Derived.OrdersIn
import Derived.RangeFuncLeaves
import Derived.RangeFuncBox
import Derived.LoopNIn
import Derived.RangeFuncNested
import Derived.Scope
set_option linter.unusedSimpArgs false
set_option linter.unusedVariables false
set_option linter.unusedSectionVars false
namespace Go.Eng
open Go Go.RowKit
section
variable {G:Nat->Option I}
theorem aT.eG {F F':Nat->I} {x:aT} (h:∀t∈x.rd,F t=F' t):x.ev G F=x.ev G F':=by
 cases x with
 | t n=>exact h n (by simp[aT.rd])
 | _=>rfl
theorem wU {F F':Nat->I} {xs:List aT} (h:∀t∈xs.flatMap aT.rd,F t=F' t):xs.map (aT.ev G F)=xs.map (aT.ev G F'):=by
 apply List.map_congr_left
 intro x ae
 exact aT.eG fun t aO=>h t (List.mem_flatMap.2 ⟨x,ae,aO⟩)
theorem IJ {F F':Nat->I}:∀ {ps:List (Nat × Nat × aT)} {cs:List I},(∀t∈ps.flatMap (fun p=>p.2.2.rd),F t=F' t)->eR cs (aT.ev G F) ps=eR cs (aT.ev G F') ps
 | [],cs,_=>rfl
 | (off,sz,x)::ps,cs,h=>by
   have ae:x.ev G F=x.ev G F':=aT.eG fun t aO=>h t (by simp[aO])
   simp only[eR,ae]
   rw[IJ (ps:=ps) fun t aO=>h t (by simp only[List.flatMap_cons,List.mem_append];exact .inr aO)]
theorem IK {F F':Nat->I} {sz:Nat}:∀ {ps:List (Nat × aT)} {es:List I},(∀t∈ps.flatMap (fun p=>p.2.rd),F t=F' t)->eS sz es (aT.ev G F) ps=eS sz es (aT.ev G F') ps
 | [],es,_=>rfl
 | (i,x)::ps,es,h=>by
   have ae:x.ev G F=x.ev G F':=aT.eG fun t aO=>h t (by simp[aO])
   simp only[eS,ae]
   rw[IK (ps:=ps) fun t aO=>h t (by simp only[List.flatMap_cons,List.mem_append];exact .inr aO)]
theorem Df {F F':Nat->I} {d:Nat} {x:Option aT} (h:∀t∈aT.yP x,F t=F' t):bound d (aT.ev G F) x=bound d (aT.ev G F') x:=by
 cases x with
 | none=>rfl
 | some x=>simp only[bound];rw[aT.eG (G:=G) (F:=F) (F':=F') (x:=x) h]
theorem Sy {F F':Nat->I} {aZ r:Nat} {h:ah} {op:kf} (bu:∀t∈op.reads,F t=F' t):evalOp aZ r (aT.ev G F) h op=evalOp aZ r (aT.ev G F') h op:=by
 cases op<;>simp only[evalOp,kf.reads,List.mem_append] at bu|-
 case mv x=>rw[aT.eG bu]
 case pick c a b=>
  rw[aT.eG (x:=c) fun t aO=>bu t (.inl (.inl aO)),aT.eG (x:=a) fun t aO=>bu t (.inl (.inr aO)),aT.eG (x:=b) fun t aO=>bu t (.inr aO)]
 case box x=>rw[aT.eG bu]
 case build z ps=>rw[IJ bu]
 case bsl sz z n ps=>rw[IK bu]
 case load bT sz x=>rw[aT.eG bu]
 case store sz x y=>rw[aT.eG (x:=x) fun t aO=>bu t (.inl aO),aT.eG (x:=y) fun t aO=>bu t (.inr aO)]
 case bin ty op x y=>rw[aT.eG (x:=x) fun t aO=>bu t (.inl aO),aT.eG (x:=y) fun t aO=>bu t (.inr aO)]
 case eqA uC n x y=>rw[aT.eG (x:=x) fun t aO=>bu t (.inl aO),aT.eG (x:=y) fun t aO=>bu t (.inr aO)]
 case un op x=>rw[aT.eG bu]
 case conv k x=>rw[aT.eG bu]
 case mkfn f a b=>rw[wU (xs:=a) fun t aO=>bu t (.inl aO),wU (xs:=b) fun t aO=>bu t (.inr aO)]
 case mksl z sz uD x y=>rw[aT.eG (x:=x) fun t aO=>bu t (.inl aO),aT.eG (x:=y) fun t aO=>bu t (.inr aO)]
 case slice sz x cr ab jO=>
  rw[aT.eG (x:=x) fun t aO=>bu t (.inl (.inl (.inl aO)))]
  simp only[Df (x:=cr) fun t aO=>bu t (.inl (.inl (.inr aO))),Df (x:=ab) fun t aO=>bu t (.inl (.inr aO)),Df (x:=jO) fun t aO=>bu t (.inr aO)]
 case faddr bT off sz x=>rw[aT.eG bu]
 case field bT off sz x=>rw[aT.eG bu]
 case iaddrS sz x y=>rw[aT.eG (x:=x) fun t aO=>bu t (.inl aO),aT.eG (x:=y) fun t aO=>bu t (.inr aO)]
 case iaddrA bT n sz x y=>rw[aT.eG (x:=x) fun t aO=>bu t (.inl aO),aT.eG (x:=y) fun t aO=>bu t (.inr aO)]
 case idxA bT n sz x y=>rw[aT.eG (x:=x) fun t aO=>bu t (.inl aO),aT.eG (x:=y) fun t aO=>bu t (.inr aO)]
 case idxS x y=>rw[aT.eG (x:=x) fun t aO=>bu t (.inl aO),aT.eG (x:=y) fun t aO=>bu t (.inr aO)]
 case extract x i=>rw[aT.eG bu]
 case len s x=>rw[aT.eG bu]
 case mlook x y=>rw[aT.eG (x:=x) fun t aO=>bu t (.inl aO),aT.eG (x:=y) fun t aO=>bu t (.inr aO)]
 case isnil uC x=>rw[aT.eG bu]
 case app sz uD x y=>rw[aT.eG (x:=x) fun t aO=>bu t (.inl aO),aT.eG (x:=y) fun t aO=>bu t (.inr aO)]
 case min xs=>rw[wU bu]
 case max xs=>rw[wU bu]
def Dg (aZ r:Nat) (a_:aT->I) (h:ah) (op:kf) (v:I) (h':ah):eb->Prop
 | .pure=>h'=h/\∀h2,evalOp aZ r a_ h2 op=some (v,h2,.pure)
 | .jv=>∃blk,h'=h.new r blk/\∀h2,evalOp aZ r a_ h2 op=some (v,h2.new r blk,.jv)
 | .rd=>h'=h/\∀h2:ah,(∀id,id<aZ->h2.cells id=h.cells id)->evalOp aZ r a_ h2 op=some (v,h2,.rd)
 | .wr=>True
 | .lN id=>h'=h/\id<aZ/\∀h2:ah,h2.cells id=h.cells id->evalOp aZ r a_ h2 op=some (v,h2,.lN id)
 | .ly _=>False
theorem iS {aZ r:Nat} {a_:aT->I} {h h':ah} {op:kf} {v:I} {c:eb} (X:Option I) (cK:∀h2,evalOp aZ r a_ h2 op=X.map fun v=>(v,h2,.pure))
 (he:evalOp aZ r a_ h op=some (v,h',c)):(h'.next,h'.aV)=(h.next,h.aV)/\Dg aZ r a_ h op v h' c:=by
 rw[cK] at he
 obtain⟨u,hu,he⟩:=Option.map_eq_some_iff.1 he
 cases he
 exact ⟨rfl,rfl,fun h2=>by rw[cK,hu];rfl⟩
theorem Dh {aZ r:Nat} {a_:aT->I} {h h':ah} {op:kf} {v:I} {c:eb} (X:Option (I × List I)) (cK:∀h2,evalOp aZ r a_ h2 op=X.map fun p=>(p.1,ah.new h2 r p.2,.jv))
 (he:evalOp aZ r a_ h op=some (v,h',c)):(h'.next,h'.aV)=(h.next,h.aV)/\Dg aZ r a_ h op v h' c:=by
 rw[cK] at he
 obtain⟨u,hu,he⟩:=Option.map_eq_some_iff.1 he
 cases he
 exact ⟨rfl,u.2,rfl,fun h2=>by rw[cK,hu];rfl⟩
theorem uE {aZ r:Nat} {a_:aT->I} {h h':ah} {op:kf} {v:I} {c:eb} (he:evalOp aZ r a_ h op=some (v,h',c)):
 (h'.next,h'.aV)=(h.next,h.aV)/\Dg aZ r a_ h op v h' c:=by
 cases op
 case mv x=>exact iS (some (a_ x)) (fun h2=>rfl) he
 case pick c a b=>
  cases J:a_ c<;>first
   | (simp only[evalOp,J] at he;cases he;done)
   | (rename_i t;exact iS (some (if t then a_ a else a_ b)) (fun h2=>by simp only[evalOp,J];rfl) he)
 case alloc z=>exact Dh (some (.ptr r 0 0,[z])) (fun h2=>rfl) he
 case box x=>
  by_cases aw:(a_ x).cells.all I.ca=true
  · exact Dh (some (.ptr r 0 0,[a_ x])) (fun h2=>by simp only[evalOp,if_pos aw];rfl) he
  · simp only[evalOp,if_neg aw] at he;cases he
 case build z ps=>exact iS ((eR z a_ ps).map I.agg) (fun h2=>by simp only[evalOp,Option.map_map];rfl) he
 case bsl sz z n ps=>
  by_cases aw:z.cells.length=sz/\0<sz/\z.dQ=true
  · exact iS ((eS sz (List.replicate n z) a_ ps).map fun es=> .sl es true) (fun h2=>by simp only[evalOp,if_pos aw,Option.map_map];rfl) he
  · simp only[evalOp,if_neg aw] at he;cases he
 case load bT sz x=>
  cases ae:a_ x<;>first
   | (simp only[evalOp,ae] at he;cases he;done)
   | skip
  · rename_i id idx cN
    simp only[evalOp,ae] at he
    obtain⟨blk,U,he⟩:=Option.bind_eq_some_iff.1 he
    obtain⟨e,h2,he⟩:=Option.bind_eq_some_iff.1 he
    obtain⟨cs,aB,he⟩:=Option.bind_eq_some_iff.1 he
    obtain⟨u,aS,he⟩:=Option.map_eq_some_iff.1 he
    cases he
    refine⟨rfl,?_⟩
    by_cases bz:id<aZ
    · rw[if_pos bz]
      refine⟨rfl,bz,fun cX dF=>?_⟩
      simp only[evalOp,ae,dF,U,Option.bind_some,h2,aB,aS,if_pos bz];rfl
    · rw[if_neg bz];trivial
  · rename_i u
    exact iS ((cut u.cells 0 sz).bind (partOf bT)) (fun h2=>by
     simp only[evalOp,ae]
     cases cut u.cells 0 sz<;>simp) he
 case store sz a w=>
  simp only[evalOp] at he
  split at he
  · split at he<;>try(cases he;done)
    obtain⟨blk,U,he⟩:=Option.bind_eq_some_iff.1 he
    obtain⟨e,h2,he⟩:=Option.bind_eq_some_iff.1 he
    split at he<;>try(cases he;done)
    split at he
    · cases he;exact ⟨rfl,trivial⟩
    · split at he
      · cases he;exact ⟨rfl,trivial⟩
      · cases he
  · cases he
 case bin ty op x y=>exact iS (fi ty op (a_ x) (a_ y)) (fun h2=>rfl) he
 case mlook x y=>
  cases ae:a_ x<;>first
   | (simp only[evalOp,ae] at he;cases he;done)
   | skip
  rename_i m
  cases aN:a_ y<;>first
   | (simp only[evalOp,ae,aN] at he;cases he;done)
   | skip
  rename_i k n
  cases k<;>first
   | (simp only[evalOp,ae,aN] at he;cases he;done)
   | (exact iS (some (.bL [match m.lookup n with
       | some f=> .fn f [] []
       | none=> .nilfn,.bool (m.lookup n).isSome])) (fun h2=>by simp only[evalOp,ae,aN];rfl) he)
 case isnil uC x=>
  cases ae:a_ x<;>first
   | (simp only[evalOp,ae] at he;cases he;done)
   | skip
  · rename_i xs ex
    exact iS (if 0<xs.length then some (.bool uC) else none) (fun h2=>by simp only[evalOp,ae];split<;>rfl) he
  · rename_i id off len cap
    exact iS (if 0<len\/0<cap then some (.bool uC) else none) (fun h2=>by simp only[evalOp,ae];split<;>rfl) he
 case eqA uC n x y=>
  cases ae:a_ x<;>first
   | (simp only[evalOp,ae] at he;cases he;done)
   | skip
  cases aN:a_ y<;>first
   | (simp only[evalOp,ae,aN] at he;cases he;done)
   | skip
  rename_i xs ys
  by_cases ai:xs.length=n
  · exact iS ((eQ xs ys).map fun b=> .bool (b != uC)) (fun h2=>by simp only[evalOp,ae,aN,if_pos ai,Option.map_map];rfl) he
  · simp only[evalOp,ae,aN,if_neg ai] at he;cases he
 case un op x=>exact iS (fj op (a_ x)) (fun h2=>rfl) he
 case conv k x=>
  cases ae:a_ x<;>first
   | (simp only[evalOp,ae] at he;cases he;done)
   | (rename_i k' n;exact iS (some (.int k (k.wrap n))) (fun h2=>by simp only[evalOp,ae];rfl) he)
 case mkfn f a b=>exact iS (some (.fn f (a.map a_) (b.map a_))) (fun h2=>rfl) he
 case mksl z sz bytes l c=>
  cases ae:a_ l<;>first
   | (simp only[evalOp,ae] at he;cases he;done)
   | skip
  cases aN:a_ c<;>first
   | (simp only[evalOp,ae,aN] at he;cases he;done)
   | skip
  rename_i k a k' b
  by_cases ai:0<=a/\a<=b/\b*bytes<=140737488355328/\0<bytes/\z.cells.length=sz/\0<sz/\(z.cells.all I.ca)=true
  · exact Dh (some (.ref r 0 a.toNat b.toNat,List.replicate b.toNat z)) (fun h2=>by simp only[evalOp,ae,aN,if_pos ai];rfl) he
  · simp only[evalOp,ae,aN,if_neg ai] at he;cases he
 case slice sz x cr ab jO=>
  cases ae:a_ x<;>first
   | (simp only[evalOp,ae] at he;cases he;done)
   | skip
  · rename_i xs ex
    refine iS (match bound 0 a_ cr,bound xs.length a_ ab,bound xs.length a_ jO with
     | some l,some u,some m=>if l<=u/\u<=m/\m<=xs.length/\(l=0\/(xs.all fun e=>e.cells.length == sz)=true) then some (.sl ((xs.drop l).take (u - l)) ((jO.isSome||ex)&&m == u)) else none
     | _,_,_=>none) (fun h2=>?_) he
    simp only[evalOp,ae]
    cases bound 0 a_ cr<;>cases bound xs.length a_ ab<;>cases bound xs.length a_ jO<;>simp only[Option.map_none]
    split<;>rfl
  · rename_i id off len cap
    simp only[evalOp,ae] at he
    split at he<;>try(cases he;done)
    rename_i l u m b1 en kX
    split at he<;>try(cases he;done)
    rename_i aM
    cases he
    refine⟨rfl,?_⟩
    by_cases bz:id<aZ
    · rw[if_pos bz]
      refine⟨rfl,fun cX dF=>?_⟩
      simp only[evalOp,ae,b1,en,kX,dF id bz,if_pos aM,if_pos bz]
    · rw[if_neg bz];trivial
 case faddr bT off sz x=>
  cases ae:a_ x<;>first
   | (simp only[evalOp,ae] at he;cases he;done)
   | skip
  · rename_i id idx cN
    exact iS (some (.ptr id idx (cN+off))) (fun h2=>by simp only[evalOp,ae];rfl) he
  · rename_i u
    exact iS (((cut u.cells off sz).bind (partOf bT)).map I.e2) (fun h2=>by
     simp only[evalOp,ae]
     cases cut u.cells off sz<;>simp[Function.comp_def]) he
 case field bT off sz x=>
  cases ae:a_ x<;>first
   | (simp only[evalOp,ae] at he;cases he;done)
   | skip
  rename_i cs
  exact iS ((cut cs off sz).bind (partOf bT)) (fun h2=>by
   simp only[evalOp,ae]
   cases cut cs off sz<;>simp) he
 case iaddrS sz x i=>
  cases ae:a_ x<;>first
   | (simp only[evalOp,ae] at he;cases he;done)
   | skip
  · cases aN:a_ i<;>first
     | (simp only[evalOp,ae,aN] at he;cases he;done)
     | skip
    rename_i xs ex k n
    refine iS (if 0<=n then (xs[n.toNat]?).bind fun e=>if e.cells.length=sz then some (.e2 e) else none else none) (fun h2=>?_) he
    simp only[evalOp,ae,aN]
    split
    · cases xs[n.toNat]? with
      | none=>rfl
      | some e=>simp only[Option.bind_some];split<;>rfl
    · rfl
  · cases aN:a_ i<;>first
     | (simp only[evalOp,ae,aN] at he;cases he;done)
     | skip
    rename_i id off len cap k n
    simp only[evalOp,ae,aN] at he
    split at he<;>try(cases he;done)
    rename_i aM
    cases he
    refine⟨rfl,?_⟩
    by_cases bz:id<aZ
    · rw[if_pos bz]
      refine⟨rfl,fun cX dF=>?_⟩
      simp only[evalOp,ae,aN,dF id bz,if_pos aM,if_pos bz]
    · rw[if_neg bz];trivial
 case iaddrA bT n sz x i=>
  cases ae:a_ x<;>first
   | (simp only[evalOp,ae] at he;cases he;done)
   | skip
  · cases aN:a_ i<;>first
     | (simp only[evalOp,ae,aN] at he;cases he;done)
     | skip
    rename_i id idx cN k j
    refine iS (if 0<=j/\j<n then some (.ptr id idx (cN+j.toNat*sz)) else none) (fun h2=>?_) he
    simp only[evalOp,ae,aN]
    split<;>rfl
  · cases aN:a_ i<;>first
     | (simp only[evalOp,ae,aN] at he;cases he;done)
     | skip
    rename_i u k j
    refine iS (if 0<=j/\j<n then ((cut u.cells (j.toNat*sz) sz).bind (partOf bT)).map I.e2 else none) (fun h2=>?_) he
    simp only[evalOp,ae,aN]
    split
    · cases cut u.cells (j.toNat*sz) sz<;>simp[Function.comp_def]
    · rfl
 case idxA bT n sz x i=>
  cases ae:a_ x<;>first
   | (simp only[evalOp,ae] at he;cases he;done)
   | skip
  cases aN:a_ i<;>first
   | (simp only[evalOp,ae,aN] at he;cases he;done)
   | skip
  rename_i cs k j
  refine iS (if 0<=j/\j<n then (cut cs (j.toNat*sz) sz).bind (partOf bT) else none) (fun h2=>?_) he
  simp only[evalOp,ae,aN]
  split
  · cases cut cs (j.toNat*sz) sz<;>simp
  · rfl
 case idxS x i=>
  cases ae:a_ x<;>first
   | (simp only[evalOp,ae] at he;cases he;done)
   | skip
  cases aN:a_ i<;>first
   | (simp only[evalOp,ae,aN] at he;cases he;done)
   | skip
  rename_i s k j
  refine iS (if 0<=j then (s[j.toNat]?).map fun b=> .int .u8 b.toNat else none) (fun h2=>?_) he
  simp only[evalOp,ae,aN]
  split
  · simp[Option.map_map,Function.comp_def]
  · rfl
 case extract x i=>
  cases ae:a_ x<;>first
   | (simp only[evalOp,ae] at he;cases he;done)
   | skip
  rename_i vs
  exact iS (vs[i]?) (fun h2=>by simp only[evalOp,ae]) he
 case call f as=>simp only[evalOp] at he;cases he
 case len s x=>
  cases ae:a_ x<;>first
   | (simp only[evalOp,ae] at he;cases he;done)
   | skip
  · rename_i st
    refine iS (if s=true then some (.int .i64 st.size) else none) (fun h2=>?_) he
    simp only[evalOp,ae];split<;>rfl
  · rename_i xs ex
    refine iS (if s=false then some (.int .i64 xs.length) else none) (fun h2=>?_) he
    simp only[evalOp,ae];split<;>rfl
  · rename_i id off len cap
    refine iS (if s=false then some (.int .i64 len) else none) (fun h2=>?_) he
    simp only[evalOp,ae];split<;>rfl
 case app sz bytes x y=>
  simp only[evalOp] at he
  obtain⟨ys,U,he⟩:=Option.bind_eq_some_iff.1 he
  split at he<;>try(cases he;done)
  rename_i aM
  split at he
  · rename_i xs ex ae
    split at he
    · rename_i j9
      cases he
      refine⟨rfl,?_⟩
      cases aN:a_ y<;>simp only[kC]<;>try trivial
      refine⟨rfl,fun h2=>?_⟩
      rw[aN] at U
      simp only[elems] at U
      cases U
      simp only[evalOp,aN,elems,Option.bind_some,if_pos aM,ae,if_pos j9,kC,if_true]
    rename_i j9
    split at he<;>try(cases he;done)
    rename_i kY
    cases he
    refine⟨rfl,?_⟩
    cases aN:a_ y<;>simp only[kC]<;>try trivial
    refine⟨_,rfl,fun h2=>?_⟩
    rw[aN] at U
    simp only[elems] at U
    cases U
    simp only[evalOp,aN,elems,Option.bind_some,if_pos aM,ae,if_neg j9,if_pos kY,kC,if_true]
  · rename_i id off len cap ae
    split at he
    · rename_i j9
      cases he
      refine⟨rfl,?_⟩
      cases aN:a_ y<;>simp only[kC]<;>try trivial
      refine⟨rfl,fun h2=>?_⟩
      rw[aN] at U
      simp only[elems] at U
      cases U
      simp only[evalOp,aN,elems,Option.bind_some,if_pos aM,ae,if_pos j9,kC,if_true]
    split at he<;>try(cases he;done)
    obtain⟨blk,h2,he⟩:=Option.bind_eq_some_iff.1 he
    split at he<;>try(cases he;done)
    split at he
    · split at he<;>try(cases he;done)
      cases he;exact ⟨rfl,trivial⟩
    · split at he<;>try(cases he;done)
      cases he;exact ⟨rfl,trivial⟩
  · cases he
 case min xs=>exact iS (j6 (fun a b=>if b<a then b else a) (xs.map a_)) (fun h2=>rfl) he
 case max xs=>exact iS (j6 (fun a b=>if a<b then b else a) (xs.map a_)) (fun h2=>rfl) he
end
end Go.Eng
namespace Go.Eng
open Go Go.RowKit
theorem IL {h h2:ah} {v u:I} {ids:List Nat} (az:dD h v=some (u,ids)) (J:∀id∈ids,h2.cells id=h.cells id):dD h2 v=some (u,ids):=by
 cases v<;>simp only[dD] at az|- <;>try(first|exact az|cases az)
 rename_i id off len cap
 split at az<;>try(cases az;done)
 rename_i blk ad
 split at az<;>try(cases az;done)
 rename_i aM
 cases az
 rw[J id (by simp),ad]
 simp only[if_pos aM]
theorem IM {h h2:ah}:∀ {vs us:List I} {ids:List Nat},ei h vs=some (us,ids)->(∀id∈ids,h2.cells id=h.cells id)->ei h2 vs=some (us,ids)
 | [],us,ids,az,_=>by simp only[ei] at az|-;exact az
 | v::vs,us,ids,az,J=>by
   simp only[ei] at az|-
   split at az<;>try(cases az;done)
   rename_i kh a mP b U sA
   cases az
   rw[IL U fun id bz=>J id (by simp[bz]),IM sA fun id bz=>J id (by simp[bz])]
theorem Sz {h h2:ah} {v u:I} {ids:List Nat} (az:iR h v=some (u,ids)) (J:∀id∈ids,h2.cells id=h.cells id):iR h2 v=some (u,ids):=by
 cases v<;>simp only[iR] at az|- <;>try(exact IL az J)
 obtain⟨p,U,he⟩:=Option.map_eq_some_iff.1 az
 cases he
 rw[IM U J];rfl
theorem zg {h h2:ah}:∀ {vs us:List I} {ids:List Nat},ec h vs=some (us,ids)->(∀id∈ids,h2.cells id=h.cells id)->ec h2 vs=some (us,ids)
 | [],us,ids,az,_=>by simp only[ec] at az|-;exact az
 | v::vs,us,ids,az,J=>by
   simp only[ec] at az|-
   split at az<;>try(cases az;done)
   rename_i kh a mP b U sA
   cases az
   rw[Sz U fun id bz=>J id (by simp[bz]),zg sA fun id bz=>J id (by simp[bz])]
theorem uF (h:ah) {bF dn:Nat} (b1 en:List I) (bP:bF≠dn):(h.new bF b1).new dn en=(h.new dn en).new bF b1:=by
 simp only[ah.new,ah.mk.injEq,and_true]
 funext t
 simp only[au]
 by_cases U:t=bF<;>by_cases h2:t=dn<;>simp_all
theorem pa (h:ah) {r id:Nat} (b:List I) (bP:id≠r):(h.new r b).cells id=h.cells id:=by
 simp only[ah.new,au,if_neg bP]
theorem SA {aZ q:Nat} {a_:aT->I} {h h':ah} {op:kf} {v:I} {c:eb} {r:Nat} {blk:List I} (he:evalOp aZ q a_ h op=some (v,h',c)) (ai:h.cells r=none) (pb:r≠q):
 evalOp aZ q a_ (h.new r blk) op=some (v,h'.new r blk,c)/\h'.cells r=none:=by
 have bP:∀ {id b},h.cells id=some b->id≠r:=by rintro id b ad rfl;rw[ai] at ad;cases ad
 have qa:∀ {id b},h.cells id=some b->(h.new r blk).cells id=some b:=fun ad=>by rw[pa _ _ (bP ad)];exact ad
 have c6:∀ {sz id},sizedB sz (h.cells id)=true->sizedB sz ((h.new r blk).cells id)=true:=fun {sz id} aw=>by
  cases ad:h.cells id with
  | none=>rw[ad] at aw;cases aw
  | some b=>rw[qa ad,<-ad];exact aw
 have kW:∀ {y ys},elems h y=some ys->elems (h.new r blk) y=some ys:=fun {y ys} aN=>by
  cases y<;>simp only[elems] at aN|- <;>try(first|exact aN|cases aN)
  split at aN<;>try(cases aN;done)
  rename_i b ad
  rw[qa ad];exact aN
 obtain⟨_,E⟩:=uE he
 have pu:c= .pure->evalOp aZ q a_ (h.new r blk) op=some (v,h'.new r blk,c)/\h'.cells r=none:=by
  rintro rfl
  obtain⟨rfl,av⟩:=E
  exact ⟨av _,ai⟩
 have jv:c= .jv->evalOp aZ q a_ (h.new r blk) op=some (v,h'.new r blk,c)/\h'.cells r=none:=by
  rintro rfl
  obtain⟨en,rfl,av⟩:=E
  exact ⟨by rw[av,uF _ _ _ pb],by rw[pa _ _ pb];exact ai⟩
 clear E
 cases op
 case load bT sz x=>
  cases ae:a_ x<;>(try(simp only[evalOp,ae] at he;cases he;done))
  · rename_i id idx cN
    simp only[evalOp,ae] at he|-
    obtain⟨b,ad,he⟩:=Option.bind_eq_some_iff.1 he
    obtain⟨e,U,he⟩:=Option.bind_eq_some_iff.1 he
    obtain⟨cs,h2,he⟩:=Option.bind_eq_some_iff.1 he
    obtain⟨u,aB,he⟩:=Option.map_eq_some_iff.1 he
    cases he
    exact ⟨by simp only[qa ad,Option.bind_some,U,h2,aB,Option.map_some],ai⟩
  · refine pu ?_
    simp only[evalOp,ae] at he
    obtain⟨cs,h2,he⟩:=Option.bind_eq_some_iff.1 he
    obtain⟨u,aB,he⟩:=Option.map_eq_some_iff.1 he
    cases he;rfl
 case store sz a x=>
  cases ae:a_ a<;>(try(simp only[evalOp,ae] at he;cases he;done))
  rename_i id idx cN
  simp only[evalOp,ae] at he|-
  split at he<;>try(cases he;done)
  rename_i aw
  obtain⟨b,ad,he⟩:=Option.bind_eq_some_iff.1 he
  obtain⟨e,U,he⟩:=Option.bind_eq_some_iff.1 he
  have q_:=bP ad
  split at he<;>try(cases he;done)
  rename_i aM
  rw[if_neg (show ¬(h.new r blk).shut id=true from aw),qa ad]
  simp only[Option.bind_some,U,if_pos aM]
  split at he
  · cases he
    exact ⟨by rw[uF _ _ _ (Ne.symm q_)],by rw[pa _ _ (Ne.symm q_)];exact ai⟩
  · split at he<;>try(cases he;done)
    cases he
    exact ⟨by rw[uF _ _ _ (Ne.symm q_)],by rw[pa _ _ (Ne.symm q_)];exact ai⟩
 case slice sz x cr ab jO=>
  cases ae:a_ x<;>(try(simp only[evalOp,ae] at he;cases he;done))
  · refine pu ?_
    simp only[evalOp,ae] at he
    split at he<;>try(cases he;done)
    split at he<;>try(cases he;done)
    cases he;rfl
  · rename_i id off len cap
    simp only[evalOp,ae] at he|-
    split at he<;>try(cases he;done)
    split at he<;>try(cases he;done)
    rename_i aM
    cases he
    rw[if_pos ⟨aM.1,aM.2.1,aM.2.2.1,aM.2.2.2.imp (fun h=>h) c6⟩]
    exact ⟨rfl,ai⟩
 case iaddrS sz x i=>
  cases ae:a_ x<;>(try(simp only[evalOp,ae] at he;cases he;done))
  · refine pu ?_
    cases ab:a_ i<;>(try(simp only[evalOp,ae,ab] at he;cases he;done))
    simp only[evalOp,ae,ab] at he
    split at he<;>try(cases he;done)
    obtain⟨e,U,he⟩:=Option.bind_eq_some_iff.1 he
    split at he<;>try(cases he;done)
    cases he;rfl
  · rename_i id off len cap
    cases ab:a_ i<;>(try(simp only[evalOp,ae,ab] at he;cases he;done))
    simp only[evalOp,ae,ab] at he|-
    split at he<;>try(cases he;done)
    rename_i aM
    cases he
    rw[if_pos ⟨aM.1,aM.2.1,c6 aM.2.2⟩]
    exact ⟨rfl,ai⟩
 case app sz bytes x y=>
  simp only[evalOp] at he|-
  obtain⟨ys,aN,he⟩:=Option.bind_eq_some_iff.1 he
  simp only[kW aN,Option.bind_some]
  split at he<;>try(cases he;done)
  rename_i aM
  rw[if_pos aM]
  cases ae:a_ x<;>(try(simp only[ae] at he;cases he;done))
  · simp only[ae] at he|-
    split at he
    · rename_i aD
      cases he
      rw[if_pos aD];exact ⟨rfl,ai⟩
    · rename_i aD
      split at he<;>try(cases he;done)
      rename_i U
      cases he
      rw[if_neg aD,if_pos U]
      exact ⟨by rw[uF _ _ _ pb],by rw[pa _ _ pb];exact ai⟩
  · rename_i id off len cap
    simp only[ae] at he|-
    split at he
    · rename_i aD
      cases he
      rw[if_pos aD];exact ⟨rfl,ai⟩
    · rename_i aD
      split at he<;>try(cases he;done)
      rename_i aw
      obtain⟨b,ad,he⟩:=Option.bind_eq_some_iff.1 he
      have q_:=bP ad
      rw[if_neg aD,if_neg (show ¬(h.new r blk).shut id=true from aw),qa ad]
      simp only[Option.bind_some]
      split at he<;>try(cases he;done)
      rename_i U
      rw[if_pos U]
      split at he
      · rename_i h2
        rw[if_pos h2]
        split at he<;>try(cases he;done)
        rename_i aB
        cases he
        rw[if_pos aB]
        exact ⟨by rw[uF _ _ _ (Ne.symm q_)],by rw[pa _ _ (Ne.symm q_)];exact ai⟩
      · rename_i h2
        rw[if_neg h2]
        split at he<;>try(cases he;done)
        rename_i aB
        cases he
        rw[if_pos aB]
        refine⟨?_,by simp only[au];rw[if_neg pb,if_neg (Ne.symm q_)];exact ai⟩
        simp only[ah.new,Option.some.injEq,Prod.mk.injEq,ah.mk.injEq,and_true,true_and]
        funext t
        simp only[au]
        by_cases t1:t=r<;>by_cases t2:t=id<;>by_cases t3:t=q<;>simp_all
 all_goals
  cases c with
  | pure=>exact pu rfl
  | jv=>exact jv rfl
  | _=>
    exfalso
    simp only[evalOp] at he
    repeat' split at he
    all_goals first
     | (cases he;done)
     | (obtain⟨_,_,he⟩:=Option.map_eq_some_iff.1 he;cases he;done)
     | (obtain⟨_,_,he⟩:=Option.bind_eq_some_iff.1 he;obtain⟨_,_,he⟩:=Option.map_eq_some_iff.1 he;cases he;done)
     | (obtain⟨_,_,he⟩:=Option.bind_eq_some_iff.1 he;split at he<;>cases he;done)
theorem IN {h:ah} {v u:I} {ids:List Nat} (az:dD h v=some (u,ids)):∀id∈ids,∃b,h.cells id=some b:=by
 cases v<;>simp only[dD] at az<;>try(first|(cases az;done)|(cases az;intro id bz;cases bz;done))
 split at az<;>try(cases az;done)
 rename_i b ad
 split at az<;>try(cases az;done)
 cases az
 intro id bz
 rw[List.mem_singleton] at bz
 subst bz
 exact ⟨b,ad⟩
theorem IP {h:ah}:∀ {vs us:List I} {ids:List Nat},ei h vs=some (us,ids)->∀id∈ids,∃b,h.cells id=some b
 | [],us,ids,az=>by simp only[ei] at az;cases az;intro id bz;cases bz
 | v::vs,us,ids,az=>by
   simp only[ei] at az
   split at az<;>try(cases az;done)
   rename_i kh a mP b U sA
   cases az
   intro id bz
   rcases List.mem_append.1 bz with bz|bz
   · exact IN U id bz
   · exact IP sA id bz
theorem SB {h:ah} {v u:I} {ids:List Nat} (az:iR h v=some (u,ids)):∀id∈ids,∃b,h.cells id=some b:=by
 cases v<;>simp only[iR] at az<;>try(exact IN az)
 obtain⟨p,U,he⟩:=Option.map_eq_some_iff.1 az
 cases he
 exact IP U
theorem IQ {h:ah}:∀ {vs us:List I} {ids:List Nat},ec h vs=some (us,ids)->∀id∈ids,∃b,h.cells id=some b
 | [],us,ids,az=>by simp only[ec] at az;cases az;intro id bz;cases bz
 | v::vs,us,ids,az=>by
   simp only[ec] at az
   split at az<;>try(cases az;done)
   rename_i kh a mP b U sA
   cases az
   intro id bz
   rcases List.mem_append.1 bz with bz|bz
   · exact SB U id bz
   · exact IQ sA id bz
theorem SC {h:ah} {vs us:List I} {ids:List Nat} {r:Nat} {blk:List I} (az:ec h vs=some (us,ids)) (ai:h.cells r=none):ec (h.new r blk) vs=some (us,ids):=
 zg az fun id bz=>pa _ _ (by
  rintro rfl
  obtain⟨b,ad⟩:=IQ az _ bz
  rw[ai] at ad;cases ad)
def q' (ch:kV->List I->ah->Option (I × ah)):Prop:=
 ∀t args h v h' r blk,ch t args h=some (v,h')->h.cells r=none->r<h.next->ch t args (h.new r blk)=some (v,h'.new r blk)/\h'.cells r=none/\h.next<=h'.next
theorem SD {aZ:Nat} {h h':ah} {r:Nat} {blk:List I} (ai:h.cells r=none) (pc:h'.cells r=none):qY aZ (h.new r blk) (h'.new r blk)=qY aZ h h':=by
 funext id
 simp only[qY]
 by_cases e:id=r
 · subst e
   simp only[ah.new,au,if_true,ai,pc,yR]
 · rw[pa _ _ e,pa _ _ e]
theorem IS {G:Nat->Option I} {tab:FuncId->Option (List I->Option I)} {ch:kV->List I->ah->Option (I × ah)} (bc:q' ch) {aZ q:Nat} {e:aU} {s ar:aL} {c:eb} {r:Nat} {blk:List I}
 (he:cW G tab ch aZ q e s=some (ar,c)) (ai:s.h.cells r=none) (aR:r<s.h.next) (pb:r≠q):
 cW G tab ch aZ q e ⟨s.F,s.h.new r blk⟩=some (⟨ar.F,ar.h.new r blk⟩,c)/\ar.h.cells r=none/\s.h.next<=ar.h.next:=by
 unfold cW at he|-
 split at he
 · split at he
   · split at he
     · split at he<;>try(cases he;done)
       rename_i vs ids az
       obtain⟨v,al,he⟩:=Option.map_eq_some_iff.1 he
       cases he
       simp_all only
       refine⟨?_,ai,Nat.le_refl _⟩
       simp only[SC az ai,al,Option.map_some]
       rfl
     · obtain⟨p,al,he⟩:=Option.map_eq_some_iff.1 he
       obtain⟨v,h'⟩:=p
       cases he
       obtain⟨bp,cb,c7⟩:=bc _ _ _ _ _ r blk al ai aR
       simp_all only
       refine⟨?_,by first|exact cb|trivial,by first|exact c7|trivial⟩
       simp only[bp,Option.map_some,SD ai cb]
   · obtain⟨p,al,he⟩:=Option.map_eq_some_iff.1 he
     obtain⟨v,h'⟩:=p
     cases he
     obtain⟨bp,cb,c7⟩:=bc _ _ _ _ _ r blk al ai aR
     simp_all only
     exact ⟨by simp only[bp,Option.map_some],by first|exact cb|trivial,by first|exact c7|trivial⟩
   · cases he
 · obtain⟨p,al,he⟩:=Option.map_eq_some_iff.1 he
   obtain⟨v,h',c'⟩:=p
   cases he
   obtain⟨bp,cb⟩:=SA (blk:=blk) al ai pb
   have c7:=(uE al).1
   simp only[Prod.mk.injEq] at c7
   exact ⟨by simp only[bp,Option.map_some],cb,by simp only[c7.1];exact Nat.le_refl _⟩
theorem Di {G:Nat->Option I} {tab:FuncId->Option (List I->Option I)} {ch:kV->List I->ah->Option (I × ah)} (bc:q' ch) {aZ q:Nat} {e:aU} {s ar:aL} {c:eb} {r:Nat} {blk:List I}
 (he:cx G tab ch aZ q e s=some (ar,c)) (ai:s.h.cells r=none) (aR:r<s.h.next) (pb:r≠q):
 cx G tab ch aZ q e ⟨s.F,s.h.new r blk⟩=some (⟨ar.F,ar.h.new r blk⟩,c)/\ar.h.cells r=none/\s.h.next<=ar.h.next:=by
 unfold cx at he|-
 split at he
 · exact IS bc he ai aR pb
 · split at he
   · rename_i b ad
     split at he
     · rename_i hw
       simp only[ad,if_pos hw]
       exact IS bc he ai aR pb
     · rename_i hw
       cases he
       simp only[ad,if_neg hw]
       exact ⟨by first|rfl|trivial,ai,Nat.le_refl _⟩
   · rename_i ad
     cases he
     simp only[ad]
     exact ⟨by first|rfl|trivial,ai,Nat.le_refl _⟩
   · cases he
theorem sB (h:ah):h.close []=h:=by
 cases h;simp[ah.close]
section
variable {G:Nat->Option I} {tab:FuncId->Option (List I->Option I)} {ch:kV->List I->ah->Option (I × ah)}
def IT (G:Nat->Option I) (tab:FuncId->Option (List I->Option I)) (ch:kV->List I->ah->Option (I × ah)) (aZ r:Nat) (e:aU) (s:aL) (v:I) (h':ah):eb->Prop
 | .pure=>h'=s.h/\∀cF h2,(∀t∈e.reads,cF t=s.F t)->cx G tab ch aZ r e ⟨cF,h2⟩=some (⟨cw cF e.dst v,h2⟩,.pure)
 | .jv=>∃blk,h'=s.h.new r blk/\∀cF h2,(∀t∈e.reads,cF t=s.F t)->cx G tab ch aZ r e ⟨cF,h2⟩=some (⟨cw cF e.dst v,h2.new r blk⟩,.jv)
 | .rd=>∃ids,h'=s.h.close ids/\∀cF (h2:ah),(∀t∈e.reads,cF t=s.F t)->(∀id,id<aZ->h2.cells id=s.h.cells id)->cx G tab ch aZ r e ⟨cF,h2⟩=some (⟨cw cF e.dst v,h2.close ids⟩,.rd)
 | .wr=>∀cF,(∀t∈e.reads,cF t=s.F t)->cx G tab ch aZ r e ⟨cF,s.h⟩=some (⟨cw cF e.dst v,h'⟩,.wr)
 | .lN id=>h'=s.h/\id<aZ/\∀cF (h2:ah),(∀t∈e.reads,cF t=s.F t)->h2.cells id=s.h.cells id->cx G tab ch aZ r e ⟨cF,h2⟩=some (⟨cw cF e.dst v,h2⟩,.lN id)
 | .ly qX=>(∀id,qX id=true->h'.cells id=s.h.cells id)/\∀cF,(∀t∈e.reads,cF t=s.F t)->cx G tab ch aZ r e ⟨cF,s.h⟩=some (⟨cw cF e.dst v,h'⟩,.ly qX)
theorem IU {aZ r:Nat} {e:aU} {s ar:aL} {c:eb} (aX:cW G tab ch aZ r e s=some (ar,c))
 (ct:∀cF h2,(∀t∈e.reads,cF t=s.F t)->cx G tab ch aZ r e ⟨cF,h2⟩=cW G tab ch aZ r e ⟨cF,h2⟩):
 ∃v h',ar=⟨cw s.F e.dst v,h'⟩/\IT G tab ch aZ r e s v h' c:=by
 have IV:∀t∈e.op.reads,t∈e.reads:=fun t aO=>by simp only[aU.reads,List.mem_append];exact .inr aO
 by_cases jC:∃f args,e.op= .call f args
 · obtain⟨f,args,cK⟩:=jC
   have wV:∀cF,(∀t∈e.reads,cF t=s.F t)->f.ev G cF=f.ev G s.F/\args.map (aT.ev G cF)=args.map (aT.ev G s.F):=by
    intro cF h2
    have aB:∀t∈e.op.reads,cF t=s.F t:=fun t aO=>h2 t (IV t aO)
    rw[cK] at aB
    simp only[kf.reads,List.mem_append] at aB
    exact ⟨aT.eG fun t aO=>aB t (.inl aO),wU fun t aO=>aB t (.inr aO)⟩
   unfold cW at aX
   simp only[cK] at aX
   split at aX<;>try(cases aX;done)
   rotate_left
   · rename_i id bc
     obtain⟨p,al,aX⟩:=Option.map_eq_some_iff.1 aX
     cases aX
     refine⟨p.1,p.2,rfl,fun cF dF=>?_⟩
     rw[ct cF s.h dF]
     obtain⟨ao,av⟩:=wV cF dF
     unfold cW
     simp only[cK,ao,bc,av,al,Option.map_some]
   rename_i n first caps bc
   split at aX
   · rename_i T cA
     split at aX<;>try(cases aX;done)
     rename_i vs ids az
     obtain⟨v,al,aX⟩:=Option.map_eq_some_iff.1 aX
     cases aX
     refine⟨v,_,rfl,?_⟩
     by_cases ab:ids.isEmpty=true
     · rw[if_pos ab]
       have SE:ids= []:=by simpa using ab
       subst SE
       refine⟨sB _,fun cF h2 dF=>?_⟩
       rw[ct cF h2 dF]
       obtain⟨ao,av⟩:=wV cF dF
       unfold cW
       simp only[cK,ao,bc,cA,av,zg az (h2:=h2) (fun id bz=>absurd bz (by simp)),al,Option.map_some,sB]
       rfl
     · rw[if_neg ab]
       by_cases ai:ids.all (fun i=>decide (i<aZ))=true
       · rw[if_pos ai]
         refine⟨ids,rfl,fun cF h2 dF J=>?_⟩
         rw[ct cF h2 dF]
         obtain⟨ao,av⟩:=wV cF dF
         unfold cW
         simp only[cK,ao,bc,cA,av,zg az (h2:=h2) (fun id bz=>J id (by simpa using List.all_eq_true.1 ai id bz)),al,Option.map_some,if_neg ab,if_pos ai]
       · rw[if_neg ai]
         intro cF dF
         rw[ct cF s.h dF]
         obtain⟨ao,av⟩:=wV cF dF
         unfold cW
         simp only[cK,ao,bc,cA,av,az,al,Option.map_some,if_neg ab,if_neg ai]
   · rename_i cA
     obtain⟨p,al,aX⟩:=Option.map_eq_some_iff.1 aX
     cases aX
     refine⟨p.1,p.2,rfl,fun id ag=>?_,fun cF dF=>?_⟩
     · simp only[qY,Bool.and_eq_true] at ag
       exact (RA ag.2).symm
     rw[ct cF s.h dF]
     obtain⟨ao,av⟩:=wV cF dF
     unfold cW
     simp only[cK,ao,bc,cA,av,al,Option.map_some]
 · have sy:∀kH,cW G tab ch aZ r e kH=(evalOp aZ r (aT.ev G kH.F) kH.h e.op).map fun(v,h',c)=>(⟨cw kH.F e.dst v,h'⟩,c):=by
    intro kH
    unfold cW
    split
    · exact absurd ⟨_,_,‹_›⟩ jC
    · rfl
   rw[sy] at aX
   obtain⟨p,aF,aX⟩:=Option.map_eq_some_iff.1 aX
   obtain⟨v,h',cO⟩:=p
   have Dj:(⟨cw s.F e.dst v,h'⟩:aL)=ar:=congrArg Prod.fst aX
   have SF:cO=c:=congrArg Prod.snd aX
   subst Dj;subst SF
   refine⟨v,h',rfl,?_⟩
   obtain⟨_,E⟩:=uE aF
   have key:∀cF h2,(∀t∈e.reads,cF t=s.F t)->cx G tab ch aZ r e ⟨cF,h2⟩=(evalOp aZ r (aT.ev G s.F) h2 e.op).map fun(v,h',c)=>(⟨cw cF e.dst v,h'⟩,c):=by
    intro cF h2 dF
    rw[ct cF h2 dF,sy]
    simp only
    rw[Sy (F:=cF) (F':=s.F) fun t aO=>dF t (IV t aO)]
   cases cO with
   | pure=>
     obtain⟨ao,av⟩:=E
     exact ⟨ao,fun cF h2 dF=>by rw[key cF h2 dF,av h2];rfl⟩
   | jv=>
     obtain⟨blk,ao,av⟩:=E
     exact ⟨blk,ao,fun cF h2 dF=>by rw[key cF h2 dF,av h2];rfl⟩
   | rd=>
     obtain⟨ao,av⟩:=E
     refine⟨[],by rw[sB];exact ao,fun cF h2 dF J=>?_⟩
     rw[key cF h2 dF,av h2 J,sB];rfl
   | wr=>exact fun cF dF=>by rw[key cF s.h dF,aF];rfl
   | lN id=>
     obtain⟨ao,aW,av⟩:=E
     exact ⟨ao,aW,fun cF h2 dF J=>by rw[key cF h2 dF,av h2 J];rfl⟩
   | ly k=>exact E.elim
theorem IW {aZ r:Nat} {e:aU} {s ar:aL} {c:eb} (aX:cx G tab ch aZ r e s=some (ar,c)):
 ∃v h',ar=⟨cw s.F e.dst v,h'⟩/\IT G tab ch aZ r e s v h' c:=by
 cases ra:e.guard with
 | none=>
   have aR:∀kH,cx G tab ch aZ r e kH=cW G tab ch aZ r e kH:=fun kH=>by unfold cx;rw[ra]
   rw[aR] at aX
   exact IU aX fun cF h2 _=>aR _
 | some g=>
   obtain⟨t,want⟩:=g
   have aO:t∈e.reads:=by simp[aU.reads,ra]
   cases ad:s.F t<;>first
    | (unfold cx at aX;simp only[ra,ad] at aX;cases aX;done)
    | skip
   · unfold cx at aX
     simp only[ra,ad] at aX
     cases aX
     refine⟨.kB,s.h,rfl,rfl,fun cF h2 dF=>?_⟩
     unfold cx;simp only[ra,dF t aO,ad]
   rename_i b
   by_cases oq:b=want
   · have aR:∀cF h2,(∀t∈e.reads,cF t=s.F t)->cx G tab ch aZ r e ⟨cF,h2⟩=cW G tab ch aZ r e ⟨cF,h2⟩:=fun cF h2 dF=>by
      unfold cx;simp only[ra,dF t aO,ad,if_pos oq]
     have aD:=aR s.F s.h (fun _ _=>rfl)
     have:cx G tab ch aZ r e s=cW G tab ch aZ r e s:=aD
     rw[this] at aX
     exact IU aX aR
   · unfold cx at aX
     simp only[ra,ad,if_neg oq] at aX
     cases aX
     refine⟨.kB,s.h,rfl,rfl,fun cF h2 dF=>?_⟩
     unfold cx;simp only[ra,dF t aO,ad,if_neg oq]
theorem SG {F:Nat->I} {d e:Option Nat} {u v:I} (h:∀x,d=some x->e≠some x):cw (cw F d u) e v=cw (cw F e v) d u:=by
 cases d with
 | none=>rfl
 | some x=>
   cases e with
   | none=>rfl
   | some y=>
     have bP:x≠y:=fun q=>h x rfl (by rw[q])
     funext t
     simp only[cw,au]
     by_cases U:t=x<;>by_cases h2:t=y<;>simp_all
theorem IX {F:Nat->I} {d:Option Nat} {v:I} {t:Nat} (h:∀x,d=some x->t≠x):cw F d v t=F t:=by
 cases d with
 | none=>rfl
 | some x=>simp[cw,au,h x rfl]
theorem apart_spec {e f:aU} (h:e.apart f=true):(∀x,e.dst=some x->x ∉ f.reads)/\(∀x,e.dst=some x->f.dst≠some x)/\(∀x,f.dst=some x->x ∉ e.reads):=by
 refine⟨fun d a3=>?_,fun d a3=>?_,fun d a3=>?_⟩<;>simp[aU.apart,a3] at h
 · exact h.1.1
 · exact h.1.2
 · exact h.2
theorem SH (h:ah) (a b:List Nat):(h.close a).close b=(h.close b).close a:=by
 simp only[ah.close,ah.mk.injEq,true_and,and_true]
 funext t
 cases h.shut t<;>cases a.contains t<;>cases b.contains t<;>rfl
theorem SI {aZ o7 jS:Nat} {sC sD:aU} {s s1 s2:aL} {ci qb:eb} (U:cx G tab ch aZ o7 sC s=some (s1,ci)) (h2:cx G tab ch aZ jS sD s1=some (s2,qb))
 (IY:sC.apart sD=true) (J:kD ci qb=true) (aR:o7≠jS) (ab:aZ<=o7) (aC:aZ<=jS) (wW:q' ch) (SJ:s.h.cells jS=none) (SK:jS<s.h.next):
 ∃wX,cx G tab ch aZ jS sD s=some (wX,qb)/\cx G tab ch aZ o7 sC wX=some (s2,ci):=by
 obtain⟨a1,eX,zh⟩:=apart_spec IY
 obtain⟨Dk,bY,rfl,pd⟩:=IW U
 obtain⟨jD,kr,rfl,jT⟩:=IW h2
 have j_:∀t∈sD.reads,s.F t=(cw s.F sC.dst Dk) t:=fun t aO=>(IX fun x ae=>by rintro rfl;exact a1 _ ae aO).symm
 have j':∀v t,t∈sC.reads->(cw s.F sD.dst v) t=s.F t:=fun v t aO=>IX fun x ae=>by rintro rfl;exact zh _ ae aO
 have jU:cw (cw s.F sD.dst jD) sC.dst Dk=cw (cw s.F sC.dst Dk) sD.dst jD:=(SG fun x ae=>eX x ae).symm
 cases ci with
 | pure=>
   obtain⟨ao,av⟩:=pd
   subst ao
   cases qb with
   | pure=>
     obtain⟨aW,bR⟩:=jT
     subst aW
     exact ⟨_,bR s.F s.h j_,by rw[av _ _ (j' jD),jU]⟩
   | jv=>
     obtain⟨blk,aW,bR⟩:=jT
     subst aW
     exact ⟨_,bR s.F s.h j_,by rw[av _ _ (j' jD),jU]⟩
   | rd=>
     obtain⟨ids,aW,bR⟩:=jT
     subst aW
     exact ⟨_,bR s.F s.h j_ (fun _ _=>rfl),by rw[av _ _ (j' jD),jU]⟩
   | wr=>exact ⟨_,jT s.F j_,by rw[av _ _ (j' jD),jU]⟩
   | lN id=>
     obtain⟨aW,fe,bR⟩:=jT
     subst aW
     exact ⟨_,bR s.F s.h j_ rfl,by rw[av _ _ (j' jD),jU]⟩
   | ly k=>exact ⟨_,jT.2 s.F j_,by rw[av _ _ (j' jD),jU]⟩
 | jv=>
   obtain⟨blk,ao,av⟩:=pd
   subst ao
   cases qb with
   | pure=>
     obtain⟨aW,bR⟩:=jT
     subst aW
     exact ⟨_,bR s.F s.h j_,by rw[av _ _ (j' jD),jU]⟩
   | jv=>
     obtain⟨uG,aW,bR⟩:=jT
     subst aW
     exact ⟨_,bR s.F s.h j_,by rw[av _ _ (j' jD),jU,uF _ _ _ aR]⟩
   | rd=>
     obtain⟨ids,aW,bR⟩:=jT
     subst aW
     have aM:∀id,id<aZ->s.h.cells id=(s.h.new o7 blk).cells id:=fun id bz=>by
      simp only[ah.new,au];rw[if_neg (by omega)]
     exact ⟨_,bR s.F s.h j_ aM,by rw[av _ _ (j' jD),jU];rfl⟩
   | wr=>simp[kD] at J
   | lN id=>
     obtain⟨aW,fe,bR⟩:=jT
     subst aW
     have aM:s.h.cells id=(s.h.new o7 blk).cells id:=by
      simp only[ah.new,au];rw[if_neg (by omega)]
     exact ⟨_,bR s.F s.h j_ aM,by rw[av _ _ (j' jD),jU]⟩
   | ly k=>simp[kD] at J
 | rd=>
   obtain⟨ids,ao,av⟩:=pd
   subst ao
   cases qb with
   | pure=>
     obtain⟨aW,bR⟩:=jT
     subst aW
     exact ⟨_,bR s.F s.h j_,by rw[av _ _ (j' jD) (fun _ _=>rfl),jU]⟩
   | jv=>
     obtain⟨uG,aW,bR⟩:=jT
     subst aW
     have aM:∀id,id<aZ->(s.h.new jS uG).cells id=s.h.cells id:=fun id bz=>by
      simp only[ah.new,au];rw[if_neg (by omega)]
     exact ⟨_,bR s.F s.h j_,by rw[av _ _ (j' jD) aM,jU];rfl⟩
   | rd=>
     obtain⟨Dl,aW,bR⟩:=jT
     subst aW
     exact ⟨_,bR s.F s.h j_ (fun _ _=>rfl),by rw[av _ (s.h.close Dl) (j' jD) (fun _ _=>rfl),jU,SH]⟩
   | wr=>simp[kD] at J
   | lN id=>
     obtain⟨aW,fe,bR⟩:=jT
     subst aW
     exact ⟨_,bR s.F s.h j_ rfl,by rw[av _ s.h (j' jD) (fun _ _=>rfl),jU]⟩
   | ly k=>simp[kD] at J
 | lN id=>
   obtain⟨ao,fe,av⟩:=pd
   subst ao
   cases qb with
   | pure=>
     obtain⟨aW,bR⟩:=jT
     subst aW
     exact ⟨_,bR s.F s.h j_,by rw[av _ _ (j' jD) rfl,jU]⟩
   | jv=>
     obtain⟨uG,aW,bR⟩:=jT
     subst aW
     have aM:(s.h.new jS uG).cells id=s.h.cells id:=by
      simp only[ah.new,au];rw[if_neg (by omega)]
     exact ⟨_,bR s.F s.h j_,by rw[av _ _ (j' jD) aM,jU]⟩
   | rd=>
     obtain⟨Dl,aW,bR⟩:=jT
     subst aW
     exact ⟨_,bR s.F s.h j_ (fun _ _=>rfl),by rw[av _ (s.h.close Dl) (j' jD) rfl,jU]⟩
   | wr=>simp[kD] at J
   | lN ajc=>
     obtain⟨aW,lo,bR⟩:=jT
     subst aW
     exact ⟨_,bR s.F s.h j_ rfl,by rw[av _ _ (j' jD) rfl,jU]⟩
   | ly k=>
     exact ⟨_,jT.2 s.F j_,by rw[av _ _ (j' jD) (jT.1 id J),jU]⟩
 | ly k=>
   obtain⟨jc,pd⟩:=pd
   cases qb with
   | pure=>
     obtain⟨aW,bR⟩:=jT
     subst aW
     exact ⟨_,bR s.F s.h j_,by rw[pd _ (j' jD),jU]⟩
   | jv=>
     obtain⟨uG,aW,bR⟩:=jT
     subst aW
     have fe:=(Di (blk:=uG) wW (pd _ (j' jD)) SJ SK (Ne.symm aR)).1
     exact ⟨_,bR s.F s.h j_,by rw[jU] at fe;exact fe⟩
   | rd=>simp[kD] at J
   | wr=>simp[kD] at J
   | lN id=>
     obtain⟨aW,fe,bR⟩:=jT
     subst aW
     exact ⟨_,bR s.F s.h j_ (jc id J).symm,by rw[pd _ (j' jD),jU]⟩
   | ly k=>simp[kD] at J
 | wr=>
   cases qb with
   | pure=>
     obtain⟨aW,bR⟩:=jT
     subst aW
     exact ⟨_,bR s.F s.h j_,by rw[pd _ (j' jD),jU]⟩
   | jv=>simp[kD] at J
   | rd=>simp[kD] at J
   | wr=>simp[kD] at J
   | lN id=>simp[kD] at J
   | ly k=>simp[kD] at J
theorem IZ {aZ:Nat} {e:aU} {i:Nat}:∀ {fy kZ:List (aU × Nat)} {s ar:aL} {cs:List eb},cR G tab ch aZ (fy++(e,i)::kZ) s=some (ar,cs)->
 (∀k (ag:k<fy.length) (j8:k<cs.length) (ay:fy.length<cs.length),fy[k].1.apart e=true/\kD cs[k] cs[fy.length]=true/\fy[k].2≠i)->q' ch->s.h.cells (aZ+i)=none->aZ+i<s.h.next->
 ∃s1 c b8 bQ,cx G tab ch aZ (aZ+i) e s=some (s1,c)/\cR G tab ch aZ (fy++kZ) s1=some (ar,b8++bQ)/\cs=b8++c::bQ/\b8.length=fy.length
 | [],kZ,s,ar,cs,h,_,_,_,_=>by
   simp only[List.nil_append,cR] at h
   split at h<;>try(cases h;done)
   rename_i s1 c U
   obtain⟨p,h2,aB⟩:=Option.map_eq_some_iff.1 h
   cases aB
   exact ⟨s1,c,[],p.2,U,h2,rfl,rfl⟩
 | (bK,i0)::fy,kZ,s,ar,cs,h,aM,wW,pe,I0=>by
   simp only[List.cons_append,cR] at h
   split at h<;>try(cases h;done)
   rename_i uH cO U
   obtain⟨p,h2,aB⟩:=Option.map_eq_some_iff.1 h
   obtain⟨CJ,jP⟩:=p
   cases aB
   have hlen:∀ {L:List (aU × Nat)} {s ar:aL} {cs:List eb},cR G tab ch aZ L s=some (ar,cs)->cs.length=L.length:=by
    intro L
    induction L with
    | nil=>intro s ar cs h;simp only[cR] at h;cases h;rfl
    | cons q L a8=>
      intro s ar cs h
      simp only[cR] at h
      split at h<;>try(cases h;done)
      obtain⟨p,h2,aB⟩:=Option.map_eq_some_iff.1 h
      cases aB
      simp[a8 h2]
   have jm:=hlen h2
   have SL:=(aM 0 (by simp) (by simp) (by simp[jm])).2.2
   simp only[List.getElem_cons_zero] at SL
   obtain⟨-,bm,c0⟩:=Di (blk:=[]) wW U pe I0 (by omega)
   obtain⟨uI,c,b8,bQ,bM,cn,rfl,iB⟩:=IZ h2 (fun k ag j8 ay=>by
    have:=aM (k+1) (by simp;omega) (by simp;omega) (by simp;omega)
    simpa using this) wW bm (by omega)
   have aD:=aM 0 (by simp) (by simp) (by simp[iB])
   simp only[List.getElem_cons_zero,List.length_cons,List.getElem_cons_succ] at aD
   have nN:(b8++c::bQ)[fy.length]'(by simp[iB])=c:=by simp[<-iB]
   rw[nN] at aD
   obtain⟨wX,bp,cb⟩:=SI U bM aD.1 aD.2.1 (by have:=aD.2.2;simp at this;omega) (by omega) (by omega) wW pe I0
   refine⟨wX,c,cO::b8,bQ,bp,?_,rfl,by simp[iB]⟩
   simp only[List.cons_append,cR,cb,cn,Option.map_some]
end
end Go.Eng
namespace Go.Eng
open Go Go.RowKit
theorem a5.SM {w:World} {ok:Nat->Prop} {σ bg:Nat->Option (Nat × Nat)} {v:I} {cv:Value} (h:a5 w ok σ (.e2 v) cv):a5 w ok bg (.e2 v) cv:=by
 obtain⟨cq,ep,rfl,U,h2⟩:=h.yZ
 exact .e2 v cq ep U h2
def jV (F:Fence):Prop:=F=Fence.wide\/∃l,F=Fence.wide.inRound l
theorem jV.fn {F:Fence} (h:jV F) (f:FuncId):F.fn f:=by
 rcases h with rfl|⟨l,rfl⟩<;>trivial
theorem jV.depth {F:Fence} (h:jV F):F.depth=none:=by
 rcases h with rfl|⟨l,rfl⟩<;>rfl
theorem jV.room {F:Fence} (h:jV F) (n:Nat):F.room n:=fun d a3=>by rw[h.depth] at a3;cases a3
theorem jV.one {F:Fence} (h:jV F) (n:Nat):F.depth.isSome=true->1<=n:=fun a3=>by rw[h.depth] at a3;cases a3
theorem jV.inRound {F:Fence} (h:jV F) (l:Nat):jV (F.inRound l):=by
 rcases h with rfl|⟨k,rfl⟩
 · exact .inr ⟨l,rfl⟩
 · exact .inr ⟨l,rfl⟩
theorem jV.calls {F:Fence} (h:jV F) {n:Nat} {P:Program} {f:FuncId} {args:Array Value} {w:World} {R:Ending->World->Prop} (J:Calls P f args w R):CallsIn F n P f args w R:=by
 rcases h with rfl|⟨l,rfl⟩
 · exact callsIn_wide.2 J
 · exact (callsIn_wide (n:=n)).2 J
structure di (base:Nat) (okin:Nat->Prop) (σ:Nat->Option (Nat × Nat)) (h:ah) (w:World) (bg:Nat->Option (Nat × Nat)) (h':ah) (aQ:World):Prop where
 sub:∀id x,σ id=some x->bg id=some x
 still:um w aQ (bt base okin σ h) (bt base okin bg h')
 below:Below base w aQ
 grow:∀b,iI w b<=iI aQ b
 loop:∀(b:Nat) (r:Loop),w.heap[b]? =some (.loop r)->∃st jW,aQ.heap[b]? =some (.loop {r with state:=st,pending:=jW})
 ot:∀b:Nat,w.heap[b]? =some (.deferred (some []))->aQ.heap[b]? =some (.deferred (some []))
theorem di.refl (base:Nat) (okin:Nat->Prop) (σ:Nat->Option (Nat × Nat)) (h:ah) (w:World):di base okin σ h w σ h w:=
 ⟨fun _ _ h=>h,fun _ _ _ _ h=>⟨h,rfl⟩,Below.refl _ _,fun _=>Nat.le_refl _,fun _ r h=>⟨r.state,r.pending,h⟩,fun _ h=>h⟩
theorem di.trans {base:Nat} {okin:Nat->Prop} {σ jx p1:Nat->Option (Nat × Nat)} {h U h2:ah} {w b7 c4:World}
 (p:di base okin σ h w jx U b7) (q:di base okin jx U b7 p1 h2 c4):di base okin σ h w p1 h2 c4:=
 ⟨fun id x ae=>q.sub id x (p.sub id x ae),fun b o ad ag az=>by
   obtain⟨j7,ao⟩:=p.still b o ad ag az
   obtain⟨du,av⟩:=q.still b o (by rw[ao];exact ad) ag j7
   exact ⟨du,av.trans ao⟩,p.below.trans q.below,fun b=>Nat.le_trans (p.grow b) (q.grow b),fun b r ad=>by
   obtain⟨s1,bb,ao⟩:=p.loop b r ad
   obtain⟨s2,bw,av⟩:=q.loop b _ ao
   exact ⟨s2,bw,av⟩,fun b ad=>q.ot b (p.ot b ad)⟩
theorem di.rep {base:Nat} {okin:Nat->Prop} {σ bg:Nat->Option (Nat × Nat)} {h h':ah} {w aQ:World} (p:di base okin σ h w bg h' aQ)
 {v:I} {cv:Value} (r:a5 w (bt base okin σ h) σ v cv):a5 aQ (bt base okin bg h') bg v cv:=r.mono p.still p.sub p.grow
theorem qc {w:World} {b:Nat} {o:Obj} (h:w.heap[b]? =some o):b<w.heap.size:=(Array.getElem?_eq_some_iff.1 h).1
theorem cJ.other {base:Nat} {okin:Nat->Prop} {σ bg:Nat->Option (Nat × Nat)} {h h':ah} {w aQ:World} (H:cJ base okin σ h w) (p:Prog base okin σ h w bg h' aQ) {b:Nat} {o:Obj} (ad:w.heap[b]? =some o)
 (ai:∀arr ty e,o≠ .cells arr ty e):aQ.heap[b]? =some o:=by
 have bG:=qc ad
 by_cases wY:b<base
 · rw[p.below.block b wY];exact ad
 · have:=(p.qX b bG (.inr ⟨Nat.le_of_not_lt wY,fun id s aw ay=>by
    obtain⟨blk,oi⟩:=Option.isSome_iff_exists.1 ay
    obtain⟨kg,ar,arr,ty,ao,av,_⟩:=H.blk id blk oi
    rw[aw] at ao;cases ao
    rw[ad] at av
    exact absurd (Option.some.inj av) (ai _ _ _)⟩)).2
   rw[this];exact ad
theorem di.of {base:Nat} {okin:Nat->Prop} {σ bg:Nat->Option (Nat × Nat)} {h h':ah} {w aQ:World} (H:cJ base okin σ h w) (p:Prog base okin σ h w bg h' aQ):di base okin σ h w bg h' aQ:=
 ⟨p.sub,p.still,p.below,p.grow,fun b r ad=>⟨r.state,r.pending,H.other p ad (fun _ _ _ h=>by cases h)⟩,fun b ad=>H.other p ad (fun _ _ _ h=>by cases h)⟩
def ou:fX->LoopState
 | .ready=> .ready
 | .busy=> .busy
 | .done _=> .done
def SN:dd->Option Code
 | .normal=>none
 | .exit id=>some (.exit id)
 | .ret=>some .ret
def ov:fX->Option Code
 | .ready=>none
 | .busy=>none
 | .done e=>SN e
structure ka (σ:Nat->Option (Nat × Nat)) (aV:Nat->Option fX) (w:World):Prop where
 look:∀id p,aV id=some p->∃(l s:Nat) (r:Loop),σ id=some (l,s)/\w.heap[l]? =some (.loop r)/\r.state=ou p/\r.pending=ov p
 inj:∀id ix p nS l s ar,aV id=some p->aV ix=some nS->σ id=some (l,s)->σ ix=some (l,ar)->id=ix
theorem ka.of {base:Nat} {okin:Nat->Prop} {σ bg:Nat->Option (Nat × Nat)} {h h':ah} {w aQ:World} (L:ka σ h.aV w) (H:cJ base okin σ h w) (p:Prog base okin σ h w bg h' aQ) (aF:h'.aV=h.aV):ka bg h'.aV aQ:=by
 rw[aF]
 refine⟨fun id q aM=>?_,fun id ix q nm l s ar U h2 ao av=>?_⟩
 · obtain⟨l,s,r,ao,av,aW,bR⟩:=L.look id q aM
   exact ⟨l,s,r,p.sub _ _ ao,H.other p av (fun _ _ _ h=>by cases h),aW,bR⟩
 · obtain⟨bJ,s1,bF,a1,_⟩:=L.look id q U
   obtain⟨dG,s2,dn,eX,_⟩:=L.look ix nm h2
   have b1:=p.sub _ _ a1;rw[ao] at b1
   have en:=p.sub _ _ eX;rw[av] at en
   cases b1;cases en
   exact L.inj id ix q nm l s ar U h2 a1 eX
def pf (P:Program) (G:Nat->Option I) (base:Nat) (okin:Nat->Prop) (Y:List cy) (σ:Nat->Option (Nat × Nat)) (h:ah) (w:World):Prop:=
 ∀L∈Y,∃(l s:Nat) (r:Loop) (nT:Nat),σ L.id=some (l,s)/\w.heap[l]? =some (.loop r)/\nT<=r.tmps.size/\L.ps=r.params.toList/\(∀p∈L.ps,p<nT)/\
  ig P nT r.assign=some L.dL/\ig P nT r.body=some L.body/\ki G (bt base okin σ h) σ w L.F {tmps:=r.tmps,defers:=[]}
theorem pf.mono {P:Program} {G:Nat->Option I} {base:Nat} {okin:Nat->Prop} {Y:List cy} {σ bg:Nat->Option (Nat × Nat)} {h h':ah} {w aQ:World} (C:pf P G base okin Y σ h w) (p:di base okin σ h w bg h' aQ):pf P G base okin Y bg h' aQ:=by
 intro L bh
 obtain⟨l,s,r,nT,ao,av,aW,bR,fe,lo,Dm,rb⟩:=C L bh
 obtain⟨st,jW,SO⟩:=p.loop l r av
 exact ⟨l,s,_,nT,p.sub _ _ ao,SO,aW,bR,fe,lo,Dm,⟨fun t=>p.rep (rb.slot t),fun g v aX=>p.rep (rb.nf g v aX)⟩⟩
structure Marks (bK:Nat) (cG:List Deferred) (w:World):Prop where
 each:∀d∈cG,∃D,d.target= .collected D/\bK<=D/\w.heap[D]? =some (.deferred (some []))
 nodup:cG.Pairwise fun d o0=>d.target≠o0.target
theorem Marks.mono {bK:Nat} {cG:List Deferred} {w aQ:World} (M:Marks bK cG w) (a3:∀b:Nat,w.heap[b]? =some (.deferred (some []))->aQ.heap[b]? =some (.deferred (some []))):Marks bK cG aQ:=
 ⟨fun d h=>by
   obtain⟨D,U,h2,aB⟩:=M.each d h
   exact ⟨D,U,h2,a3 D aB⟩,M.nodup⟩
def Dn (P:Program) (f:FuncId) (args:Array Value) (w:World) (R:Value->World->Prop):Prop:=
 ((callFunc f args).run P w= .ok (.enter f args) w/\Calls P f args w fun e aQ=>∃cv,e= .returned cv/\R cv aQ)\/
 ∃cv aQ,(callFunc f args).run P w= .ok (.value cv) aQ/\R cv aQ
def Dp (P:Program) (l:Nat) (args:Array Value) (w:World) (R:Value->World->Prop):Prop:=
 ∃f tmps dL body,(Instr.yield l args).run P w= .ok (.round l f tmps dL body) w/\∀F n,jV F->RoundIn F n P l f tmps dL body w fun e aQ=>∃cv,e= .returned cv/\R cv aQ
def aH (P:Program) (G:Nat->Option I) (f:FuncId) (T:List I->Option I):Prop:=
 ∀args v,T args=some v->∀(ok:Nat->Prop) (w:World) (dh:Array Value),dh.size=args.length->
  (∀i (h:i<args.length) (h':i<dh.size),dq w ok args[i] dh[i])->
  (∀g u,G g=some u->a5 w ok (fun _=>none) (.e2 u) (.pointer (some ⟨g,0,none⟩)))->
  Dn P f dh w fun cv aQ=>dq aQ (fun b=>ok b\/w.heap.size<=b) v cv/\Below w.heap.size w aQ
def uJ (base:Nat) (okin:Nat->Prop) (σ:Nat->Option (Nat × Nat)) (h:ah) (w:World) (h':ah) (v:I) (cv:Value) (aQ:World):Prop:=
 ∃bg,di base okin σ h w bg h' aQ/\cJ base okin bg h' aQ/\ka bg h'.aV aQ/\a5 aQ (bt base okin bg h') bg v cv/\(∀id,h'.next<=id->bg id=none)/\∀id,id<h.next->bg id=σ id
structure uK (P:Program) (G:Nat->Option I) (Y:List cy) (ch:kV->List I->ah->Option (I × ah)):Prop where
 next:∀t args h v h',ch t args h=some (v,h')->h.next<=h'.next
 frame:q' ch
 fn:∀f args h v h',ch (.fn f) args h=some (v,h')->∀base okin σ w (dh:Array Value),cJ base okin σ h w->ka σ h.aV w->pf P G base okin Y σ h w->dh.size=args.length->
    (∀i (ab:i<args.length) (bY:i<dh.size),a5 w (bt base okin σ h) σ args[i] dh[i])->
    (∀g u,G g=some u->a5 w (bt base okin σ h) σ (.e2 u) (.pointer (some ⟨g,0,none⟩)))->(∀id,h.next<=id->σ id=none)->
    Dn P f dh w (uJ base okin σ h w h' v)
 lk:∀id args h v h',ch (.lk id) args h=some (v,h')->∀base okin σ w (dh:Array Value) l s,cJ base okin σ h w->ka σ h.aV w->pf P G base okin Y σ h w->σ id=some (l,s)->dh.size=args.length->
    (∀i (ab:i<args.length) (bY:i<dh.size),a5 w (bt base okin σ h) σ args[i] dh[i])->
    (∀g u,G g=some u->a5 w (bt base okin σ h) σ (.e2 u) (.pointer (some ⟨g,0,none⟩)))->(∀id,h.next<=id->σ id=none)->
    Dp P l dh w (uJ base okin σ h w h' v)
structure fz (P:Program) (G:Nat->Option I) (Y:List cy) (jE:Option Nat) (bK:Nat) (base:Nat) (okin:Nat->Prop) (N:Nat) (cP:Nat) (cT:Nat->Option (Nat × Nat)) (cr:Nat->Prop) (σ:Nat->Option (Nat × Nat)) (s:aL) (a:Act) (w:World):Prop where
 aw:cJ base okin σ s.h w
 lB:ka σ s.h.aV w
 jy:pf P G base okin Y σ s.h w
 bI:ki G (bt base okin σ s.h) σ w s.F a
 size:N<=a.tmps.size
 marks:Marks bK a.defers w
 rd:∀l,jE=some l->∃r,w.heap[l]? =some (.loop r)
 sE:bK<=w.heap.size
 free:∀id,cr id->cP<=id/\id<s.h.next/\σ id=none
 low:cP<=s.h.next
 md:∀id,id<cP->σ id=cT id
 fresh:∀id,s.h.next<=id->σ id=none
section
variable {P:Program} {G:Nat->Option I} {base:Nat} {okin:Nat->Prop} {N:Nat} {cP:Nat} {cT:Nat->Option (Nat × Nat)} {cr:Nat->Prop} {σ:Nat->Option (Nat × Nat)} {w:World} {a:Act}
theorem ki.mono {bg:Nat->Option (Nat × Nat)} {h h':ah} {aQ:World} {F:Nat->I} (bI:ki G (bt base okin σ h) σ w F a) (p:di base okin σ h w bg h' aQ):ki G (bt base okin bg h') bg aQ F a:=
 ⟨fun t=>p.rep (bI.slot t),fun g v aX=>p.rep (bI.nf g v aX)⟩
theorem ki.put {h:ah} {F:Nat->I} (bI:ki G (bt base okin σ h) σ w F a) {d:Option Nat} (a3:d.all (fun d=>decide (d<N))=true) (iL:N<=a.tmps.size) {v:I} {cv:Value} (al:a5 w (bt base okin σ h) σ v cv):
 ki G (bt base okin σ h) σ w (cw F d v) (a.put d cv):=by
 refine⟨fun t=>?_,bI.nf⟩
 cases d with
 | none=>exact bI.slot t
 | some d=>
   have bG:d<a.tmps.size:=by
    have:d<N:=by simpa using a3
    omega
   simp only[cw,au,Act.put]
   by_cases e:t=d
   · subst e
     rw[if_pos rfl]
     simpa[Array.getD,bG] using al
   · rw[if_neg e]
     have:=bI.slot t
     have av:(a.tmps.setIfInBounds d cv).getD t undef=a.tmps.getD t undef:=by
      simp only[Array.getD_eq_getD_getElem?]
      rw[Array.getElem?_setIfInBounds_ne (Ne.symm e)]
     rw[av];exact this
theorem SP (a:Act) (d:Option Nat) (v:Value):(a.put d v).tmps.size=a.tmps.size:=by
 cases d<;>simp[Act.put]
theorem put_defers (a:Act) (d:Option Nat) (v:Value):(a.put d v).defers=a.defers:=by
 cases d<;>rfl
theorem cJ.grown {h:ah} (H:cJ base okin σ h w) {aQ:World} (ad:Below w.heap.size w aQ):cJ base okin σ h aQ/\Prog base okin σ h w σ h aQ:=by
 have P:Prog base okin σ h w σ h aQ:=⟨fun _ _ x=>x,fun b bG az=>⟨az,ad.block b bG⟩,ad.mono H.base,RH ad⟩
 refine⟨⟨fun id b s ab=>⟨(H.val id b s ab).1,Nat.lt_of_lt_of_le (H.val id b s ab).2 ad.size⟩,fun id ih iJ=>?_,H.inj,Nat.le_trans H.base ad.size⟩,P⟩
 obtain⟨b,s,q8,ty,ao,av,aW⟩:=H.blk id ih iJ
 refine⟨b,s,q8,ty,ao,by rw[ad.block b (H.val _ _ _ ao).2];exact av,fun i ab=>⟨(aW i ab).1,fun j aC=>?_⟩⟩
 obtain⟨v,bM,cn⟩:=(aW i ab).2 j aC
 exact ⟨v,bM,P.rep cn⟩
theorem wZ {h:ah} {x y:List Nat} (mf:∀i∈x,i∈y) (b:Nat) (az:bt base okin σ (h.close x) b):bt base okin σ (h.close y) b:=by
 rcases az with az|⟨U,h2⟩
 · exact .inl az
 · refine .inr ⟨U,fun id s aw ay=>?_⟩
   have:=h2 id s aw ay
   simp only[ah.close,Bool.or_eq_true,List.contains_iff_mem] at this|-
   exact this.imp (fun q=>q) (mf id)
theorem I1 {h:ah} (H:cJ base okin σ h w) {v u:I} {cv:Value} {ids:List Nat} (aR:a5 w (bt base okin σ h) σ v cv) (az:dD h v=some (u,ids)):dq w (bt base okin σ (h.close ids)) u cv:=by
 cases v<;>simp only[dD] at az<;>try(cases az;done)
 case int k n=>cases az;rw[aR.jQ];exact .int k n
 case bool b=>cases az;rw[aR.q2];exact .bool b
 case str s=>cases az;rw[aR.wB];exact .str s
 case nilfn=>cases az;rw[aR.RF];exact .nilfn
 case mp m=>
  cases az
  have:=aR.HP
  rw[sB]
  exact this
 case sl xs ex=>
  cases az
  have:=aR.q3
  rw[sB]
  exact this
 case ref id off len cap=>
  split at az<;>try(cases az;done)
  rename_i blk ad
  split at az<;>try(cases az;done)
  rename_i aM
  obtain⟨da,db⟩:=aM
  cases az
  obtain⟨A,c,b,sz,rfl,ao,av,aW,bR⟩:=aR.q4
  obtain⟨kg,fZ,arr,ty,f1,f2,f3⟩:=H.blk id blk ad
  rw[ao] at f1;cases f1
  have hlen:((blk.drop off).take len).length=len:=by simp;omega
  have kW:∀i (ab:i<len),((blk.drop off).take len)[i]'(by rw[hlen];exact ab)=blk[off+i]'(by omega):=by intro i ab;simp
  have i_:bt base okin σ (h.close [id]) b:=by
   refine .inr ⟨(H.val _ _ _ ao).1,fun ix s aw ay=>?_⟩
   have:ix=id:=H.inj ix id b s sz ay (by simp[ad]) aw ao
   subst this
   simp[ah.close]
  have R:=dq.sl (w:=w) (ok:=bt base okin σ (h.close [id])) ((blk.drop off).take len) false A c sz (fun i j=>(arr[(off+i)*sz+j]?).getD undef) (by rw[hlen];exact av) (fun cX=>absurd cX (by simp))
   (fun i ab=>by rw[hlen] at ab;rw[kW i ab];exact (f3 _ _).1)
   (fun i j ab aC=>by
     rw[hlen] at ab
     obtain⟨rfl,_⟩:=bR (by omega)
     refine⟨_,rfl,i_,?_⟩
     obtain⟨lO,bM,_⟩:=(f3 (off+i) (by omega)).2 j (by rw[(f3 (off+i) (by omega)).1];exact aC)
     rw[p4]
     simp only[World.cell?,f2,Option.isSome_none,Bool.false_eq_true,if_false]
     rw[show off*sz+(i*sz+j)=(off+i)*sz+j by rw[Nat.add_mul];omega,bM];rfl)
   (fun sx=>by
     rw[hlen] at sx
     obtain⟨rfl,_⟩:=bR (by omega)
     rfl)
   (fun i ab j aC=>by
     rw[hlen] at ab
     have he:=kW i ab
     simp only[he] at aC|-
     obtain⟨lO,bM,cn⟩:=(f3 (off+i) (by omega)).2 j aC
     show dq _ _ _ ((arr[(off+i)*sz+j]?).getD undef)
     rw[bM]
     have nn:(blk[off+i]'(by omega)).cells[j].dK=true:=List.all_eq_true.1 (List.all_eq_true.1 db _ (List.getElem_mem _)) _ (List.getElem_mem aC)
     exact (dq.H_ cn nn).sj fun k ag i_=>by
      have:=wZ (base:=base) (okin:=okin) (σ:=σ) (h:=h) (x:=[]) (y:=[id]) (by simp) k (by rw[sB];exact i_)
      exact this)
  rw[hlen] at R
  exact R
theorem I2 {h:ah} (H:cJ base okin σ h w):∀ {vs us:List I} {ids:List Nat} (cs:Nat->Value),(∀i (ab:i<vs.length),a5 w (bt base okin σ h) σ vs[i] (cs i))->ei h vs=some (us,ids)->
 us.length=vs.length/\∀i (ab:i<us.length),dq w (bt base okin σ (h.close ids)) us[i] (cs i)
 | [],us,ids,cs,_,az=>by simp only[ei] at az;cases az;exact ⟨rfl,fun i ab=>absurd ab (by simp)⟩
 | v::vs,us,ids,cs,aR,az=>by
   simp only[ei] at az
   split at az<;>try(cases az;done)
   rename_i kh x mP y U h2
   cases az
   obtain⟨l,q⟩:=I2 H (fun i=>cs (i+1)) (fun i ab=>aR (i+1) (by simpa using ab)) h2
   refine⟨by simp[l],fun i ab=>?_⟩
   cases i with
   | zero=>exact (I1 H (aR 0 (by simp)) U).sj fun b _ ad=>wZ (fun i ab=>by simp[ab]) b ad
   | succ i=>exact (q i (by simpa using ab)).sj fun b _ ad=>wZ (fun i ab=>by simp[ab]) b ad
theorem I3 {h:ah} (H:cJ base okin σ h w) {v u:I} {cv:Value} {ids:List Nat} (aR:a5 w (bt base okin σ h) σ v cv) (az:iR h v=some (u,ids)):dq w (bt base okin σ (h.close ids)) u cv:=by
 by_cases al:∃cs,v= .agg cs
 · obtain⟨cs,rfl⟩:=al
   simp only[iR] at az
   obtain⟨p,U,he⟩:=Option.map_eq_some_iff.1 az
   obtain⟨us,SQ⟩:=p
   cases he
   obtain⟨vs,rfl,bJ,bF⟩:=aR.uo
   obtain⟨dG,dn⟩:=I2 H (fun i=>vs.getD i undef) (fun i ab=>by
    have bG:i<vs.size:=by omega
    have:=bF i ab bG
    simpa[Array.getD,bG] using this) U
   refine .agg _ _ (by show vs.size=us.length;omega) (fun i ab bY=>?_)
   have:=dn i ab
   simpa[Array.getD,bY] using this
 · refine I1 H aR ?_
   cases v<;>first|exact az|exact absurd ⟨_,rfl⟩ al
theorem Dq {h:ah} (H:cJ base okin σ h w):∀ {vs us:List I} {ids:List Nat} (cs:Nat->Value),(∀i (ab:i<vs.length),a5 w (bt base okin σ h) σ vs[i] (cs i))->ec h vs=some (us,ids)->
 us.length=vs.length/\∀i (ab:i<us.length),dq w (bt base okin σ (h.close ids)) us[i] (cs i)
 | [],us,ids,cs,_,az=>by simp only[ec] at az;cases az;exact ⟨rfl,fun i ab=>absurd ab (by simp)⟩
 | v::vs,us,ids,cs,aR,az=>by
   simp only[ec] at az
   split at az<;>try(cases az;done)
   rename_i kh x mP y U h2
   cases az
   obtain⟨l,q⟩:=Dq H (fun i=>cs (i+1)) (fun i ab=>aR (i+1) (by simpa using ab)) h2
   refine⟨by simp[l],fun i ab=>?_⟩
   cases i with
   | zero=>exact (I3 H (aR 0 (by simp)) U).sj fun b _ ad=>wZ (fun i ab=>by simp[ab]) b ad
   | succ i=>exact (q i (by simpa using ab)).sj fun b _ ad=>wZ (fun i ab=>by simp[ab]) b ad
theorem SR {h:ah} (H:cJ base okin σ h w) {v u:I} {cv:Value} {ids:List Nat} (aR:a5 w (bt base okin σ h) σ v cv) (az:jw h v=some (u,ids)):dq w (bt base okin σ (h.close ids)) u cv:=by
 by_cases al:∃cs,v= .bL cs
 · obtain⟨cs,rfl⟩:=al
   simp only[jw] at az
   obtain⟨p,U,he⟩:=Option.map_eq_some_iff.1 az
   obtain⟨us,SQ⟩:=p
   cases he
   obtain⟨vs,rfl,bJ,bF⟩:=aR.HR
   obtain⟨dG,dn⟩:=Dq H (fun i=>vs.getD i undef) (fun i ab=>by
    have bG:i<vs.size:=by omega
    have:=bF i ab bG
    simpa[Array.getD,bG] using this) U
   refine .bL _ _ (by show vs.size=us.length;omega) (fun i ab bY=>?_)
   have:=dn i ab
   simpa[Array.getD,bY] using this
 · refine I3 H aR ?_
   cases v<;>first|exact az|exact absurd ⟨_,rfl⟩ al
end
end Go.Eng
namespace Go.Eng
open Go Go.RowKit
section
variable {P:Program} {G:Nat->Option I} {base:Nat} {okin:Nat->Prop} {N:Nat} {cP:Nat} {cT:Nat->Option (Nat × Nat)} {cr:Nat->Prop} {σ:Nat->Option (Nat × Nat)} {w:World} {a:Act}
 {tab:FuncId->Option (List I->Option I)} {ch:kV->List I->ah->Option (I × ah)} {Y:List cy} {jE:Option Nat} {bK:Nat} {c8:Fence} {dR:Nat}
theorem Dr (x:Array Value) (i:Nat) (h:i<x.size):x.getD i undef=x[i]:=by simp[Array.getD,h]
theorem I4 {ops:Array Oper} {o:Oper} {e:aU} (h:pZ P N ops o=some e):
 e.dst=o.dst/\fY P o.op=some e.op/\o.dst.all (fun d=>decide (d<N))=true/\
   ((o.guard=none/\e.guard=none)\/∃j t want,o.guard=some (j,want)/\(ops[j]?).bind (·.dst)=some t/\e.guard=some (t,want)):=by
 unfold pZ at h
 split at h<;>try(cases h;done)
 rename_i a3
 split at h<;>try(cases h;done)
 rename_i op cK
 split at h
 · rename_i aX
   cases h
   exact ⟨rfl,cK,a3,.inl ⟨aX,rfl⟩⟩
 · rename_i j w aX
   split at h<;>try(cases h;done)
   rename_i t aO
   cases h
   exact ⟨rfl,cK,a3,.inr ⟨j,t,w,aX,aO,rfl⟩⟩
theorem SS {o:Oper} {x:Operand} {args:Array Operand} {argTypes:Array TypeId} (cK:o.op= .call {callee:= .value x,args,argTypes}) {f:FuncId} {fc cv:Array Value} (ae:a.eval x= .func (.func f) fc cv):
 (execOp a.eval o).run P w=(callFunc f (fc++args.map a.eval++cv)).run P w:=by
 simp[execOp,cK,resolve,Deferred.ofValue,ae,invoke]
theorem SU {o:Oper} {x:Operand} {args:Array Operand} {argTypes:Array TypeId} (cK:o.op= .call {callee:= .value x,args,argTypes}) {l:Nat} (ae:a.eval x= .func (.yield l) #[] #[]):
 (execOp a.eval o).run P w=(Instr.yield l (args.map a.eval)).run P w:=by
 simp[execOp,cK,resolve,Deferred.ofValue,ae,invoke]
theorem fz.step {bg:Nat->Option (Nat × Nat)} {s:aL} (S:fz P G Y jE bK base okin N cP cT cr σ s a w) {d:Option Nat} (a3:d.all (fun d=>decide (d<N))=true) {v:I} {cv:Value} {h':ah} {aQ:World} {r:Nat}
 (p:di base okin σ s.h w bg h' aQ) (H:cJ base okin bg h' aQ) (L:ka bg h'.aV aQ) (aR:a5 aQ (bt base okin bg h') bg v cv) (ai:s.h.next<=h'.next) (bc:∀id,cr id->id≠r->bg id=none) (SV:∀id,h'.next<=id->bg id=none) (az:∀id,id<cP->bg id=σ id):
 fz P G Y jE bK base okin N cP cT (fun id=>cr id/\id≠r) bg ⟨cw s.F d v,h'⟩ (a.put d cv) aQ:=
 ⟨H,L,S.jy.mono p,(S.bI.mono p).put a3 S.size aR,by rw[SP];exact S.size,by rw[put_defers];exact S.marks.mono p.ot,fun l ay=>by
   obtain⟨IE,U⟩:=S.rd l ay
   obtain⟨st,jW,h2⟩:=p.loop l IE U
   exact ⟨_,h2⟩,Nat.le_trans S.sE p.below.size,fun id bz=>⟨(S.free id bz.1).1,Nat.lt_of_lt_of_le (S.free id bz.1).2.1 ai,bc id bz.1 bz.2⟩,Nat.le_trans S.low ai,fun id bz=>(az id bz).trans (S.md id bz),SV⟩
theorem I5 (bu:jV c8) {Q:Exit->Act->World->Prop} {K:Act->World->Prop} {o:Oper} {f:FuncId} {dh:Array Value} {R:Value->World->Prop} (a3:Dn P f dh w R) (pg:∀c,o.op≠ .defer c) (ct:(execOp a.eval o).run P w=(callFunc f dh).run P w)
 (mT:∀cv aQ,R cv aQ->K (a.put o.dst cv) aQ):o.wpIn c8 dR P a w K Q:=by
 unfold Oper.wpIn
 refine⟨fun f _=>bu.fn f,?_⟩
 rw[Oper.semAt_eq _ _ _ pg,ct]
 rcases a3 with⟨U,h2⟩|⟨cv,aQ,U,h2⟩
 · rw[U,Oper.uponIn_enter]
   refine⟨bu.one dR,bu.calls (h2.mono fun e aQ ⟨cv,he,eY⟩=>?_)⟩
   subst he
   exact mT cv aQ eY
 · rw[U]
   exact mT cv aQ h2
theorem SW (bu:jV c8) {Q:Exit->Act->World->Prop} {K:Act->World->Prop} {o:Oper} {l:Nat} {dh:Array Value} {R:Value->World->Prop} (a3:Dp P l dh w R) (pg:∀c,o.op≠ .defer c) (ct:(execOp a.eval o).run P w=(Instr.yield l dh).run P w)
 (mT:∀cv aQ,R cv aQ->K (a.put o.dst cv) aQ):o.wpIn c8 dR P a w K Q:=by
 unfold Oper.wpIn
 refine⟨fun f _=>bu.fn f,?_⟩
 rw[Oper.semAt_eq _ _ _ pg,ct]
 obtain⟨f,tmps,dL,body,U,h2⟩:=a3
 rw[U,Oper.uponIn_round]
 refine⟨bu.one dR,(h2 c8 _ bu).mono fun e aQ ⟨cv,he,eY⟩=>?_⟩
 subst he
 exact mT cv aQ eY
theorem I6 (bu:jV c8) (jC:uK P G Y ch) (lp:∀f T,tab f=some T->aH P G f T) {ops:Array Oper} {o:Oper} {e:aU} (iL:pZ P N ops o=some e) {aZ r:Nat} {s ar:aL} {c:eb}
 (ct:cW G tab ch aZ r e s=some (ar,c)) (S:fz P G Y jE bK base okin N cP cT cr σ s a w) (nU:cr r) {K:Act->World->Prop} {Q:Exit->Act->World->Prop}
 (mT:∀bg eF aQ,fz P G Y jE bK base okin N cP cT (fun id=>cr id/\id≠r) bg ar eF aQ->di base okin σ s.h w bg ar.h aQ->K eF aQ):o.wpIn c8 dR P a w K Q:=by
 obtain⟨d1,d2,d3,_⟩:=I4 iL
 have a3:e.dst.all (fun d=>decide (d<N))=true:=by rw[d1];exact d3
 by_cases J:∃f args,e.op= .call f args
 · obtain⟨f,args,cK⟩:=J
   rw[cK] at d2
   have nL:∃x as dS,o.op= .call {callee:= .value x,args:=as,argTypes:=dS}/\ek x=some f/\pY as.toList=some args:=by
    cases az:o.op<;>rw[az] at d2<;>simp only[fY] at d2<;>try(first|(cases d2;done)|(split at d2<;>cases d2;done))
    case call o_=>
     obtain⟨callee,as,dS⟩:=o_
     cases callee with
     | value x=>
       simp only at d2
       split at d2<;>try(cases d2;done)
       rename_i U h2
       cases d2
       exact ⟨x,as,dS,rfl,U,h2⟩
     | invoke _ _=>simp only at d2;cases d2
     | builtin b=>
       exfalso
       cases b<;>simp only at d2<;>(repeat' split at d2)<;>first|(cases d2;done)|(obtain⟨_,_,d2⟩:=Option.map_eq_some_iff.1 d2;cases d2)
    all_goals
     exfalso
     first
      | (obtain⟨_,_,d2⟩:=Option.map_eq_some_iff.1 d2;cases d2;done)
      | ((repeat' split at d2)<;>first|contradiction|(cases d2;done)|(obtain⟨_,_,d2⟩:=Option.map_eq_some_iff.1 d2;cases d2;done))
   obtain⟨x,as,dS,az,ae,has⟩:=nL
   unfold cW at ct
   simp only[cK] at ct
   have pg:∀c,o.op≠ .defer c:=fun c J=>by rw[az] at J;cases J
   split at ct<;>try(cases ct;done)
   rotate_left
   · rename_i id bc
     obtain⟨p,aF,ct⟩:=Option.map_eq_some_iff.1 ct
     obtain⟨v,h'⟩:=p
     cases ct
     have rx:=S.bI.ed ae
     rw[bc] at rx
     obtain⟨l,sl,ex,ph⟩:=rx.RG
     obtain⟨iC,mh⟩:=so S.bI has
     have ai:=jC.next _ _ _ _ _ aF
     refine SW bu (jC.lk _ _ _ _ _ aF base okin σ w (as.map a.eval) l sl S.aw S.lB S.jy ph (by simp at iC|-;omega) (fun i ab bY=>by
      have:=mh i (by simpa using ab) (by simpa using bY)
      simpa using this) S.bI.nf S.fresh) pg (SU az ex) (fun Ds aQ eY=>?_)
     obtain⟨bg,bp,cb,uL,c7,mg,kt⟩:=eY
     rw[<-d1]
     exact mT bg _ aQ (S.step a3 bp cb uL c7 ai (fun id bz _=>by rw[kt id (S.free id bz).2.1];exact (S.free id bz).2.2) mg (fun id bz=>kt id (Nat.lt_of_lt_of_le bz S.low))) bp
   rename_i n first caps bc
   have rx:=S.bI.ed ae
   rw[bc] at rx
   obtain⟨fc,cv,ex,bJ,dG,bF,dn⟩:=rx.HQ
   obtain⟨iC,mh⟩:=so S.bI has
   have I7:=SS (P:=P) (w:=w) az ex
   have c6:(fc++as.map a.eval++cv).size=(first++args.map (aT.ev G s.F)++caps).length:=by simp at iC|-;omega
   have fr:∀i (ab:i<(first++args.map (aT.ev G s.F)++caps).length) (bY:i<(fc++as.map a.eval++cv).size),a5 w (bt base okin σ s.h) σ (first++args.map (aT.ev G s.F)++caps)[i] (fc++as.map a.eval++cv)[i]:=by
    intro i ab bY
    by_cases U:i<first.length
    · have ao:(first++args.map (aT.ev G s.F)++caps)[i]=first[i]:=by
       rw[List.getElem_append_left (by simp;omega),List.getElem_append_left U]
      have av:(fc++as.map a.eval++cv)[i]=fc[i]'(by omega):=by
       rw[Array.getElem_append_left (by simp;omega),Array.getElem_append_left (by omega)]
      rw[ao,av];exact bF i U (by omega)
    · by_cases h2:i<first.length+args.length
      · have ao:(first++args.map (aT.ev G s.F)++caps)[i]=args[i - first.length].ev G s.F:=by
         rw[List.getElem_append_left (by simp;omega),List.getElem_append_right (by omega)];simp
        have av:(fc++as.map a.eval++cv)[i]=a.eval (as.toList[i - first.length]'(by simp at iC|-;omega)):=by
         rw[Array.getElem_append_left (by simp at iC|-;omega),Array.getElem_append_right (by omega)]
         simp[bJ]
        rw[ao,av];exact mh _ (by omega) (by simp at iC|-;omega)
      · have ao:(first++args.map (aT.ev G s.F)++caps)[i]=caps[i -(first.length+args.length)]'(by simp at ab;omega):=by
         rw[List.getElem_append_right (by simp;omega)];simp
        have av:(fc++as.map a.eval++cv)[i]=cv[i -(first.length+args.length)]'(by simp at ab;omega):=by
         rw[Array.getElem_append_right (by simp at iC|-;omega)]
         congr 1
         simp at iC|-;omega
        rw[ao,av];exact dn _ (by simp at ab;omega) (by simp at ab;omega)
   split at ct
   · rename_i T cA
     split at ct<;>try(cases ct;done)
     rename_i vs ids p0
     obtain⟨v,al,ct⟩:=Option.map_eq_some_iff.1 ct
     cases ct
     obtain⟨SX,I8⟩:=S.aw.close ids
     obtain⟨cS,dA⟩:=Dq S.aw (fun i=>(fc++as.map a.eval++cv).getD i undef) (fun i ab=>by
      have bG:i<(fc++as.map a.eval++cv).size:=by rw[c6];exact ab
      have:=fr i ab bG
      rw[Dr _ _ bG];exact this) p0
     refine I5 bu (lp n T cA vs v al (bt base okin σ (s.h.close ids)) w (fc++as.map a.eval++cv) (by rw[c6,cS]) (fun i ab bY=>by
      have:=dA i ab
      rw[Dr _ _ bY] at this;exact this) (fun g u aX=>(I8.rep (S.bI.nf g u aX)).SM)) pg I7 (fun Ds aQ eY=>?_)
     obtain⟨da,db⟩:=eY
     obtain⟨Dt,Du⟩:=SX.grown db
     have I9:=I8.trans Du
     have I_:=di.of S.aw I9
     rw[<-d1]
     refine mT σ _ aQ (S.step a3 I_ Dt (S.lB.of S.aw I9 rfl) (.val _ _ (da.sj fun b _ ad=>?_)) (Nat.le_refl _) (fun id bz _=>(S.free id bz).2.2) S.fresh (fun _ _=>rfl)) I_
     rcases ad with ad|ad
     · exact ad
     · exact .inr ⟨Nat.le_trans S.aw.base ad,fun id sz aw _=>by have:=(S.aw.val _ _ _ aw).2;omega⟩
   · rename_i cA
     obtain⟨p,aF,ct⟩:=Option.map_eq_some_iff.1 ct
     obtain⟨v,h'⟩:=p
     cases ct
     have ai:=jC.next _ _ _ _ _ aF
     refine I5 bu (jC.fn _ _ _ _ _ aF base okin σ w _ S.aw S.lB S.jy c6 fr S.bI.nf S.fresh) pg I7 (fun Ds aQ eY=>?_)
     obtain⟨bg,bp,cb,uL,c7,mg,kt⟩:=eY
     rw[<-d1]
     exact mT bg _ aQ (S.step a3 bp cb uL c7 ai (fun id bz _=>by rw[kt id (S.free id bz).2.1];exact (S.free id bz).2.2) mg (fun id bz=>kt id (Nat.lt_of_lt_of_le bz S.low))) bp
 · have sy:cW G tab ch aZ r e s=(evalOp aZ r (aT.ev G s.F) s.h e.op).map fun(v,h',c)=>(⟨cw s.F e.dst v,h'⟩,c):=by
    unfold cW
    split
    · exact absurd ⟨_,_,‹_›⟩ J
    · rfl
   rw[sy] at ct
   obtain⟨p,aF,ct⟩:=Option.map_eq_some_iff.1 ct
   obtain⟨v,h',cO⟩:=p
   have o4:(⟨cw s.F e.dst v,h'⟩:aL)=ar:=congrArg Prod.fst ct
   subst o4
   have zi:h'.next=s.h.next:=congrArg Prod.fst (uE aF).1
   have SY:h'.aV=s.h.aV:=congrArg Prod.snd (uE aF).1
   obtain⟨bg,cv,aQ,ao,av,aW,bR,fe⟩:=Ss S.aw S.bI (S.free r nU).2.2 o d2 aF
   have fin:fz P G Y jE bK base okin N cP cT (fun id=>cr id/\id≠r) bg ⟨cw s.F e.dst v,h'⟩ (a.put e.dst cv) aQ:=
    S.step a3 (di.of S.aw av) aW (S.lB.of S.aw av SY) bR (by rw[zi];exact Nat.le_refl _) (fun id bz bP=>by rw[fe id bP];exact (S.free id bz).2.2) (fun id bz=>by
      rw[zi] at bz
      have:id≠r:=by have:=(S.free r nU).2.1;omega
      rw[fe id this];exact S.fresh id bz) (fun id bz=>fe id (by have:=(S.free r nU).1;omega))
   have I':=mT bg _ aQ fin (di.of S.aw av)
   have pg:∀c,o.op≠ .defer c:=fun c J=>by rw[J] at d2;simp only[fY] at d2;cases d2
   unfold Oper.wpIn
   refine⟨fun f _=>bu.fn f,?_⟩
   rw[Oper.semAt_eq _ _ _ pg]
   rcases ao with ao|⟨ao,rfl⟩
   · rw[ao,Oper.uponIn_value,<-d1];exact I'
   · rw[ao,Oper.uponIn_skip,<-d1];exact I'
theorem Ja (bu:jV c8) (jC:uK P G Y ch) (lp:∀f T,tab f=some T->aH P G f T) {ops:Array Oper} {i:Nat} {o:Oper} (ab:ops[i]? =some o) {e:aU} (iL:pZ P N ops o=some e) {aZ r:Nat} {s ar:aL} {c:eb}
 (ct:cx G tab ch aZ r e s=some (ar,c)) (S:fz P G Y jE bK base okin N cP cT cr σ s a w) (nU:cr r) {K:Act->World->Prop} {Q:Exit->Act->World->Prop}
 (mT:∀bg eF aQ,fz P G Y jE bK base okin N cP cT (fun id=>cr id/\id≠r) bg ar eF aQ->di base okin σ s.h w bg ar.h aQ->K eF aQ):wpOpIn c8 dR P ops Q i K a w:=by
 obtain⟨d1,d2,d3,aX⟩:=I4 iL
 unfold wpOpIn
 rw[ab]
 simp only
 unfold cx at ct
 rcases aX with⟨bM,cn⟩|⟨j,t,want,bM,cn,eB⟩
 · rw[cn] at ct
   simp only[Region.wanted,bM,if_true]
   exact I6 bu jC lp iL ct S nU mT
 · rw[eB] at ct
   simp only at ct
   cases ad:s.F t<;>rw[ad] at ct<;>try(cases ct;done)
   · cases ct
     have aO:=S.bI.slot t
     rw[ad] at aO
     have pj:=aO.RE
     have aN:yielded ops a.tmps j=none:=by
      rw[Array.getD_eq_getD_getElem?] at pj
      cases aM:a.tmps[t]? with
      | none=>simp[yielded,cn,aM]
      | some v=>
        rw[aM] at pj
        simp only[Option.getD_some] at pj
        subst pj
        simp[yielded,cn,aM,Go.undef]
     simp only[Region.wanted,bM,aN]
     have bP:((none:Option Bool) == some want)=false:=rfl
     rw[bP]
     simp only[Bool.false_eq_true,if_false]
     have a3:e.dst.all (fun d=>decide (d<N))=true:=by rw[d1];exact d3
     refine⟨fun f _=>bu.fn f,?_⟩
     rw[<-d1]
     exact mT σ _ w (S.step a3 (di.refl ..) S.aw S.lB .kB (Nat.le_refl _) (fun id bz _=>(S.free id bz).2.2) S.fresh (fun _ _=>rfl)) (di.refl ..)
   rename_i b
   have aO:=S.bI.slot t
   rw[ad] at aO
   have pj:=aO.q2
   have w0:a.tmps[t]? =some (.bool b):=by
    rw[Array.getD_eq_getD_getElem?] at pj
    cases aM:a.tmps[t]? with
    | none=>rw[aM] at pj;simp[undef] at pj
    | some v=>rw[aM] at pj;simpa using pj
   have aN:yielded ops a.tmps j=some b:=by
    simp[yielded,cn,w0]
   simp only[Region.wanted,bM,aN]
   by_cases oq:b=want
   · subst oq
     simp only[if_true] at ct
     simp only[BEq.rfl,if_true]
     exact I6 bu jC lp iL ct S nU mT
   · simp only[if_neg oq] at ct
     cases ct
     have bP:(some b == some want)=false:=by simpa using oq
     rw[bP]
     simp only[Bool.false_eq_true,if_false]
     have a3:e.dst.all (fun d=>decide (d<N))=true:=by rw[d1];exact d3
     refine⟨fun f _=>bu.fn f,?_⟩
     rw[<-d1]
     exact mT σ _ w (S.step a3 (di.refl ..) S.aw S.lB .kB (Nat.le_refl _) (fun id bz _=>(S.free id bz).2.2) S.fresh (fun _ _=>rfl)) (di.refl ..)
end
end Go.Eng
namespace Go.Eng
open Go Go.RowKit
section
variable {P:Program} {G:Nat->Option I} {base:Nat} {okin:Nat->Prop} {N:Nat} {cP:Nat} {cT:Nat->Option (Nat × Nat)} {tab:FuncId->Option (List I->Option I)} {ch:kV->List I->ah->Option (I × ah)} {Y:List cy} {jE:Option Nat} {bK:Nat} {c8:Fence} {dR:Nat}
theorem Dv {aZ:Nat}:∀ {L:List (aU × Nat)} {s ar:aL} {cs:List eb},cR G tab ch aZ L s=some (ar,cs)->cs.length=L.length
 | [],s,ar,cs,h=>by simp only[cR] at h;cases h;rfl
 | q::L,s,ar,cs,h=>by
   simp only[cR] at h
   split at h<;>try(cases h;done)
   obtain⟨p,h2,aB⟩:=Option.map_eq_some_iff.1 h
   cases aB
   simp[Dv h2]
theorem fz.weaken {cr uw:Nat->Prop} {σ:Nat->Option (Nat × Nat)} {s:aL} {a:Act} {w:World} (S:fz P G Y jE bK base okin N cP cT cr σ s a w) (h:∀i,uw i->cr i):fz P G Y jE bK base okin N cP cT uw σ s a w:=
 ⟨S.aw,S.lB,S.jy,S.bI,S.size,S.marks,S.rd,S.sE,fun i ab=>S.free i (h i ab),S.low,S.md,S.fresh⟩
theorem Jb (bu:jV c8) (jC:uK P G Y ch) (lp:∀f T,tab f=some T->aH P G f T) {ops:Array Oper} {aZ:Nat} {ar:aL} {Q:Exit->Act->World->Prop}:∀(L:List (aU × Nat)) (s:aL) (cs:List eb) (σ:Nat->Option (Nat × Nat)) (a:Act) (w:World),
 (∀p∈L,∃o,ops[p.2]? =some o/\pZ P N ops o=some p.1)->L.Pairwise (fun p q=>p.2<q.2)->cR G tab ch aZ L s=some (ar,cs)->
 fz P G Y jE bK base okin N cP cT (fun id=>∃p∈L,id=aZ+p.2) σ s a w->
 (∀bg eF aQ,fz P G Y jE bK base okin N cP cT (fun _=>False) bg ar eF aQ->di base okin σ s.h w bg ar.h aQ->Q .normal eF aQ)->wpOpsIn c8 dR P ops Q (L.map (·.2)) a w
 | [],s,cs,σ,a,w,_,_,ct,S,dN=>by
   simp only[cR] at ct;cases ct
   exact dN σ a w (S.weaken fun _ h=>h.elim) (di.refl ..)
 | (e,i)::L,s,cs,σ,a,w,bh,a3,ct,S,dN=>by
   simp only[cR] at ct
   split at ct<;>try(cases ct;done)
   rename_i s1 c U
   obtain⟨p,h2,aB⟩:=Option.map_eq_some_iff.1 ct
   obtain⟨s2,Jc⟩:=p
   have qd:s2=ar:=congrArg Prod.fst aB
   subst qd
   obtain⟨o,az,zj⟩:=bh (e,i) (by simp)
   rw[List.map_cons,wpOpsIn_cons]
   refine Ja bu jC lp az zj U S ⟨(e,i),by simp,rfl⟩ (fun bg eF aQ mi ad=>?_)
   refine Jb bu jC lp L s1 Jc bg eF aQ (fun p aF=>bh p (by simp[aF])) (List.pairwise_cons.1 a3).2 h2 (mi.weaken ?_) (fun Dw Dx Dy Dz sF=>dN Dw Dx Dy Dz (ad.trans sF))
   rintro id ⟨p,aF,rfl⟩
   refine⟨⟨p,by simp[aF],rfl⟩,?_⟩
   have:=(List.pairwise_cons.1 a3).1 p aF
   simp only at this|-
   omega
theorem SZ {ops:Array Oper} {b:List Nat} (h:yY ops b=true) {i k:Nat} {o:Oper} (az:ops[i]? =some o) (ag:k<i) (ad:(b.getD i 0).testBit k=true):
 ∃e∈o.after,Region.binds .any e=true/\(e.on=k\/(k<e.on/\(b.getD e.on 0).testBit k=true)):=by
 unfold yY at h
 have U:=List.all_eq_true.1 h (o,i) (by
  rw[List.mem_zipIdx_iff_getElem?]
  simpa using az)
 have h2:=List.all_eq_true.1 U k (by simpa using ag)
 simp only[ad,Bool.not_true,Bool.false_or] at h2
 obtain⟨e,he,aB⟩:=Array.any_eq_true'.1 h2
 simp only[Bool.and_eq_true,Bool.or_eq_true,beq_iff_eq,decide_eq_true_eq] at aB
 exact ⟨e,he,aB.1,aB.2⟩
theorem Jd {ops:Array Oper} (h:yX ops=true) {i:Nat} {o:Oper} (az:ops[i]? =some o) {e:Edge} (he:e∈o.after) (ad:Region.binds .any e=true):e.on<i:=by
 unfold yX at h
 have U:=List.all_eq_true.1 h (o,i) (by
  rw[List.mem_zipIdx_iff_getElem?]
  simpa using az)
 have h2:=Array.all_eq_true'.1 U e he
 simpa[ad] using h2
structure Left (P:Program) (N:Nat) (ops:Array Oper) (b:List Nat) (L:List (aU × Nat)) (cs:List eb) (listed:Array Bool):Prop where
 size:listed.size=ops.size
 mem:∀p∈L,∃o,ops[p.2]? =some o/\pZ P N ops o=some p.1/\listed.getD p.2 true=false
 all:∀i,i<ops.size->listed.getD i true=false->∃e,(e,i)∈L
 zk:L.Pairwise (fun p q=>p.2<q.2)
 shut:∀i,i<ops.size->listed.getD i false=true->∀k,k<i->(b.getD i 0).testBit k=true->listed.getD k false=true
 Je:∀p q (aF:p<q) (aM:q<L.length) (q9:q<cs.length),(b.getD L[q].2 0).testBit L[p].2=true\/(L[p].1.apart L[q].1=true/\kD cs[p] cs[q]=true)
theorem S0 {listed:Array Bool} {n i:Nat} (aw:listed.size=n) (ab:i<n):listed.getD i true=false\/listed.getD i false=true:=by
 have:i<listed.size:=by omega
 simp only[Array.getD_eq_getD_getElem?,Array.getElem?_eq_getElem this,Option.getD_some]
 cases listed[i]<;>simp
theorem S1 (bu:jV c8) (jC:uK P G Y ch) (lp:∀f T,tab f=some T->aH P G f T) {ops:Array Oper} {b:List Nat} (S2:yY ops b=true) (Jf:yX ops=true) {aZ:Nat} {ar:aL} {Q:Exit->Act->World->Prop}:
 ∀(fuel:Nat) (L:List (aU × Nat)) (s:aL) (cs:List eb) (listed:Array Bool) (σ:Nat->Option (Nat × Nat)) (a:Act) (w:World),L.length<=fuel->
 Left P N ops b L cs listed->cR G tab ch aZ L s=some (ar,cs)->
 fz P G Y jE bK base okin N cP cT (fun id=>∃p∈L,id=aZ+p.2) σ s a w->
 (∀bg eF aQ,fz P G Y jE bK base okin N cP cT (fun _=>False) bg ar eF aQ->di base okin σ s.h w bg ar.h aQ->Q .normal eF aQ)->wpAnyIn c8 dR P .any ops Q fuel listed a w:=by
 have fin:∀(s:aL) (cs:List eb) (σ:Nat->Option (Nat × Nat)) (a:Act) (w:World),cR G tab ch aZ [] s=some (ar,cs)->
  fz P G Y jE bK base okin N cP cT (fun id=>∃p∈([]:List (aU × Nat)),id=aZ+p.2) σ s a w->
  (∀bg eF aQ,fz P G Y jE bK base okin N cP cT (fun _=>False) bg ar eF aQ->di base okin σ s.h w bg ar.h aQ->Q .normal eF aQ)->Q .normal a w:=by
  intro s cs σ a w ct S dN
  simp only[cR] at ct;cases ct
  exact dN σ a w (S.weaken fun _ h=>h.elim) (di.refl ..)
 have S3:∀ {cs:List eb} {listed:Array Bool},Left P N ops b [] cs listed->Region.ready .any ops listed= []:=by
  intro cs listed bh
  apply List.eq_nil_iff_forall_not_mem.2
  intro i ab
  have aR:=mem_ready.1 ab
  obtain⟨ay,o,az,_⟩:=aR
  obtain⟨e,he⟩:=bh.all i (Array.getElem?_eq_some_iff.1 az).1 ay
  simp at he
 intro fuel
 induction fuel with
 | zero=>
   intro L s cs listed σ a w bc bh ct S dN
   have:L= []:=List.eq_nil_of_length_eq_zero (by omega)
   subst this
   exact ⟨S3 bh,fin s cs σ a w ct S dN⟩
 | succ fuel a8=>
   intro L s cs listed σ a w bc bh ct S dN
   refine⟨fun aR=>?_,fun i ab=>?_⟩
   · cases L with
     | nil=>exact fin s cs σ a w ct S dN
     | cons p L=>
       exfalso
       obtain⟨o,az,zj,ay⟩:=bh.mem p (by simp)
       have:p.2∈Region.ready .any ops listed:=by
        refine mem_ready.2 ⟨ay,o,az,fun e he ad=>?_⟩
        have bG:=Jd Jf az he ad
        have c6:=(Array.getElem?_eq_some_iff.1 az).1
        rcases S0 bh.size (show e.on<ops.size by omega) with U|U
        · obtain⟨q,aM⟩:=bh.all e.on (by omega) U
          rcases List.mem_cons.1 aM with aM|aM
          · rw[<-aM] at bG;simp at bG
          · have:=(List.pairwise_cons.1 bh.zk).1 _ aM
            simp at this;omega
        · exact U
       rw[aR] at this;simp at this
   · obtain⟨ay,o,az,S4⟩:=mem_ready.1 ab
     have uA:=(Array.getElem?_eq_some_iff.1 az).1
     obtain⟨e,he⟩:=bh.all i uA ay
     obtain⟨fy,kZ,rfl⟩:=List.append_of_mem he
     have zc:∀k,k<i->listed.getD k false=false->(b.getD i 0).testBit k=false:=by
      intro k ag uM
      cases aO:(b.getD i 0).testBit k with
      | false=>rfl
      | true=>
        exfalso
        obtain⟨Jg,U,h2,aB⟩:=SZ S2 az ag aO
        have Jh:=S4 Jg U h2
        rcases aB with rfl|⟨aB,aS⟩
        · rw[Jh] at uM;cases uM
        · have bG:=Jd Jf az U h2
          have:=bh.shut Jg.on (by omega) Jh k aB aS
          rw[this] at uM;cases uM
     have hlen:=Dv ct
     have S5:∀p∈fy++(e,i)::kZ,listed.getD p.2 false=false:=by
      intro p aF
      obtain⟨o',p0,_,q6⟩:=bh.mem p aF
      have c6:=(Array.getElem?_eq_some_iff.1 p0).1
      have ks:p.2<listed.size:=by rw[bh.size];exact c6
      simp only[Array.getD_eq_getD_getElem?,Array.getElem?_eq_getElem ks,Option.getD_some] at q6|-
      exact q6
     obtain⟨s1,c,b8,bQ,bp,cb,rfl,mg⟩:=IZ ct (fun k ag j8 q6=>by
      have p7:(fy++(e,i)::kZ)[k]'(by simp;omega)=fy[k]:=List.getElem_append_left ag
      have wI:(fy++(e,i)::kZ)[fy.length]'(by simp)=(e,i):=by simp
      have aF:=bh.Je k fy.length ag (by simp) q6
      rw[p7,wI] at aF
      have bG:fy[k].2<i:=by
       have:=List.pairwise_append.1 bh.zk
       exact this.2.2 _ (List.getElem_mem ag) (e,i) (by simp)
      have bc:=zc fy[k].2 bG (S5 _ (by simp[List.getElem_mem ag]))
      rcases aF with aF|aF
      · rw[bc] at aF;cases aF
      · exact ⟨aF.1,aF.2,by omega⟩) jC.frame (by
        have S6:=S.free (aZ+i) ⟨(e,i),by simp,rfl⟩
        cases ad:s.h.cells (aZ+i) with
        | none=>rfl
        | some b=>
          obtain⟨_,_,_,_,U,_⟩:=S.aw.blk _ _ ad
          rw[S6.2.2] at U;cases U) (S.free (aZ+i) ⟨(e,i),by simp,rfl⟩).2.1
     obtain⟨o',p0,zj,_⟩:=bh.mem (e,i) (by simp)
     refine Ja bu jC lp p0 zj bp S ⟨(e,i),by simp,rfl⟩ (fun bg eF aQ mi ln=>?_)
     have Ji:∀p∈fy++kZ,p.2≠i:=by
      intro p aF
      have aM:=List.pairwise_append.1 bh.zk
      rcases List.mem_append.1 aF with aF|aF
      · have:=aM.2.2 p aF (e,i) (by simp);simp at this;omega
      · have:=(List.pairwise_cons.1 aM.2.1).1 p aF;simp at this;omega
     have Jj:∀p∈fy++kZ,p∈fy++(e,i)::kZ:=by
      intro p aF
      rcases List.mem_append.1 aF with aF|aF
      · simp[aF]
      · simp[aF]
     have uN:∀(j:Nat) (d:Bool),j≠i->(listed.setIfInBounds i true).getD j d=listed.getD j d:=fun j d aC=>by
      simp only[Array.getD_eq_getD_getElem?]
      rw[Array.getElem?_setIfInBounds_ne (Ne.symm aC)]
     have S7:(listed.setIfInBounds i true).getD i false=true:=by
      have:i<listed.size:=by rw[bh.size];exact uA
      simp[Array.getD_eq_getD_getElem?,this]
     have S8:Left P N ops b (fy++kZ) (b8++bQ) (listed.setIfInBounds i true):=by
      refine⟨by simpa using bh.size,fun p aF=>?_,fun j aC sn=>?_,?_,fun j aC sn k ag aO=>?_,fun p q aF aM q9=>?_⟩
      · obtain⟨j7,U,h2,aB⟩:=bh.mem p (Jj p aF)
        exact ⟨j7,U,h2,by rw[uN _ _ (Ji p aF)];exact aB⟩
      · by_cases re:j=i
        · subst re
          have:j<listed.size:=by rw[bh.size];exact uA
          simp[Array.getD_eq_getD_getElem?,this] at sn
        · rw[uN _ _ re] at sn
          obtain⟨e',S9⟩:=bh.all j aC sn
          refine⟨e',?_⟩
          rcases List.mem_append.1 S9 with h|h
          · simp[h]
          · rcases List.mem_cons.1 h with h|h
            · exact absurd (congrArg Prod.snd h) re
            · simp[h]
      · have aM:=List.pairwise_append.1 bh.zk
        exact List.pairwise_append.2 ⟨aM.1,(List.pairwise_cons.1 aM.2.1).2,fun p aF q q9=>aM.2.2 p aF q (by simp[q9])⟩
      · by_cases uO:k=i
        · subst uO;exact S7
        · rw[uN _ _ uO]
          by_cases re:j=i
          · subst re
            cases uM:listed.getD k false with
            | true=>rfl
            | false=>rw[zc k ag uM] at aO;cases aO
          · rw[uN _ _ re] at sn
            exact bh.shut j aC sn k ag aO
      ·
       have Jk:b8.length=fy.length:=mg
       have pos:∀(r:Nat) (aR:r<(fy++kZ).length) (nh:r<(b8++bQ).length),∃ja,(ja=if r<fy.length then r else r+1)/\∃(U:ja<(fy++(e,i)::kZ).length) (h2:ja<(b8++c::bQ).length),(fy++kZ)[r]=(fy++(e,i)::kZ)[ja]/\(b8++bQ)[r]=(b8++c::bQ)[ja]:=by
        intro r aR nh
        simp only[List.length_append] at aR nh
        by_cases h:r<fy.length
        · refine⟨r,by rw[if_pos h],by simp;omega,by simp;omega,?_,?_⟩
          · rw[List.getElem_append_left h,List.getElem_append_left h]
          · rw[List.getElem_append_left (by omega),List.getElem_append_left (by omega)]
        · refine⟨r+1,by rw[if_neg h],by simp;omega,by simp;omega,?_,?_⟩
          · rw[List.getElem_append_right (by omega),List.getElem_append_right (by omega)]
            have:r+1 - fy.length=(r - fy.length)+1:=by omega
            simp[this]
          · rw[List.getElem_append_right (by omega),List.getElem_append_right (by omega)]
            have:r+1 - b8.length=(r - b8.length)+1:=by omega
            simp[this]
       obtain⟨nS,S_,bb,bw,bV,cj⟩:=pos p (by omega) (by omega)
       obtain⟨nm,S',da,db,fI,kj⟩:=pos q aM q9
       have:=bh.Je nS nm (by subst S_;subst S';split<;>split<;>omega) da db
       rw[bV,fI,cj,kj]
       exact this
     refine a8 (fy++kZ) s1 (b8++bQ) (listed.setIfInBounds i true) bg eF aQ (by simp at bc|-;omega) S8 cb (mi.weaken ?_) (fun Dw Dx Dy Dz sF=>dN Dw Dx Dy Dz (ln.trans sF))
     rintro id ⟨p,aF,rfl⟩
     exact ⟨⟨p,Jj p aF,rfl⟩,by have:=Ji p aF;omega⟩
theorem Jl {ops:Array Oper}:∀ {os:List Oper} {es:List aU},wA P N ops os=some es->es.length=os.length/\∀i (h:i<es.length) (h':i<os.length),pZ P N ops os[i]=some es[i]
 | [],es,h=>by simp only[wA] at h;cases h;exact ⟨rfl,fun i h=>absurd h (by simp)⟩
 | o::os,es,h=>by
   simp only[wA] at h
   split at h<;>try(cases h;done)
   rename_i e q7 U h2
   cases h
   obtain⟨l,q⟩:=Jl h2
   refine⟨by simp[l],fun i ab bY=>?_⟩
   cases i with
   | zero=>exact U
   | succ i=>exact q i (by simpa using ab) (by simpa using bY)
end
end Go.Eng
namespace Go.Eng
open Go Go.RowKit
section
variable {P:Program} {G:Nat->Option I} {base:Nat} {okin:Nat->Prop} {σ:Nat->Option (Nat × Nat)} {h:ah} {w:World}
theorem DA {l:Nat} {o o':Obj} (ay:w.heap[l]? =some o) (ai:∀arr ty e,o≠ .cells arr ty e) (pc:∀es c,o≠ .map es c) (ok:Nat->Prop):um w (w.putObj l o') ok ok:=fun b x ad ag az=>
 ⟨az,World.putObj_heap_other (by
   rintro rfl
   rw[ay] at ad
   cases ad
   rcases ag with⟨_,_,_,rfl⟩|⟨_,_,rfl⟩
   · exact ai _ _ _ rfl
   · exact pc _ _ rfl)⟩
theorem DB {l:Nat} {o o':Obj} (ay:w.heap[l]? =some o) (ai:∀arr ty e,o≠ .cells arr ty e) (b:Nat):iI w b<=iI (w.putObj l o') b:=by
 by_cases e:b=l
 · subst e
   have:iI w b=0:=by
    unfold iI
    rw[ay]
    cases o<;>first|rfl|exact absurd rfl (ai _ _ _)
   omega
 · unfold iI
   rw[World.putObj_heap_other e];exact Nat.le_refl _
theorem cJ.put (H:cJ base okin σ h w) {l:Nat} {o:Obj} (o':Obj) (ay:w.heap[l]? =some o) (ai:∀arr ty e,o≠ .cells arr ty e) (pc:∀es c,o≠ .map es c):cJ base okin σ h (w.putObj l o'):=by
 refine⟨fun id b s ab=>⟨(H.val id b s ab).1,by simpa using (H.val id b s ab).2⟩,fun id ih iJ=>?_,H.inj,by simpa using H.base⟩
 obtain⟨b,s,q8,ty,ao,av,aW⟩:=H.blk id ih iJ
 refine⟨b,s,q8,ty,ao,?_,fun i ab=>⟨(aW i ab).1,fun j aC=>?_⟩⟩
 · rw[World.putObj_heap_other (by rintro rfl;rw[ay] at av;exact ai _ _ _ (Option.some.inj av))];exact av
 · obtain⟨v,bM,cn⟩:=(aW i ab).2 j aC
   exact ⟨v,bM,cn.mono (DA ay ai pc _) (fun _ _ x=>x) (DB ay ai)⟩
theorem Jm {l:Nat} (o':Obj) (ad:base<=l):Below base w (w.putObj l o'):=⟨rfl,rfl,rfl,by simp,fun k ag=>World.putObj_heap_other (by omega)⟩
theorem di.DC {l:Nat} {r:Loop} (ay:w.heap[l]? =some (.loop r)) (ad:base<=l) (st:LoopState) (jW:Option Code) {h':ah} (i_:∀b,bt base okin σ h b->bt base okin σ h' b):
 di base okin σ h w σ h' (w.putObj l (.loop {r with state:=st,pending:=jW})):=by
 have ai:∀arr ty e,Obj.loop r≠ .cells arr ty e:=fun _ _ _ h=>by cases h
 have pc:∀es c,Obj.loop r≠ .map es c:=fun _ _ h=>by cases h
 refine⟨fun _ _ x=>x,fun b o U ag h2=>⟨i_ b h2,(DA ay ai pc (fun _=>True) b o U ag trivial).2⟩,Jm _ ad,DB ay ai,fun b r0 aD=>?_,fun b aD=>?_⟩
 · by_cases e:b=l
   · subst e
     rw[ay] at aD;cases aD
     exact ⟨st,jW,World.putObj_heap_same (qc ay)⟩
   · exact ⟨r0.state,r0.pending,by rw[World.putObj_heap_other e];exact aD⟩
 · rw[World.putObj_heap_other (by rintro rfl;rw[ay] at aD;cases aD)];exact aD
theorem ka.set {aV:Nat->Option fX} (L:ka σ aV w) {id l s:Nat} {r:Loop} {b5:fX} (aF:aV id=some b5) (ph:σ id=some (l,s)) (ay:w.heap[l]? =some (.loop r)) (p:fX):
 ka σ (au aV id (some p)) (w.putObj l (.loop {r with state:=ou p,pending:=ov p})):=by
 refine⟨fun ix q aM=>?_,fun i i' q nm a s1 s2 U h2 ao av=>?_⟩
 · by_cases e:ix=id
   · subst e
     simp only[au,if_true] at aM
     cases aM
     exact ⟨l,s,_,ph,World.putObj_heap_same (qc ay),rfl,rfl⟩
   · simp only[au,e,if_false] at aM
     obtain⟨lQ,ar,ja,ao,av,aW,bR⟩:=L.look ix q aM
     refine⟨lQ,ar,ja,ao,?_,aW,bR⟩
     rw[World.putObj_heap_other]
     · exact av
     · rintro rfl
       exact e (L.inj ix id q b5 _ _ _ aM aF ao ph)
 · have f:∀i q,au aV id (some p) i=some q->∃q,aV i=some q:=by
    intro i q aM
    by_cases e:i=id
    · subst e;exact ⟨b5,aF⟩
    · exact ⟨q,by simpa[au,e] using aM⟩
   obtain⟨da,U⟩:=f i q U
   obtain⟨db,h2⟩:=f i' nm h2
   exact L.inj i i' da db a s1 s2 U h2 ao av
theorem ka.del {aV:Nat->Option fX} (L:ka σ aV w) {id l s:Nat} {b5:fX} (aF:aV id=some b5) (ph:σ id=some (l,s)) (o':Obj):ka σ (au aV id none) (w.putObj l o'):=by
 have f:∀i q,au aV id none i=some q->i≠id/\aV i=some q:=by
  intro i q aM
  by_cases e:i=id
  · simp[au,e] at aM
  · exact ⟨e,by simpa[au,e] using aM⟩
 refine⟨fun ix q aM=>?_,fun i i' q nm a s1 s2 U h2 ao av=>L.inj i i' q nm a s1 s2 (f i q U).2 (f i' nm h2).2 ao av⟩
 obtain⟨e,aM⟩:=f ix q aM
 obtain⟨lQ,ar,ja,ao,av,aW,bR⟩:=L.look ix q aM
 refine⟨lQ,ar,ja,ao,?_,aW,bR⟩
 rw[World.putObj_heap_other]
 · exact av
 · rintro rfl
   exact e (L.inj ix id q b5 _ _ _ aM aF ao ph)
theorem ka.add {aV:Nat->Option fX} (L:ka σ aV w) (lP:∀id b s,σ id=some (b,s)->b<w.heap.size) {id:Nat} (bz:σ id=none) {b7:World} (ad:Below w.heap.size w b7) {l:Nat} (bG:w.heap.size<=l) {r:Loop}
 (ay:b7.heap[l]? =some (.loop r)) (aw:r.state= .ready) (aF:r.pending=none):ka (au σ id (some (l,0))) (au aV id (some .ready)) b7:=by
 refine⟨fun ix q aM=>?_,fun i i' q nm a s1 s2 U h2 ao av=>?_⟩
 · by_cases e:ix=id
   · subst e
     simp only[au,if_true] at aM
     cases aM
     exact ⟨l,0,r,by simp[au],ay,aw,aF⟩
   · simp only[au,e,if_false] at aM
     obtain⟨lQ,ar,ja,ao,av,aW,bR⟩:=L.look ix q aM
     exact ⟨lQ,ar,ja,by simpa[au,e] using ao,by rw[ad.block lQ (qc av)];exact av,aW,bR⟩
 · by_cases e:i=id<;>by_cases e':i'=id
   · rw[e,e']
   · exfalso
     simp only[au,e,e',if_true,if_false] at ao av
     have:=lP _ _ _ av
     cases ao;omega
   · exfalso
     simp only[au,e,e',if_true,if_false] at ao av
     have:=lP _ _ _ ao
     cases av;omega
   · simp only[au,e,e',if_false] at U h2 ao av
     exact L.inj i i' q nm a s1 s2 U h2 ao av
theorem cJ.named (H:cJ base okin σ h w) {id l:Nat} (bz:σ id=none) (ad:base<=l) (ay:l<w.heap.size):cJ base okin (au σ id (some (l,0))) h w/\Prog base okin σ h w (au σ id (some (l,0))) h w:=by
 have J:=H.CP bz
 have sub:∀i x,σ i=some x->au σ id (some (l,0)) i=some x:=by
  intro i x ae
  unfold au
  by_cases e:i=id
  · subst e;rw[bz] at ae;cases ae
  · rw[if_neg e];exact ae
 have ok:∀b,bt base okin σ h b->bt base okin (au σ id (some (l,0))) h b:=by
  rintro b (az|⟨U,h2⟩)
  · exact .inl az
  · refine .inr ⟨U,fun i s aw DD=>?_⟩
    by_cases e:i=id
    · subst e;rw[J] at DD;simp at DD
    · exact h2 i s (by simpa[au,e] using aw) DD
 have P:Prog base okin σ h w (au σ id (some (l,0))) h w:=⟨sub,fun b _ az=>⟨ok b az,rfl⟩,Below.refl _ _,fun _=>Nat.le_refl _⟩
 refine⟨⟨fun i b s ab=>?_,fun i ih iJ=>?_,fun i i' b s ar U h2 ao av=>?_,H.base⟩,P⟩
 · by_cases e:i=id
   · simp only[au,e,if_true] at ab;cases ab;exact ⟨ad,ay⟩
   · simp only[au,e,if_false] at ab;exact H.val i b s ab
 · obtain⟨b,s,q8,ty,ao,av,aW⟩:=H.blk i ih iJ
   refine⟨b,s,q8,ty,sub _ _ ao,av,fun j aC=>⟨(aW j aC).1,fun k ag=>?_⟩⟩
   obtain⟨v,bM,cn⟩:=(aW j aC).2 k ag
   exact ⟨v,bM,P.rep cn⟩
 · have lz:i≠id:=by rintro rfl;rw[J] at U;simp at U
   have l':i'≠id:=by rintro rfl;rw[J] at h2;simp at h2
   exact H.inj i i' b s ar U h2 (by simpa[au,lz] using ao) (by simpa[au,l'] using av)
inductive Drop (bK:Nat):World->World->Prop
 | refl (w:World):Drop bK w w
 | step {w c4:World} {D:Nat}:bK<=D->w.heap[D]? =some (.deferred (some []))->Drop bK (w.putObj D (.deferred none)) c4->Drop bK w c4
theorem Drop.keeps {bK:Nat} {w c4:World} (d:Drop bK w c4):∀ {k0:World} {cT:Nat->Option (Nat × Nat)} {aD:ah},bK=k0.heap.size->base<=bK->di base okin cT aD k0 σ h w->cJ base okin σ h w->ka σ h.aV w->
 di base okin cT aD k0 σ h c4/\cJ base okin σ h c4/\ka σ h.aV c4/\(∀v cv,a5 w (bt base okin σ h) σ v cv->a5 c4 (bt base okin σ h) σ v cv):=by
 induction d with
 | refl w=>exact fun _ _ p H L=>⟨p,H,L,fun _ _ r=>r⟩
 | @step w c4 D U h2 _ a8=>
   intro k0 cT aD he ad p H L
   have ai:∀arr ty e,Obj.deferred (some [])≠ .cells arr ty e:=fun _ _ _ h=>by cases h
   have pc:∀es c,Obj.deferred (some [])≠ .map es c:=fun _ _ h=>by cases h
   have st:=DA (o':= .deferred none) h2 ai pc (bt base okin σ h)
   have Jn:=DB (o':= .deferred none) h2 ai
   have bw:di base okin cT aD k0 σ h (w.putObj D (.deferred none)):=by
    refine⟨p.sub,fun b o bM Jo cn=>?_,p.below.trans (Jm _ (Nat.le_trans ad U)),fun b=>Nat.le_trans (p.grow b) (Jn b),fun b r g=>?_,fun b g=>?_⟩
    · obtain⟨j7,ao⟩:=p.still b o bM Jo cn
      obtain⟨du,av⟩:=st b o (by rw[ao];exact bM) Jo j7
      exact ⟨du,av.trans ao⟩
    · obtain⟨s1,bb,ao⟩:=p.loop b r g
      exact ⟨s1,bb,by rw[World.putObj_heap_other (by rintro rfl;rw[h2] at ao;cases ao)];exact ao⟩
    · have:=qc g
      rw[World.putObj_heap_other (by omega)]
      exact p.ot b g
   have kZ:ka σ h.aV (w.putObj D (.deferred none)):=⟨fun id q aM=>by
    obtain⟨l,s,r,ao,av,aW,bR⟩:=L.look id q aM
    exact ⟨l,s,r,ao,by rw[World.putObj_heap_other (by rintro rfl;rw[h2] at av;cases av)];exact av,aW,bR⟩,L.inj⟩
   obtain⟨da,db,fI,kj⟩:=a8 he ad bw (H.put _ h2 ai pc) kZ
   exact ⟨da,db,fI,fun v cv r=>kj v cv (r.mono st (fun _ _ x=>x) Jn)⟩
theorem Jp {Fn:Func} {tmps:Array Value} {R:Ending->World->Prop} {bK:Nat}:∀(cG:List Deferred) (w:World),Marks bK cG w->(∀c4,Drop bK w c4->∃v,(results Fn tmps).run P c4= .ok v c4/\R (.returned v) c4)->
 LeavesInM Fence.wide 0 P Fn tmps R cG .returning w
 | [],w,_,eY=>eY w (.refl w)
 | d::cG,w,M,eY=>by
   obtain⟨D,U,h2,aB⟩:=M.each d (by simp)
   refine⟨by simp,.inl ⟨D,w.putObj D (.deferred none),U,run_takeDeferred aB,Jp cG _ ⟨fun o0 uP=>?_,(List.pairwise_cons.1 M.nodup).2⟩ (fun c4 a3=>eY c4 (.step h2 aB a3))⟩⟩
   obtain⟨Jq,bM,cn,eB⟩:=M.each o0 (by simp[uP])
   refine⟨Jq,bM,cn,?_⟩
   rw[World.putObj_heap_other]
   · exact eB
   · rintro rfl
     exact (List.pairwise_cons.1 M.nodup).1 o0 uP (by rw[U,bM])
end
end Go.Eng
namespace Go.Eng
open Go Go.RowKit
def zl:dd->Exit
 | .normal=> .normal
 | .exit id=> .exit id
 | .ret=> .ret
section
variable {P:Program} {G:Nat->Option I} {base:Nat} {okin:Nat->Prop} {N:Nat} {cP:Nat} {cT:Nat->Option (Nat × Nat)} {tab:FuncId->Option (List I->Option I)} {Y:List cy} {jE:Option Nat} {bK:Nat}
theorem fz.bump {cr:Nat->Prop} {σ:Nat->Option (Nat × Nat)} {s:aL} {a:Act} {w:World} (S:fz P G Y jE bK base okin N cP cT cr σ s a w) (m:Nat):
 fz P G Y jE bK base okin N cP cT (fun id=>s.h.next<=id/\id<s.h.next+m) σ ⟨s.F,{s.h with next:=s.h.next+m}⟩ a w:=
 ⟨⟨S.aw.val,S.aw.blk,S.aw.inj,S.aw.base⟩,S.lB,S.jy,S.bI,S.size,S.marks,S.rd,S.sE,fun id bz=>⟨Nat.le_trans S.low bz.1,bz.2,S.fresh id bz.1⟩,Nat.le_trans S.low (Nat.le_add_right _ _),S.md,fun id bz=>S.fresh id (Nat.le_trans (Nat.le_add_right _ _) bz)⟩
theorem di.next {σ bg:Nat->Option (Nat × Nat)} {h h':ah} {w aQ:World} {m:Nat} (p:di base okin σ {h with next:=m} w bg h' aQ):di base okin σ h w bg h' aQ:=⟨p.sub,p.still,p.below,p.grow,p.loop,p.ot⟩
theorem fz.drew {cr:Nat->Prop} {σ:Nat->Option (Nat × Nat)} {s:aL} {a:Act} {w:World} (S:fz P G Y jE bK base okin N cP cT cr σ s a w):fz P G Y jE bK base okin N cP cT cr σ s a w.drew:=by
 obtain⟨H,p⟩:=S.aw.drew
 have q:=di.of S.aw p
 exact ⟨H,S.lB.of S.aw p rfl,S.jy.mono q,S.bI.mono q,S.size,S.marks.mono q.ot,fun l ay=>by
  obtain⟨r,U⟩:=S.rd l ay
  obtain⟨st,jW,h2⟩:=q.loop l r U
  exact ⟨_,h2⟩,Nat.le_trans S.sE q.below.size,S.free,S.low,S.md,S.fresh⟩
theorem Ta (hm:P.follows .mixedOrders=true) {c8:Fence} {dR:Nat} (bu:jV c8) {ch:kV->List I->ah->Option (I × ah)} (jC:uK P G Y ch) (lp:∀f T,tab f=some T->aH P G f T)
 {id:Nat} {ops:Array Oper} {draw:Bool} {es:List aU} {b:List Nat} {ku:Bool} (J:ig P N (.region id ops draw)=some (.region ku es b)) {s ar:aL} (ct:ej G tab ch ku es b s=some ar)
 {cr:Nat->Prop} {σ:Nat->Option (Nat × Nat)} {a:Act} {w:World} (S:fz P G Y jE bK base okin N cP cT cr σ s a w) {Q:Exit->Act->World->Prop}
 (dN:∀bg eF aQ,fz P G Y jE bK base okin N cP cT (fun _=>False) bg ar eF aQ->di base okin σ s.h w bg ar.h aQ->Q .normal eF aQ):(Code.region id ops draw).wpIn c8 dR P Q a w:=by
 simp only[ig] at J
 split at J<;>try(cases J;done)
 rename_i Jr Tb
 obtain⟨bJ,da⟩:=Jl Tb
 have c6:Jr.length=ops.size:=by simpa using bJ
 unfold ej at ct
 split at ct<;>try(cases ct;done)
 rename_i s1 cs aR
 split at ct<;>try(cases ct;done)
 rename_i i_
 cases ct
 have sG:∀(es:List aU),es=Jr->∀p∈es.zipIdx,∃o,ops[p.2]? =some o/\pZ P N ops o=some p.1/\p.2<ops.size:=by
  rintro es rfl p aF
  obtain⟨e,i⟩:=p
  have U:=List.mem_zipIdx_iff_getElem?.1 aF
  simp only at U
  obtain⟨ab,rfl⟩:=List.getElem?_eq_some_iff.1 U
  have bY:i<ops.toList.length:=by simp;omega
  have:=da i ab bY
  refine⟨ops[i]'(by simpa using bY),by simp[Array.getElem?_eq_getElem (show i<ops.size by simpa using bY)],by simpa using this,by simpa using bY⟩
 have Js:∀(es:List aU),es.zipIdx.Pairwise (fun p q=>p.2<q.2):=by
  intro es
  rw[List.pairwise_iff_getElem]
  intro i j ab aC Tc
  simpa using Tc
 cases draw with
 | false=>
   simp only[Bool.false_eq_true,if_false] at J
   cases J
   refine wpIn_region ?_
   have Td:es.zipIdx.map (·.2)=List.range ops.size:=by
    rw[<-c6]
    apply List.ext_getElem
    · simp
    · intro i U h2;simp
   rw[<-Td]
   refine Jb bu jC lp _ _ cs σ a w (fun p aF=>by obtain⟨o,U,h2,_⟩:=sG es rfl p aF;exact ⟨o,U,h2⟩) (Js es) aR ((S.bump es.length).weaken ?_) (fun bg eF aQ mi ad=>dN bg eF aQ mi ad.next)
   rintro id ⟨p,aF,rfl⟩
   obtain⟨_,_,_,aB⟩:=sG es rfl p aF
   exact ⟨Nat.le_add_right _ _,by omega⟩
 | true=>
   simp only[if_true] at J
   split at J<;>try(cases J;done)
   rename_i Jt
   cases J
   simp only[Bool.and_eq_true] at Jt
   obtain⟨⟨⟨lz,l'⟩,CU⟩,ajd⟩:=Jt
   simp only[Bool.not_true,Bool.false_or] at i_
   refine wpIn_region_any hm ?_
   have hlen:=Dv aR
   refine S1 bu jC lp CU l' ops.size es.zipIdx _ cs _ σ a _ (by simp;omega) ?_ aR (((S.drew).bump es.length).weaken ?_) (fun bg eF aQ mi ad=>dN bg eF aQ mi ?_)
   · refine⟨by simp,fun p aF=>?_,fun i ab _=>?_,Js es,fun i ab ay=>?_,fun p q aF aM q9=>?_⟩
     · obtain⟨o,U,h2,aB⟩:=sG es rfl p aF
       exact ⟨o,U,h2,by simp[Array.getD_eq_getD_getElem?,aB]⟩
     · exact ⟨es[i]'(by omega),by rw[List.mem_zipIdx_iff_getElem?];simp[List.getElem?_eq_getElem (show i<es.length by omega)]⟩
     · simp[Array.getD_eq_getD_getElem?,ab] at ay
     · have kY:q<es.length:=by simpa using aM
       have qe:p<es.length:=by omega
       simp only[List.getElem_zipIdx,Nat.zero_add]
       have a1:=List.all_eq_true.1 lz (es[q],q) (by rw[List.mem_zipIdx_iff_getElem?];simp[List.getElem?_eq_getElem kY])
       have eX:=List.all_eq_true.1 a1 (es[p],p) (by rw[List.mem_zipIdx_iff_getElem?];simp[List.getElem?_eq_getElem qe])
       have b1:=List.all_eq_true.1 i_ (cs[q],q) (by rw[List.mem_zipIdx_iff_getElem?];simp[List.getElem?_eq_getElem q9])
       have en:=List.all_eq_true.1 b1 (cs[p]'(by omega),p) (by rw[List.mem_zipIdx_iff_getElem?];simp[List.getElem?_eq_getElem (show p<cs.length by omega)])
       simp only[decide_eq_true aF,Bool.not_true,Bool.false_or,Bool.or_eq_true] at eX en
       rcases eX with eX|eX
       · exact .inl eX
       · rcases en with en|en
         · exact .inl en
         · exact .inr ⟨eX,en⟩
   · rintro id ⟨p,aF,rfl⟩
     obtain⟨_,_,_,aB⟩:=sG es rfl p aF
     exact ⟨Nat.le_add_right _ _,by simp;omega⟩
   · exact di.trans (di.of S.aw S.aw.drew.2) ad.next
def zm (tmps:Array Value):ResultVar->Sem Value
 | .tmp t=>pure (tmps.getD t undef)
 | .cell a t=>do loadVar t (<-asAddr (tmps.getD a undef))
theorem Te (fn:Func) (tmps:Array Value):results fn tmps=(do let vs <-fn.results.mapM (zm tmps);pure (if h:vs.size=1 then vs[0] else .tuple vs)):=by
 unfold results
 congr 1
theorem Tf {fn:Func} {rs:List mO} (DE:si P fn.results.toList=some rs) {σ:Nat->Option (Nat × Nat)} {s:aL} {a:Act} {w:World} (dr:cJ base okin σ s.h w) (Ju:ki G (bt base okin σ s.h) σ w s.F a) {v:I} (al:dE s.h s.F rs=some v):
 ∃cv,(results fn a.tmps).run P w= .ok cv w/\a5 w (bt base okin σ s.h) σ v cv:=by
 have main:∀(mR:List ResultVar) (rs:List mO) (vs:List I),si P mR=some rs->rs.mapM (eT s.h s.F)=some vs->
  ∃jd:List Value,(mR.mapM (zm a.tmps)).run P w= .ok jd w/\jd.length=vs.length/\∀i (h:i<vs.length) (h':i<jd.length),a5 w (bt base okin σ s.h) σ vs[i] jd[i]:=by
  intro mR
  induction mR with
  | nil=>
    intro rs vs U h2
    simp only[si] at U;cases U
    simp only[List.mapM_nil] at h2;cases h2
    exact ⟨[],by simp,rfl,fun i h=>absurd h (by simp)⟩
  | cons r mR a8=>
    intro rs vs U h2
    simp only[si] at U
    split at U<;>try(cases U;done)
    rename_i x xs ae oj
    cases U
    rw[List.mapM_cons] at h2
    obtain⟨u,hu,h2⟩:=Option.bind_eq_some_iff.1 h2
    obtain⟨us,CW,h2⟩:=Option.bind_eq_some_iff.1 h2
    cases h2
    obtain⟨jd,ao,av,aW⟩:=a8 xs us oj CW
    have one:∃nM,(zm a.tmps r).run P w= .ok nM w/\a5 w (bt base okin σ s.h) σ u nM:=by
     cases r with
     | tmp t=>
       simp only[CM] at ae;cases ae
       simp only[eT] at hu;cases hu
       exact ⟨_,rfl,Ju.slot t⟩
     | cell eF t=>
       simp only[CM] at ae
       split at ae<;>try(cases ae;done)
       rename_i bT sz dF c6
       split at ae<;>try(cases ae;done)
       rename_i aS
       cases ae
       simp only[eT] at hu
       split at hu<;>try(cases hu;done)
       rename_i id idx cN bu
       obtain⟨blk,ad,hu⟩:=Option.bind_eq_some_iff.1 hu
       obtain⟨e,he,hu⟩:=Option.bind_eq_some_iff.1 hu
       obtain⟨cs,o9,aF⟩:=Option.bind_eq_some_iff.1 hu
       have rt:=Ju.slot eF
       rw[bu] at rt
       obtain⟨II,b_,ev,aw⟩:=rt.wC
       obtain⟨ep,bM,cn⟩:=dr.elem ad he aw o9
       obtain⟨cv,bp,cb⟩:=CS (P:=P) (w:=w) (σ:=σ) (ok:=bt base okin σ s.h) dF c6 aS _ ep bM (uq o9).2.1 cn aF
       exact ⟨cv,by simp[zm,ev,asAddr,bp],cb⟩
    obtain⟨nM,b8,bQ⟩:=one
    refine⟨nM::jd,?_,by simp[av],fun i ab bY=>?_⟩
    · rw[List.mapM_cons]
      simp only[Sem.run_bind]
      rw[b8]
      simp only[Result.andThen_ok]
      rw[ao]
      simp
    · cases i with
      | zero=>exact bQ
      | succ i=>exact aW i (by simpa using ab) (by simpa using bY)
 unfold dE at al
 obtain⟨vs,U,h2⟩:=Option.map_eq_some_iff.1 al
 obtain⟨jd,ao,av,aW⟩:=main _ _ _ DE U
 have ct:(results fn a.tmps).run P w= .ok (if h:jd.toArray.size=1 then jd.toArray[0] else .tuple jd.toArray) w:=by
  rw[Te,Array.mapM_eq_mapM_toList]
  simp only[Sem.run_bind,Sem.run_map]
  rw[ao]
  simp
 refine⟨_,ct,?_⟩
 split at h2
 · rename_i v0
   subst h2
   have ay:jd.length=1:=by simpa using av
   rw[dif_pos (by simpa using ay)]
   have:=aW 0 (by simp) (by omega)
   simpa using this
 · rename_i bP
   subst h2
   have ay:jd.length≠1:=by
    intro ay
    rw[av] at ay
    obtain⟨v0,rfl⟩:=List.length_eq_one_iff.1 ay
    exact bP v0 rfl
   rw[dif_neg (by simpa using ay)]
   exact .bL _ _ (by simpa using av) (fun i ab bY=>by simpa using aW i ab (by simpa using bY))
theorem Tg {fn:Func} {f:aP} (h:CN P fn=some f):∃c,fn.body=some c/\ig P fn.ntmps c=some f.body/\si P fn.results.toList=some f.res/\fn.name≠ "runtime.NumGoroutine":=by
 unfold CN at h
 split at h<;>try(cases h;done)
 rename_i ai
 split at h<;>try(cases h;done)
 rename_i c ad
 split at h<;>try(cases h;done)
 rename_i b rs U h2
 cases h
 exact ⟨c,ad,U,h2,by simpa using ai⟩
theorem zn {f:FuncId} {fn:Func} (bc:P.funcs[f]? =some fn) {c:Code} (ad:fn.body=some c) (ai:fn.name≠ "runtime.NumGoroutine") (args:Array Value) (w:World):(callFunc f args).run P w= .ok (.enter f args) w:=by
 simp[callFunc,bc,ad,ai]
def kv (G:Nat->Option I) (Φ:FuncId->Option aP) (tab:FuncId->Option (List I->Option I)) (n:Nat) (Y:List cy) (f:FuncId) (args:List I) (h:ah):Option (I × ah):=
 match Φ f with
 | some fn=>match exec G Φ tab n Y fn.body ⟨dM args,h⟩ with
   | some (.normal,ar)|some (.ret,ar)=>(dE ar.h ar.F fn.res).map fun v=>(v,ar.h)
   | _=>none
 | none=>none
def ow (G:Nat->Option I) (Φ:FuncId->Option aP) (tab:FuncId->Option (List I->Option I)) (n:Nat) (Y:List cy) (id:Nat) (args:List I) (h:ah):Option (I × ah):=
 match oe id Y with
 | some (L,Y')=>if L.ps.length=args.length then
    match exec G Φ tab n Y' L.dL ⟨nc L.F L.ps args,h⟩ with
    | some (.normal,s1)=>match s1.h.aV id with
      | some .ready=>match exec G Φ tab n Y' L.body ⟨s1.F,s1.h.set id (some .busy)⟩ with
        | some (e,ar)=>match ar.h.aV id with
          | some .busy=>match e with
            | .normal=>some (.bool true,ar.h.set id (some .ready))
            | e=>some (.bool false,ar.h.set id (some (.done e)))
          | _=>none
        | none=>none
      | _=>none
    | _=>none
   else none
 | none=>none
def kI (G:Nat->Option I) (Φ:FuncId->Option aP) (tab:FuncId->Option (List I->Option I)) (n:Nat) (Y:List cy) (t:kV) (args:List I) (h:ah):Option (I × ah):=
 match t with
 | .fn f=>kv G Φ tab n Y f args h
 | .lk id=>ow G Φ tab n Y id args h
theorem rf {Φ:FuncId->Option aP} {n:Nat} {f:FuncId} {args:List I} {h h':ah} {v:I} (J:kv G Φ tab n Y f args h=some (v,h')):
 ∃fn ex ar,Φ f=some fn/\exec G Φ tab n Y fn.body ⟨dM args,h⟩=some (ex,ar)/\(ex= .normal\/ex= .ret)/\dE ar.h ar.F fn.res=some v/\ar.h=h':=by
 unfold kv at J
 split at J<;>try(cases J;done)
 rename_i fn bc
 split at J
 · rename_i ar he
   obtain⟨u,hu,J⟩:=Option.map_eq_some_iff.1 J
   cases J
   exact ⟨fn,_,ar,bc,he,.inl rfl,hu,rfl⟩
 · rename_i ar he
   obtain⟨u,hu,J⟩:=Option.map_eq_some_iff.1 J
   cases J
   exact ⟨fn,_,ar,bc,he,.inr rfl,hu,rfl⟩
 · cases J
theorem uQ {Φ:FuncId->Option aP} {n:Nat} {id:Nat} {args:List I} {h h':ah} {v:I} (J:ow G Φ tab n Y id args h=some (v,h')):
 ∃L Y' s1 ex ar,oe id Y=some (L,Y')/\L.ps.length=args.length/\exec G Φ tab n Y' L.dL ⟨nc L.F L.ps args,h⟩=some (.normal,s1)/\s1.h.aV id=some .ready/\
  exec G Φ tab n Y' L.body ⟨s1.F,s1.h.set id (some .busy)⟩=some (ex,ar)/\ar.h.aV id=some .busy/\((ex= .normal/\v= .bool true/\h'=ar.h.set id (some .ready))\/(ex≠ .normal/\v= .bool false/\h'=ar.h.set id (some (.done ex)))):=by
 unfold ow at J
 split at J<;>try(cases J;done)
 rename_i L Y' bh
 split at J<;>try(cases J;done)
 rename_i hlen
 split at J<;>try(cases J;done)
 rename_i s1 U
 split at J<;>try(cases J;done)
 rename_i aF
 split at J<;>try(cases J;done)
 rename_i e ar h2
 split at J<;>try(cases J;done)
 rename_i ad
 split at J
 · cases J
   exact ⟨L,Y',s1,_,ar,bh,hlen,U,aF,h2,ad,.inl ⟨rfl,rfl,rfl⟩⟩
 · rename_i bP
   cases J
   exact ⟨L,Y',s1,e,ar,bh,hlen,U,aF,h2,ad,.inr ⟨bP,rfl,rfl⟩⟩
theorem Jv {id:Nat} {L:cy} {Y':List cy}:∀ {Y:List cy},oe id Y=some (L,Y')->L∈Y/\L.id=id/\∀X∈Y',X∈Y
 | [],h=>by cases h
 | X::Y,h=>by
   unfold oe at h
   split at h
   · rename_i bz
     cases h
     exact ⟨by simp,bz,fun Z DF=>by simp[DF]⟩
   · obtain⟨U,h2,aB⟩:=Jv h
     exact ⟨by simp[U],h2,fun Z DF=>by simp[aB Z DF]⟩
def uR (P:Program) (G:Nat->Option I) (tab:FuncId->Option (List I->Option I)) (n:Nat):Prop:=
 ∀(N:Nat) (Y:List cy) (c:Code) (qf:c5) (s:aL) (ex:dd) (ar:aL),ig P N c=some qf->exec G (aI P) tab n Y qf s=some (ex,ar)->
  ∀(c8:Fence) (dR:Nat) (_:jV c8) (bK:Nat) (base:Nat) (okin:Nat->Prop) (cP:Nat) (cT:Nat->Option (Nat × Nat)) (σ:Nat->Option (Nat × Nat)) (a:Act) (w:World) (Q:Exit->Act->World->Prop),fz P G Y c8.round bK base okin N cP cT (fun _=>False) σ s a w->
   (∀bg eF aQ,fz P G Y c8.round bK base okin N cP cT (fun _=>False) bg ar eF aQ->di base okin σ s.h w bg ar.h aQ->Q (zl ex) eF aQ)->c.wpIn c8 dR P Q a w
theorem DG {n:Nat} (f':uR P G tab n) {f:FuncId} {args:List I} {h h':ah} {v:I} (J:kv G (aI P) tab n Y f args h=some (v,h')):
 ∀base okin σ w (dh:Array Value),cJ base okin σ h w->ka σ h.aV w->pf P G base okin Y σ h w->dh.size=args.length->
  (∀i (ab:i<args.length) (bY:i<dh.size),a5 w (bt base okin σ h) σ args[i] dh[i])->
  (∀g u,G g=some u->a5 w (bt base okin σ h) σ (.e2 u) (.pointer (some ⟨g,0,none⟩)))->(∀id,h.next<=id->σ id=none)->
  (callFunc f dh).run P w= .ok (.enter f dh) w/\Calls P f dh w fun e aQ=>∃cv,e= .returned cv/\uJ base okin σ h w h' v cv aQ:=by
 obtain⟨fn,ex,ar,bc,he,hex,DH,rfl⟩:=rf J
 obtain⟨Fn,bu,Th⟩:=Option.bind_eq_some_iff.1 bc
 obtain⟨c,ad,nN,DE,DI⟩:=Tg Th
 have Ti:=f' Fn.ntmps Y c fn.body ⟨dM args,h⟩ ex ar nN he
 refine fun base okin σ w dh H DJ zo c6 fr qg w1=>⟨zn bu ad DI _ _,?_⟩
 refine(callsIn_wide (n:=0)).1 (callsIn_of_wp_marks bu ad trivial ?_)
 have S:fz P G Y Fence.wide.round w.heap.size base okin Fn.ntmps h.next σ (fun _=>False) σ ⟨dM args,h⟩ {tmps:=dh++Array.replicate (Fn.ntmps - dh.size) undef,defers:=[]} w:=by
  refine⟨H,DJ,zo,⟨fun t=>?_,qg⟩,by simp;omega,⟨fun d a3=>absurd a3 (by simp),List.Pairwise.nil⟩,fun l ay=>(by cases ay),Nat.le_refl _,fun id bz=>bz.elim,Nat.le_refl _,fun _ _=>rfl,w1⟩
  simp only[dM]
  by_cases aO:t<args.length
  · have bG:t<dh.size:=by omega
    have ao:args.getD t .undef=args[t]:=by simp[List.getD,aO]
    have av:(dh++Array.replicate (Fn.ntmps - dh.size) undef).getD t undef=dh[t]:=by
     rw[Dr _ _ (by simp;omega),Array.getElem_append_left bG]
    rw[ao,av]
    exact fr t aO bG
  · have ao:args.getD t .undef= .undef:=by simp[List.getD,List.getElem?_eq_none (Nat.le_of_not_lt aO)]
    rw[ao];exact .undef _
 refine Ti Fence.wide 0 (.inl rfl) w.heap.size base okin h.next σ σ _ w _ S (fun bg eF aQ mi p=>?_)
 have fin:LeavesInM Fence.wide 0 P Fn eF.tmps (fun e aQ=>∃cv,e= .returned cv/\uJ base okin σ h w ar.h v cv aQ) eF.defers .returning aQ:=by
  refine Jp _ _ mi.marks fun c4 a3=>?_
  obtain⟨da,db,fI,kj⟩:=a3.keeps rfl H.base p mi.aw mi.lB
  obtain⟨cv,bp,cb⟩:=Tf DE db ⟨fun t=>kj _ _ (mi.bI.slot t),fun g u aX=>kj _ _ (mi.bI.nf g u aX)⟩ DH
  exact ⟨cv,bp,cv,rfl,bg,da,db,fI,cb,mi.fresh,mi.md⟩
 rcases hex with rfl|rfl
 · exact fin
 · exact fin
theorem Tj {ps:List Nat}:∀ {vs:List I} {jd:List Value} {w:World} {ok:Nat->Prop} {σ:Nat->Option (Nat × Nat)} {F:Nat->I} {b':Array Value},vs.length=ps.length->jd.length=ps.length->(∀p∈ps,p<b'.size)->
 (∀t,a5 w ok σ (F t) (b'.getD t undef))->(∀i (h:i<vs.length) (h':i<jd.length),a5 w ok σ vs[i] jd[i])->
 ∀t,a5 w ok σ (nc F ps vs t) (((ps.zip jd).foldl (fun tmps (t,a)=>tmps.setIfInBounds t a) b').getD t undef):=by
 induction ps with
 | nil=>intro vs jd w ok σ F b' U h2 aF bu al t;simpa[nc] using bu t
 | cons p ps a8=>
   intro vs jd w ok σ F b' U h2 aF bu al t
   cases vs with
   | nil=>simp at U
   | cons v vs=>
     cases jd with
     | nil=>simp at h2
     | cons c jd=>
       simp only[nc,List.zip_cons_cons,List.foldl_cons]
       refine a8 (by simpa using U) (by simpa using h2) (fun q aM=>by simpa using aF q (by simp[aM])) (fun t=>?_) (fun i ab bY=>by
        have:=al (i+1) (by simpa using ab) (by simpa using bY)
        simpa using this) t
       have bG:=aF p (by simp)
       by_cases e:t=p
       · subst e
         have:=al 0 (by simp) (by simp)
         simpa[au,Array.getD,bG] using this
       · have av:(b'.setIfInBounds p c).getD t undef=b'.getD t undef:=by
          simp only[Array.getD_eq_getD_getElem?]
          rw[Array.getElem?_setIfInBounds_ne (Ne.symm e)]
         rw[av]
         simpa[au,e] using bu t
theorem Tk {ps:List Nat}:∀ {jd:List Value} {b':Array Value},((ps.zip jd).foldl (fun tmps (t,a)=>tmps.setIfInBounds t a) b').size=b'.size:=by
 induction ps with
 | nil=>intro jd b';simp
 | cons p ps a8=>
   intro jd b'
   cases jd with
   | nil=>simp
   | cons c jd=>simp only[List.zip_cons_cons,List.foldl_cons];rw[a8];simp
theorem Jw {ch:kV->List I->ah->Option (I × ah)} (jC:∀t args h v h',ch t args h=some (v,h')->h.next<=h'.next) {aZ:Nat}:∀ {L:List (aU × Nat)} {s ar:aL} {cs:List eb},cR G tab ch aZ L s=some (ar,cs)->s.h.next<=ar.h.next
 | [],s,ar,cs,h=>by simp only[cR] at h;cases h;exact Nat.le_refl _
 | (e,i)::L,s,ar,cs,h=>by
   simp only[cR] at h
   split at h<;>try(cases h;done)
   rename_i s1 c U
   obtain⟨p,h2,aB⟩:=Option.map_eq_some_iff.1 h
   cases aB
   refine Nat.le_trans ?_ (Jw jC h2)
   have go:∀ {s1:aL} {c:eb},cW G tab ch aZ (aZ+i) e s=some (s1,c)->s.h.next<=s1.h.next:=by
    intro s1 c aX
    unfold cW at aX
    split at aX
    · split at aX<;>try(cases aX;done)
      · split at aX
        · split at aX<;>try(cases aX;done)
          obtain⟨v,_,aX⟩:=Option.map_eq_some_iff.1 aX
          cases aX
          exact Nat.le_refl _
        · obtain⟨q,aM,aX⟩:=Option.map_eq_some_iff.1 aX
          obtain⟨v,h'⟩:=q
          cases aX
          exact jC _ _ _ _ _ aM
      · obtain⟨q,aM,aX⟩:=Option.map_eq_some_iff.1 aX
        obtain⟨v,h'⟩:=q
        cases aX
        exact jC _ _ _ _ _ aM
    · obtain⟨q,aM,aX⟩:=Option.map_eq_some_iff.1 aX
      obtain⟨v,h',cO⟩:=q
      have o4:(⟨cw s.F e.dst v,h'⟩:aL)=s1:=congrArg Prod.fst aX
      subst o4
      exact Nat.le_of_eq (congrArg Prod.fst (uE aM).1).symm
   unfold cx at U
   split at U
   · exact go U
   · split at U<;>try(cases U;done)
     · split at U
       · exact go U
       · cases U;exact Nat.le_refl _
     · cases U;exact Nat.le_refl _
theorem iD (G:Nat->Option I) (Φ:FuncId->Option aP) (tab:FuncId->Option (List I->Option I)) (n:Nat) (Y:List cy) (c:c5) (s:aL):exec G Φ tab (n+1) Y c s=match c with
 | .skip=>some (.normal,s)
 | .ret=>some (.ret,s)
 | .exit id=>some (.exit id,s)
 | .region draw ops e3=>(ej G tab (kI G Φ tab n Y) draw ops e3 s).map fun ar=>(.normal,ar)
 | .seq a b=>match exec G Φ tab n Y a s with
   | some (.normal,ar)=>exec G Φ tab n Y b ar
   | r=>r
 | .cond x a b=>match x.ev G s.F with
   | .bool t=>if t then exec G Φ tab n Y a s else exec G Φ tab n Y b s
   | _=>none
 | .block id b=>match exec G Φ tab n Y b s with
   | some (.exit i,ar)=>if i=id then some (.normal,ar) else some (.exit i,ar)
   | r=>r
 | .loop b=>match exec G Φ tab n Y b s with
   | some (.normal,ar)=>exec G Φ tab n Y (.loop b) ar
   | r=>r
 | .lj f ps dL body=>match f.ev G s.F with
   | .fn g first caps=>match Φ g with
     | some fn=>match exec G Φ tab n (⟨s.h.next,s.F,ps,dL,body⟩::Y) fn.body ⟨dM (first++ [.ie s.h.next]++caps),{s.h with next:=s.h.next+1,aV:=au s.h.aV s.h.next (some .ready)}⟩ with
       | some (.normal,ar)|some (.ret,ar)=>match dE ar.h ar.F fn.res with
         | some _=>match ar.h.aV s.h.next with
           | some .ready=>some (.normal,⟨s.F,ar.h.set s.h.next none⟩)
           | some (.done e)=>some (e,⟨s.F,ar.h.set s.h.next none⟩)
           | _=>none
         | none=>none
       | _=>none
     | none=>none
   | _=>none:=by
 cases c<;>rfl
theorem zp {Φ:FuncId->Option aP} {n:Nat} {f:aT} {ps:List Nat} {dL body:c5} {s ar:aL} {ex:dd} (he:exec G Φ tab (n+1) Y (.lj f ps dL body) s=some (ex,ar)):
 ∃g first caps v h' p,f.ev G s.F= .fn g first caps/\
  kv G Φ tab n (⟨s.h.next,s.F,ps,dL,body⟩::Y) g (first++ [.ie s.h.next]++caps) {s.h with next:=s.h.next+1,aV:=au s.h.aV s.h.next (some .ready)}=some (v,h')/\
  h'.aV s.h.next=some p/\((p= .ready/\ex= .normal)\/p= .done ex)/\ar=⟨s.F,h'.set s.h.next none⟩:=by
 rw[iD] at he
 simp only at he
 split at he<;>try(cases he;done)
 rename_i g first caps bc
 split at he<;>try(cases he;done)
 rename_i fn mU
 have key:∀(s1:aL),(exec G Φ tab n (⟨s.h.next,s.F,ps,dL,body⟩::Y) fn.body ⟨dM (first++ [.ie s.h.next]++caps),{s.h with next:=s.h.next+1,aV:=au s.h.aV s.h.next (some .ready)}⟩=some (.normal,s1)\/
  exec G Φ tab n (⟨s.h.next,s.F,ps,dL,body⟩::Y) fn.body ⟨dM (first++ [.ie s.h.next]++caps),{s.h with next:=s.h.next+1,aV:=au s.h.aV s.h.next (some .ready)}⟩=some (.ret,s1))->
  (match dE s1.h s1.F fn.res with
    | some _=>match s1.h.aV s.h.next with
      | some .ready=>some (dd.normal,(⟨s.F,s1.h.set s.h.next none⟩:aL))
      | some (.done e)=>some (e,⟨s.F,s1.h.set s.h.next none⟩)
      | _=>none
    | none=>none)=some (ex,ar)->
  ∃dT Jx Jy v h' p,I.fn g first caps= .fn dT Jx Jy/\
  kv G Φ tab n (⟨s.h.next,s.F,ps,dL,body⟩::Y) dT (Jx++ [.ie s.h.next]++Jy) {s.h with next:=s.h.next+1,aV:=au s.h.aV s.h.next (some .ready)}=some (v,h')/\
  h'.aV s.h.next=some p/\((p= .ready/\ex= .normal)\/p= .done ex)/\ar=⟨s.F,h'.set s.h.next none⟩:=by
  intro s1 U h2
  split at h2<;>try(cases h2;done)
  rename_i v al
  refine⟨g,first,caps,v,s1.h,?_⟩
  have C5:kv G Φ tab n (⟨s.h.next,s.F,ps,dL,body⟩::Y) g (first++ [.ie s.h.next]++caps) {s.h with next:=s.h.next+1,aV:=au s.h.aV s.h.next (some .ready)}=some (v,s1.h):=by
   unfold kv
   rw[mU]
   rcases U with U|U<;>simp only[U,al,Option.map_some]
  split at h2
  · rename_i aF
    cases h2
    exact ⟨_,rfl,C5,aF,.inl ⟨rfl,rfl⟩,rfl⟩
  · rename_i e aF
    cases h2
    exact ⟨_,rfl,C5,aF,.inr rfl,rfl⟩
  · cases h2
 rw[bc]
 split at he
 · rename_i s1 U
   exact key s1 (.inl U) he
 · rename_i s1 U
   exact key s1 (.inr U) he
 · cases he
theorem zq {Φ:FuncId->Option aP}:∀(n:Nat) (Y:List cy) (c:c5) (s:aL) (ex:dd) (ar:aL),exec G Φ tab n Y c s=some (ex,ar)->s.h.next<=ar.h.next:=by
 intro n
 induction n with
 | zero=>intro Y c s ex ar he;unfold exec at he;cases he
 | succ n a8=>
   have bC:∀ {Y:List cy} {f:FuncId} {args:List I} {h h':ah} {v:I},kv G Φ tab n Y f args h=some (v,h')->h.next<=h'.next:=by
    intro Y f args h h' v J
    obtain⟨fn,ex,ar,_,he,_,_,rfl⟩:=rf J
    exact a8 _ _ _ _ _ he
   have mV:∀ {Y:List cy} {id:Nat} {args:List I} {h h':ah} {v:I},ow G Φ tab n Y id args h=some (v,h')->h.next<=h'.next:=by
    intro Y id args h h' v J
    obtain⟨L,Y',s1,ex,ar,_,_,U,_,h2,_,aB⟩:=uQ J
    have a1:=a8 _ _ _ _ _ U
    have eX:=a8 _ _ _ _ _ h2
    have:h'.next=ar.h.next:=by rcases aB with⟨_,_,rfl⟩|⟨_,_,rfl⟩<;>rfl
    rw[this]
    exact Nat.le_trans a1 eX
   intro Y c s ex ar he
   have zr:=he
   rw[iD] at he
   cases c with
   | skip=>cases he;exact Nat.le_refl _
   | ret=>cases he;exact Nat.le_refl _
   | exit id=>cases he;exact Nat.le_refl _
   | region draw ops e3=>
     simp only at he
     obtain⟨s1,U,he⟩:=Option.map_eq_some_iff.1 he
     cases he
     unfold ej at U
     split at U<;>try(cases U;done)
     rename_i s2 cs h2
     split at U<;>try(cases U;done)
     cases U
     refine Nat.le_trans (Nat.le_add_right _ _) (Jw (fun t args h v h' J=>?_) h2)
     cases t with
     | fn f=>exact bC J
     | lk id=>exact mV J
   | seq a b=>
     simp only at he
     split at he
     · rename_i s1 U
       exact Nat.le_trans (a8 _ _ _ _ _ U) (a8 _ _ _ _ _ he)
     · exact a8 _ _ _ _ _ he
   | cond x a b=>
     simp only at he
     split at he<;>try(cases he;done)
     split at he
     · exact a8 _ _ _ _ _ he
     · exact a8 _ _ _ _ _ he
   | block id b=>
     simp only at he
     split at he
     · rename_i i s1 U
       have:=a8 _ _ _ _ _ U
       split at he<;>(cases he;exact this)
     · exact a8 _ _ _ _ _ he
   | loop b=>
     simp only at he
     split at he
     · rename_i s1 U
       exact Nat.le_trans (a8 _ _ _ _ _ U) (a8 _ _ _ _ _ he)
     · exact a8 _ _ _ _ _ he
   | lj f ps dL body=>
     obtain⟨g,first,caps,v,h',p,_,J,_,_,rfl⟩:=zp zr
     have:=bC J
     simp only at this
     show s.h.next<=h'.next
     omega
theorem Tl {Φ:FuncId->Option aP} {n:Nat} {t:kV} {args:List I} {h h':ah} {v:I} (J:kI G Φ tab n Y t args h=some (v,h')):h.next<=h'.next:=by
 cases t with
 | fn f=>
   obtain⟨fn,ex,ar,_,he,_,_,rfl⟩:=rf J
   exact zq _ _ _ _ _ _ he
 | lk id=>
   obtain⟨L,Y',s1,ex,ar,_,_,U,_,h2,_,aB⟩:=uQ J
   have a1:=zq _ _ _ _ _ _ U
   have eX:=zq _ _ _ _ _ _ h2
   have:h'.next=ar.h.next:=by rcases aB with⟨_,_,rfl⟩|⟨_,_,rfl⟩<;>rfl
   rw[this]
   exact Nat.le_trans a1 eX
end
end Go.Eng
namespace Go.Eng
open Go Go.RowKit
section
variable {G:Nat->Option I} {Φ:FuncId->Option aP} {tab:FuncId->Option (List I->Option I)}
theorem Tm {h:ah} {F:Nat->I} {r:Nat} {blk:List I} (ai:h.cells r=none):∀ {x:mO} {v:I},eT h F x=some v->eT (h.new r blk) F x=some v
 | .tmp t,v,al=>al
 | .cell t bT sz,v,al=>by
   simp only[eT] at al|-
   split at al<;>try(cases al;done)
   rename_i id idx cN bu
   obtain⟨b,ad,al⟩:=Option.bind_eq_some_iff.1 al
   try simp only[bu]
   have bP:id≠r:=by rintro rfl;rw[ai] at ad;cases ad
   rw[pa _ _ bP,ad]
   exact al
theorem Jz {h:ah} {F:Nat->I} {r:Nat} {blk:List I} (ai:h.cells r=none):∀ {rs:List mO} {vs:List I},rs.mapM (eT h F)=some vs->rs.mapM (eT (h.new r blk) F)=some vs
 | [],vs,al=>al
 | x::rs,vs,al=>by
   rw[List.mapM_cons] at al|-
   simp only[Option.bind_eq_bind,Option.bind_eq_some_iff,Option.pure_def,Option.some.injEq] at al|-
   obtain⟨a,aA,b,ad,e⟩:=al
   exact ⟨a,Tm ai aA,b,Jz ai ad,e⟩
theorem Tn {h:ah} {F:Nat->I} {r:Nat} {blk:List I} (ai:h.cells r=none) {rs:List mO} {v:I} (al:dE h F rs=some v):dE (h.new r blk) F rs=some v:=by
 unfold dE at al|-
 obtain⟨vs,U,h2⟩:=Option.map_eq_some_iff.1 al
 rw[Jz ai U]
 exact congrArg some h2
theorem JA {ch:kV->List I->ah->Option (I × ah)} (bc:q' ch) {aZ r:Nat} {blk:List I} (rh:r<aZ):∀ {L:List (aU × Nat)} {s ar:aL} {cs:List eb},cR G tab ch aZ L s=some (ar,cs)->s.h.cells r=none->r<s.h.next->
 cR G tab ch aZ L ⟨s.F,s.h.new r blk⟩=some (⟨ar.F,ar.h.new r blk⟩,cs)/\ar.h.cells r=none/\s.h.next<=ar.h.next
 | [],s,ar,cs,h,ai,aR=>by
   simp only[cR] at h|-
   cases h
   exact ⟨rfl,ai,Nat.le_refl _⟩
 | (e,i)::L,s,ar,cs,h,ai,aR=>by
   simp only[cR] at h|-
   split at h<;>try(cases h;done)
   rename_i s1 c U
   obtain⟨p,h2,aB⟩:=Option.map_eq_some_iff.1 h
   obtain⟨s2,Jc⟩:=p
   cases aB
   obtain⟨bp,cb,c7⟩:=Di (blk:=blk) bc U ai aR (by omega)
   obtain⟨da,db,fI⟩:=JA (blk:=blk) bc rh h2 cb (by omega)
   exact ⟨by simp only[bp,da,Option.map_some],db,by show s.h.next<=s2.h.next;omega⟩
theorem DK {n:Nat} (f':∀(Y:List cy) (c:c5) (s:aL) (ex:dd) (ar:aL),exec G Φ tab n Y c s=some (ex,ar)->∀r blk,s.h.cells r=none->r<s.h.next->exec G Φ tab n Y c ⟨s.F,s.h.new r blk⟩=some (ex,⟨ar.F,ar.h.new r blk⟩)/\ar.h.cells r=none/\s.h.next<=ar.h.next)
 (Y:List cy):q' (kI G Φ tab n Y):=by
 intro t args h v h' r blk J ai aR
 cases t with
 | fn f=>
   obtain⟨fn,ex,ar,mU,he,hex,al,rfl⟩:=rf J
   obtain⟨bp,cb,c7⟩:=f' _ _ _ _ _ he r blk ai aR
   refine⟨?_,cb,c7⟩
   show kv G Φ tab n Y f args (h.new r blk)=_
   unfold kv
   simp only at bp
   rcases hex with rfl|rfl<;>simp only[mU,bp,Tn cb al,Option.map_some]
 | lk id=>
   obtain⟨L,Y',s1,ex,ar,bh,hlen,U,aF,h2,ad,aB⟩:=uQ J
   obtain⟨bp,cb,c7⟩:=f' _ _ _ _ _ U r blk ai aR
   obtain⟨da,db,fI⟩:=f' _ _ _ _ _ h2 r blk cb (show r<s1.h.next by simp only at c7;omega)
   simp only at bp da
   have ay:h.next<=ar.h.next:=Nat.le_trans c7 fI
   have JB:exec G Φ tab n Y' L.body ⟨s1.F,(s1.h.new r blk).set id (some .busy)⟩=some (ex,⟨ar.F,ar.h.new r blk⟩):=da
   rcases aB with⟨rfl,rfl,rfl⟩|⟨bP,rfl,rfl⟩
   · refine⟨?_,db,ay⟩
     show ow G Φ tab n Y id args (h.new r blk)=_
     unfold ow
     simp only[bh,if_pos hlen,bp,show (s1.h.new r blk).aV id=some .ready from aF,JB,show (ar.h.new r blk).aV id=some .busy from ad]
     rfl
   · refine⟨?_,db,ay⟩
     show ow G Φ tab n Y id args (h.new r blk)=_
     unfold ow
     simp only[bh,if_pos hlen,bp,show (s1.h.new r blk).aV id=some .ready from aF,JB,show (ar.h.new r blk).aV id=some .busy from ad]
     cases ex with
     | normal=>exact absurd rfl bP
     | exit i=>rfl
     | ret=>rfl
theorem JC:∀(n:Nat) (Y:List cy) (c:c5) (s:aL) (ex:dd) (ar:aL),exec G Φ tab n Y c s=some (ex,ar)->∀r blk,s.h.cells r=none->r<s.h.next->
 exec G Φ tab n Y c ⟨s.F,s.h.new r blk⟩=some (ex,⟨ar.F,ar.h.new r blk⟩)/\ar.h.cells r=none/\s.h.next<=ar.h.next
 | 0,Y,c,s,ex,ar,he,r,blk,ai,aR=>by unfold exec at he;cases he
 | n+1,Y,c,s,ex,ar,he,r,blk,ai,aR=>by
   have f':=JC n
   have aD:=he
   rw[iD] at he|-
   cases c with
   | skip=>cases he;exact ⟨rfl,ai,Nat.le_refl _⟩
   | ret=>cases he;exact ⟨rfl,ai,Nat.le_refl _⟩
   | exit id=>cases he;exact ⟨rfl,ai,Nat.le_refl _⟩
   | region ku ops e3=>
     simp only at he|-
     obtain⟨s1,U,he⟩:=Option.map_eq_some_iff.1 he
     cases he
     unfold ej at U|-
     split at U<;>try(cases U;done)
     rename_i s2 cs ct
     split at U<;>try(cases U;done)
     rename_i i_
     cases U
     obtain⟨bp,cb,c7⟩:=JA (blk:=blk) (DK f' Y) aR ct ai (show r<s.h.next+ops.length by omega)
     simp only at bp c7
     refine⟨?_,cb,by omega⟩
     have To:cR G tab (kI G Φ tab n Y) (s.h.new r blk).next ops.zipIdx ⟨s.F,{(s.h.new r blk) with next:=(s.h.new r blk).next+ops.length}⟩=some (⟨ar.F,ar.h.new r blk⟩,cs):=bp
     rw[To]
     simp only[if_pos i_,Option.map_some]
   | seq a b=>
     simp only at he|-
     split at he
     · rename_i s1 U
       obtain⟨bp,cb,c7⟩:=f' _ _ _ _ _ U r blk ai aR
       obtain⟨da,db,fI⟩:=f' _ _ _ _ _ he r blk cb (by omega)
       exact ⟨by simp only[bp];exact da,db,by omega⟩
     · rename_i bP
       obtain⟨bp,cb,c7⟩:=f' _ _ _ _ _ he r blk ai aR
       refine⟨?_,cb,c7⟩
       rw[bp]
       cases ex with
       | normal=>exact absurd he (bP ar)
       | exit i=>rfl
       | ret=>rfl
   | cond x a b=>
     simp only at he|-
     split at he<;>try(cases he;done)
     rename_i t aO
     try simp only[aO]
     split at he
     · rename_i sH;simp only[if_pos sH];exact f' _ _ _ _ _ he r blk ai aR
     · rename_i sH;simp only[if_neg sH];exact f' _ _ _ _ _ he r blk ai aR
   | block id b=>
     simp only at he|-
     split at he
     · rename_i i s1 U
       obtain⟨bp,cb,c7⟩:=f' _ _ _ _ _ U r blk ai aR
       rw[bp]
       simp only
       split at he<;>rename_i ab<;>cases he<;>simp only[ab,if_true,if_false]<;>exact ⟨by first|rfl|trivial,cb,c7⟩
     · rename_i bP
       obtain⟨bp,cb,c7⟩:=f' _ _ _ _ _ he r blk ai aR
       refine⟨?_,cb,c7⟩
       rw[bp]
       cases ex with
       | normal=>rfl
       | exit i=>exact absurd he (bP i ar)
       | ret=>rfl
   | loop b=>
     simp only at he|-
     split at he
     · rename_i s1 U
       obtain⟨bp,cb,c7⟩:=f' _ _ _ _ _ U r blk ai aR
       obtain⟨da,db,fI⟩:=f' _ _ _ _ _ he r blk cb (by omega)
       exact ⟨by simp only[bp];exact da,db,by omega⟩
     · rename_i bP
       obtain⟨bp,cb,c7⟩:=f' _ _ _ _ _ he r blk ai aR
       refine⟨?_,cb,c7⟩
       rw[bp]
       cases ex with
       | normal=>exact absurd he (bP ar)
       | exit i=>rfl
       | ret=>rfl
   | lj f ps dL body=>
     obtain⟨g,first,caps,v,h',p,bc,J,aF,ox,rfl⟩:=zp aD
     have DL:kI G Φ tab n (⟨s.h.next,s.F,ps,dL,body⟩::Y) (.fn g) (first++ [.ie s.h.next]++caps) {s.h with next:=s.h.next+1,aV:=au s.h.aV s.h.next (some .ready)}=some (v,h'):=J
     obtain⟨bp,cb,c7⟩:=DK f' _ _ _ _ _ _ r blk DL ai (show r<s.h.next+1 by omega)
     obtain⟨fn,e,s2,mU,oy,hex,al,cX⟩:=rf (show kv G Φ tab n _ g _ _=some (v,h'.new r blk) from bp)
     refine⟨?_,cb,by simp only at c7;show s.h.next<=h'.next;omega⟩
     simp only[bc,mU]
     have w2:exec G Φ tab n (⟨(s.h.new r blk).next,s.F,ps,dL,body⟩::Y) fn.body ⟨dM (first++ [.ie (s.h.new r blk).next]++caps),{(s.h.new r blk) with next:=(s.h.new r blk).next+1,aV:=au (s.h.new r blk).aV (s.h.new r blk).next (some .ready)}⟩=some (e,s2):=oy
     have qe:s2.h.aV (s.h.new r blk).next=some p:=by rw[cX];exact aF
     rw[w2]
     rcases hex with rfl|rfl<;>simp only[al,qe]<;>rcases ox with⟨rfl,rfl⟩|rfl<;>simp only[cX]<;>rfl
theorem Tp (n:Nat) (Y:List cy):q' (kI G Φ tab n Y):=DK (JC n) Y
end
end Go.Eng
namespace Go.Eng
open Go Go.RowKit
section
variable {P:Program} {G:Nat->Option I} {tab:FuncId->Option (List I->Option I)} {Y:List cy}
theorem Tq {n:Nat} (f':uR P G tab n) {id:Nat} {args:List I} {h h':ah} {v:I} (J:ow G (aI P) tab n Y id args h=some (v,h')):
 ∀base okin σ w (dh:Array Value) l s,cJ base okin σ h w->ka σ h.aV w->pf P G base okin Y σ h w->σ id=some (l,s)->dh.size=args.length->
  (∀i (ab:i<args.length) (bY:i<dh.size),a5 w (bt base okin σ h) σ args[i] dh[i])->
  (∀g u,G g=some u->a5 w (bt base okin σ h) σ (.e2 u) (.pointer (some ⟨g,0,none⟩)))->(∀id,h.next<=id->σ id=none)->
  Dp P l dh w (uJ base okin σ h w h' v):=by
 obtain⟨L,Y',s1,ex,ar,bh,hlen,Tr,w3,oy,Ts,jF⟩:=uQ J
 obtain⟨cS,dA,ng⟩:=Jv bh
 intro base okin σ w dh l s H DJ zo ph c6 fr qg w1
 obtain⟨lQ,kH,r,nT,b8,bQ,cE,c1,k1,mW,kk,oz⟩:=zo L cS
 rw[dA,ph] at b8;cases b8
 have sI:r.params.size=L.ps.length:=by rw[c1];simp
 have qa:dh.size=r.params.size:=by omega
 have Tt:pf P G base okin Y' σ h w:=fun X mj=>zo X (ng X mj)
 have ln:base<=l:=(H.val _ _ _ ph).1
 refine⟨r.fn,_,r.assign,r.body,run_yield bQ qa,fun F dR bu=>?_⟩
 have Tu:(r.params.zip dh).foldl (fun tmps (t,a)=>tmps.setIfInBounds t a) r.tmps=(L.ps.zip dh.toList).foldl (fun tmps (t,a)=>tmps.setIfInBounds t a) r.tmps:=by
  rw[c1,<-Array.foldl_toList,Array.toList_zip]
 rw[Tu]
 have S:fz P G Y' (F.inRound l).round w.heap.size base okin nT h.next σ (fun _=>False) σ ⟨nc L.F L.ps args,h⟩ {tmps:=(L.ps.zip dh.toList).foldl (fun tmps (t,a)=>tmps.setIfInBounds t a) r.tmps,defers:=[]} w:=by
  refine⟨H,DJ,Tt,⟨fun t=>?_,qg⟩,?_,⟨fun d a3=>absurd a3 (by simp),List.Pairwise.nil⟩,fun dG jm=>?_,Nat.le_refl _,fun id bz=>bz.elim,Nat.le_refl _,fun _ _=>rfl,w1⟩
  · exact Tj (by omega) (by simp;omega) (fun p aF=>Nat.lt_of_lt_of_le (k1 p aF) cE) (fun t=>oz.slot t) (fun i ab bY=>by
     have:=fr i ab (by simpa using bY)
     simpa using this) t
  · show nT<=(Array.size _)
    rw[Tk];exact cE
  · cases jm;exact ⟨r,bQ⟩
 refine roundIn_of_wpIn (bu.fn _) ?_
 refine f' nT Y' r.assign L.dL _ _ s1 mW Tr (F.inRound l) dR (bu.inRound l) w.heap.size base okin h.next σ σ _ w _ S (fun jx a1 b7 jn bb=>?_)
 obtain⟨bJ,wX,bF,d1,d2,d3,d4⟩:=jn.lB.look id _ w3
 have DM:jx id=some (l,s):=bb.sub _ _ ph
 rw[DM] at d1;cases d1
 refine⟨_,run_beginRound d2 d3,?_⟩
 have av:({bF with state:= .busy}:Loop)= {bF with state:=ou .busy,pending:=ov .busy}:=by
  have:ov .busy=bF.pending:=by rw[d4];rfl
  rw[this];rfl
 rw[av]
 have ai:∀arr ty e,Obj.loop bF≠ .cells arr ty e:=fun _ _ _ h=>by cases h
 have bw:di base okin jx s1.h b7 jx (s1.h.set id (some .busy)) (b7.putObj l (.loop {bF with state:=ou .busy,pending:=ov .busy})):=di.DC d2 ln _ _ (fun b ad=>ad)
 have zt:=jn.aw.put (.loop {bF with state:=ou .busy,pending:=ov .busy}) d2 ai (fun _ _ h=>by cases h)
 have w4:fz P G Y' (F.inRound l).round w.heap.size base okin nT h.next σ (fun _=>False) jx ⟨s1.F,s1.h.set id (some .busy)⟩ a1 (b7.putObj l (.loop {bF with state:=ou .busy,pending:=ov .busy})):=
  ⟨⟨zt.val,zt.blk,zt.inj,zt.base⟩,jn.lB.set w3 DM d2 .busy,jn.jy.mono bw,jn.bI.mono bw,jn.size,jn.marks.mono bw.ot,fun dG jm=>by
    obtain⟨dn,bM⟩:=jn.rd dG jm
    obtain⟨x,y,cn⟩:=bw.loop dG dn bM
    exact ⟨_,cn⟩,Nat.le_trans jn.sE bw.below.size,fun _ h=>h.elim,jn.low,jn.md,jn.fresh⟩
 refine f' nT Y' r.body L.body _ ex ar kk oy (F.inRound l) dR (bu.inRound l) w.heap.size base okin h.next σ jx _ _ _ w4 (fun np zh iT zu bV=>?_)
 have zv:=bV.sub _ _ DM
 obtain⟨Tv,Tw,f1⟩:=bV.loop l _ (World.putObj_heap_same (qc d2))
 generalize aje:({bF with state:=Tv,pending:=Tw}:Loop)=mh at f1
 have f2:iT.heap[l]? =some (.loop mh):=f1
 have sJ:∀arr ty e,Obj.loop mh≠ .cells arr ty e:=fun _ _ _ h=>by cases h
 have fin:∀(p:fX) (cv:Value),h'=ar.h.set id (some p)->a5 (iT.putObj l (.loop {mh with state:=ou p,pending:=ov p})) (bt base okin np (ar.h.set id (some p))) np v cv->
  uJ base okin σ h w h' v cv (iT.putObj l (.loop {mh with state:=ou p,pending:=ov p})):=by
  rintro p cv rfl aR
  have cj:di base okin np ar.h iT np (ar.h.set id (some p)) (iT.putObj l (.loop {mh with state:=ou p,pending:=ov p})):=di.DC f2 ln _ _ (fun b ad=>ad)
  have qh:=zu.aw.put (.loop {mh with state:=ou p,pending:=ov p}) f2 sJ (fun _ _ h=>by cases h)
  exact ⟨np,((bb.trans bw).trans bV).trans cj,⟨qh.val,qh.blk,qh.inj,qh.base⟩,zu.lB.set Ts zv f2 p,aR,zu.fresh,zu.md⟩
 rcases jF with⟨rfl,rfl,cX⟩|⟨bP,rfl,cX⟩
 · exact ⟨_,_,run_endRound none f2,.bool true,rfl,fin .ready _ cX (.val _ _ (.bool _))⟩
 · cases ex with
   | normal=>exact absurd rfl bP
   | ret=>exact ⟨_,_,run_endRound (some .ret) f2,.bool false,rfl,fin (.done .ret) _ cX (.val _ _ (.bool _))⟩
   | exit i=>exact ⟨_,_,run_endRound (some (.exit i)) f2,.bool false,rfl,fin (.done (.exit i)) _ cX (.val _ _ (.bool _))⟩
theorem Tx {n:Nat} (f':uR P G tab n):uK P G Y (kI G (aI P) tab n Y):=
 ⟨fun _ _ _ _ _ J=>Tl J,Tp n Y,fun _ _ _ _ _ J base okin σ w dh H L C U h2 aB aS=> .inl (DG f' J base okin σ w dh H L C U h2 aB aS),
   fun _ _ _ _ _ J=>Tq f' J⟩
theorem JD {N:Nat} {c:Code} {qf:c5} (J:ig P N c=some qf):∀(m:Nat),(∀k,k<m->uR P G tab k)->∀(s:aL) (ex:dd) (ar:aL),exec G (aI P) tab m Y (.loop qf) s=some (ex,ar)->
 ∀(c8:Fence) (dR:Nat) (_:jV c8) (bK:Nat) (base:Nat) (okin:Nat->Prop) (cP:Nat) (cT σ:Nat->Option (Nat × Nat)) (a:Act) (w:World) (Q:Exit->Act->World->Prop),fz P G Y c8.round bK base okin N cP cT (fun _=>False) σ s a w->
  (∀bg eF aQ,fz P G Y c8.round bK base okin N cP cT (fun _=>False) bg ar eF aQ->di base okin σ s.h w bg ar.h aQ->Q (zl ex) eF aQ)->Code.roundsIn c8 dR P c Q m a w
 | 0,_,s,ex,ar,he=>by unfold exec at he;cases he
 | m+1,f',s,ex,ar,he=>by
   rw[iD] at he
   simp only at he
   split at he
   · rename_i s1 U
     have b7:=f' m (Nat.lt_succ_self m) N Y c qf s _ s1 J U
     have c4:=JD J m (fun k ag=>f' k (Nat.lt_succ_of_lt ag)) s1 ex ar he
     refine fun c8 dR bu bK base okin cP cT σ a w Q S dN=>?_
     rw[roundsIn_succ]
     exact b7 c8 dR bu bK base okin cP cT σ a w _ S fun jx a1 nq jn bb=>c4 c8 dR bu bK base okin cP cT jx a1 nq Q jn fun p1 eX DN w4 bw=>dN p1 eX DN w4 (bb.trans bw)
   · rename_i bP
     have b7:=f' m (Nat.lt_succ_self m) N Y c qf s ex ar J he
     refine fun c8 dR bu bK base okin cP cT σ a w Q S dN=>?_
     rw[roundsIn_succ]
     refine b7 c8 dR bu bK base okin cP cT σ a w _ S fun jx a1 nq jn bb=>?_
     have:=dN jx a1 nq jn bb
     cases ex with
     | normal=>exact absurd he (bP ar)
     | exit id=>exact this
     | ret=>exact this
theorem Ty {n N:Nat} (f':uR P G tab n) {x:Operand} {ps:Array Tmp} {dL body:Code} {f:aT} {w5 w6:c5} (ae:ek x=some f) (aA:ig P N dL=some w5) (ad:ig P N body=some w6) (sI:ps.toList.all (fun p=>decide (p<N))=true)
 {s ar:aL} {ex:dd} (he:exec G (aI P) tab (n+1) Y (.lj f ps.toList w5 w6) s=some (ex,ar))
 (c8:Fence) (dR:Nat) (bu:jV c8) (bK:Nat) (base:Nat) (okin:Nat->Prop) (cP:Nat) (cT σ:Nat->Option (Nat × Nat)) (a:Act) (w:World) (Q:Exit->Act->World->Prop) (S:fz P G Y c8.round bK base okin N cP cT (fun _=>False) σ s a w)
 (dN:∀bg eF aQ,fz P G Y c8.round bK base okin N cP cT (fun _=>False) bg ar eF aQ->di base okin σ s.h w bg ar.h aQ->Q (zl ex) eF aQ):(Code.rangeFunc x ps dL body).wpIn c8 dR P Q a w:=by
 obtain⟨g,first,caps,v,h',p,bc,jC,aF,ox,rfl⟩:=zp he
 have rx:=S.bI.ed ae
 rw[bc] at rx
 obtain⟨fc,cv,Tz,bJ,dG,bF,dn⟩:=rx.HQ
 have bz:σ s.h.next=none:=S.fresh _ (Nat.le_refl _)
 have enter:∀fn,∃(l:Nat) (mark:List Deferred) (b7:World) (r:Loop),(Instr.enterLoop fn a.tmps ps dL body c8.round).run P w= .ok (l,mark) b7/\Below w.heap.size w b7/\w.heap.size<=l/\b7.heap[l]? =some (.loop r)/\
  r.state= .ready/\r.pending=none/\r.tmps=a.tmps/\r.params=ps/\r.assign=dL/\r.body=body/\Marks w.heap.size mark b7:=by
  intro fn
  cases DO:c8.round with
  | none=>
    refine⟨_,_,_,{state:= .ready,pending:=none,fn,tmps:=a.tmps,params:=ps,assign:=dL,body,defers:=w.heap.size},run_enterLoop_outer fn a.tmps ps dL body,((Below.refl _ _).alloc (Nat.le_refl _) _).alloc (by simp) _,Nat.le_succ _,?_,rfl,rfl,rfl,rfl,rfl,rfl,⟨fun d a3=>?_,?_⟩⟩
    · have:=World.alloc_heap_new (w.alloc (.deferred (some []))) (.loop {state:= .ready,pending:=none,fn,tmps:=a.tmps,params:=ps,assign:=dL,body,defers:=w.heap.size})
      rwa [World.size_alloc] at this
    · simp at a3
      subst a3
      refine⟨w.heap.size,rfl,Nat.le_refl _,?_⟩
      rw[Below.heap_alloc _ _ _ (by simp)]
      exact World.alloc_heap_new w _
    · simp
  | some uS=>
    obtain⟨r0,aD⟩:=S.rd uS DO
    refine⟨_,_,_,{state:= .ready,pending:=none,fn,tmps:=a.tmps,params:=ps,assign:=dL,body,defers:=r0.defers},run_enterLoop_inner aD fn a.tmps ps dL body,(Below.refl _ _).alloc (Nat.le_refl _) _,Nat.le_refl _,World.alloc_heap_new w _,rfl,rfl,rfl,rfl,rfl,rfl,⟨fun d a3=>absurd a3 (by simp),List.Pairwise.nil⟩⟩
 refine wpIn_rangeFunc fun fn mU=>?_
 obtain⟨l,mark,b7,r,ao,ln,hle,av,aW,bR,fe,lo,Dm,rb,JE⟩:=enter fn
 have bG:=qc av
 have wY:=Nat.le_trans S.aw.base hle
 obtain⟨Dt,Du⟩:=S.aw.grown ln
 obtain⟨zw,qi⟩:=Dt.named bz wY bG
 have bb:di base okin σ s.h w (au σ s.h.next (some (l,0))) s.h b7:=di.of S.aw (Du.trans qi)
 have fy:=S.lB.add (fun id b s aw=>(S.aw.val id b s aw).2) bz ln hle av aW bR
 have w7:di base okin σ s.h w (au σ s.h.next (some (l,0))) {s.h with next:=s.h.next+1,aV:=au s.h.aV s.h.next (some .ready)} b7:=⟨bb.sub,bb.still,bb.below,bb.grow,bb.loop,bb.ot⟩
 have H1:cJ base okin (au σ s.h.next (some (l,0))) {s.h with next:=s.h.next+1,aV:=au s.h.aV s.h.next (some .ready)} b7:=⟨zw.val,zw.blk,zw.inj,zw.base⟩
 have DP:=S.bI.mono w7
 have TA:pf P G base okin (⟨s.h.next,s.F,ps.toList,w5,w6⟩::Y) (au σ s.h.next (some (l,0))) {s.h with next:=s.h.next+1,aV:=au s.h.aV s.h.next (some .ready)} b7:=by
  intro L bh
  rcases List.mem_cons.1 bh with rfl|bh
  · refine⟨l,0,r,N,by simp[au],av,by rw[fe];exact S.size,by rw[lo],fun q aM=>by simpa using List.all_eq_true.1 sI q aM,by rw[Dm];exact aA,by rw[rb];exact ad,⟨fun t=>?_,DP.nf⟩⟩
    rw[fe];exact DP.slot t
  · exact S.jy.mono w7 L bh
 have fr:∀i (ab:i<(first++ [I.ie s.h.next]++caps).length) (bY:i<(fc++ #[Value.func (.yield l) #[] #[]]++cv).size),a5 b7 (bt base okin (au σ s.h.next (some (l,0))) {s.h with next:=s.h.next+1,aV:=au s.h.aV s.h.next (some .ready)}) (au σ s.h.next (some (l,0))) (first++ [I.ie s.h.next]++caps)[i] (fc++ #[Value.func (.yield l) #[] #[]]++cv)[i]:=by
  intro i ab bY
  by_cases U:i<first.length
  · have da:(first++ [I.ie s.h.next]++caps)[i]=first[i]:=by
     rw[List.getElem_append_left (by simp;omega),List.getElem_append_left U]
    have db:(fc++ #[Value.func (.yield l) #[] #[]]++cv)[i]=fc[i]'(by omega):=by
     rw[Array.getElem_append_left (by simp;omega),Array.getElem_append_left (by omega)]
    rw[da,db];exact w7.rep (bF i U (by omega))
  · by_cases h2:i=first.length
    · have da:(first++ [I.ie s.h.next]++caps)[i]=I.ie s.h.next:=by
       rw[List.getElem_append_left (by simp;omega),List.getElem_append_right (by omega)];simp
      have db:(fc++ #[Value.func (.yield l) #[] #[]]++cv)[i]=Value.func (.yield l) #[] #[]:=by
       rw[Array.getElem_append_left (by simp;omega),Array.getElem_append_right (by omega)];simp
      rw[da,db]
      exact .ie _ l 0 (by simp[au])
    · have da:(first++ [I.ie s.h.next]++caps)[i]=caps[i -(first.length+1)]'(by simp at ab;omega):=by
       rw[List.getElem_append_right (by simp;omega)];simp
      have db:(fc++ #[Value.func (.yield l) #[] #[]]++cv)[i]=cv[i -(first.length+1)]'(by simp at bY;omega):=by
       rw[Array.getElem_append_right (by simp;omega)]
       congr 1
       simp;omega
      rw[da,db];exact w7.rep (dn _ (by simp at ab;omega) (by simp at bY;omega))
 have c6:(fc++ #[Value.func (.yield l) #[] #[]]++cv).size=(first++ [I.ie s.h.next]++caps).length:=by simp;omega
 have w1:∀id,s.h.next+1<=id->au σ s.h.next (some (l,0)) id=none:=fun id bz=>by
  have:id≠s.h.next:=by omega
  simp only[au,this,if_false]
  exact S.fresh id (by omega)
 obtain⟨b8,bQ⟩:=DG f' jC base okin _ b7 _ H1 fy TA c6 fr DP.nf w1
 refine⟨l,mark,b7,{target:= .fn (.func g) cv,args:=fc++ #[Value.func (.yield l) #[] #[]]},b7,g,fc++ #[Value.func (.yield l) #[] #[]]++cv,b7,ao,?_,fun p3 _=>bu.fn p3,?_,bu.one dR,bu.calls (bQ.mono ?_)⟩
 · simp[resolve,Deferred.ofValue,Tz]
   rfl
 · simpa[invoke] using b8
 rintro e iT ⟨Ds,rfl,np,bV,TB,JF,_,f3,om⟩
 obtain⟨lQ,ar,ja,d1,d2,d3,d4⟩:=JF.look _ p aF
 have zv:np s.h.next=some (l,0):=bV.sub _ _ (by simp[au])
 rw[zv] at d1;cases d1
 have qj:ja.state≠ .busy:=by
  rw[d3]
  rcases ox with⟨rfl,_⟩|rfl<;>simp[ou]
 have sJ:∀arr ty e,Obj.loop ja≠ .cells arr ty e:=fun _ _ _ h=>by cases h
 have cj:di base okin np h' iT np (h'.set s.h.next none) (iT.putObj l (.loop {ja with state:= .exhausted})):=di.DC d2 wY .exhausted ja.pending (fun b ad=>ad)
 have qh:=TB.put (.loop {ja with state:= .exhausted}) d2 sJ (fun _ _ h=>by cases h)
 have TC:ka np (au h'.aV s.h.next none) (iT.putObj l (.loop {ja with state:= .exhausted})):=JF.del aF zv _
 have sK:di base okin σ s.h w np (h'.set s.h.next none) (iT.putObj l (.loop {ja with state:= .exhausted})):=(w7.trans bV).trans cj
 have zi:=(zq (G:=G) (tab:=tab) (Φ:=aI P) (n+1) Y (.lj f ps.toList w5 w6) s ex _ he)
 have TD:fz P G Y c8.round bK base okin N cP cT (fun _=>False) np ⟨s.F,h'.set s.h.next none⟩ {a with defers:=mark++a.defers} (iT.putObj l (.loop {ja with state:= .exhausted})):=by
  refine⟨⟨qh.val,qh.blk,qh.inj,qh.base⟩,TC,S.jy.mono sK,⟨fun t=>sK.rep (S.bI.slot t),fun g v aX=>sK.rep (S.bI.nf g v aX)⟩,S.size,?_,fun dG jm=>?_,Nat.le_trans S.sE sK.below.size,fun _ h=>h.elim,Nat.le_trans S.low zi,fun id bz=>?_,f3⟩
  · have cS:=JE.mono (fun b ad=>cj.ot b (bV.ot b ad))
    have dA:=S.marks.mono sK.ot
    refine⟨fun d a3=>?_,List.pairwise_append.2 ⟨cS.nodup,dA.nodup,fun d a3 o0 uP=>?_⟩⟩
    · rcases List.mem_append.1 a3 with a3|a3
      · obtain⟨D,bM,cn,eB⟩:=cS.each d a3
        exact ⟨D,bM,Nat.le_trans S.sE cn,eB⟩
      · exact dA.each d a3
    · obtain⟨D,bM,cn,_⟩:=JE.each d a3
      obtain⟨Jq,TE,_,DQ⟩:=S.marks.each o0 uP
      have:=qc DQ
      rw[bM,TE]
      intro cX
      cases cX
      omega
  · obtain⟨dn,bM⟩:=S.rd dG jm
    obtain⟨x1,x2,cn⟩:=sK.loop dG dn bM
    exact ⟨_,cn⟩
  · have:id≠s.h.next:=by have:=S.low;omega
    rw[om id (by have:=S.low;show id<s.h.next+1;omega)]
    simp only[au,this,if_false]
    exact S.md id bz
 have aM:=dN np _ _ TD sK
 refine⟨_,_,run_endLoop d2 qj,?_⟩
 rw[d4] at aM|-
 rcases ox with⟨rfl,rfl⟩|rfl
 · exact aM
 · cases ex with
   | normal=>exact aM
   | ret=>exact wpIn_ret aM
   | exit i=>exact wpIn_exit aM
theorem uT {P:Program} {b:Frame} {a:Act} {k:List Item} {cs:List Frame} {w:World} {c:Code}:step P (lone (b.atR a (.code (.scope c)::k)) cs w)= .next (lone (b.atR a (.code c:: .inScope c::k)) cs w):=
 step_lone_go (by simp[stepG,stepG.exec,Frame.atR])
theorem TF {P:Program} {b:Frame} {a:Act} {k:List Item} {cs:List Frame} {w:World} {c:Code}:step P (lone (b.atR a (.inScope c::k)) cs w)= .next (lone (b.atR a k) cs w):=
 step_lone_go (by simp[stepG,stepG.exec,Frame.atR])
theorem TG {F:Fence} {n:Nat} {P:Program} {c:Code} {Q:Exit->Act->World->Prop} {a:Act} {w:World} (h:c.wpIn F n P (Exit.noGoto Q) a w):(Code.scope c).wpIn F n P Q a w:=by
 intro b k cs DO ad aR
 have aD:(lone (b.atR a (.code (.scope c)::k)) cs w).fenced P F:=fenced_calm ad aR rfl
 obtain⟨e,w8,w9,aM,uU⟩:=h b (.inScope c::k) cs DO ad aR
 cases e with
 | normal=>exact ⟨.normal,w8,w9,aM,.head aD uT (StepsIn.trans uU (.one (fenced_calm ad aR rfl) TF))⟩
 | exit id=>
   have ae:exitTo id (.inScope c::k)=exitTo id k:=by simp[exitTo]
   exact ⟨_,w8,w9,aM,fun k' ag=> .head aD uT (uU.1 k' (by rw[ae];exact ag)),fun nh ag=>let ⟨k₁,U,h2⟩:=uU.2 nh (by rw[ae];exact ag);⟨k₁,U,.head aD uT h2⟩⟩
 | goto l=>exact aM.elim
 | ret=>exact ⟨_,w8,w9,aM,.of_steps (.one aD uT) uU⟩
 | panic ajf=>exact ⟨_,w8,w9,aM,.of_steps (.one aD uT) uU⟩
 | outgrown=>exact ⟨_,w8,w9,aM,.of_steps (.one aD uT) uU⟩
theorem TH (hm:P.follows .mixedOrders=true) (lp:∀f T,tab f=some T->aH P G f T):∀n,uR P G tab n:=by
 intro n
 induction n using Nat.strongRecOn with
 | _ n f'=>
 intro N Y c qf s ex ar J he
 cases n with
 | zero=>unfold exec at he;cases he
 | succ n=>
 have a8:=f' n (Nat.lt_succ_self n)
 have zr:=he
 rw[iD] at he
 cases c with
 | skip=>
   simp only[ig] at J;cases J
   cases he
   exact fun c8 dR bu bK base okin cP cT σ a w Q S dN=>wpIn_skip (dN σ a w S (di.refl ..))
 | ret=>
   simp only[ig] at J;cases J
   cases he
   exact fun c8 dR bu bK base okin cP cT σ a w Q S dN=>wpIn_ret (dN σ a w S (di.refl ..))
 | exit id=>
   simp only[ig] at J;cases J
   cases he
   exact fun c8 dR bu bK base okin cP cT σ a w Q S dN=>wpIn_exit (dN σ a w S (di.refl ..))
 | region id ops draw=>
   have iK:=J
   have TI:∃ku es b,qf= .region ku es b:=by
    simp only[ig] at J
    split at J<;>try(cases J;done)
    split at J
    · split at J<;>try(cases J;done)
      cases J;exact ⟨_,_,_,rfl⟩
    · cases J;exact ⟨_,_,_,rfl⟩
   obtain⟨ku,es,b,rfl⟩:=TI
   simp only at he
   obtain⟨s1,U,he⟩:=Option.map_eq_some_iff.1 he
   cases he
   exact fun c8 dR bu bK base okin cP cT σ a w Q S dN=>Ta hm bu (Tx a8) lp iK U S dN
 | seq x y=>
   simp only[ig] at J
   split at J<;>try(cases J;done)
   rename_i qk DR ae aN
   cases J
   simp only at he
   split at he
   · rename_i s1 U
     have b7:=a8 N Y x qk s _ s1 ae U
     have c4:=a8 N Y y DR s1 ex ar aN he
     refine fun c8 dR bu bK base okin cP cT σ a w Q S dN=>wpIn_seq ?_
     exact b7 c8 dR bu bK base okin cP cT σ a w _ S fun jx a1 nq jn bb=>c4 c8 dR bu bK base okin cP cT jx a1 nq Q jn fun p1 eX DN w4 bw=>dN p1 eX DN w4 (bb.trans bw)
   · rename_i bP
     have b7:=a8 N Y x qk s ex ar ae he
     refine fun c8 dR bu bK base okin cP cT σ a w Q S dN=>wpIn_seq ?_
     refine b7 c8 dR bu bK base okin cP cT σ a w _ S fun jx a1 nq jn bb=>?_
     have:=dN jx a1 nq jn bb
     cases ex with
     | normal=>exact absurd he (bP ar)
     | exit id=>exact this
     | ret=>exact this
 | cond x y z=>
   simp only[ig] at J
   split at J<;>try(cases J;done)
   rename_i qk DR TJ ae aN aq
   cases J
   simp only at he
   split at he<;>try(cases he;done)
   rename_i t aO
   cases t with
   | true=>
     simp only[if_true] at he
     have b7:=a8 N Y y DR s ex ar aN he
     refine fun c8 dR bu bK base okin cP cT σ a w Q S dN=>?_
     have r:=S.bI.ed ae
     rw[aO] at r
     exact wpIn_cond_true r.q2 (b7 c8 dR bu bK base okin cP cT σ a w Q S dN)
   | false=>
     simp only[Bool.false_eq_true,if_false] at he
     have b7:=a8 N Y z TJ s ex ar aq he
     refine fun c8 dR bu bK base okin cP cT σ a w Q S dN=>?_
     have r:=S.bI.ed ae
     rw[aO] at r
     exact wpIn_cond_false r.q2 (b7 c8 dR bu bK base okin cP cT σ a w Q S dN)
 | block id x=>
   simp only[ig] at J
   obtain⟨qk,ae,rfl⟩:=Option.map_eq_some_iff.1 J
   simp only at he
   split at he
   · rename_i i s1 U
     have b7:=a8 N Y x qk s _ s1 ae U
     have aw:s1=ar:=by split at he<;>(cases he;rfl)
     subst aw
     refine fun c8 dR bu bK base okin cP cT σ a w Q S dN=>wpIn_block ?_
     refine b7 c8 dR bu bK base okin cP cT σ a w _ S fun jx a1 nq jn bb=>?_
     have:=dN jx a1 nq jn bb
     simp only[zl,Exit.inBlock]
     split at he
     · rename_i bz
       cases he
       rw[if_pos bz];exact this
     · rename_i bz
       cases he
       rw[if_neg bz];exact this
   · rename_i bP
     have b7:=a8 N Y x qk s ex ar ae he
     refine fun c8 dR bu bK base okin cP cT σ a w Q S dN=>wpIn_block ?_
     refine b7 c8 dR bu bK base okin cP cT σ a w _ S fun jx a1 nq jn bb=>?_
     have:=dN jx a1 nq jn bb
     cases ex with
     | normal=>exact this
     | exit i=>exact absurd he (bP i ar)
     | ret=>exact this
 | loop x=>
   simp only[ig] at J
   obtain⟨qk,ae,rfl⟩:=Option.map_eq_some_iff.1 J
   have b7:=JD ae (n+1) f' s ex ar zr
   exact fun c8 dR bu bK base okin cP cT σ a w Q S dN=>wpIn_loop_rounds (n+1) (b7 c8 dR bu bK base okin cP cT σ a w Q S dN)
 | rangeFunc x ps dL body=>
   simp only[ig] at J
   split at J<;>try(cases J;done)
   rename_i f w5 w6 ae aA ad
   split at J<;>try(cases J;done)
   rename_i sI
   cases J
   exact fun c8 dR bu bK base okin cP cT σ a w Q S dN=>Ty a8 ae aA ad sI zr c8 dR bu bK base okin cP cT σ a w Q S dN
 | scope x=>
   simp only[ig] at J
   obtain⟨qk,ae,rfl⟩:=Option.map_eq_some_iff.1 J
   simp only at he
   cases n with
   | zero=>
     have aD:exec G (aI P) tab 0 Y .skip s=none:=by unfold exec;rfl
     rw[aD] at he;cases he
   | succ n=>
     have aD:exec G (aI P) tab (n+1) Y .skip s=some (.normal,s):=by rw[iD]
     rw[aD] at he
     simp only at he
     have b7:=a8 N Y x qk s ex ar ae he
     refine fun c8 dR bu bK base okin cP cT σ a w Q S dN=>TG ?_
     refine b7 c8 dR bu bK base okin cP cT σ a w _ S fun jx a1 nq jn bb=>?_
     have:=dN jx a1 nq jn bb
     cases ex<;>exact this
 | label _=>
   simp only[ig] at J;cases J
   cases he
   exact fun c8 dR bu bK base okin cP cT σ a w Q S dN=>wpIn_label (dN σ a w S (di.refl ..))
 | goto _=>simp only[ig] at J;cases J
 | refuse _=>simp only[ig] at J;cases J
theorem DS (n:Nat) (f:FuncId) (args:List I) (h:ah):yS G (aI P) tab n Y f args h=kv G (aI P) tab n Y f args h:=rfl
theorem zx (hm:P.follows .mixedOrders=true) (lp:∀f T,tab f=some T->aH P G f T) {f:FuncId} {T:List I->Option I}
 (cA:∀args v,T args=some v->∃n,mQ G (aI P) tab n f args=some v):aH P G f T:=by
 intro args v al ok w dh c6 fr qg
 obtain⟨n,ai⟩:=cA args v al
 unfold mQ at ai
 obtain⟨p,U,h2⟩:=Option.bind_eq_some_iff.1 ai
 obtain⟨u,h'⟩:=p
 obtain⟨q,aB,aS⟩:=Option.map_eq_some_iff.1 h2
 obtain⟨kh,ids⟩:=q
 cases aS
 rw[DS] at U
 have H:cJ w.heap.size ok (fun _=>none) aD w:=⟨fun id b sz h=>(by cases h),fun id blk h=>(by cases h),fun id ix b sz fZ h=>(by cases h),Nat.le_refl _⟩
 have i_:∀b,b<w.heap.size->ok b->bt w.heap.size ok (fun _=>none) aD b:=fun b ad az=> .inl ⟨ad,az⟩
 have st:um w w ok (bt w.heap.size ok (fun _=>none) aD):=fun b o ad _ az=>⟨i_ b (qc ad) az,rfl⟩
 obtain⟨d1,d2⟩:=DG (TH hm lp n) U w.heap.size ok (fun _=>none) w dh H ⟨fun id p h=>(by cases h),fun id ix p nS l s ar h=>(by cases h)⟩ (fun L bh=>absurd bh (by simp)) c6 (fun i ab bY=> .val _ _ ((fr i ab bY).mono st))
  (fun g u aX=>(qg g u aX).mono st (fun _ _ h=>h) (fun _=>Nat.le_refl _)) (fun _ _=>rfl)
 refine .inl ⟨d1,d2.mono fun e aQ eY=>?_⟩
 obtain⟨cv,he,bg,p,TK,_,r,_,_⟩:=eY
 refine⟨cv,he,(SR TK r aB).sj fun b _ ad=>?_,p.below⟩
 rcases ad with ad|ad
 · exact .inl ad.2
 · exact .inr ad.1
end
#print axioms zx
end Go.Eng
