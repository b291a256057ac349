import Derived.Test.YtemiagcencajeaaGreatDoorXmE2
import Derived.RangeFuncRecord
import Derived.OrdersIn
import Derived.RangeFuncLeaves
import Derived.RangeFuncBox
import Derived.LoopNIn
import Derived.RangeFuncNested
import Derived.Scope
set_option linter.unusedSimpArgs false
set_option linter.unusedVariables false
set_option linter.unusedSectionVars false
namespace Go.Eng
open Go Go.RowKit
section
variable {G:Nat->Option I}
theorem aR.eA {F F':Nat->I} {x:aR} (h:∀t∈x.rd,F t=F' t):x.ev G F=x.ev G F':=by
 cases x with
 | t n=>exact h n (by simp[aR.rd])
 | _=>rfl
theorem vS {F F':Nat->I} {xs:List aR} (h:∀t∈xs.flatMap aR.rd,F t=F' t):xs.map (aR.ev G F)=xs.map (aR.ev G F'):=by
 apply List.map_congr_left
 intro x ae
 exact aR.eA fun t aL=>h t (List.mem_flatMap.2 ⟨x,ae,aL⟩)
theorem HG {F F':Nat->I}:∀ {ps:List (Nat × Nat × aR)} {cs:List I},(∀t∈ps.flatMap (fun p=>p.2.2.rd),F t=F' t)->e4 cs (aR.ev G F) ps=e4 cs (aR.ev G F') ps
 | [],cs,_=>rfl
 | (off,sz,x)::ps,cs,h=>by
   have ae:x.ev G F=x.ev G F':=aR.eA fun t aL=>h t (by simp[aL])
   simp only[e4,ae]
   rw[HG (ps:=ps) fun t aL=>h t (by simp only[List.flatMap_cons,List.mem_append];exact .inr aL)]
theorem HH {F F':Nat->I} {sz:Nat}:∀ {ps:List (Nat × aR)} {es:List I},(∀t∈ps.flatMap (fun p=>p.2.rd),F t=F' t)->e5 sz es (aR.ev G F) ps=e5 sz es (aR.ev G F') ps
 | [],es,_=>rfl
 | (i,x)::ps,es,h=>by
   have ae:x.ev G F=x.ev G F':=aR.eA fun t aL=>h t (by simp[aL])
   simp only[e5,ae]
   rw[HH (ps:=ps) fun t aL=>h t (by simp only[List.flatMap_cons,List.mem_append];exact .inr aL)]
theorem B2 {F F':Nat->I} {d:Nat} {x:Option aR} (h:∀t∈aR.xS x,F t=F' t):bound d (aR.ev G F) x=bound d (aR.ev G F') x:=by
 cases x with
 | none=>rfl
 | some x=>simp only[bound];rw[aR.eA (G:=G) (F:=F) (F':=F') (x:=x) h]
theorem Rc {F F':Nat->I} {aZ r:Nat} {h:ai} {op:jZ} (bo:∀t∈op.reads,F t=F' t):evalOp aZ r (aR.ev G F) h op=evalOp aZ r (aR.ev G F') h op:=by
 cases op<;>simp only[evalOp,jZ.reads,List.mem_append] at bo|-
 case mv x=>rw[aR.eA bo]
 case pick c a b=>
  rw[aR.eA (x:=c) fun t aL=>bo t (.inl (.inl aL)),aR.eA (x:=a) fun t aL=>bo t (.inl (.inr aL)),aR.eA (x:=b) fun t aL=>bo t (.inr aL)]
 case box x=>rw[aR.eA bo]
 case build z ps=>rw[HG bo]
 case bsl sz z n ps=>rw[HH bo]
 case load bQ sz x=>rw[aR.eA bo]
 case store sz x y=>rw[aR.eA (x:=x) fun t aL=>bo t (.inl aL),aR.eA (x:=y) fun t aL=>bo t (.inr aL)]
 case bin ty op x y=>rw[aR.eA (x:=x) fun t aL=>bo t (.inl aL),aR.eA (x:=y) fun t aL=>bo t (.inr aL)]
 case eqA tJ n x y=>rw[aR.eA (x:=x) fun t aL=>bo t (.inl aL),aR.eA (x:=y) fun t aL=>bo t (.inr aL)]
 case un op x=>rw[aR.eA bo]
 case conv k x=>rw[aR.eA bo]
 case mkfn f a b=>rw[vS (xs:=a) fun t aL=>bo t (.inl aL),vS (xs:=b) fun t aL=>bo t (.inr aL)]
 case mksl z sz tK x y=>rw[aR.eA (x:=x) fun t aL=>bo t (.inl aL),aR.eA (x:=y) fun t aL=>bo t (.inr aL)]
 case slice sz x cj ab jq=>
  rw[aR.eA (x:=x) fun t aL=>bo t (.inl (.inl (.inl aL)))]
  simp only[B2 (x:=cj) fun t aL=>bo t (.inl (.inl (.inr aL))),B2 (x:=ab) fun t aL=>bo t (.inl (.inr aL)),B2 (x:=jq) fun t aL=>bo t (.inr aL)]
 case faddr bQ off sz x=>rw[aR.eA bo]
 case field bQ off sz x=>rw[aR.eA bo]
 case iaddrS sz x y=>rw[aR.eA (x:=x) fun t aL=>bo t (.inl aL),aR.eA (x:=y) fun t aL=>bo t (.inr aL)]
 case iaddrA bQ n sz x y=>rw[aR.eA (x:=x) fun t aL=>bo t (.inl aL),aR.eA (x:=y) fun t aL=>bo t (.inr aL)]
 case idxA bQ n sz x y=>rw[aR.eA (x:=x) fun t aL=>bo t (.inl aL),aR.eA (x:=y) fun t aL=>bo t (.inr aL)]
 case idxS x y=>rw[aR.eA (x:=x) fun t aL=>bo t (.inl aL),aR.eA (x:=y) fun t aL=>bo t (.inr aL)]
 case extract x i=>rw[aR.eA bo]
 case len s x=>rw[aR.eA bo]
 case mlook x y=>rw[aR.eA (x:=x) fun t aL=>bo t (.inl aL),aR.eA (x:=y) fun t aL=>bo t (.inr aL)]
 case isnil tJ x=>rw[aR.eA bo]
 case app sz tK x y=>rw[aR.eA (x:=x) fun t aL=>bo t (.inl aL),aR.eA (x:=y) fun t aL=>bo t (.inr aL)]
 case min xs=>rw[vS bo]
 case max xs=>rw[vS bo]
def B3 (aZ r:Nat) (a6:aR->I) (h:ai) (op:jZ) (v:I) (h':ai):dN->Prop
 | .pure=>h'=h/\∀h2,evalOp aZ r a6 h2 op=some (v,h2,.pure)
 | .jb=>∃blk,h'=h.new r blk/\∀h2,evalOp aZ r a6 h2 op=some (v,h2.new r blk,.jb)
 | .rd=>h'=h/\∀h2:ai,(∀id,id<aZ->h2.cells id=h.cells id)->evalOp aZ r a6 h2 op=some (v,h2,.rd)
 | .wr=>True
 | .lA id=>h'=h/\id<aZ/\∀h2:ai,h2.cells id=h.cells id->evalOp aZ r a6 h2 op=some (v,h2,.lA id)
 | .lg _=>False
theorem gm {aZ r:Nat} {a6:aR->I} {h h':ai} {op:jZ} {v:I} {c:dN} (X:Option I) (cA:∀h2,evalOp aZ r a6 h2 op=X.map fun v=>(v,h2,.pure))
 (he:evalOp aZ r a6 h op=some (v,h',c)):(h'.next,h'.aU)=(h.next,h.aU)/\B3 aZ r a6 h op v h' c:=by
 rw[cA] at he
 obtain⟨u,hu,he⟩:=Option.map_eq_some_iff.1 he
 cases he
 exact ⟨rfl,rfl,fun h2=>by rw[cA,hu];rfl⟩
theorem B4 {aZ r:Nat} {a6:aR->I} {h h':ai} {op:jZ} {v:I} {c:dN} (X:Option (I × List I)) (cA:∀h2,evalOp aZ r a6 h2 op=X.map fun p=>(p.1,ai.new h2 r p.2,.jb))
 (he:evalOp aZ r a6 h op=some (v,h',c)):(h'.next,h'.aU)=(h.next,h.aU)/\B3 aZ r a6 h op v h' c:=by
 rw[cA] at he
 obtain⟨u,hu,he⟩:=Option.map_eq_some_iff.1 he
 cases he
 exact ⟨rfl,u.2,rfl,fun h2=>by rw[cA,hu];rfl⟩
theorem tL {aZ r:Nat} {a6:aR->I} {h h':ai} {op:jZ} {v:I} {c:dN} (he:evalOp aZ r a6 h op=some (v,h',c)):
 (h'.next,h'.aU)=(h.next,h.aU)/\B3 aZ r a6 h op v h' c:=by
 cases op
 case mv x=>exact gm (some (a6 x)) (fun h2=>rfl) he
 case pick c a b=>
  cases J:a6 c<;>first
   | (simp only[evalOp,J] at he;cases he;done)
   | (rename_i t;exact gm (some (if t then a6 a else a6 b)) (fun h2=>by simp only[evalOp,J];rfl) he)
 case alloc z=>exact B4 (some (.ptr r 0 0,[z])) (fun h2=>rfl) he
 case box x=>
  by_cases aw:(a6 x).cells.all I.cb=true
  · exact B4 (some (.ptr r 0 0,[a6 x])) (fun h2=>by simp only[evalOp,if_pos aw];rfl) he
  · simp only[evalOp,if_neg aw] at he;cases he
 case build z ps=>exact gm ((e4 z a6 ps).map I.agg) (fun h2=>by simp only[evalOp,Option.map_map];rfl) he
 case bsl sz z n ps=>
  by_cases aw:z.cells.length=sz/\0<sz/\z.ei=true
  · exact gm ((e5 sz (List.replicate n z) a6 ps).map fun es=> .sl es true) (fun h2=>by simp only[evalOp,if_pos aw,Option.map_map];rfl) he
  · simp only[evalOp,if_neg aw] at he;cases he
 case load bQ sz x=>
  cases ae:a6 x<;>first
   | (simp only[evalOp,ae] at he;cases he;done)
   | skip
  · rename_i id idx cC
    simp only[evalOp,ae] at he
    obtain⟨blk,U,he⟩:=Option.bind_eq_some_iff.1 he
    obtain⟨e,h2,he⟩:=Option.bind_eq_some_iff.1 he
    obtain⟨cs,aB,he⟩:=Option.bind_eq_some_iff.1 he
    obtain⟨u,aS,he⟩:=Option.map_eq_some_iff.1 he
    cases he
    refine⟨rfl,?_⟩
    by_cases bs:id<aZ
    · rw[if_pos bs]
      refine⟨rfl,bs,fun cK dr=>?_⟩
      simp only[evalOp,ae,dr,U,Option.bind_some,h2,aB,aS,if_pos bs];rfl
    · rw[if_neg bs];trivial
  · rename_i u
    exact gm ((cut u.cells 0 sz).bind (partOf bQ)) (fun h2=>by
     simp only[evalOp,ae]
     cases cut u.cells 0 sz<;>simp) he
 case store sz a w=>
  simp only[evalOp] at he
  split at he
  · split at he<;>try(cases he;done)
    obtain⟨blk,U,he⟩:=Option.bind_eq_some_iff.1 he
    obtain⟨e,h2,he⟩:=Option.bind_eq_some_iff.1 he
    split at he<;>try(cases he;done)
    split at he
    · cases he;exact ⟨rfl,trivial⟩
    · split at he
      · cases he;exact ⟨rfl,trivial⟩
      · cases he
  · cases he
 case bin ty op x y=>exact gm (fM ty op (a6 x) (a6 y)) (fun h2=>rfl) he
 case mlook x y=>
  cases ae:a6 x<;>first
   | (simp only[evalOp,ae] at he;cases he;done)
   | skip
  rename_i m
  cases aQ:a6 y<;>first
   | (simp only[evalOp,ae,aQ] at he;cases he;done)
   | skip
  rename_i k n
  cases k<;>first
   | (simp only[evalOp,ae,aQ] at he;cases he;done)
   | (exact gm (some (.bL [match m.lookup n with
       | some f=> .fn f [] []
       | none=> .nilfn,.bool (m.lookup n).isSome])) (fun h2=>by simp only[evalOp,ae,aQ];rfl) he)
 case isnil tJ x=>
  cases ae:a6 x<;>first
   | (simp only[evalOp,ae] at he;cases he;done)
   | skip
  · rename_i xs ex
    exact gm (if 0<xs.length then some (.bool tJ) else none) (fun h2=>by simp only[evalOp,ae];split<;>rfl) he
  · rename_i id off len cap
    exact gm (if 0<len\/0<cap then some (.bool tJ) else none) (fun h2=>by simp only[evalOp,ae];split<;>rfl) he
 case eqA tJ n x y=>
  cases ae:a6 x<;>first
   | (simp only[evalOp,ae] at he;cases he;done)
   | skip
  cases aQ:a6 y<;>first
   | (simp only[evalOp,ae,aQ] at he;cases he;done)
   | skip
  rename_i xs ys
  by_cases ak:xs.length=n
  · exact gm ((e3 xs ys).map fun b=> .bool (b != tJ)) (fun h2=>by simp only[evalOp,ae,aQ,if_pos ak,Option.map_map];rfl) he
  · simp only[evalOp,ae,aQ,if_neg ak] at he;cases he
 case un op x=>exact gm (fN op (a6 x)) (fun h2=>rfl) he
 case conv k x=>
  cases ae:a6 x<;>first
   | (simp only[evalOp,ae] at he;cases he;done)
   | (rename_i k' n;exact gm (some (.int k (k.wrap n))) (fun h2=>by simp only[evalOp,ae];rfl) he)
 case mkfn f a b=>exact gm (some (.fn f (a.map a6) (b.map a6))) (fun h2=>rfl) he
 case mksl z sz bytes l c=>
  cases ae:a6 l<;>first
   | (simp only[evalOp,ae] at he;cases he;done)
   | skip
  cases aQ:a6 c<;>first
   | (simp only[evalOp,ae,aQ] at he;cases he;done)
   | skip
  rename_i k a k' b
  by_cases ak:0<=a/\a<=b/\b*bytes<=140737488355328/\0<bytes/\z.cells.length=sz/\0<sz/\(z.cells.all I.cb)=true
  · exact B4 (some (.ref r 0 a.toNat b.toNat,List.replicate b.toNat z)) (fun h2=>by simp only[evalOp,ae,aQ,if_pos ak];rfl) he
  · simp only[evalOp,ae,aQ,if_neg ak] at he;cases he
 case slice sz x cj ab jq=>
  cases ae:a6 x<;>first
   | (simp only[evalOp,ae] at he;cases he;done)
   | skip
  · rename_i xs ex
    refine gm (match bound 0 a6 cj,bound xs.length a6 ab,bound xs.length a6 jq with
     | some l,some u,some m=>if l<=u/\u<=m/\m<=xs.length/\(l=0\/(xs.all fun e=>e.cells.length == sz)=true) then some (.sl ((xs.drop l).take (u - l)) ((jq.isSome||ex)&&m == u)) else none
     | _,_,_=>none) (fun h2=>?_) he
    simp only[evalOp,ae]
    cases bound 0 a6 cj<;>cases bound xs.length a6 ab<;>cases bound xs.length a6 jq<;>simp only[Option.map_none]
    split<;>rfl
  · rename_i id off len cap
    simp only[evalOp,ae] at he
    split at he<;>try(cases he;done)
    rename_i l u m b1 dW kO
    split at he<;>try(cases he;done)
    rename_i aN
    cases he
    refine⟨rfl,?_⟩
    by_cases bs:id<aZ
    · rw[if_pos bs]
      refine⟨rfl,fun cK dr=>?_⟩
      simp only[evalOp,ae,b1,dW,kO,dr id bs,if_pos aN,if_pos bs]
    · rw[if_neg bs];trivial
 case faddr bQ off sz x=>
  cases ae:a6 x<;>first
   | (simp only[evalOp,ae] at he;cases he;done)
   | skip
  · rename_i id idx cC
    exact gm (some (.ptr id idx (cC+off))) (fun h2=>by simp only[evalOp,ae];rfl) he
  · rename_i u
    exact gm (((cut u.cells off sz).bind (partOf bQ)).map I.eJ) (fun h2=>by
     simp only[evalOp,ae]
     cases cut u.cells off sz<;>simp[Function.comp_def]) he
 case field bQ off sz x=>
  cases ae:a6 x<;>first
   | (simp only[evalOp,ae] at he;cases he;done)
   | skip
  rename_i cs
  exact gm ((cut cs off sz).bind (partOf bQ)) (fun h2=>by
   simp only[evalOp,ae]
   cases cut cs off sz<;>simp) he
 case iaddrS sz x i=>
  cases ae:a6 x<;>first
   | (simp only[evalOp,ae] at he;cases he;done)
   | skip
  · cases aQ:a6 i<;>first
     | (simp only[evalOp,ae,aQ] at he;cases he;done)
     | skip
    rename_i xs ex k n
    refine gm (if 0<=n then (xs[n.toNat]?).bind fun e=>if e.cells.length=sz then some (.eJ e) else none else none) (fun h2=>?_) he
    simp only[evalOp,ae,aQ]
    split
    · cases xs[n.toNat]? with
      | none=>rfl
      | some e=>simp only[Option.bind_some];split<;>rfl
    · rfl
  · cases aQ:a6 i<;>first
     | (simp only[evalOp,ae,aQ] at he;cases he;done)
     | skip
    rename_i id off len cap k n
    simp only[evalOp,ae,aQ] at he
    split at he<;>try(cases he;done)
    rename_i aN
    cases he
    refine⟨rfl,?_⟩
    by_cases bs:id<aZ
    · rw[if_pos bs]
      refine⟨rfl,fun cK dr=>?_⟩
      simp only[evalOp,ae,aQ,dr id bs,if_pos aN,if_pos bs]
    · rw[if_neg bs];trivial
 case iaddrA bQ n sz x i=>
  cases ae:a6 x<;>first
   | (simp only[evalOp,ae] at he;cases he;done)
   | skip
  · cases aQ:a6 i<;>first
     | (simp only[evalOp,ae,aQ] at he;cases he;done)
     | skip
    rename_i id idx cC k j
    refine gm (if 0<=j/\j<n then some (.ptr id idx (cC+j.toNat*sz)) else none) (fun h2=>?_) he
    simp only[evalOp,ae,aQ]
    split<;>rfl
  · cases aQ:a6 i<;>first
     | (simp only[evalOp,ae,aQ] at he;cases he;done)
     | skip
    rename_i u k j
    refine gm (if 0<=j/\j<n then ((cut u.cells (j.toNat*sz) sz).bind (partOf bQ)).map I.eJ else none) (fun h2=>?_) he
    simp only[evalOp,ae,aQ]
    split
    · cases cut u.cells (j.toNat*sz) sz<;>simp[Function.comp_def]
    · rfl
 case idxA bQ n sz x i=>
  cases ae:a6 x<;>first
   | (simp only[evalOp,ae] at he;cases he;done)
   | skip
  cases aQ:a6 i<;>first
   | (simp only[evalOp,ae,aQ] at he;cases he;done)
   | skip
  rename_i cs k j
  refine gm (if 0<=j/\j<n then (cut cs (j.toNat*sz) sz).bind (partOf bQ) else none) (fun h2=>?_) he
  simp only[evalOp,ae,aQ]
  split
  · cases cut cs (j.toNat*sz) sz<;>simp
  · rfl
 case idxS x i=>
  cases ae:a6 x<;>first
   | (simp only[evalOp,ae] at he;cases he;done)
   | skip
  cases aQ:a6 i<;>first
   | (simp only[evalOp,ae,aQ] at he;cases he;done)
   | skip
  rename_i s k j
  refine gm (if 0<=j then (s[j.toNat]?).map fun b=> .int .u8 b.toNat else none) (fun h2=>?_) he
  simp only[evalOp,ae,aQ]
  split
  · simp[Option.map_map,Function.comp_def]
  · rfl
 case extract x i=>
  cases ae:a6 x<;>first
   | (simp only[evalOp,ae] at he;cases he;done)
   | skip
  rename_i vs
  exact gm (vs[i]?) (fun h2=>by simp only[evalOp,ae]) he
 case call f as=>simp only[evalOp] at he;cases he
 case len s x=>
  cases ae:a6 x<;>first
   | (simp only[evalOp,ae] at he;cases he;done)
   | skip
  · rename_i st
    refine gm (if s=true then some (.int .i64 st.size) else none) (fun h2=>?_) he
    simp only[evalOp,ae];split<;>rfl
  · rename_i xs ex
    refine gm (if s=false then some (.int .i64 xs.length) else none) (fun h2=>?_) he
    simp only[evalOp,ae];split<;>rfl
  · rename_i id off len cap
    refine gm (if s=false then some (.int .i64 len) else none) (fun h2=>?_) he
    simp only[evalOp,ae];split<;>rfl
 case app sz bytes x y=>
  simp only[evalOp] at he
  obtain⟨ys,U,he⟩:=Option.bind_eq_some_iff.1 he
  split at he<;>try(cases he;done)
  rename_i aN
  split at he
  · rename_i xs ex ae
    split at he
    · rename_i jL
      cases he
      refine⟨rfl,?_⟩
      cases aQ:a6 y<;>simp only[kl]<;>try trivial
      refine⟨rfl,fun h2=>?_⟩
      rw[aQ] at U
      simp only[elems] at U
      cases U
      simp only[evalOp,aQ,elems,Option.bind_some,if_pos aN,ae,if_pos jL,kl,if_true]
    rename_i jL
    split at he<;>try(cases he;done)
    rename_i l1
    cases he
    refine⟨rfl,?_⟩
    cases aQ:a6 y<;>simp only[kl]<;>try trivial
    refine⟨_,rfl,fun h2=>?_⟩
    rw[aQ] at U
    simp only[elems] at U
    cases U
    simp only[evalOp,aQ,elems,Option.bind_some,if_pos aN,ae,if_neg jL,if_pos l1,kl,if_true]
  · rename_i id off len cap ae
    split at he
    · rename_i jL
      cases he
      refine⟨rfl,?_⟩
      cases aQ:a6 y<;>simp only[kl]<;>try trivial
      refine⟨rfl,fun h2=>?_⟩
      rw[aQ] at U
      simp only[elems] at U
      cases U
      simp only[evalOp,aQ,elems,Option.bind_some,if_pos aN,ae,if_pos jL,kl,if_true]
    split at he<;>try(cases he;done)
    obtain⟨blk,h2,he⟩:=Option.bind_eq_some_iff.1 he
    split at he<;>try(cases he;done)
    split at he
    · split at he<;>try(cases he;done)
      cases he;exact ⟨rfl,trivial⟩
    · split at he<;>try(cases he;done)
      cases he;exact ⟨rfl,trivial⟩
  · cases he
 case min xs=>exact gm (jI (fun a b=>if b<a then b else a) (xs.map a6)) (fun h2=>rfl) he
 case max xs=>exact gm (jI (fun a b=>if a<b then b else a) (xs.map a6)) (fun h2=>rfl) he
end
end Go.Eng
namespace Go.Eng
open Go Go.RowKit
theorem HI {h h2:ai} {v u:I} {ids:List Nat} (ay:dz h v=some (u,ids)) (J:∀id∈ids,h2.cells id=h.cells id):dz h2 v=some (u,ids):=by
 cases v<;>simp only[dz] at ay|- <;>try(first|exact ay|cases ay)
 rename_i id off len cap
 split at ay<;>try(cases ay;done)
 rename_i blk ad
 split at ay<;>try(cases ay;done)
 rename_i aN
 cases ay
 rw[J id (by simp),ad]
 simp only[if_pos aN]
theorem HJ {h h2:ai}:∀ {vs us:List I} {ids:List Nat},eE h vs=some (us,ids)->(∀id∈ids,h2.cells id=h.cells id)->eE h2 vs=some (us,ids)
 | [],us,ids,ay,_=>by simp only[eE] at ay|-;exact ay
 | v::vs,us,ids,ay,J=>by
   simp only[eE] at ay|-
   split at ay<;>try(cases ay;done)
   rename_i j1 a mh b U rZ
   cases ay
   rw[HI U fun id bs=>J id (by simp[bs]),HJ rZ fun id bs=>J id (by simp[bs])]
theorem Rd {h h2:ai} {v u:I} {ids:List Nat} (ay:gF h v=some (u,ids)) (J:∀id∈ids,h2.cells id=h.cells id):gF h2 v=some (u,ids):=by
 cases v<;>simp only[gF] at ay|- <;>try(exact HI ay J)
 obtain⟨p,U,he⟩:=Option.map_eq_some_iff.1 ay
 cases he
 rw[HJ U J];rfl
theorem yk {h h2:ai}:∀ {vs us:List I} {ids:List Nat},eo h vs=some (us,ids)->(∀id∈ids,h2.cells id=h.cells id)->eo h2 vs=some (us,ids)
 | [],us,ids,ay,_=>by simp only[eo] at ay|-;exact ay
 | v::vs,us,ids,ay,J=>by
   simp only[eo] at ay|-
   split at ay<;>try(cases ay;done)
   rename_i j1 a mh b U rZ
   cases ay
   rw[Rd U fun id bs=>J id (by simp[bs]),yk rZ fun id bs=>J id (by simp[bs])]
theorem tM (h:ai) {bF dg:Nat} (b1 dW:List I) (bO:bF≠dg):(h.new bF b1).new dg dW=(h.new dg dW).new bF b1:=by
 simp only[ai.new,ai.mk.injEq,and_true]
 funext t
 simp only[ar]
 by_cases U:t=bF<;>by_cases h2:t=dg<;>simp_all
theorem oO (h:ai) {r id:Nat} (b:List I) (bO:id≠r):(h.new r b).cells id=h.cells id:=by
 simp only[ai.new,ar,if_neg bO]
theorem Re {aZ q:Nat} {a6:aR->I} {h h':ai} {op:jZ} {v:I} {c:dN} {r:Nat} {blk:List I} (he:evalOp aZ q a6 h op=some (v,h',c)) (ak:h.cells r=none) (oP:r≠q):
 evalOp aZ q a6 (h.new r blk) op=some (v,h'.new r blk,c)/\h'.cells r=none:=by
 have bO:∀ {id b},h.cells id=some b->id≠r:=by rintro id b ad rfl;rw[ak] at ad;cases ad
 have pN:∀ {id b},h.cells id=some b->(h.new r blk).cells id=some b:=fun ad=>by rw[oO _ _ (bO ad)];exact ad
 have cW:∀ {sz id},sizedB sz (h.cells id)=true->sizedB sz ((h.new r blk).cells id)=true:=fun {sz id} aw=>by
  cases ad:h.cells id with
  | none=>rw[ad] at aw;cases aw
  | some b=>rw[pN ad,<-ad];exact aw
 have kN:∀ {y ys},elems h y=some ys->elems (h.new r blk) y=some ys:=fun {y ys} aQ=>by
  cases y<;>simp only[elems] at aQ|- <;>try(first|exact aQ|cases aQ)
  split at aQ<;>try(cases aQ;done)
  rename_i b ad
  rw[pN ad];exact aQ
 obtain⟨_,E⟩:=tL he
 have pu:c= .pure->evalOp aZ q a6 (h.new r blk) op=some (v,h'.new r blk,c)/\h'.cells r=none:=by
  rintro rfl
  obtain⟨rfl,au⟩:=E
  exact ⟨au _,ak⟩
 have jb:c= .jb->evalOp aZ q a6 (h.new r blk) op=some (v,h'.new r blk,c)/\h'.cells r=none:=by
  rintro rfl
  obtain⟨dW,rfl,au⟩:=E
  exact ⟨by rw[au,tM _ _ _ oP],by rw[oO _ _ oP];exact ak⟩
 clear E
 cases op
 case load bQ sz x=>
  cases ae:a6 x<;>(try(simp only[evalOp,ae] at he;cases he;done))
  · rename_i id idx cC
    simp only[evalOp,ae] at he|-
    obtain⟨b,ad,he⟩:=Option.bind_eq_some_iff.1 he
    obtain⟨e,U,he⟩:=Option.bind_eq_some_iff.1 he
    obtain⟨cs,h2,he⟩:=Option.bind_eq_some_iff.1 he
    obtain⟨u,aB,he⟩:=Option.map_eq_some_iff.1 he
    cases he
    exact ⟨by simp only[pN ad,Option.bind_some,U,h2,aB,Option.map_some],ak⟩
  · refine pu ?_
    simp only[evalOp,ae] at he
    obtain⟨cs,h2,he⟩:=Option.bind_eq_some_iff.1 he
    obtain⟨u,aB,he⟩:=Option.map_eq_some_iff.1 he
    cases he;rfl
 case store sz a x=>
  cases ae:a6 a<;>(try(simp only[evalOp,ae] at he;cases he;done))
  rename_i id idx cC
  simp only[evalOp,ae] at he|-
  split at he<;>try(cases he;done)
  rename_i aw
  obtain⟨b,ad,he⟩:=Option.bind_eq_some_iff.1 he
  obtain⟨e,U,he⟩:=Option.bind_eq_some_iff.1 he
  have qF:=bO ad
  split at he<;>try(cases he;done)
  rename_i aN
  rw[if_neg (show ¬(h.new r blk).shut id=true from aw),pN ad]
  simp only[Option.bind_some,U,if_pos aN]
  split at he
  · cases he
    exact ⟨by rw[tM _ _ _ (Ne.symm qF)],by rw[oO _ _ (Ne.symm qF)];exact ak⟩
  · split at he<;>try(cases he;done)
    cases he
    exact ⟨by rw[tM _ _ _ (Ne.symm qF)],by rw[oO _ _ (Ne.symm qF)];exact ak⟩
 case slice sz x cj ab jq=>
  cases ae:a6 x<;>(try(simp only[evalOp,ae] at he;cases he;done))
  · refine pu ?_
    simp only[evalOp,ae] at he
    split at he<;>try(cases he;done)
    split at he<;>try(cases he;done)
    cases he;rfl
  · rename_i id off len cap
    simp only[evalOp,ae] at he|-
    split at he<;>try(cases he;done)
    split at he<;>try(cases he;done)
    rename_i aN
    cases he
    rw[if_pos ⟨aN.1,aN.2.1,aN.2.2.1,aN.2.2.2.imp (fun h=>h) cW⟩]
    exact ⟨rfl,ak⟩
 case iaddrS sz x i=>
  cases ae:a6 x<;>(try(simp only[evalOp,ae] at he;cases he;done))
  · refine pu ?_
    cases ab:a6 i<;>(try(simp only[evalOp,ae,ab] at he;cases he;done))
    simp only[evalOp,ae,ab] at he
    split at he<;>try(cases he;done)
    obtain⟨e,U,he⟩:=Option.bind_eq_some_iff.1 he
    split at he<;>try(cases he;done)
    cases he;rfl
  · rename_i id off len cap
    cases ab:a6 i<;>(try(simp only[evalOp,ae,ab] at he;cases he;done))
    simp only[evalOp,ae,ab] at he|-
    split at he<;>try(cases he;done)
    rename_i aN
    cases he
    rw[if_pos ⟨aN.1,aN.2.1,cW aN.2.2⟩]
    exact ⟨rfl,ak⟩
 case app sz bytes x y=>
  simp only[evalOp] at he|-
  obtain⟨ys,aQ,he⟩:=Option.bind_eq_some_iff.1 he
  simp only[kN aQ,Option.bind_some]
  split at he<;>try(cases he;done)
  rename_i aN
  rw[if_pos aN]
  cases ae:a6 x<;>(try(simp only[ae] at he;cases he;done))
  · simp only[ae] at he|-
    split at he
    · rename_i aF
      cases he
      rw[if_pos aF];exact ⟨rfl,ak⟩
    · rename_i aF
      split at he<;>try(cases he;done)
      rename_i U
      cases he
      rw[if_neg aF,if_pos U]
      exact ⟨by rw[tM _ _ _ oP],by rw[oO _ _ oP];exact ak⟩
  · rename_i id off len cap
    simp only[ae] at he|-
    split at he
    · rename_i aF
      cases he
      rw[if_pos aF];exact ⟨rfl,ak⟩
    · rename_i aF
      split at he<;>try(cases he;done)
      rename_i aw
      obtain⟨b,ad,he⟩:=Option.bind_eq_some_iff.1 he
      have qF:=bO ad
      rw[if_neg aF,if_neg (show ¬(h.new r blk).shut id=true from aw),pN ad]
      simp only[Option.bind_some]
      split at he<;>try(cases he;done)
      rename_i U
      rw[if_pos U]
      split at he
      · rename_i h2
        rw[if_pos h2]
        split at he<;>try(cases he;done)
        rename_i aB
        cases he
        rw[if_pos aB]
        exact ⟨by rw[tM _ _ _ (Ne.symm qF)],by rw[oO _ _ (Ne.symm qF)];exact ak⟩
      · rename_i h2
        rw[if_neg h2]
        split at he<;>try(cases he;done)
        rename_i aB
        cases he
        rw[if_pos aB]
        refine⟨?_,by simp only[ar];rw[if_neg oP,if_neg (Ne.symm qF)];exact ak⟩
        simp only[ai.new,Option.some.injEq,Prod.mk.injEq,ai.mk.injEq,and_true,true_and]
        funext t
        simp only[ar]
        by_cases t1:t=r<;>by_cases t2:t=id<;>by_cases t3:t=q<;>simp_all
 all_goals
  cases c with
  | pure=>exact pu rfl
  | jb=>exact jb rfl
  | _=>
    exfalso
    simp only[evalOp] at he
    repeat' split at he
    all_goals first
     | (cases he;done)
     | (obtain⟨_,_,he⟩:=Option.map_eq_some_iff.1 he;cases he;done)
     | (obtain⟨_,_,he⟩:=Option.bind_eq_some_iff.1 he;obtain⟨_,_,he⟩:=Option.map_eq_some_iff.1 he;cases he;done)
     | (obtain⟨_,_,he⟩:=Option.bind_eq_some_iff.1 he;split at he<;>cases he;done)
theorem HK {h:ai} {v u:I} {ids:List Nat} (ay:dz h v=some (u,ids)):∀id∈ids,∃b,h.cells id=some b:=by
 cases v<;>simp only[dz] at ay<;>try(first|(cases ay;done)|(cases ay;intro id bs;cases bs;done))
 split at ay<;>try(cases ay;done)
 rename_i b ad
 split at ay<;>try(cases ay;done)
 cases ay
 intro id bs
 rw[List.mem_singleton] at bs
 subst bs
 exact ⟨b,ad⟩
theorem HL {h:ai}:∀ {vs us:List I} {ids:List Nat},eE h vs=some (us,ids)->∀id∈ids,∃b,h.cells id=some b
 | [],us,ids,ay=>by simp only[eE] at ay;cases ay;intro id bs;cases bs
 | v::vs,us,ids,ay=>by
   simp only[eE] at ay
   split at ay<;>try(cases ay;done)
   rename_i j1 a mh b U rZ
   cases ay
   intro id bs
   rcases List.mem_append.1 bs with bs|bs
   · exact HK U id bs
   · exact HL rZ id bs
theorem Rf {h:ai} {v u:I} {ids:List Nat} (ay:gF h v=some (u,ids)):∀id∈ids,∃b,h.cells id=some b:=by
 cases v<;>simp only[gF] at ay<;>try(exact HK ay)
 obtain⟨p,U,he⟩:=Option.map_eq_some_iff.1 ay
 cases he
 exact HL U
theorem HM {h:ai}:∀ {vs us:List I} {ids:List Nat},eo h vs=some (us,ids)->∀id∈ids,∃b,h.cells id=some b
 | [],us,ids,ay=>by simp only[eo] at ay;cases ay;intro id bs;cases bs
 | v::vs,us,ids,ay=>by
   simp only[eo] at ay
   split at ay<;>try(cases ay;done)
   rename_i j1 a mh b U rZ
   cases ay
   intro id bs
   rcases List.mem_append.1 bs with bs|bs
   · exact Rf U id bs
   · exact HM rZ id bs
theorem Rg {h:ai} {vs us:List I} {ids:List Nat} {r:Nat} {blk:List I} (ay:eo h vs=some (us,ids)) (ak:h.cells r=none):eo (h.new r blk) vs=some (us,ids):=
 yk ay fun id bs=>oO _ _ (by
  rintro rfl
  obtain⟨b,ad⟩:=HM ay _ bs
  rw[ak] at ad;cases ad)
def qG (cc:kM->List I->ai->Option (I × ai)):Prop:=
 ∀t args h v h' r blk,cc t args h=some (v,h')->h.cells r=none->r<h.next->cc t args (h.new r blk)=some (v,h'.new r blk)/\h'.cells r=none/\h.next<=h'.next
theorem Rh {aZ:Nat} {h h':ai} {r:Nat} {blk:List I} (ak:h.cells r=none) (oQ:h'.cells r=none):qt aZ (h.new r blk) (h'.new r blk)=qt aZ h h':=by
 funext id
 simp only[qt]
 by_cases e:id=r
 · subst e
   simp only[ai.new,ar,if_true,ak,oQ,xU]
 · rw[oO _ _ e,oO _ _ e]
theorem HN {G:Nat->Option I} {tab:FuncId->Option (List I->Option I)} {cc:kM->List I->ai->Option (I × ai)} (a_:qG cc) {aZ q:Nat} {e:aY} {s an:aK} {c:dN} {r:Nat} {blk:List I}
 (he:c4 G tab cc aZ q e s=some (an,c)) (ak:s.h.cells r=none) (aT:r<s.h.next) (oP:r≠q):
 c4 G tab cc aZ q e ⟨s.F,s.h.new r blk⟩=some (⟨an.F,an.h.new r blk⟩,c)/\an.h.cells r=none/\s.h.next<=an.h.next:=by
 unfold c4 at he|-
 split at he
 · split at he
   · split at he
     · split at he<;>try(cases he;done)
       rename_i vs ids ay
       obtain⟨v,al,he⟩:=Option.map_eq_some_iff.1 he
       cases he
       simp_all only
       refine⟨?_,ak,Nat.le_refl _⟩
       simp only[Rg ay ak,al,Option.map_some]
       rfl
     · obtain⟨p,al,he⟩:=Option.map_eq_some_iff.1 he
       obtain⟨v,h'⟩:=p
       cases he
       obtain⟨bq,b',cY⟩:=a_ _ _ _ _ _ r blk al ak aT
       simp_all only
       refine⟨?_,by first|exact b'|trivial,by first|exact cY|trivial⟩
       simp only[bq,Option.map_some,Rh ak b']
   · obtain⟨p,al,he⟩:=Option.map_eq_some_iff.1 he
     obtain⟨v,h'⟩:=p
     cases he
     obtain⟨bq,b',cY⟩:=a_ _ _ _ _ _ r blk al ak aT
     simp_all only
     exact ⟨by simp only[bq,Option.map_some],by first|exact b'|trivial,by first|exact cY|trivial⟩
   · cases he
 · obtain⟨p,al,he⟩:=Option.map_eq_some_iff.1 he
   obtain⟨v,h',c'⟩:=p
   cases he
   obtain⟨bq,b'⟩:=Re (blk:=blk) al ak oP
   have cY:=(tL al).1
   simp only[Prod.mk.injEq] at cY
   exact ⟨by simp only[bq,Option.map_some],b',by simp only[cY.1];exact Nat.le_refl _⟩
theorem B5 {G:Nat->Option I} {tab:FuncId->Option (List I->Option I)} {cc:kM->List I->ai->Option (I × ai)} (a_:qG cc) {aZ q:Nat} {e:aY} {s an:aK} {c:dN} {r:Nat} {blk:List I}
 (he:cJ G tab cc aZ q e s=some (an,c)) (ak:s.h.cells r=none) (aT:r<s.h.next) (oP:r≠q):
 cJ G tab cc aZ q e ⟨s.F,s.h.new r blk⟩=some (⟨an.F,an.h.new r blk⟩,c)/\an.h.cells r=none/\s.h.next<=an.h.next:=by
 unfold cJ at he|-
 split at he
 · exact HN a_ he ak aT oP
 · split at he
   · rename_i b ad
     split at he
     · rename_i hw
       simp only[ad,if_pos hw]
       exact HN a_ he ak aT oP
     · rename_i hw
       cases he
       simp only[ad,if_neg hw]
       exact ⟨by first|rfl|trivial,ak,Nat.le_refl _⟩
   · rename_i ad
     cases he
     simp only[ad]
     exact ⟨by first|rfl|trivial,ak,Nat.le_refl _⟩
   · cases he
theorem r1 (h:ai):h.close []=h:=by
 cases h;simp[ai.close]
section
variable {G:Nat->Option I} {tab:FuncId->Option (List I->Option I)} {cc:kM->List I->ai->Option (I × ai)}
def HO (G:Nat->Option I) (tab:FuncId->Option (List I->Option I)) (cc:kM->List I->ai->Option (I × ai)) (aZ r:Nat) (e:aY) (s:aK) (v:I) (h':ai):dN->Prop
 | .pure=>h'=s.h/\∀cw h2,(∀t∈e.reads,cw t=s.F t)->cJ G tab cc aZ r e ⟨cw,h2⟩=some (⟨cI cw e.dst v,h2⟩,.pure)
 | .jb=>∃blk,h'=s.h.new r blk/\∀cw h2,(∀t∈e.reads,cw t=s.F t)->cJ G tab cc aZ r e ⟨cw,h2⟩=some (⟨cI cw e.dst v,h2.new r blk⟩,.jb)
 | .rd=>∃ids,h'=s.h.close ids/\∀cw (h2:ai),(∀t∈e.reads,cw t=s.F t)->(∀id,id<aZ->h2.cells id=s.h.cells id)->cJ G tab cc aZ r e ⟨cw,h2⟩=some (⟨cI cw e.dst v,h2.close ids⟩,.rd)
 | .wr=>∀cw,(∀t∈e.reads,cw t=s.F t)->cJ G tab cc aZ r e ⟨cw,s.h⟩=some (⟨cI cw e.dst v,h'⟩,.wr)
 | .lA id=>h'=s.h/\id<aZ/\∀cw (h2:ai),(∀t∈e.reads,cw t=s.F t)->h2.cells id=s.h.cells id->cJ G tab cc aZ r e ⟨cw,h2⟩=some (⟨cI cw e.dst v,h2⟩,.lA id)
 | .lg qs=>(∀id,qs id=true->h'.cells id=s.h.cells id)/\∀cw,(∀t∈e.reads,cw t=s.F t)->cJ G tab cc aZ r e ⟨cw,s.h⟩=some (⟨cI cw e.dst v,h'⟩,.lg qs)
theorem HP {aZ r:Nat} {e:aY} {s an:aK} {c:dN} (aW:c4 G tab cc aZ r e s=some (an,c))
 (cl:∀cw h2,(∀t∈e.reads,cw t=s.F t)->cJ G tab cc aZ r e ⟨cw,h2⟩=c4 G tab cc aZ r e ⟨cw,h2⟩):
 ∃v h',an=⟨cI s.F e.dst v,h'⟩/\HO G tab cc aZ r e s v h' c:=by
 have HQ:∀t∈e.op.reads,t∈e.reads:=fun t aL=>by simp only[aY.reads,List.mem_append];exact .inr aL
 by_cases jg:∃f args,e.op= .call f args
 · obtain⟨f,args,cA⟩:=jg
   have vT:∀cw,(∀t∈e.reads,cw t=s.F t)->f.ev G cw=f.ev G s.F/\args.map (aR.ev G cw)=args.map (aR.ev G s.F):=by
    intro cw h2
    have aB:∀t∈e.op.reads,cw t=s.F t:=fun t aL=>h2 t (HQ t aL)
    rw[cA] at aB
    simp only[jZ.reads,List.mem_append] at aB
    exact ⟨aR.eA fun t aL=>aB t (.inl aL),vS fun t aL=>aB t (.inr aL)⟩
   unfold c4 at aW
   simp only[cA] at aW
   split at aW<;>try(cases aW;done)
   rotate_left
   · rename_i id a_
     obtain⟨p,al,aW⟩:=Option.map_eq_some_iff.1 aW
     cases aW
     refine⟨p.1,p.2,rfl,fun cw dr=>?_⟩
     rw[cl cw s.h dr]
     obtain⟨aq,au⟩:=vT cw dr
     unfold c4
     simp only[cA,aq,a_,au,al,Option.map_some]
   rename_i n first caps a_
   split at aW
   · rename_i T ct
     split at aW<;>try(cases aW;done)
     rename_i vs ids ay
     obtain⟨v,al,aW⟩:=Option.map_eq_some_iff.1 aW
     cases aW
     refine⟨v,_,rfl,?_⟩
     by_cases ab:ids.isEmpty=true
     · rw[if_pos ab]
       have Ri:ids= []:=by simpa using ab
       subst Ri
       refine⟨r1 _,fun cw h2 dr=>?_⟩
       rw[cl cw h2 dr]
       obtain⟨aq,au⟩:=vT cw dr
       unfold c4
       simp only[cA,aq,a_,ct,au,yk ay (h2:=h2) (fun id bs=>absurd bs (by simp)),al,Option.map_some,r1]
       rfl
     · rw[if_neg ab]
       by_cases ak:ids.all (fun i=>decide (i<aZ))=true
       · rw[if_pos ak]
         refine⟨ids,rfl,fun cw h2 dr J=>?_⟩
         rw[cl cw h2 dr]
         obtain⟨aq,au⟩:=vT cw dr
         unfold c4
         simp only[cA,aq,a_,ct,au,yk ay (h2:=h2) (fun id bs=>J id (by simpa using List.all_eq_true.1 ak id bs)),al,Option.map_some,if_neg ab,if_pos ak]
       · rw[if_neg ak]
         intro cw dr
         rw[cl cw s.h dr]
         obtain⟨aq,au⟩:=vT cw dr
         unfold c4
         simp only[cA,aq,a_,ct,au,ay,al,Option.map_some,if_neg ab,if_neg ak]
   · rename_i ct
     obtain⟨p,al,aW⟩:=Option.map_eq_some_iff.1 aW
     cases aW
     refine⟨p.1,p.2,rfl,fun id ag=>?_,fun cw dr=>?_⟩
     · simp only[qt,Bool.and_eq_true] at ag
       exact (Qe ag.2).symm
     rw[cl cw s.h dr]
     obtain⟨aq,au⟩:=vT cw dr
     unfold c4
     simp only[cA,aq,a_,ct,au,al,Option.map_some]
 · have rX:∀kr,c4 G tab cc aZ r e kr=(evalOp aZ r (aR.ev G kr.F) kr.h e.op).map fun(v,h',c)=>(⟨cI kr.F e.dst v,h'⟩,c):=by
    intro kr
    unfold c4
    split
    · exact absurd ⟨_,_,‹_›⟩ jg
    · rfl
   rw[rX] at aW
   obtain⟨p,aE,aW⟩:=Option.map_eq_some_iff.1 aW
   obtain⟨v,h',cD⟩:=p
   have B6:(⟨cI s.F e.dst v,h'⟩:aK)=an:=congrArg Prod.fst aW
   have Rj:cD=c:=congrArg Prod.snd aW
   subst B6;subst Rj
   refine⟨v,h',rfl,?_⟩
   obtain⟨_,E⟩:=tL aE
   have key:∀cw h2,(∀t∈e.reads,cw t=s.F t)->cJ G tab cc aZ r e ⟨cw,h2⟩=(evalOp aZ r (aR.ev G s.F) h2 e.op).map fun(v,h',c)=>(⟨cI cw e.dst v,h'⟩,c):=by
    intro cw h2 dr
    rw[cl cw h2 dr,rX]
    simp only
    rw[Rc (F:=cw) (F':=s.F) fun t aL=>dr t (HQ t aL)]
   cases cD with
   | pure=>
     obtain⟨aq,au⟩:=E
     exact ⟨aq,fun cw h2 dr=>by rw[key cw h2 dr,au h2];rfl⟩
   | jb=>
     obtain⟨blk,aq,au⟩:=E
     exact ⟨blk,aq,fun cw h2 dr=>by rw[key cw h2 dr,au h2];rfl⟩
   | rd=>
     obtain⟨aq,au⟩:=E
     refine⟨[],by rw[r1];exact aq,fun cw h2 dr J=>?_⟩
     rw[key cw h2 dr,au h2 J,r1];rfl
   | wr=>exact fun cw dr=>by rw[key cw s.h dr,aE];rfl
   | lA id=>
     obtain⟨aq,aV,au⟩:=E
     exact ⟨aq,aV,fun cw h2 dr J=>by rw[key cw h2 dr,au h2 J];rfl⟩
   | lg k=>exact E.elim
theorem HR {aZ r:Nat} {e:aY} {s an:aK} {c:dN} (aW:cJ G tab cc aZ r e s=some (an,c)):
 ∃v h',an=⟨cI s.F e.dst v,h'⟩/\HO G tab cc aZ r e s v h' c:=by
 cases qH:e.guard with
 | none=>
   have aT:∀kr,cJ G tab cc aZ r e kr=c4 G tab cc aZ r e kr:=fun kr=>by unfold cJ;rw[qH]
   rw[aT] at aW
   exact HP aW fun cw h2 _=>aT _
 | some g=>
   obtain⟨t,want⟩:=g
   have aL:t∈e.reads:=by simp[aY.reads,qH]
   cases ad:s.F t<;>first
    | (unfold cJ at aW;simp only[qH,ad] at aW;cases aW;done)
    | skip
   · unfold cJ at aW
     simp only[qH,ad] at aW
     cases aW
     refine⟨.kk,s.h,rfl,rfl,fun cw h2 dr=>?_⟩
     unfold cJ;simp only[qH,dr t aL,ad]
   rename_i b
   by_cases n1:b=want
   · have aT:∀cw h2,(∀t∈e.reads,cw t=s.F t)->cJ G tab cc aZ r e ⟨cw,h2⟩=c4 G tab cc aZ r e ⟨cw,h2⟩:=fun cw h2 dr=>by
      unfold cJ;simp only[qH,dr t aL,ad,if_pos n1]
     have aF:=aT s.F s.h (fun _ _=>rfl)
     have:cJ G tab cc aZ r e s=c4 G tab cc aZ r e s:=aF
     rw[this] at aW
     exact HP aW aT
   · unfold cJ at aW
     simp only[qH,ad,if_neg n1] at aW
     cases aW
     refine⟨.kk,s.h,rfl,rfl,fun cw h2 dr=>?_⟩
     unfold cJ;simp only[qH,dr t aL,ad,if_neg n1]
theorem Rk {F:Nat->I} {d e:Option Nat} {u v:I} (h:∀x,d=some x->e≠some x):cI (cI F d u) e v=cI (cI F e v) d u:=by
 cases d with
 | none=>rfl
 | some x=>
   cases e with
   | none=>rfl
   | some y=>
     have bO:x≠y:=fun q=>h x rfl (by rw[q])
     funext t
     simp only[cI,ar]
     by_cases U:t=x<;>by_cases h2:t=y<;>simp_all
theorem HS {F:Nat->I} {d:Option Nat} {v:I} {t:Nat} (h:∀x,d=some x->t≠x):cI F d v t=F t:=by
 cases d with
 | none=>rfl
 | some x=>simp[cI,ar,h x rfl]
theorem apart_spec {e f:aY} (h:e.apart f=true):(∀x,e.dst=some x->x ∉ f.reads)/\(∀x,e.dst=some x->f.dst≠some x)/\(∀x,f.dst=some x->x ∉ e.reads):=by
 refine⟨fun d a3=>?_,fun d a3=>?_,fun d a3=>?_⟩<;>simp[aY.apart,a3] at h
 · exact h.1.1
 · exact h.1.2
 · exact h.2
theorem Rl (h:ai) (a b:List Nat):(h.close a).close b=(h.close b).close a:=by
 simp only[ai.close,ai.mk.injEq,true_and,and_true]
 funext t
 cases h.shut t<;>cases a.contains t<;>cases b.contains t<;>rfl
theorem Rm {aZ oK jv:Nat} {r2 r3:aY} {s s1 s2:aK} {ci pO:dN} (U:cJ G tab cc aZ oK r2 s=some (s1,ci)) (h2:cJ G tab cc aZ jv r3 s1=some (s2,pO))
 (HT:r2.apart r3=true) (J:km ci pO=true) (aT:oK≠jv) (ab:aZ<=oK) (aA:aZ<=jv) (vU:qG cc) (Rn:s.h.cells jv=none) (Ro:jv<s.h.next):
 ∃vV,cJ G tab cc aZ jv r3 s=some (vV,pO)/\cJ G tab cc aZ oK r2 vV=some (s2,ci):=by
 obtain⟨a1,eG,yl⟩:=apart_spec HT
 obtain⟨B7,bS,rfl,oR⟩:=HR U
 obtain⟨jh,kd,rfl,jw⟩:=HR h2
 have jM:∀t∈r3.reads,s.F t=(cI s.F r2.dst B7) t:=fun t aL=>(HS fun x ae=>by rintro rfl;exact a1 _ ae aL).symm
 have jN:∀v t,t∈r2.reads->(cI s.F r3.dst v) t=s.F t:=fun v t aL=>HS fun x ae=>by rintro rfl;exact yl _ ae aL
 have jx:cI (cI s.F r3.dst jh) r2.dst B7=cI (cI s.F r2.dst B7) r3.dst jh:=(Rk fun x ae=>eG x ae).symm
 cases ci with
 | pure=>
   obtain⟨aq,au⟩:=oR
   subst aq
   cases pO with
   | pure=>
     obtain⟨aV,bR⟩:=jw
     subst aV
     exact ⟨_,bR s.F s.h jM,by rw[au _ _ (jN jh),jx]⟩
   | jb=>
     obtain⟨blk,aV,bR⟩:=jw
     subst aV
     exact ⟨_,bR s.F s.h jM,by rw[au _ _ (jN jh),jx]⟩
   | rd=>
     obtain⟨ids,aV,bR⟩:=jw
     subst aV
     exact ⟨_,bR s.F s.h jM (fun _ _=>rfl),by rw[au _ _ (jN jh),jx]⟩
   | wr=>exact ⟨_,jw s.F jM,by rw[au _ _ (jN jh),jx]⟩
   | lA id=>
     obtain⟨aV,eS,bR⟩:=jw
     subst aV
     exact ⟨_,bR s.F s.h jM rfl,by rw[au _ _ (jN jh),jx]⟩
   | lg k=>exact ⟨_,jw.2 s.F jM,by rw[au _ _ (jN jh),jx]⟩
 | jb=>
   obtain⟨blk,aq,au⟩:=oR
   subst aq
   cases pO with
   | pure=>
     obtain⟨aV,bR⟩:=jw
     subst aV
     exact ⟨_,bR s.F s.h jM,by rw[au _ _ (jN jh),jx]⟩
   | jb=>
     obtain⟨tN,aV,bR⟩:=jw
     subst aV
     exact ⟨_,bR s.F s.h jM,by rw[au _ _ (jN jh),jx,tM _ _ _ aT]⟩
   | rd=>
     obtain⟨ids,aV,bR⟩:=jw
     subst aV
     have aN:∀id,id<aZ->s.h.cells id=(s.h.new oK blk).cells id:=fun id bs=>by
      simp only[ai.new,ar];rw[if_neg (by omega)]
     exact ⟨_,bR s.F s.h jM aN,by rw[au _ _ (jN jh),jx];rfl⟩
   | wr=>simp[km] at J
   | lA id=>
     obtain⟨aV,eS,bR⟩:=jw
     subst aV
     have aN:s.h.cells id=(s.h.new oK blk).cells id:=by
      simp only[ai.new,ar];rw[if_neg (by omega)]
     exact ⟨_,bR s.F s.h jM aN,by rw[au _ _ (jN jh),jx]⟩
   | lg k=>simp[km] at J
 | rd=>
   obtain⟨ids,aq,au⟩:=oR
   subst aq
   cases pO with
   | pure=>
     obtain⟨aV,bR⟩:=jw
     subst aV
     exact ⟨_,bR s.F s.h jM,by rw[au _ _ (jN jh) (fun _ _=>rfl),jx]⟩
   | jb=>
     obtain⟨tN,aV,bR⟩:=jw
     subst aV
     have aN:∀id,id<aZ->(s.h.new jv tN).cells id=s.h.cells id:=fun id bs=>by
      simp only[ai.new,ar];rw[if_neg (by omega)]
     exact ⟨_,bR s.F s.h jM,by rw[au _ _ (jN jh) aN,jx];rfl⟩
   | rd=>
     obtain⟨B8,aV,bR⟩:=jw
     subst aV
     exact ⟨_,bR s.F s.h jM (fun _ _=>rfl),by rw[au _ (s.h.close B8) (jN jh) (fun _ _=>rfl),jx,Rl]⟩
   | wr=>simp[km] at J
   | lA id=>
     obtain⟨aV,eS,bR⟩:=jw
     subst aV
     exact ⟨_,bR s.F s.h jM rfl,by rw[au _ s.h (jN jh) (fun _ _=>rfl),jx]⟩
   | lg k=>simp[km] at J
 | lA id=>
   obtain⟨aq,eS,au⟩:=oR
   subst aq
   cases pO with
   | pure=>
     obtain⟨aV,bR⟩:=jw
     subst aV
     exact ⟨_,bR s.F s.h jM,by rw[au _ _ (jN jh) rfl,jx]⟩
   | jb=>
     obtain⟨tN,aV,bR⟩:=jw
     subst aV
     have aN:(s.h.new jv tN).cells id=s.h.cells id:=by
      simp only[ai.new,ar];rw[if_neg (by omega)]
     exact ⟨_,bR s.F s.h jM,by rw[au _ _ (jN jh) aN,jx]⟩
   | rd=>
     obtain⟨B8,aV,bR⟩:=jw
     subst aV
     exact ⟨_,bR s.F s.h jM (fun _ _=>rfl),by rw[au _ (s.h.close B8) (jN jh) rfl,jx]⟩
   | wr=>simp[km] at J
   | lA agZ=>
     obtain⟨aV,k_,bR⟩:=jw
     subst aV
     exact ⟨_,bR s.F s.h jM rfl,by rw[au _ _ (jN jh) rfl,jx]⟩
   | lg k=>
     exact ⟨_,jw.2 s.F jM,by rw[au _ _ (jN jh) (jw.1 id J),jx]⟩
 | lg k=>
   obtain⟨ks,oR⟩:=oR
   cases pO with
   | pure=>
     obtain⟨aV,bR⟩:=jw
     subst aV
     exact ⟨_,bR s.F s.h jM,by rw[oR _ (jN jh),jx]⟩
   | jb=>
     obtain⟨tN,aV,bR⟩:=jw
     subst aV
     have eS:=(B5 (blk:=tN) vU (oR _ (jN jh)) Rn Ro (Ne.symm aT)).1
     exact ⟨_,bR s.F s.h jM,by rw[jx] at eS;exact eS⟩
   | rd=>simp[km] at J
   | wr=>simp[km] at J
   | lA id=>
     obtain⟨aV,eS,bR⟩:=jw
     subst aV
     exact ⟨_,bR s.F s.h jM (ks id J).symm,by rw[oR _ (jN jh),jx]⟩
   | lg k=>simp[km] at J
 | wr=>
   cases pO with
   | pure=>
     obtain⟨aV,bR⟩:=jw
     subst aV
     exact ⟨_,bR s.F s.h jM,by rw[oR _ (jN jh),jx]⟩
   | jb=>simp[km] at J
   | rd=>simp[km] at J
   | wr=>simp[km] at J
   | lA id=>simp[km] at J
   | lg k=>simp[km] at J
theorem HU {aZ:Nat} {e:aY} {i:Nat}:∀ {fe kP:List (aY × Nat)} {s an:aK} {cs:List dN},cV G tab cc aZ (fe++(e,i)::kP) s=some (an,cs)->
 (∀k (ag:k<fe.length) (jK:k<cs.length) (az:fe.length<cs.length),fe[k].1.apart e=true/\km cs[k] cs[fe.length]=true/\fe[k].2≠i)->qG cc->s.h.cells (aZ+i)=none->aZ+i<s.h.next->
 ∃s1 c bY bP,cJ G tab cc aZ (aZ+i) e s=some (s1,c)/\cV G tab cc aZ (fe++kP) s1=some (an,bY++bP)/\cs=bY++c::bP/\bY.length=fe.length
 | [],kP,s,an,cs,h,_,_,_,_=>by
   simp only[List.nil_append,cV] at h
   split at h<;>try(cases h;done)
   rename_i s1 c U
   obtain⟨p,h2,aB⟩:=Option.map_eq_some_iff.1 h
   cases aB
   exact ⟨s1,c,[],p.2,U,h2,rfl,rfl⟩
 | (bG,i0)::fe,kP,s,an,cs,h,aN,vU,oS,HV=>by
   simp only[List.cons_append,cV] at h
   split at h<;>try(cases h;done)
   rename_i tO cD U
   obtain⟨p,h2,aB⟩:=Option.map_eq_some_iff.1 h
   obtain⟨Bu,jr⟩:=p
   cases aB
   have hlen:∀ {L:List (aY × Nat)} {s an:aK} {cs:List dN},cV G tab cc aZ L s=some (an,cs)->cs.length=L.length:=by
    intro L
    induction L with
    | nil=>intro s an cs h;simp only[cV] at h;cases h;rfl
    | cons q L a8=>
      intro s an cs h
      simp only[cV] at h
      split at h<;>try(cases h;done)
      obtain⟨p,h2,aB⟩:=Option.map_eq_some_iff.1 h
      cases aB
      simp[a8 h2]
   have iS:=hlen h2
   have Rp:=(aN 0 (by simp) (by simp) (by simp[iS])).2.2
   simp only[List.getElem_cons_zero] at Rp
   obtain⟨-,bM,dU⟩:=B5 (blk:=[]) vU U oS HV (by omega)
   obtain⟨tP,c,bY,bP,bJ,ch,rfl,fV⟩:=HU h2 (fun k ag jK az=>by
    have:=aN (k+1) (by simp;omega) (by simp;omega) (by simp;omega)
    simpa using this) vU bM (by omega)
   have aF:=aN 0 (by simp) (by simp) (by simp[fV])
   simp only[List.getElem_cons_zero,List.length_cons,List.getElem_cons_succ] at aF
   have nt:(bY++c::bP)[fe.length]'(by simp[fV])=c:=by simp[<-fV]
   rw[nt] at aF
   obtain⟨vV,bq,b'⟩:=Rm U bJ aF.1 aF.2.1 (by have:=aF.2.2;simp at this;omega) (by omega) (by omega) vU oS HV
   refine⟨vV,c,cD::bY,bP,bq,?_,rfl,by simp[fV]⟩
   simp only[List.cons_append,cV,b',ch,Option.map_some]
end
end Go.Eng
namespace Go.Eng
open Go Go.RowKit
theorem a2.Rq {w:World} {ok:Nat->Prop} {σ bc:Nat->Option (Nat × Nat)} {v:I} {cv:Value} (h:a2 w ok σ (.eJ v) cv):a2 w ok bc (.eJ v) cv:=by
 obtain⟨cm,d_,rfl,U,h2⟩:=h.x5
 exact .eJ v cm d_ U h2
def jy (F:Fence):Prop:=F=Fence.wide\/∃l,F=Fence.wide.inRound l
theorem jy.fn {F:Fence} (h:jy F) (f:FuncId):F.fn f:=by
 rcases h with rfl|⟨l,rfl⟩<;>trivial
theorem jy.depth {F:Fence} (h:jy F):F.depth=none:=by
 rcases h with rfl|⟨l,rfl⟩<;>rfl
theorem jy.room {F:Fence} (h:jy F) (n:Nat):F.room n:=fun d a3=>by rw[h.depth] at a3;cases a3
theorem jy.one {F:Fence} (h:jy F) (n:Nat):F.depth.isSome=true->1<=n:=fun a3=>by rw[h.depth] at a3;cases a3
theorem jy.inRound {F:Fence} (h:jy F) (l:Nat):jy (F.inRound l):=by
 rcases h with rfl|⟨k,rfl⟩
 · exact .inr ⟨l,rfl⟩
 · exact .inr ⟨l,rfl⟩
theorem jy.calls {F:Fence} (h:jy F) {n:Nat} {P:Program} {f:FuncId} {args:Array Value} {w:World} {R:Ending->World->Prop} (J:Calls P f args w R):CallsIn F n P f args w R:=by
 rcases h with rfl|⟨l,rfl⟩
 · exact callsIn_wide.2 J
 · exact (callsIn_wide (n:=n)).2 J
structure de (base:Nat) (okin:Nat->Prop) (σ:Nat->Option (Nat × Nat)) (h:ai) (w:World) (bc:Nat->Option (Nat × Nat)) (h':ai) (aO:World):Prop where
 sub:∀id x,σ id=some x->bc id=some x
 still:tx w aO (bn base okin σ h) (bn base okin bc h')
 below:Below base w aO
 grow:∀b,f' w b<=f' aO b
 loop:∀(b:Nat) (r:Loop),w.heap[b]? =some (.loop r)->∃st jz,aO.heap[b]? =some (.loop {r with state:=st,pending:=jz})
 n2:∀b:Nat,w.heap[b]? =some (.deferred (some []))->aO.heap[b]? =some (.deferred (some []))
theorem de.refl (base:Nat) (okin:Nat->Prop) (σ:Nat->Option (Nat × Nat)) (h:ai) (w:World):de base okin σ h w σ h w:=
 ⟨fun _ _ h=>h,fun _ _ _ _ h=>⟨h,rfl⟩,Below.refl _ _,fun _=>Nat.le_refl _,fun _ r h=>⟨r.state,r.pending,h⟩,fun _ h=>h⟩
theorem de.trans {base:Nat} {okin:Nat->Prop} {σ jc pC:Nat->Option (Nat × Nat)} {h U h2:ai} {w ca dc:World}
 (p:de base okin σ h w jc U ca) (q:de base okin jc U ca pC h2 dc):de base okin σ h w pC h2 dc:=
 ⟨fun id x ae=>q.sub id x (p.sub id x ae),fun b o ad ag ay=>by
   obtain⟨jJ,aq⟩:=p.still b o ad ag ay
   obtain⟨dj,au⟩:=q.still b o (by rw[aq];exact ad) ag jJ
   exact ⟨dj,au.trans aq⟩,p.below.trans q.below,fun b=>Nat.le_trans (p.grow b) (q.grow b),fun b r ad=>by
   obtain⟨s1,bb,aq⟩:=p.loop b r ad
   obtain⟨s2,bC,au⟩:=q.loop b _ aq
   exact ⟨s2,bC,au⟩,fun b ad=>q.n2 b (p.n2 b ad)⟩
theorem de.rep {base:Nat} {okin:Nat->Prop} {σ bc:Nat->Option (Nat × Nat)} {h h':ai} {w aO:World} (p:de base okin σ h w bc h' aO)
 {v:I} {cv:Value} (r:a2 w (bn base okin σ h) σ v cv):a2 aO (bn base okin bc h') bc v cv:=r.mono p.still p.sub p.grow
theorem pP {w:World} {b:Nat} {o:Obj} (h:w.heap[b]? =some o):b<w.heap.size:=(Array.getElem?_eq_some_iff.1 h).1
theorem cz.other {base:Nat} {okin:Nat->Prop} {σ bc:Nat->Option (Nat × Nat)} {h h':ai} {w aO:World} (H:cz base okin σ h w) (p:Prog base okin σ h w bc h' aO) {b:Nat} {o:Obj} (ad:w.heap[b]? =some o)
 (ak:∀arr ty e,o≠ .cells arr ty e):aO.heap[b]? =some o:=by
 have bB:=pP ad
 by_cases vW:b<base
 · rw[p.below.block b vW];exact ad
 · have:=(p.qs b bB (.inr ⟨Nat.le_of_not_lt vW,fun id s aw az=>by
    obtain⟨blk,nX⟩:=Option.isSome_iff_exists.1 az
    obtain⟨j0,an,arr,ty,aq,au,_⟩:=H.blk id blk nX
    rw[aw] at aq;cases aq
    rw[ad] at au
    exact absurd (Option.some.inj au) (ak _ _ _)⟩)).2
   rw[this];exact ad
theorem de.of {base:Nat} {okin:Nat->Prop} {σ bc:Nat->Option (Nat × Nat)} {h h':ai} {w aO:World} (H:cz base okin σ h w) (p:Prog base okin σ h w bc h' aO):de base okin σ h w bc h' aO:=
 ⟨p.sub,p.still,p.below,p.grow,fun b r ad=>⟨r.state,r.pending,H.other p ad (fun _ _ _ h=>by cases h)⟩,fun b ad=>H.other p ad (fun _ _ _ h=>by cases h)⟩
def n3:fu->LoopState
 | .ready=> .ready
 | .busy=> .busy
 | .done _=> .done
def Rr:da->Option Code
 | .normal=>none
 | .exit id=>some (.exit id)
 | .ret=>some .ret
def n4:fu->Option Code
 | .ready=>none
 | .busy=>none
 | .done e=>Rr e
structure jO (σ:Nat->Option (Nat × Nat)) (aU:Nat->Option fu) (w:World):Prop where
 look:∀id p,aU id=some p->∃(l s:Nat) (r:Loop),σ id=some (l,s)/\w.heap[l]? =some (.loop r)/\r.state=n3 p/\r.pending=n4 p
 inj:∀id fO p ny l s an,aU id=some p->aU fO=some ny->σ id=some (l,s)->σ fO=some (l,an)->id=fO
theorem jO.of {base:Nat} {okin:Nat->Prop} {σ bc:Nat->Option (Nat × Nat)} {h h':ai} {w aO:World} (L:jO σ h.aU w) (H:cz base okin σ h w) (p:Prog base okin σ h w bc h' aO) (aE:h'.aU=h.aU):jO bc h'.aU aO:=by
 rw[aE]
 refine⟨fun id q aN=>?_,fun id fO q mU l s an U h2 aq au=>?_⟩
 · obtain⟨l,s,r,aq,au,aV,bR⟩:=L.look id q aN
   exact ⟨l,s,r,p.sub _ _ aq,H.other p au (fun _ _ _ h=>by cases h),aV,bR⟩
 · obtain⟨bH,s1,bF,a1,_⟩:=L.look id q U
   obtain⟨dR,s2,dg,eG,_⟩:=L.look fO mU h2
   have b1:=p.sub _ _ a1;rw[aq] at b1
   have dW:=p.sub _ _ eG;rw[au] at dW
   cases b1;cases dW
   exact L.inj id fO q mU l s an U h2 a1 eG
def oT (P:Program) (G:Nat->Option I) (base:Nat) (okin:Nat->Prop) (Y:List cy) (σ:Nat->Option (Nat × Nat)) (h:ai) (w:World):Prop:=
 ∀L∈Y,∃(l s:Nat) (r:Loop) (nz:Nat),σ L.id=some (l,s)/\w.heap[l]? =some (.loop r)/\nz<=r.tmps.size/\L.ps=r.params.toList/\(∀p∈L.ps,p<nz)/\
  fE P nz r.assign=some L.dt/\fE P nz r.body=some L.body/\j3 G (bn base okin σ h) σ w L.F {tmps:=r.tmps,defers:=[]}
theorem oT.mono {P:Program} {G:Nat->Option I} {base:Nat} {okin:Nat->Prop} {Y:List cy} {σ bc:Nat->Option (Nat × Nat)} {h h':ai} {w aO:World} (C:oT P G base okin Y σ h w) (p:de base okin σ h w bc h' aO):oT P G base okin Y bc h' aO:=by
 intro L bd
 obtain⟨l,s,r,nz,aq,au,aV,bR,eS,k_,B9,qI⟩:=C L bd
 obtain⟨st,jz,Rs⟩:=p.loop l r au
 exact ⟨l,s,_,nz,p.sub _ _ aq,Rs,aV,bR,eS,k_,B9,⟨fun t=>p.rep (qI.slot t),fun g v aW=>p.rep (qI.mO g v aW)⟩⟩
structure Marks (bG:Nat) (cx:List Deferred) (w:World):Prop where
 each:∀d∈cx,∃D,d.target= .collected D/\bG<=D/\w.heap[D]? =some (.deferred (some []))
 nodup:cx.Pairwise fun d oD=>d.target≠oD.target
theorem Marks.mono {bG:Nat} {cx:List Deferred} {w aO:World} (M:Marks bG cx w) (a3:∀b:Nat,w.heap[b]? =some (.deferred (some []))->aO.heap[b]? =some (.deferred (some []))):Marks bG cx aO:=
 ⟨fun d h=>by
   obtain⟨D,U,h2,aB⟩:=M.each d h
   exact ⟨D,U,h2,a3 D aB⟩,M.nodup⟩
def B_ (P:Program) (f:FuncId) (args:Array Value) (w:World) (R:Value->World->Prop):Prop:=
 ((callFunc f args).run P w= .ok (.enter f args) w/\Calls P f args w fun e aO=>∃cv,e= .returned cv/\R cv aO)\/
 ∃cv aO,(callFunc f args).run P w= .ok (.value cv) aO/\R cv aO
def B' (P:Program) (l:Nat) (args:Array Value) (w:World) (R:Value->World->Prop):Prop:=
 ∃f tmps dt body,(Instr.yield l args).run P w= .ok (.round l f tmps dt body) w/\∀F n,jy F->RoundIn F n P l f tmps dt body w fun e aO=>∃cv,e= .returned cv/\R cv aO
def aG (P:Program) (G:Nat->Option I) (f:FuncId) (T:List I->Option I):Prop:=
 ∀args v,T args=some v->∀(ok:Nat->Prop) (w:World) (dd:Array Value),dd.size=args.length->
  (∀i (h:i<args.length) (h':i<dd.size),dh w ok args[i] dd[i])->
  (∀g u,G g=some u->a2 w ok (fun _=>none) (.eJ u) (.pointer (some ⟨g,0,none⟩)))->
  B_ P f dd w fun cv aO=>dh aO (fun b=>ok b\/w.heap.size<=b) v cv/\Below w.heap.size w aO
def tQ (base:Nat) (okin:Nat->Prop) (σ:Nat->Option (Nat × Nat)) (h:ai) (w:World) (h':ai) (v:I) (cv:Value) (aO:World):Prop:=
 ∃bc,de base okin σ h w bc h' aO/\cz base okin bc h' aO/\jO bc h'.aU aO/\a2 aO (bn base okin bc h') bc v cv/\(∀id,h'.next<=id->bc id=none)/\∀id,id<h.next->bc id=σ id
structure tR (P:Program) (G:Nat->Option I) (Y:List cy) (cc:kM->List I->ai->Option (I × ai)):Prop where
 next:∀t args h v h',cc t args h=some (v,h')->h.next<=h'.next
 frame:qG cc
 fn:∀f args h v h',cc (.fn f) args h=some (v,h')->∀base okin σ w (dd:Array Value),cz base okin σ h w->jO σ h.aU w->oT P G base okin Y σ h w->dd.size=args.length->
    (∀i (ab:i<args.length) (bS:i<dd.size),a2 w (bn base okin σ h) σ args[i] dd[i])->
    (∀g u,G g=some u->a2 w (bn base okin σ h) σ (.eJ u) (.pointer (some ⟨g,0,none⟩)))->(∀id,h.next<=id->σ id=none)->
    B_ P f dd w (tQ base okin σ h w h' v)
 k7:∀id args h v h',cc (.k7 id) args h=some (v,h')->∀base okin σ w (dd:Array Value) l s,cz base okin σ h w->jO σ h.aU w->oT P G base okin Y σ h w->σ id=some (l,s)->dd.size=args.length->
    (∀i (ab:i<args.length) (bS:i<dd.size),a2 w (bn base okin σ h) σ args[i] dd[i])->
    (∀g u,G g=some u->a2 w (bn base okin σ h) σ (.eJ u) (.pointer (some ⟨g,0,none⟩)))->(∀id,h.next<=id->σ id=none)->
    B' P l dd w (tQ base okin σ h w h' v)
structure ff (P:Program) (G:Nat->Option I) (Y:List cy) (ji:Option Nat) (bG:Nat) (base:Nat) (okin:Nat->Prop) (N:Nat) (cE:Nat) (cH:Nat->Option (Nat × Nat)) (cj:Nat->Prop) (σ:Nat->Option (Nat × Nat)) (s:aK) (a:Act) (w:World):Prop where
 aw:cz base okin σ s.h w
 lk:jO σ s.h.aU w
 jd:oT P G base okin Y σ s.h w
 bE:j3 G (bn base okin σ s.h) σ w s.F a
 size:N<=a.tmps.size
 marks:Marks bG a.defers w
 rd:∀l,ji=some l->∃r,w.heap[l]? =some (.loop r)
 r4:bG<=w.heap.size
 free:∀id,cj id->cE<=id/\id<s.h.next/\σ id=none
 low:cE<=s.h.next
 lX:∀id,id<cE->σ id=cH id
 fresh:∀id,s.h.next<=id->σ id=none
section
variable {P:Program} {G:Nat->Option I} {base:Nat} {okin:Nat->Prop} {N:Nat} {cE:Nat} {cH:Nat->Option (Nat × Nat)} {cj:Nat->Prop} {σ:Nat->Option (Nat × Nat)} {w:World} {a:Act}
theorem j3.mono {bc:Nat->Option (Nat × Nat)} {h h':ai} {aO:World} {F:Nat->I} (bE:j3 G (bn base okin σ h) σ w F a) (p:de base okin σ h w bc h' aO):j3 G (bn base okin bc h') bc aO F a:=
 ⟨fun t=>p.rep (bE.slot t),fun g v aW=>p.rep (bE.mO g v aW)⟩
theorem j3.put {h:ai} {F:Nat->I} (bE:j3 G (bn base okin σ h) σ w F a) {d:Option Nat} (a3:d.all (fun d=>decide (d<N))=true) (gd:N<=a.tmps.size) {v:I} {cv:Value} (al:a2 w (bn base okin σ h) σ v cv):
 j3 G (bn base okin σ h) σ w (cI F d v) (a.put d cv):=by
 refine⟨fun t=>?_,bE.mO⟩
 cases d with
 | none=>exact bE.slot t
 | some d=>
   have bB:d<a.tmps.size:=by
    have:d<N:=by simpa using a3
    omega
   simp only[cI,ar,Act.put]
   by_cases e:t=d
   · subst e
     rw[if_pos rfl]
     simpa[Array.getD,bB] using al
   · rw[if_neg e]
     have:=bE.slot t
     have au:(a.tmps.setIfInBounds d cv).getD t undef=a.tmps.getD t undef:=by
      simp only[Array.getD_eq_getD_getElem?]
      rw[Array.getElem?_setIfInBounds_ne (Ne.symm e)]
     rw[au];exact this
theorem Rt (a:Act) (d:Option Nat) (v:Value):(a.put d v).tmps.size=a.tmps.size:=by
 cases d<;>simp[Act.put]
theorem put_defers (a:Act) (d:Option Nat) (v:Value):(a.put d v).defers=a.defers:=by
 cases d<;>rfl
theorem cz.grown {h:ai} (H:cz base okin σ h w) {aO:World} (ad:Below w.heap.size w aO):cz base okin σ h aO/\Prog base okin σ h w σ h aO:=by
 have P:Prog base okin σ h w σ h aO:=⟨fun _ _ x=>x,fun b bB ay=>⟨ay,ad.block b bB⟩,ad.mono H.base,Ql ad⟩
 refine⟨⟨fun id b s ab=>⟨(H.val id b s ab).1,Nat.lt_of_lt_of_le (H.val id b s ab).2 ad.size⟩,fun id fF ga=>?_,H.inj,Nat.le_trans H.base ad.size⟩,P⟩
 obtain⟨b,s,qD,ty,aq,au,aV⟩:=H.blk id fF ga
 refine⟨b,s,qD,ty,aq,by rw[ad.block b (H.val _ _ _ aq).2];exact au,fun i ab=>⟨(aV i ab).1,fun j aA=>?_⟩⟩
 obtain⟨v,bJ,ch⟩:=(aV i ab).2 j aA
 exact ⟨v,bJ,P.rep ch⟩
theorem vX {h:ai} {x y:List Nat} (lZ:∀i∈x,i∈y) (b:Nat) (ay:bn base okin σ (h.close x) b):bn base okin σ (h.close y) b:=by
 rcases ay with ay|⟨U,h2⟩
 · exact .inl ay
 · refine .inr ⟨U,fun id s aw az=>?_⟩
   have:=h2 id s aw az
   simp only[ai.close,Bool.or_eq_true,List.contains_iff_mem] at this|-
   exact this.imp (fun q=>q) (lZ id)
theorem HW {h:ai} (H:cz base okin σ h w) {v u:I} {cv:Value} {ids:List Nat} (aT:a2 w (bn base okin σ h) σ v cv) (ay:dz h v=some (u,ids)):dh w (bn base okin σ (h.close ids)) u cv:=by
 cases v<;>simp only[dz] at ay<;>try(cases ay;done)
 case int k n=>cases ay;rw[aT.jt];exact .int k n
 case bool b=>cases ay;rw[aT.qx];exact .bool b
 case str s=>cases ay;rw[aT.vz];exact .str s
 case nilfn=>cases ay;rw[aT.Qj];exact .nilfn
 case mp m=>
  cases ay
  have:=aT.GP
  rw[r1]
  exact this
 case sl xs ex=>
  cases ay
  have:=aT.qy
  rw[r1]
  exact this
 case ref id off len cap=>
  split at ay<;>try(cases ay;done)
  rename_i blk ad
  split at ay<;>try(cases ay;done)
  rename_i aN
  obtain⟨c7,c8⟩:=aN
  cases ay
  obtain⟨A,c,b,sz,rfl,aq,au,aV,bR⟩:=aT.qz
  obtain⟨j0,fw,arr,ty,f1,f2,f3⟩:=H.blk id blk ad
  rw[aq] at f1;cases f1
  have hlen:((blk.drop off).take len).length=len:=by simp;omega
  have kN:∀i (ab:i<len),((blk.drop off).take len)[i]'(by rw[hlen];exact ab)=blk[off+i]'(by omega):=by intro i ab;simp
  have j2:bn base okin σ (h.close [id]) b:=by
   refine .inr ⟨(H.val _ _ _ aq).1,fun fO s aw az=>?_⟩
   have:fO=id:=H.inj fO id b s sz az (by simp[ad]) aw aq
   subst this
   simp[ai.close]
  have R:=dh.sl (w:=w) (ok:=bn base okin σ (h.close [id])) ((blk.drop off).take len) false A c sz (fun i j=>(arr[(off+i)*sz+j]?).getD undef) (by rw[hlen];exact au) (fun cK=>absurd cK (by simp))
   (fun i ab=>by rw[hlen] at ab;rw[kN i ab];exact (f3 _ _).1)
   (fun i j ab aA=>by
     rw[hlen] at ab
     obtain⟨rfl,_⟩:=bR (by omega)
     refine⟨_,rfl,j2,?_⟩
     obtain⟨lB,bJ,_⟩:=(f3 (off+i) (by omega)).2 j (by rw[(f3 (off+i) (by omega)).1];exact aA)
     rw[pF]
     simp only[World.cell?,f2,Option.isSome_none,Bool.false_eq_true,if_false]
     rw[show off*sz+(i*sz+j)=(off+i)*sz+j by rw[Nat.add_mul];omega,bJ];rfl)
   (fun rW=>by
     rw[hlen] at rW
     obtain⟨rfl,_⟩:=bR (by omega)
     rfl)
   (fun i ab j aA=>by
     rw[hlen] at ab
     have he:=kN i ab
     simp only[he] at aA|-
     obtain⟨lB,bJ,ch⟩:=(f3 (off+i) (by omega)).2 j aA
     show dh _ _ _ ((arr[(off+i)*sz+j]?).getD undef)
     rw[bJ]
     have mV:(blk[off+i]'(by omega)).cells[j].eb=true:=List.all_eq_true.1 (List.all_eq_true.1 c8 _ (List.getElem_mem _)) _ (List.getElem_mem aA)
     exact (dh.G_ ch mV).rM fun k ag j2=>by
      have:=vX (base:=base) (okin:=okin) (σ:=σ) (h:=h) (x:=[]) (y:=[id]) (by simp) k (by rw[r1];exact j2)
      exact this)
  rw[hlen] at R
  exact R
theorem HX {h:ai} (H:cz base okin σ h w):∀ {vs us:List I} {ids:List Nat} (cs:Nat->Value),(∀i (ab:i<vs.length),a2 w (bn base okin σ h) σ vs[i] (cs i))->eE h vs=some (us,ids)->
 us.length=vs.length/\∀i (ab:i<us.length),dh w (bn base okin σ (h.close ids)) us[i] (cs i)
 | [],us,ids,cs,_,ay=>by simp only[eE] at ay;cases ay;exact ⟨rfl,fun i ab=>absurd ab (by simp)⟩
 | v::vs,us,ids,cs,aT,ay=>by
   simp only[eE] at ay
   split at ay<;>try(cases ay;done)
   rename_i j1 x mh y U h2
   cases ay
   obtain⟨l,q⟩:=HX H (fun i=>cs (i+1)) (fun i ab=>aT (i+1) (by simpa using ab)) h2
   refine⟨by simp[l],fun i ab=>?_⟩
   cases i with
   | zero=>exact (HW H (aT 0 (by simp)) U).rM fun b _ ad=>vX (fun i ab=>by simp[ab]) b ad
   | succ i=>exact (q i (by simpa using ab)).rM fun b _ ad=>vX (fun i ab=>by simp[ab]) b ad
theorem HY {h:ai} (H:cz base okin σ h w) {v u:I} {cv:Value} {ids:List Nat} (aT:a2 w (bn base okin σ h) σ v cv) (ay:gF h v=some (u,ids)):dh w (bn base okin σ (h.close ids)) u cv:=by
 by_cases al:∃cs,v= .agg cs
 · obtain⟨cs,rfl⟩:=al
   simp only[gF] at ay
   obtain⟨p,U,he⟩:=Option.map_eq_some_iff.1 ay
   obtain⟨us,Ru⟩:=p
   cases he
   obtain⟨vs,rfl,bH,bF⟩:=aT.tz
   obtain⟨dR,dg⟩:=HX H (fun i=>vs.getD i undef) (fun i ab=>by
    have bB:i<vs.size:=by omega
    have:=bF i ab bB
    simpa[Array.getD,bB] using this) U
   refine .agg _ _ (by show vs.size=us.length;omega) (fun i ab bS=>?_)
   have:=dg i ab
   simpa[Array.getD,bS] using this
 · refine HW H aT ?_
   cases v<;>first|exact ay|exact absurd ⟨_,rfl⟩ al
theorem Ca {h:ai} (H:cz base okin σ h w):∀ {vs us:List I} {ids:List Nat} (cs:Nat->Value),(∀i (ab:i<vs.length),a2 w (bn base okin σ h) σ vs[i] (cs i))->eo h vs=some (us,ids)->
 us.length=vs.length/\∀i (ab:i<us.length),dh w (bn base okin σ (h.close ids)) us[i] (cs i)
 | [],us,ids,cs,_,ay=>by simp only[eo] at ay;cases ay;exact ⟨rfl,fun i ab=>absurd ab (by simp)⟩
 | v::vs,us,ids,cs,aT,ay=>by
   simp only[eo] at ay
   split at ay<;>try(cases ay;done)
   rename_i j1 x mh y U h2
   cases ay
   obtain⟨l,q⟩:=Ca H (fun i=>cs (i+1)) (fun i ab=>aT (i+1) (by simpa using ab)) h2
   refine⟨by simp[l],fun i ab=>?_⟩
   cases i with
   | zero=>exact (HY H (aT 0 (by simp)) U).rM fun b _ ad=>vX (fun i ab=>by simp[ab]) b ad
   | succ i=>exact (q i (by simpa using ab)).rM fun b _ ad=>vX (fun i ab=>by simp[ab]) b ad
theorem Rv {h:ai} (H:cz base okin σ h w) {v u:I} {cv:Value} {ids:List Nat} (aT:a2 w (bn base okin σ h) σ v cv) (ay:js h v=some (u,ids)):dh w (bn base okin σ (h.close ids)) u cv:=by
 by_cases al:∃cs,v= .bL cs
 · obtain⟨cs,rfl⟩:=al
   simp only[js] at ay
   obtain⟨p,U,he⟩:=Option.map_eq_some_iff.1 ay
   obtain⟨us,Ru⟩:=p
   cases he
   obtain⟨vs,rfl,bH,bF⟩:=aT.GR
   obtain⟨dR,dg⟩:=Ca H (fun i=>vs.getD i undef) (fun i ab=>by
    have bB:i<vs.size:=by omega
    have:=bF i ab bB
    simpa[Array.getD,bB] using this) U
   refine .bL _ _ (by show vs.size=us.length;omega) (fun i ab bS=>?_)
   have:=dg i ab
   simpa[Array.getD,bS] using this
 · refine HY H aT ?_
   cases v<;>first|exact ay|exact absurd ⟨_,rfl⟩ al
end
end Go.Eng
namespace Go.Eng
open Go Go.RowKit
section
variable {P:Program} {G:Nat->Option I} {base:Nat} {okin:Nat->Prop} {N:Nat} {cE:Nat} {cH:Nat->Option (Nat × Nat)} {cj:Nat->Prop} {σ:Nat->Option (Nat × Nat)} {w:World} {a:Act}
 {tab:FuncId->Option (List I->Option I)} {cc:kM->List I->ai->Option (I × ai)} {Y:List cy} {ji:Option Nat} {bG:Nat} {cZ:Fence} {dA:Nat}
theorem Cb (x:Array Value) (i:Nat) (h:i<x.size):x.getD i undef=x[i]:=by simp[Array.getD,h]
theorem HZ {ops:Array Oper} {o:Oper} {e:aY} (h:pA P N ops o=some e):
 e.dst=o.dst/\fv P o.op=some e.op/\o.dst.all (fun d=>decide (d<N))=true/\
   ((o.guard=none/\e.guard=none)\/∃j t want,o.guard=some (j,want)/\(ops[j]?).bind (·.dst)=some t/\e.guard=some (t,want)):=by
 unfold pA at h
 split at h<;>try(cases h;done)
 rename_i a3
 split at h<;>try(cases h;done)
 rename_i op cA
 split at h
 · rename_i aW
   cases h
   exact ⟨rfl,cA,a3,.inl ⟨aW,rfl⟩⟩
 · rename_i j w aW
   split at h<;>try(cases h;done)
   rename_i t aL
   cases h
   exact ⟨rfl,cA,a3,.inr ⟨j,t,w,aW,aL,rfl⟩⟩
theorem Rw {o:Oper} {x:Operand} {args:Array Operand} {argTypes:Array TypeId} (cA:o.op= .call {callee:= .value x,args,argTypes}) {f:FuncId} {eR cv:Array Value} (ae:a.eval x= .func (.func f) eR cv):
 (execOp a.eval o).run P w=(callFunc f (eR++args.map a.eval++cv)).run P w:=by
 simp[execOp,cA,resolve,Deferred.ofValue,ae,invoke]
theorem Rx {o:Oper} {x:Operand} {args:Array Operand} {argTypes:Array TypeId} (cA:o.op= .call {callee:= .value x,args,argTypes}) {l:Nat} (ae:a.eval x= .func (.yield l) #[] #[]):
 (execOp a.eval o).run P w=(Instr.yield l (args.map a.eval)).run P w:=by
 simp[execOp,cA,resolve,Deferred.ofValue,ae,invoke]
theorem ff.step {bc:Nat->Option (Nat × Nat)} {s:aK} (S:ff P G Y ji bG base okin N cE cH cj σ s a w) {d:Option Nat} (a3:d.all (fun d=>decide (d<N))=true) {v:I} {cv:Value} {h':ai} {aO:World} {r:Nat}
 (p:de base okin σ s.h w bc h' aO) (H:cz base okin bc h' aO) (L:jO bc h'.aU aO) (aT:a2 aO (bn base okin bc h') bc v cv) (ak:s.h.next<=h'.next) (a_:∀id,cj id->id≠r->bc id=none) (Ry:∀id,h'.next<=id->bc id=none) (ay:∀id,id<cE->bc id=σ id):
 ff P G Y ji bG base okin N cE cH (fun id=>cj id/\id≠r) bc ⟨cI s.F d v,h'⟩ (a.put d cv) aO:=
 ⟨H,L,S.jd.mono p,(S.bE.mono p).put a3 S.size aT,by rw[Rt];exact S.size,by rw[put_defers];exact S.marks.mono p.n2,fun l az=>by
   obtain⟨HB,U⟩:=S.rd l az
   obtain⟨st,jz,h2⟩:=p.loop l HB U
   exact ⟨_,h2⟩,Nat.le_trans S.r4 p.below.size,fun id bs=>⟨(S.free id bs.1).1,Nat.lt_of_lt_of_le (S.free id bs.1).2.1 ak,a_ id bs.1 bs.2⟩,Nat.le_trans S.low ak,fun id bs=>(ay id bs).trans (S.lX id bs),Ry⟩
theorem H0 (bo:jy cZ) {Q:Exit->Act->World->Prop} {K:Act->World->Prop} {o:Oper} {f:FuncId} {dd:Array Value} {R:Value->World->Prop} (a3:B_ P f dd w R) (oU:∀c,o.op≠ .defer c) (cl:(execOp a.eval o).run P w=(callFunc f dd).run P w)
 (ml:∀cv aO,R cv aO->K (a.put o.dst cv) aO):o.wpIn cZ dA P a w K Q:=by
 unfold Oper.wpIn
 refine⟨fun f _=>bo.fn f,?_⟩
 rw[Oper.semAt_eq _ _ _ oU,cl]
 rcases a3 with⟨U,h2⟩|⟨cv,aO,U,h2⟩
 · rw[U,Oper.uponIn_enter]
   refine⟨bo.one dA,bo.calls (h2.mono fun e aO ⟨cv,he,eH⟩=>?_)⟩
   subst he
   exact ml cv aO eH
 · rw[U]
   exact ml cv aO h2
theorem Rz (bo:jy cZ) {Q:Exit->Act->World->Prop} {K:Act->World->Prop} {o:Oper} {l:Nat} {dd:Array Value} {R:Value->World->Prop} (a3:B' P l dd w R) (oU:∀c,o.op≠ .defer c) (cl:(execOp a.eval o).run P w=(Instr.yield l dd).run P w)
 (ml:∀cv aO,R cv aO->K (a.put o.dst cv) aO):o.wpIn cZ dA P a w K Q:=by
 unfold Oper.wpIn
 refine⟨fun f _=>bo.fn f,?_⟩
 rw[Oper.semAt_eq _ _ _ oU,cl]
 obtain⟨f,tmps,dt,body,U,h2⟩:=a3
 rw[U,Oper.uponIn_round]
 refine⟨bo.one dA,(h2 cZ _ bo).mono fun e aO ⟨cv,he,eH⟩=>?_⟩
 subst he
 exact ml cv aO eH
theorem H2 (bo:jy cZ) (jg:tR P G Y cc) (la:∀f T,tab f=some T->aG P G f T) {ops:Array Oper} {o:Oper} {e:aY} (gd:pA P N ops o=some e) {aZ r:Nat} {s an:aK} {c:dN}
 (cl:c4 G tab cc aZ r e s=some (an,c)) (S:ff P G Y ji bG base okin N cE cH cj σ s a w) (nA:cj r) {K:Act->World->Prop} {Q:Exit->Act->World->Prop}
 (ml:∀bc en aO,ff P G Y ji bG base okin N cE cH (fun id=>cj id/\id≠r) bc an en aO->de base okin σ s.h w bc an.h aO->K en aO):o.wpIn cZ dA P a w K Q:=by
 obtain⟨d1,d2,d3,_⟩:=HZ gd
 have a3:e.dst.all (fun d=>decide (d<N))=true:=by rw[d1];exact d3
 by_cases J:∃f args,e.op= .call f args
 · obtain⟨f,args,cA⟩:=J
   rw[cA] at d2
   have nr:∃x as dB,o.op= .call {callee:= .value x,args:=as,argTypes:=dB}/\dV x=some f/\pz as.toList=some args:=by
    cases ay:o.op<;>rw[ay] at d2<;>simp only[fv] at d2<;>try(first|(cases d2;done)|(split at d2<;>cases d2;done))
    case call oN=>
     obtain⟨callee,as,dB⟩:=oN
     cases callee with
     | value x=>
       simp only at d2
       split at d2<;>try(cases d2;done)
       rename_i U h2
       cases d2
       exact ⟨x,as,dB,rfl,U,h2⟩
     | invoke _ _=>simp only at d2;cases d2
     | builtin b=>
       exfalso
       cases b<;>simp only at d2<;>(repeat' split at d2)<;>first|(cases d2;done)|(obtain⟨_,_,d2⟩:=Option.map_eq_some_iff.1 d2;cases d2)
    all_goals
     exfalso
     first
      | (obtain⟨_,_,d2⟩:=Option.map_eq_some_iff.1 d2;cases d2;done)
      | ((repeat' split at d2)<;>first|contradiction|(cases d2;done)|(obtain⟨_,_,d2⟩:=Option.map_eq_some_iff.1 d2;cases d2;done))
   obtain⟨x,as,dB,ay,ae,has⟩:=nr
   unfold c4 at cl
   simp only[cA] at cl
   have oU:∀c,o.op≠ .defer c:=fun c J=>by rw[ay] at J;cases J
   split at cl<;>try(cases cl;done)
   rotate_left
   · rename_i id a_
     obtain⟨p,aE,cl⟩:=Option.map_eq_some_iff.1 cl
     obtain⟨v,h'⟩:=p
     cases cl
     have rx:=S.bE.dO ae
     rw[a_] at rx
     obtain⟨l,sl,ex,oV⟩:=rx.Qk
     obtain⟨iT,l2⟩:=rQ S.bE has
     have ak:=jg.next _ _ _ _ _ aE
     refine Rz bo (jg.k7 _ _ _ _ _ aE base okin σ w (as.map a.eval) l sl S.aw S.lk S.jd oV (by simp at iT|-;omega) (fun i ab bS=>by
      have:=l2 i (by simpa using ab) (by simpa using bS)
      simpa using this) S.bE.mO S.fresh) oU (Rx ay ex) (fun Cc aO eH=>?_)
     obtain⟨bc,bq,b',tS,cY,l0,kf⟩:=eH
     rw[<-d1]
     exact ml bc _ aO (S.step a3 bq b' tS cY ak (fun id bs _=>by rw[kf id (S.free id bs).2.1];exact (S.free id bs).2.2) l0 (fun id bs=>kf id (Nat.lt_of_lt_of_le bs S.low))) bq
   rename_i n first caps a_
   have rx:=S.bE.dO ae
   rw[a_] at rx
   obtain⟨eR,cv,ex,bH,dR,bF,dg⟩:=rx.GQ
   obtain⟨iT,l2⟩:=rQ S.bE has
   have H3:=Rw (P:=P) (w:=w) ay ex
   have cW:(eR++as.map a.eval++cv).size=(first++args.map (aR.ev G s.F)++caps).length:=by simp at iT|-;omega
   have e7:∀i (ab:i<(first++args.map (aR.ev G s.F)++caps).length) (bS:i<(eR++as.map a.eval++cv).size),a2 w (bn base okin σ s.h) σ (first++args.map (aR.ev G s.F)++caps)[i] (eR++as.map a.eval++cv)[i]:=by
    intro i ab bS
    by_cases U:i<first.length
    · have aq:(first++args.map (aR.ev G s.F)++caps)[i]=first[i]:=by
       rw[List.getElem_append_left (by simp;omega),List.getElem_append_left U]
      have au:(eR++as.map a.eval++cv)[i]=eR[i]'(by omega):=by
       rw[Array.getElem_append_left (by simp;omega),Array.getElem_append_left (by omega)]
      rw[aq,au];exact bF i U (by omega)
    · by_cases h2:i<first.length+args.length
      · have aq:(first++args.map (aR.ev G s.F)++caps)[i]=args[i - first.length].ev G s.F:=by
         rw[List.getElem_append_left (by simp;omega),List.getElem_append_right (by omega)];simp
        have au:(eR++as.map a.eval++cv)[i]=a.eval (as.toList[i - first.length]'(by simp at iT|-;omega)):=by
         rw[Array.getElem_append_left (by simp at iT|-;omega),Array.getElem_append_right (by omega)]
         simp[bH]
        rw[aq,au];exact l2 _ (by omega) (by simp at iT|-;omega)
      · have aq:(first++args.map (aR.ev G s.F)++caps)[i]=caps[i -(first.length+args.length)]'(by simp at ab;omega):=by
         rw[List.getElem_append_right (by simp;omega)];simp
        have au:(eR++as.map a.eval++cv)[i]=cv[i -(first.length+args.length)]'(by simp at ab;omega):=by
         rw[Array.getElem_append_right (by simp at iT|-;omega)]
         congr 1
         simp at iT|-;omega
        rw[aq,au];exact dg _ (by simp at ab;omega) (by simp at ab;omega)
   split at cl
   · rename_i T ct
     split at cl<;>try(cases cl;done)
     rename_i vs ids pB
     obtain⟨v,al,cl⟩:=Option.map_eq_some_iff.1 cl
     cases cl
     obtain⟨RA,H4⟩:=S.aw.close ids
     obtain⟨cG,dn⟩:=Ca S.aw (fun i=>(eR++as.map a.eval++cv).getD i undef) (fun i ab=>by
      have bB:i<(eR++as.map a.eval++cv).size:=by rw[cW];exact ab
      have:=e7 i ab bB
      rw[Cb _ _ bB];exact this) pB
     refine H0 bo (la n T ct vs v al (bn base okin σ (s.h.close ids)) w (eR++as.map a.eval++cv) (by rw[cW,cG]) (fun i ab bS=>by
      have:=dn i ab
      rw[Cb _ _ bS] at this;exact this) (fun g u aW=>(H4.rep (S.bE.mO g u aW)).Rq)) oU H3 (fun Cc aO eH=>?_)
     obtain⟨c7,c8⟩:=eH
     obtain⟨Cd,Ce⟩:=RA.grown c8
     have H5:=H4.trans Ce
     have H6:=de.of S.aw H5
     rw[<-d1]
     refine ml σ _ aO (S.step a3 H6 Cd (S.lk.of S.aw H5 rfl) (.val _ _ (c7.rM fun b _ ad=>?_)) (Nat.le_refl _) (fun id bs _=>(S.free id bs).2.2) S.fresh (fun _ _=>rfl)) H6
     rcases ad with ad|ad
     · exact ad
     · exact .inr ⟨Nat.le_trans S.aw.base ad,fun id sz aw _=>by have:=(S.aw.val _ _ _ aw).2;omega⟩
   · rename_i ct
     obtain⟨p,aE,cl⟩:=Option.map_eq_some_iff.1 cl
     obtain⟨v,h'⟩:=p
     cases cl
     have ak:=jg.next _ _ _ _ _ aE
     refine H0 bo (jg.fn _ _ _ _ _ aE base okin σ w _ S.aw S.lk S.jd cW e7 S.bE.mO S.fresh) oU H3 (fun Cc aO eH=>?_)
     obtain⟨bc,bq,b',tS,cY,l0,kf⟩:=eH
     rw[<-d1]
     exact ml bc _ aO (S.step a3 bq b' tS cY ak (fun id bs _=>by rw[kf id (S.free id bs).2.1];exact (S.free id bs).2.2) l0 (fun id bs=>kf id (Nat.lt_of_lt_of_le bs S.low))) bq
 · have rX:c4 G tab cc aZ r e s=(evalOp aZ r (aR.ev G s.F) s.h e.op).map fun(v,h',c)=>(⟨cI s.F e.dst v,h'⟩,c):=by
    unfold c4
    split
    · exact absurd ⟨_,_,‹_›⟩ J
    · rfl
   rw[rX] at cl
   obtain⟨p,aE,cl⟩:=Option.map_eq_some_iff.1 cl
   obtain⟨v,h',cD⟩:=p
   have oH:(⟨cI s.F e.dst v,h'⟩:aK)=an:=congrArg Prod.fst cl
   subst oH
   have ym:h'.next=s.h.next:=congrArg Prod.fst (tL aE).1
   have RB:h'.aU=s.h.aU:=congrArg Prod.snd (tL aE).1
   obtain⟨bc,cv,aO,aq,au,aV,bR,eS⟩:=Q8 S.aw S.bE (S.free r nA).2.2 o d2 aE
   have fin:ff P G Y ji bG base okin N cE cH (fun id=>cj id/\id≠r) bc ⟨cI s.F e.dst v,h'⟩ (a.put e.dst cv) aO:=
    S.step a3 (de.of S.aw au) aV (S.lk.of S.aw au RB) bR (by rw[ym];exact Nat.le_refl _) (fun id bs bO=>by rw[eS id bO];exact (S.free id bs).2.2) (fun id bs=>by
      rw[ym] at bs
      have:id≠r:=by have:=(S.free r nA).2.1;omega
      rw[eS id this];exact S.fresh id bs) (fun id bs=>eS id (by have:=(S.free r nA).1;omega))
   have H7:=ml bc _ aO fin (de.of S.aw au)
   have oU:∀c,o.op≠ .defer c:=fun c J=>by rw[J] at d2;simp only[fv] at d2;cases d2
   unfold Oper.wpIn
   refine⟨fun f _=>bo.fn f,?_⟩
   rw[Oper.semAt_eq _ _ _ oU]
   rcases aq with aq|⟨aq,rfl⟩
   · rw[aq,Oper.uponIn_value,<-d1];exact H7
   · rw[aq,Oper.uponIn_skip,<-d1];exact H7
theorem H8 (bo:jy cZ) (jg:tR P G Y cc) (la:∀f T,tab f=some T->aG P G f T) {ops:Array Oper} {i:Nat} {o:Oper} (ab:ops[i]? =some o) {e:aY} (gd:pA P N ops o=some e) {aZ r:Nat} {s an:aK} {c:dN}
 (cl:cJ G tab cc aZ r e s=some (an,c)) (S:ff P G Y ji bG base okin N cE cH cj σ s a w) (nA:cj r) {K:Act->World->Prop} {Q:Exit->Act->World->Prop}
 (ml:∀bc en aO,ff P G Y ji bG base okin N cE cH (fun id=>cj id/\id≠r) bc an en aO->de base okin σ s.h w bc an.h aO->K en aO):wpOpIn cZ dA P ops Q i K a w:=by
 obtain⟨d1,d2,d3,aW⟩:=HZ gd
 unfold wpOpIn
 rw[ab]
 simp only
 unfold cJ at cl
 rcases aW with⟨bJ,ch⟩|⟨j,t,want,bJ,ch,ej⟩
 · rw[ch] at cl
   simp only[Region.wanted,bJ,if_true]
   exact H2 bo jg la gd cl S nA ml
 · rw[ej] at cl
   simp only at cl
   cases ad:s.F t<;>rw[ad] at cl<;>try(cases cl;done)
   · cases cl
     have aL:=S.bE.slot t
     rw[ad] at aL
     have oW:=aL.Qi
     have aQ:yielded ops a.tmps j=none:=by
      rw[Array.getD_eq_getD_getElem?] at oW
      cases aN:a.tmps[t]? with
      | none=>simp[yielded,ch,aN]
      | some v=>
        rw[aN] at oW
        simp only[Option.getD_some] at oW
        subst oW
        simp[yielded,ch,aN,Go.undef]
     simp only[Region.wanted,bJ,aQ]
     have bO:((none:Option Bool) == some want)=false:=rfl
     rw[bO]
     simp only[Bool.false_eq_true,if_false]
     have a3:e.dst.all (fun d=>decide (d<N))=true:=by rw[d1];exact d3
     refine⟨fun f _=>bo.fn f,?_⟩
     rw[<-d1]
     exact ml σ _ w (S.step a3 (de.refl ..) S.aw S.lk .kk (Nat.le_refl _) (fun id bs _=>(S.free id bs).2.2) S.fresh (fun _ _=>rfl)) (de.refl ..)
   rename_i b
   have aL:=S.bE.slot t
   rw[ad] at aL
   have oW:=aL.qx
   have vY:a.tmps[t]? =some (.bool b):=by
    rw[Array.getD_eq_getD_getElem?] at oW
    cases aN:a.tmps[t]? with
    | none=>rw[aN] at oW;simp[undef] at oW
    | some v=>rw[aN] at oW;simpa using oW
   have aQ:yielded ops a.tmps j=some b:=by
    simp[yielded,ch,vY]
   simp only[Region.wanted,bJ,aQ]
   by_cases n1:b=want
   · subst n1
     simp only[if_true] at cl
     simp only[BEq.rfl,if_true]
     exact H2 bo jg la gd cl S nA ml
   · simp only[if_neg n1] at cl
     cases cl
     have bO:(some b == some want)=false:=by simpa using n1
     rw[bO]
     simp only[Bool.false_eq_true,if_false]
     have a3:e.dst.all (fun d=>decide (d<N))=true:=by rw[d1];exact d3
     refine⟨fun f _=>bo.fn f,?_⟩
     rw[<-d1]
     exact ml σ _ w (S.step a3 (de.refl ..) S.aw S.lk .kk (Nat.le_refl _) (fun id bs _=>(S.free id bs).2.2) S.fresh (fun _ _=>rfl)) (de.refl ..)
end
end Go.Eng
namespace Go.Eng
open Go Go.RowKit
section
variable {P:Program} {G:Nat->Option I} {base:Nat} {okin:Nat->Prop} {N:Nat} {cE:Nat} {cH:Nat->Option (Nat × Nat)} {tab:FuncId->Option (List I->Option I)} {cc:kM->List I->ai->Option (I × ai)} {Y:List cy} {ji:Option Nat} {bG:Nat} {cZ:Fence} {dA:Nat}
theorem Cf {aZ:Nat}:∀ {L:List (aY × Nat)} {s an:aK} {cs:List dN},cV G tab cc aZ L s=some (an,cs)->cs.length=L.length
 | [],s,an,cs,h=>by simp only[cV] at h;cases h;rfl
 | q::L,s,an,cs,h=>by
   simp only[cV] at h
   split at h<;>try(cases h;done)
   obtain⟨p,h2,aB⟩:=Option.map_eq_some_iff.1 h
   cases aB
   simp[Cf h2]
theorem ff.weaken {cj tE:Nat->Prop} {σ:Nat->Option (Nat × Nat)} {s:aK} {a:Act} {w:World} (S:ff P G Y ji bG base okin N cE cH cj σ s a w) (h:∀i,tE i->cj i):ff P G Y ji bG base okin N cE cH tE σ s a w:=
 ⟨S.aw,S.lk,S.jd,S.bE,S.size,S.marks,S.rd,S.r4,fun i ab=>S.free i (h i ab),S.low,S.lX,S.fresh⟩
theorem H9 (bo:jy cZ) (jg:tR P G Y cc) (la:∀f T,tab f=some T->aG P G f T) {ops:Array Oper} {aZ:Nat} {an:aK} {Q:Exit->Act->World->Prop}:∀(L:List (aY × Nat)) (s:aK) (cs:List dN) (σ:Nat->Option (Nat × Nat)) (a:Act) (w:World),
 (∀p∈L,∃o,ops[p.2]? =some o/\pA P N ops o=some p.1)->L.Pairwise (fun p q=>p.2<q.2)->cV G tab cc aZ L s=some (an,cs)->
 ff P G Y ji bG base okin N cE cH (fun id=>∃p∈L,id=aZ+p.2) σ s a w->
 (∀bc en aO,ff P G Y ji bG base okin N cE cH (fun _=>False) bc an en aO->de base okin σ s.h w bc an.h aO->Q .normal en aO)->wpOpsIn cZ dA P ops Q (L.map (·.2)) a w
 | [],s,cs,σ,a,w,_,_,cl,S,du=>by
   simp only[cV] at cl;cases cl
   exact du σ a w (S.weaken fun _ h=>h.elim) (de.refl ..)
 | (e,i)::L,s,cs,σ,a,w,bd,a3,cl,S,du=>by
   simp only[cV] at cl
   split at cl<;>try(cases cl;done)
   rename_i s1 c U
   obtain⟨p,h2,aB⟩:=Option.map_eq_some_iff.1 cl
   obtain⟨s2,H_⟩:=p
   have pQ:s2=an:=congrArg Prod.fst aB
   subst pQ
   obtain⟨o,ay,yn⟩:=bd (e,i) (by simp)
   rw[List.map_cons,wpOpsIn_cons]
   refine H8 bo jg la ay yn U S ⟨(e,i),by simp,rfl⟩ (fun bc en aO l3 ad=>?_)
   refine H9 bo jg la L s1 H_ bc en aO (fun p aE=>bd p (by simp[aE])) (List.pairwise_cons.1 a3).2 h2 (l3.weaken ?_) (fun Cg Ch Ci Cj r5=>du Cg Ch Ci Cj (ad.trans r5))
   rintro id ⟨p,aE,rfl⟩
   refine⟨⟨p,by simp[aE],rfl⟩,?_⟩
   have:=(List.pairwise_cons.1 a3).1 p aE
   simp only at this|-
   omega
theorem RC {ops:Array Oper} {b:List Nat} (h:x4 ops b=true) {i k:Nat} {o:Oper} (ay:ops[i]? =some o) (ag:k<i) (ad:(b.getD i 0).testBit k=true):
 ∃e∈o.after,Region.binds .any e=true/\(e.on=k\/(k<e.on/\(b.getD e.on 0).testBit k=true)):=by
 unfold x4 at h
 have U:=List.all_eq_true.1 h (o,i) (by
  rw[List.mem_zipIdx_iff_getElem?]
  simpa using ay)
 have h2:=List.all_eq_true.1 U k (by simpa using ag)
 simp only[ad,Bool.not_true,Bool.false_or] at h2
 obtain⟨e,he,aB⟩:=Array.any_eq_true'.1 h2
 simp only[Bool.and_eq_true,Bool.or_eq_true,beq_iff_eq,decide_eq_true_eq] at aB
 exact ⟨e,he,aB.1,aB.2⟩
theorem H' {ops:Array Oper} (h:x3 ops=true) {i:Nat} {o:Oper} (ay:ops[i]? =some o) {e:Edge} (he:e∈o.after) (ad:Region.binds .any e=true):e.on<i:=by
 unfold x3 at h
 have U:=List.all_eq_true.1 h (o,i) (by
  rw[List.mem_zipIdx_iff_getElem?]
  simpa using ay)
 have h2:=Array.all_eq_true'.1 U e he
 simpa[ad] using h2
structure Left (P:Program) (N:Nat) (ops:Array Oper) (b:List Nat) (L:List (aY × Nat)) (cs:List dN) (listed:Array Bool):Prop where
 size:listed.size=ops.size
 mem:∀p∈L,∃o,ops[p.2]? =some o/\pA P N ops o=some p.1/\listed.getD p.2 true=false
 all:∀i,i<ops.size->listed.getD i true=false->∃e,(e,i)∈L
 yo:L.Pairwise (fun p q=>p.2<q.2)
 shut:∀i,i<ops.size->listed.getD i false=true->∀k,k<i->(b.getD i 0).testBit k=true->listed.getD k false=true
 Ia:∀p q (aE:p<q) (aN:q<L.length) (qE:q<cs.length),(b.getD L[q].2 0).testBit L[p].2=true\/(L[p].1.apart L[q].1=true/\km cs[p] cs[q]=true)
theorem RD {listed:Array Bool} {n i:Nat} (aw:listed.size=n) (ab:i<n):listed.getD i true=false\/listed.getD i false=true:=by
 have:i<listed.size:=by omega
 simp only[Array.getD_eq_getD_getElem?,Array.getElem?_eq_getElem this,Option.getD_some]
 cases listed[i]<;>simp
theorem RE (bo:jy cZ) (jg:tR P G Y cc) (la:∀f T,tab f=some T->aG P G f T) {ops:Array Oper} {b:List Nat} (RF:x4 ops b=true) (Ib:x3 ops=true) {aZ:Nat} {an:aK} {Q:Exit->Act->World->Prop}:
 ∀(fuel:Nat) (L:List (aY × Nat)) (s:aK) (cs:List dN) (listed:Array Bool) (σ:Nat->Option (Nat × Nat)) (a:Act) (w:World),L.length<=fuel->
 Left P N ops b L cs listed->cV G tab cc aZ L s=some (an,cs)->
 ff P G Y ji bG base okin N cE cH (fun id=>∃p∈L,id=aZ+p.2) σ s a w->
 (∀bc en aO,ff P G Y ji bG base okin N cE cH (fun _=>False) bc an en aO->de base okin σ s.h w bc an.h aO->Q .normal en aO)->wpAnyIn cZ dA P .any ops Q fuel listed a w:=by
 have fin:∀(s:aK) (cs:List dN) (σ:Nat->Option (Nat × Nat)) (a:Act) (w:World),cV G tab cc aZ [] s=some (an,cs)->
  ff P G Y ji bG base okin N cE cH (fun id=>∃p∈([]:List (aY × Nat)),id=aZ+p.2) σ s a w->
  (∀bc en aO,ff P G Y ji bG base okin N cE cH (fun _=>False) bc an en aO->de base okin σ s.h w bc an.h aO->Q .normal en aO)->Q .normal a w:=by
  intro s cs σ a w cl S du
  simp only[cV] at cl;cases cl
  exact du σ a w (S.weaken fun _ h=>h.elim) (de.refl ..)
 have RG:∀ {cs:List dN} {listed:Array Bool},Left P N ops b [] cs listed->Region.ready .any ops listed= []:=by
  intro cs listed bd
  apply List.eq_nil_iff_forall_not_mem.2
  intro i ab
  have aT:=mem_ready.1 ab
  obtain⟨az,o,ay,_⟩:=aT
  obtain⟨e,he⟩:=bd.all i (Array.getElem?_eq_some_iff.1 ay).1 az
  simp at he
 intro fuel
 induction fuel with
 | zero=>
   intro L s cs listed σ a w a_ bd cl S du
   have:L= []:=List.eq_nil_of_length_eq_zero (by omega)
   subst this
   exact ⟨RG bd,fin s cs σ a w cl S du⟩
 | succ fuel a8=>
   intro L s cs listed σ a w a_ bd cl S du
   refine⟨fun aT=>?_,fun i ab=>?_⟩
   · cases L with
     | nil=>exact fin s cs σ a w cl S du
     | cons p L=>
       exfalso
       obtain⟨o,ay,yn,az⟩:=bd.mem p (by simp)
       have:p.2∈Region.ready .any ops listed:=by
        refine mem_ready.2 ⟨az,o,ay,fun e he ad=>?_⟩
        have bB:=H' Ib ay he ad
        have cW:=(Array.getElem?_eq_some_iff.1 ay).1
        rcases RD bd.size (show e.on<ops.size by omega) with U|U
        · obtain⟨q,aN⟩:=bd.all e.on (by omega) U
          rcases List.mem_cons.1 aN with aN|aN
          · rw[<-aN] at bB;simp at bB
          · have:=(List.pairwise_cons.1 bd.yo).1 _ aN
            simp at this;omega
        · exact U
       rw[aT] at this;simp at this
   · obtain⟨az,o,ay,RH⟩:=mem_ready.1 ab
     have tI:=(Array.getElem?_eq_some_iff.1 ay).1
     obtain⟨e,he⟩:=bd.all i tI az
     obtain⟨fe,kP,rfl⟩:=List.append_of_mem he
     have yg:∀k,k<i->listed.getD k false=false->(b.getD i 0).testBit k=false:=by
      intro k ag tT
      cases aL:(b.getD i 0).testBit k with
      | false=>rfl
      | true=>
        exfalso
        obtain⟨Ic,U,h2,aB⟩:=RC RF ay ag aL
        have Ie:=RH Ic U h2
        rcases aB with rfl|⟨aB,aS⟩
        · rw[Ie] at tT;cases tT
        · have bB:=H' Ib ay U h2
          have:=bd.shut Ic.on (by omega) Ie k aB aS
          rw[this] at tT;cases tT
     have hlen:=Cf cl
     have RI:∀p∈fe++(e,i)::kP,listed.getD p.2 false=false:=by
      intro p aE
      obtain⟨o',pB,_,qB⟩:=bd.mem p aE
      have cW:=(Array.getElem?_eq_some_iff.1 pB).1
      have ke:p.2<listed.size:=by rw[bd.size];exact cW
      simp only[Array.getD_eq_getD_getElem?,Array.getElem?_eq_getElem ke,Option.getD_some] at qB|-
      exact qB
     obtain⟨s1,c,bY,bP,bq,b',rfl,l0⟩:=HU cl (fun k ag jK qB=>by
      have pI:(fe++(e,i)::kP)[k]'(by simp;omega)=fe[k]:=List.getElem_append_left ag
      have vG:(fe++(e,i)::kP)[fe.length]'(by simp)=(e,i):=by simp
      have aE:=bd.Ia k fe.length ag (by simp) qB
      rw[pI,vG] at aE
      have bB:fe[k].2<i:=by
       have:=List.pairwise_append.1 bd.yo
       exact this.2.2 _ (List.getElem_mem ag) (e,i) (by simp)
      have a_:=yg fe[k].2 bB (RI _ (by simp[List.getElem_mem ag]))
      rcases aE with aE|aE
      · rw[a_] at aE;cases aE
      · exact ⟨aE.1,aE.2,by omega⟩) jg.frame (by
        have RJ:=S.free (aZ+i) ⟨(e,i),by simp,rfl⟩
        cases ad:s.h.cells (aZ+i) with
        | none=>rfl
        | some b=>
          obtain⟨_,_,_,_,U,_⟩:=S.aw.blk _ _ ad
          rw[RJ.2.2] at U;cases U) (S.free (aZ+i) ⟨(e,i),by simp,rfl⟩).2.1
     obtain⟨o',pB,yn,_⟩:=bd.mem (e,i) (by simp)
     refine H8 bo jg la pB yn bq S ⟨(e,i),by simp,rfl⟩ (fun bc en aO l3 k9=>?_)
     have Ig:∀p∈fe++kP,p.2≠i:=by
      intro p aE
      have aN:=List.pairwise_append.1 bd.yo
      rcases List.mem_append.1 aE with aE|aE
      · have:=aN.2.2 p aE (e,i) (by simp);simp at this;omega
      · have:=(List.pairwise_cons.1 aN.2.1).1 p aE;simp at this;omega
     have Ih:∀p∈fe++kP,p∈fe++(e,i)::kP:=by
      intro p aE
      rcases List.mem_append.1 aE with aE|aE
      · simp[aE]
      · simp[aE]
     have tU:∀(j:Nat) (d:Bool),j≠i->(listed.setIfInBounds i true).getD j d=listed.getD j d:=fun j d aA=>by
      simp only[Array.getD_eq_getD_getElem?]
      rw[Array.getElem?_setIfInBounds_ne (Ne.symm aA)]
     have RK:(listed.setIfInBounds i true).getD i false=true:=by
      have:i<listed.size:=by rw[bd.size];exact tI
      simp[Array.getD_eq_getD_getElem?,this]
     have RL:Left P N ops b (fe++kP) (bY++bP) (listed.setIfInBounds i true):=by
      refine⟨by simpa using bd.size,fun p aE=>?_,fun j aA rP=>?_,?_,fun j aA rP k ag aL=>?_,fun p q aE aN qE=>?_⟩
      · obtain⟨jJ,U,h2,aB⟩:=bd.mem p (Ih p aE)
        exact ⟨jJ,U,h2,by rw[tU _ _ (Ig p aE)];exact aB⟩
      · by_cases qJ:j=i
        · subst qJ
          have:j<listed.size:=by rw[bd.size];exact tI
          simp[Array.getD_eq_getD_getElem?,this] at rP
        · rw[tU _ _ qJ] at rP
          obtain⟨e',RM⟩:=bd.all j aA rP
          refine⟨e',?_⟩
          rcases List.mem_append.1 RM with h|h
          · simp[h]
          · rcases List.mem_cons.1 h with h|h
            · exact absurd (congrArg Prod.snd h) qJ
            · simp[h]
      · have aN:=List.pairwise_append.1 bd.yo
        exact List.pairwise_append.2 ⟨aN.1,(List.pairwise_cons.1 aN.2.1).2,fun p aE q qE=>aN.2.2 p aE q (by simp[qE])⟩
      · by_cases tV:k=i
        · subst tV;exact RK
        · rw[tU _ _ tV]
          by_cases qJ:j=i
          · subst qJ
            cases tT:listed.getD k false with
            | true=>rfl
            | false=>rw[yg k ag tT] at aL;cases aL
          · rw[tU _ _ qJ] at rP
            exact bd.shut j aA rP k ag aL
      ·
       have Ii:bY.length=fe.length:=l0
       have pos:∀(r:Nat) (aT:r<(fe++kP).length) (mQ:r<(bY++bP).length),∃gI,(gI=if r<fe.length then r else r+1)/\∃(U:gI<(fe++(e,i)::kP).length) (h2:gI<(bY++c::bP).length),(fe++kP)[r]=(fe++(e,i)::kP)[gI]/\(bY++bP)[r]=(bY++c::bP)[gI]:=by
        intro r aT mQ
        simp only[List.length_append] at aT mQ
        by_cases h:r<fe.length
        · refine⟨r,by rw[if_pos h],by simp;omega,by simp;omega,?_,?_⟩
          · rw[List.getElem_append_left h,List.getElem_append_left h]
          · rw[List.getElem_append_left (by omega),List.getElem_append_left (by omega)]
        · refine⟨r+1,by rw[if_neg h],by simp;omega,by simp;omega,?_,?_⟩
          · rw[List.getElem_append_right (by omega),List.getElem_append_right (by omega)]
            have:r+1 - fe.length=(r - fe.length)+1:=by omega
            simp[this]
          · rw[List.getElem_append_right (by omega),List.getElem_append_right (by omega)]
            have:r+1 - bY.length=(r - bY.length)+1:=by omega
            simp[this]
       obtain⟨ny,RN,bb,bC,bW,cn⟩:=pos p (by omega) (by omega)
       obtain⟨mU,RO,c7,c8,fo,j4⟩:=pos q aN qE
       have:=bd.Ia ny mU (by subst RN;subst RO;split<;>split<;>omega) c7 c8
       rw[bW,fo,cn,j4]
       exact this
     refine a8 (fe++kP) s1 (bY++bP) (listed.setIfInBounds i true) bc en aO (by simp at a_|-;omega) RL b' (l3.weaken ?_) (fun Cg Ch Ci Cj r5=>du Cg Ch Ci Cj (k9.trans r5))
     rintro id ⟨p,aE,rfl⟩
     exact ⟨⟨p,Ih p aE,rfl⟩,by have:=Ig p aE;omega⟩
theorem Ij {ops:Array Oper}:∀ {os:List Oper} {es:List aY},vy P N ops os=some es->es.length=os.length/\∀i (h:i<es.length) (h':i<os.length),pA P N ops os[i]=some es[i]
 | [],es,h=>by simp only[vy] at h;cases h;exact ⟨rfl,fun i h=>absurd h (by simp)⟩
 | o::os,es,h=>by
   simp only[vy] at h
   split at h<;>try(cases h;done)
   rename_i e qC U h2
   cases h
   obtain⟨l,q⟩:=Ij h2
   refine⟨by simp[l],fun i ab bS=>?_⟩
   cases i with
   | zero=>exact U
   | succ i=>exact q i (by simpa using ab) (by simpa using bS)
end
end Go.Eng
namespace Go.Eng
open Go Go.RowKit
section
variable {P:Program} {G:Nat->Option I} {base:Nat} {okin:Nat->Prop} {σ:Nat->Option (Nat × Nat)} {h:ai} {w:World}
theorem Ck {l:Nat} {o o':Obj} (az:w.heap[l]? =some o) (ak:∀arr ty e,o≠ .cells arr ty e) (oQ:∀es c,o≠ .map es c) (ok:Nat->Prop):tx w (w.putObj l o') ok ok:=fun b x ad ag ay=>
 ⟨ay,World.putObj_heap_other (by
   rintro rfl
   rw[az] at ad
   cases ad
   rcases ag with⟨_,_,_,rfl⟩|⟨_,_,rfl⟩
   · exact ak _ _ _ rfl
   · exact oQ _ _ rfl)⟩
theorem Cl {l:Nat} {o o':Obj} (az:w.heap[l]? =some o) (ak:∀arr ty e,o≠ .cells arr ty e) (b:Nat):f' w b<=f' (w.putObj l o') b:=by
 by_cases e:b=l
 · subst e
   have:f' w b=0:=by
    unfold f'
    rw[az]
    cases o<;>first|rfl|exact absurd rfl (ak _ _ _)
   omega
 · unfold f'
   rw[World.putObj_heap_other e];exact Nat.le_refl _
theorem cz.put (H:cz base okin σ h w) {l:Nat} {o:Obj} (o':Obj) (az:w.heap[l]? =some o) (ak:∀arr ty e,o≠ .cells arr ty e) (oQ:∀es c,o≠ .map es c):cz base okin σ h (w.putObj l o'):=by
 refine⟨fun id b s ab=>⟨(H.val id b s ab).1,by simpa using (H.val id b s ab).2⟩,fun id fF ga=>?_,H.inj,by simpa using H.base⟩
 obtain⟨b,s,qD,ty,aq,au,aV⟩:=H.blk id fF ga
 refine⟨b,s,qD,ty,aq,?_,fun i ab=>⟨(aV i ab).1,fun j aA=>?_⟩⟩
 · rw[World.putObj_heap_other (by rintro rfl;rw[az] at au;exact ak _ _ _ (Option.some.inj au))];exact au
 · obtain⟨v,bJ,ch⟩:=(aV i ab).2 j aA
   exact ⟨v,bJ,ch.mono (Ck az ak oQ _) (fun _ _ x=>x) (Cl az ak)⟩
theorem Ik {l:Nat} (o':Obj) (ad:base<=l):Below base w (w.putObj l o'):=⟨rfl,rfl,rfl,by simp,fun k ag=>World.putObj_heap_other (by omega)⟩
theorem de.Cm {l:Nat} {r:Loop} (az:w.heap[l]? =some (.loop r)) (ad:base<=l) (st:LoopState) (jz:Option Code) {h':ai} (j2:∀b,bn base okin σ h b->bn base okin σ h' b):
 de base okin σ h w σ h' (w.putObj l (.loop {r with state:=st,pending:=jz})):=by
 have ak:∀arr ty e,Obj.loop r≠ .cells arr ty e:=fun _ _ _ h=>by cases h
 have oQ:∀es c,Obj.loop r≠ .map es c:=fun _ _ h=>by cases h
 refine⟨fun _ _ x=>x,fun b o U ag h2=>⟨j2 b h2,(Ck az ak oQ (fun _=>True) b o U ag trivial).2⟩,Ik _ ad,Cl az ak,fun b r0 aF=>?_,fun b aF=>?_⟩
 · by_cases e:b=l
   · subst e
     rw[az] at aF;cases aF
     exact ⟨st,jz,World.putObj_heap_same (pP az)⟩
   · exact ⟨r0.state,r0.pending,by rw[World.putObj_heap_other e];exact aF⟩
 · rw[World.putObj_heap_other (by rintro rfl;rw[az] at aF;cases aF)];exact aF
theorem jO.set {aU:Nat->Option fu} (L:jO σ aU w) {id l s:Nat} {r:Loop} {b6:fu} (aE:aU id=some b6) (oV:σ id=some (l,s)) (az:w.heap[l]? =some (.loop r)) (p:fu):
 jO σ (ar aU id (some p)) (w.putObj l (.loop {r with state:=n3 p,pending:=n4 p})):=by
 refine⟨fun fO q aN=>?_,fun i gG q mU a s1 s2 U h2 aq au=>?_⟩
 · by_cases e:fO=id
   · subst e
     simp only[ar,if_true] at aN
     cases aN
     exact ⟨l,s,_,oV,World.putObj_heap_same (pP az),rfl,rfl⟩
   · simp only[ar,e,if_false] at aN
     obtain⟨lD,an,gI,aq,au,aV,bR⟩:=L.look fO q aN
     refine⟨lD,an,gI,aq,?_,aV,bR⟩
     rw[World.putObj_heap_other]
     · exact au
     · rintro rfl
       exact e (L.inj fO id q b6 _ _ _ aN aE aq oV)
 · have f:∀i q,ar aU id (some p) i=some q->∃q,aU i=some q:=by
    intro i q aN
    by_cases e:i=id
    · subst e;exact ⟨b6,aE⟩
    · exact ⟨q,by simpa[ar,e] using aN⟩
   obtain⟨c7,U⟩:=f i q U
   obtain⟨c8,h2⟩:=f gG mU h2
   exact L.inj i gG c7 c8 a s1 s2 U h2 aq au
theorem jO.del {aU:Nat->Option fu} (L:jO σ aU w) {id l s:Nat} {b6:fu} (aE:aU id=some b6) (oV:σ id=some (l,s)) (o':Obj):jO σ (ar aU id none) (w.putObj l o'):=by
 have f:∀i q,ar aU id none i=some q->i≠id/\aU i=some q:=by
  intro i q aN
  by_cases e:i=id
  · simp[ar,e] at aN
  · exact ⟨e,by simpa[ar,e] using aN⟩
 refine⟨fun fO q aN=>?_,fun i gG q mU a s1 s2 U h2 aq au=>L.inj i gG q mU a s1 s2 (f i q U).2 (f gG mU h2).2 aq au⟩
 obtain⟨e,aN⟩:=f fO q aN
 obtain⟨lD,an,gI,aq,au,aV,bR⟩:=L.look fO q aN
 refine⟨lD,an,gI,aq,?_,aV,bR⟩
 rw[World.putObj_heap_other]
 · exact au
 · rintro rfl
   exact e (L.inj fO id q b6 _ _ _ aN aE aq oV)
theorem jO.add {aU:Nat->Option fu} (L:jO σ aU w) (lC:∀id b s,σ id=some (b,s)->b<w.heap.size) {id:Nat} (bs:σ id=none) {ca:World} (ad:Below w.heap.size w ca) {l:Nat} (bB:w.heap.size<=l) {r:Loop}
 (az:ca.heap[l]? =some (.loop r)) (aw:r.state= .ready) (aE:r.pending=none):jO (ar σ id (some (l,0))) (ar aU id (some .ready)) ca:=by
 refine⟨fun fO q aN=>?_,fun i gG q mU a s1 s2 U h2 aq au=>?_⟩
 · by_cases e:fO=id
   · subst e
     simp only[ar,if_true] at aN
     cases aN
     exact ⟨l,0,r,by simp[ar],az,aw,aE⟩
   · simp only[ar,e,if_false] at aN
     obtain⟨lD,an,gI,aq,au,aV,bR⟩:=L.look fO q aN
     exact ⟨lD,an,gI,by simpa[ar,e] using aq,by rw[ad.block lD (pP au)];exact au,aV,bR⟩
 · by_cases e:i=id<;>by_cases e':gG=id
   · rw[e,e']
   · exfalso
     simp only[ar,e,e',if_true,if_false] at aq au
     have:=lC _ _ _ au
     cases aq;omega
   · exfalso
     simp only[ar,e,e',if_true,if_false] at aq au
     have:=lC _ _ _ aq
     cases au;omega
   · simp only[ar,e,e',if_false] at U h2 aq au
     exact L.inj i gG q mU a s1 s2 U h2 aq au
theorem cz.named (H:cz base okin σ h w) {id l:Nat} (bs:σ id=none) (ad:base<=l) (az:l<w.heap.size):cz base okin (ar σ id (some (l,0))) h w/\Prog base okin σ h w (ar σ id (some (l,0))) h w:=by
 have J:=H.BA bs
 have sub:∀i x,σ i=some x->ar σ id (some (l,0)) i=some x:=by
  intro i x ae
  unfold ar
  by_cases e:i=id
  · subst e;rw[bs] at ae;cases ae
  · rw[if_neg e];exact ae
 have ok:∀b,bn base okin σ h b->bn base okin (ar σ id (some (l,0))) h b:=by
  rintro b (ay|⟨U,h2⟩)
  · exact .inl ay
  · refine .inr ⟨U,fun i s aw Cn=>?_⟩
    by_cases e:i=id
    · subst e;rw[J] at Cn;simp at Cn
    · exact h2 i s (by simpa[ar,e] using aw) Cn
 have P:Prog base okin σ h w (ar σ id (some (l,0))) h w:=⟨sub,fun b _ ay=>⟨ok b ay,rfl⟩,Below.refl _ _,fun _=>Nat.le_refl _⟩
 refine⟨⟨fun i b s ab=>?_,fun i fF ga=>?_,fun i gG b s an U h2 aq au=>?_,H.base⟩,P⟩
 · by_cases e:i=id
   · simp only[ar,e,if_true] at ab;cases ab;exact ⟨ad,az⟩
   · simp only[ar,e,if_false] at ab;exact H.val i b s ab
 · obtain⟨b,s,qD,ty,aq,au,aV⟩:=H.blk i fF ga
   refine⟨b,s,qD,ty,sub _ _ aq,au,fun j aA=>⟨(aV j aA).1,fun k ag=>?_⟩⟩
   obtain⟨v,bJ,ch⟩:=(aV j aA).2 k ag
   exact ⟨v,bJ,P.rep ch⟩
 · have lh:i≠id:=by rintro rfl;rw[J] at U;simp at U
   have lT:gG≠id:=by rintro rfl;rw[J] at h2;simp at h2
   exact H.inj i gG b s an U h2 (by simpa[ar,lh] using aq) (by simpa[ar,lT] using au)
inductive Drop (bG:Nat):World->World->Prop
 | refl (w:World):Drop bG w w
 | step {w dc:World} {D:Nat}:bG<=D->w.heap[D]? =some (.deferred (some []))->Drop bG (w.putObj D (.deferred none)) dc->Drop bG w dc
theorem Drop.keeps {bG:Nat} {w dc:World} (d:Drop bG w dc):∀ {kQ:World} {cH:Nat->Option (Nat × Nat)} {aF:ai},bG=kQ.heap.size->base<=bG->de base okin cH aF kQ σ h w->cz base okin σ h w->jO σ h.aU w->
 de base okin cH aF kQ σ h dc/\cz base okin σ h dc/\jO σ h.aU dc/\(∀v cv,a2 w (bn base okin σ h) σ v cv->a2 dc (bn base okin σ h) σ v cv):=by
 induction d with
 | refl w=>exact fun _ _ p H L=>⟨p,H,L,fun _ _ r=>r⟩
 | @step w dc D U h2 _ a8=>
   intro kQ cH aF he ad p H L
   have ak:∀arr ty e,Obj.deferred (some [])≠ .cells arr ty e:=fun _ _ _ h=>by cases h
   have oQ:∀es c,Obj.deferred (some [])≠ .map es c:=fun _ _ h=>by cases h
   have st:=Ck (o':= .deferred none) h2 ak oQ (bn base okin σ h)
   have Il:=Cl (o':= .deferred none) h2 ak
   have bC:de base okin cH aF kQ σ h (w.putObj D (.deferred none)):=by
    refine⟨p.sub,fun b o bJ Im ch=>?_,p.below.trans (Ik _ (Nat.le_trans ad U)),fun b=>Nat.le_trans (p.grow b) (Il b),fun b r g=>?_,fun b g=>?_⟩
    · obtain⟨jJ,aq⟩:=p.still b o bJ Im ch
      obtain⟨dj,au⟩:=st b o (by rw[aq];exact bJ) Im jJ
      exact ⟨dj,au.trans aq⟩
    · obtain⟨s1,bb,aq⟩:=p.loop b r g
      exact ⟨s1,bb,by rw[World.putObj_heap_other (by rintro rfl;rw[h2] at aq;cases aq)];exact aq⟩
    · have:=pP g
      rw[World.putObj_heap_other (by omega)]
      exact p.n2 b g
   have kP:jO σ h.aU (w.putObj D (.deferred none)):=⟨fun id q aN=>by
    obtain⟨l,s,r,aq,au,aV,bR⟩:=L.look id q aN
    exact ⟨l,s,r,aq,by rw[World.putObj_heap_other (by rintro rfl;rw[h2] at au;cases au)];exact au,aV,bR⟩,L.inj⟩
   obtain⟨c7,c8,fo,j4⟩:=a8 he ad bC (H.put _ h2 ak oQ) kP
   exact ⟨c7,c8,fo,fun v cv r=>j4 v cv (r.mono st (fun _ _ x=>x) Il)⟩
theorem Io {Fn:Func} {tmps:Array Value} {R:Ending->World->Prop} {bG:Nat}:∀(cx:List Deferred) (w:World),Marks bG cx w->(∀dc,Drop bG w dc->∃v,(results Fn tmps).run P dc= .ok v dc/\R (.returned v) dc)->
 LeavesInM Fence.wide 0 P Fn tmps R cx .returning w
 | [],w,_,eH=>eH w (.refl w)
 | d::cx,w,M,eH=>by
   obtain⟨D,U,h2,aB⟩:=M.each d (by simp)
   refine⟨by simp,.inl ⟨D,w.putObj D (.deferred none),U,run_takeDeferred aB,Io cx _ ⟨fun oD tW=>?_,(List.pairwise_cons.1 M.nodup).2⟩ (fun dc a3=>eH dc (.step h2 aB a3))⟩⟩
   obtain⟨Ip,bJ,ch,ej⟩:=M.each oD (by simp[tW])
   refine⟨Ip,bJ,ch,?_⟩
   rw[World.putObj_heap_other]
   · exact ej
   · rintro rfl
     exact (List.pairwise_cons.1 M.nodup).1 oD tW (by rw[U,bJ])
end
end Go.Eng
namespace Go.Eng
open Go Go.RowKit
def yp:da->Exit
 | .normal=> .normal
 | .exit id=> .exit id
 | .ret=> .ret
section
variable {P:Program} {G:Nat->Option I} {base:Nat} {okin:Nat->Prop} {N:Nat} {cE:Nat} {cH:Nat->Option (Nat × Nat)} {tab:FuncId->Option (List I->Option I)} {Y:List cy} {ji:Option Nat} {bG:Nat}
theorem ff.bump {cj:Nat->Prop} {σ:Nat->Option (Nat × Nat)} {s:aK} {a:Act} {w:World} (S:ff P G Y ji bG base okin N cE cH cj σ s a w) (m:Nat):
 ff P G Y ji bG base okin N cE cH (fun id=>s.h.next<=id/\id<s.h.next+m) σ ⟨s.F,{s.h with next:=s.h.next+m}⟩ a w:=
 ⟨⟨S.aw.val,S.aw.blk,S.aw.inj,S.aw.base⟩,S.lk,S.jd,S.bE,S.size,S.marks,S.rd,S.r4,fun id bs=>⟨Nat.le_trans S.low bs.1,bs.2,S.fresh id bs.1⟩,Nat.le_trans S.low (Nat.le_add_right _ _),S.lX,fun id bs=>S.fresh id (Nat.le_trans (Nat.le_add_right _ _) bs)⟩
theorem de.next {σ bc:Nat->Option (Nat × Nat)} {h h':ai} {w aO:World} {m:Nat} (p:de base okin σ {h with next:=m} w bc h' aO):de base okin σ h w bc h' aO:=⟨p.sub,p.still,p.below,p.grow,p.loop,p.n2⟩
theorem ff.drew {cj:Nat->Prop} {σ:Nat->Option (Nat × Nat)} {s:aK} {a:Act} {w:World} (S:ff P G Y ji bG base okin N cE cH cj σ s a w):ff P G Y ji bG base okin N cE cH cj σ s a w.drew:=by
 obtain⟨H,p⟩:=S.aw.drew
 have q:=de.of S.aw p
 exact ⟨H,S.lk.of S.aw p rfl,S.jd.mono q,S.bE.mono q,S.size,S.marks.mono q.n2,fun l az=>by
  obtain⟨r,U⟩:=S.rd l az
  obtain⟨st,jz,h2⟩:=q.loop l r U
  exact ⟨_,h2⟩,Nat.le_trans S.r4 q.below.size,S.free,S.low,S.lX,S.fresh⟩
theorem RP (hm:P.follows .mixedOrders=true) {cZ:Fence} {dA:Nat} (bo:jy cZ) {cc:kM->List I->ai->Option (I × ai)} (jg:tR P G Y cc) (la:∀f T,tab f=some T->aG P G f T)
 {id:Nat} {ops:Array Oper} {draw:Bool} {es:List aY} {b:List Nat} {kg:Bool} (J:fE P N (.region id ops draw)=some (.region kg es b)) {s an:aK} (cl:eF G tab cc kg es b s=some an)
 {cj:Nat->Prop} {σ:Nat->Option (Nat × Nat)} {a:Act} {w:World} (S:ff P G Y ji bG base okin N cE cH cj σ s a w) {Q:Exit->Act->World->Prop}
 (du:∀bc en aO,ff P G Y ji bG base okin N cE cH (fun _=>False) bc an en aO->de base okin σ s.h w bc an.h aO->Q .normal en aO):(Code.region id ops draw).wpIn cZ dA P Q a w:=by
 simp only[fE] at J
 split at J<;>try(cases J;done)
 rename_i Iq RQ
 obtain⟨bH,c7⟩:=Ij RQ
 have cW:Iq.length=ops.size:=by simpa using bH
 unfold eF at cl
 split at cl<;>try(cases cl;done)
 rename_i s1 cs aT
 split at cl<;>try(cases cl;done)
 rename_i j2
 cases cl
 have yq:∀(es:List aY),es=Iq->∀p∈es.zipIdx,∃o,ops[p.2]? =some o/\pA P N ops o=some p.1/\p.2<ops.size:=by
  rintro es rfl p aE
  obtain⟨e,i⟩:=p
  have U:=List.mem_zipIdx_iff_getElem?.1 aE
  simp only at U
  obtain⟨ab,rfl⟩:=List.getElem?_eq_some_iff.1 U
  have bS:i<ops.toList.length:=by simp;omega
  have:=c7 i ab bS
  refine⟨ops[i]'(by simpa using bS),by simp[Array.getElem?_eq_getElem (show i<ops.size by simpa using bS)],by simpa using this,by simpa using bS⟩
 have Ir:∀(es:List aY),es.zipIdx.Pairwise (fun p q=>p.2<q.2):=by
  intro es
  rw[List.pairwise_iff_getElem]
  intro i j ab aA RR
  simpa using RR
 cases draw with
 | false=>
   simp only[Bool.false_eq_true,if_false] at J
   cases J
   refine wpIn_region ?_
   have RS:es.zipIdx.map (·.2)=List.range ops.size:=by
    rw[<-cW]
    apply List.ext_getElem
    · simp
    · intro i U h2;simp
   rw[<-RS]
   refine H9 bo jg la _ _ cs σ a w (fun p aE=>by obtain⟨o,U,h2,_⟩:=yq es rfl p aE;exact ⟨o,U,h2⟩) (Ir es) aT ((S.bump es.length).weaken ?_) (fun bc en aO l3 ad=>du bc en aO l3 ad.next)
   rintro id ⟨p,aE,rfl⟩
   obtain⟨_,_,_,aB⟩:=yq es rfl p aE
   exact ⟨Nat.le_add_right _ _,by omega⟩
 | true=>
   simp only[if_true] at J
   split at J<;>try(cases J;done)
   rename_i Is
   cases J
   simp only[Bool.and_eq_true] at Is
   obtain⟨⟨⟨lh,lT⟩,BF⟩,ag0⟩:=Is
   simp only[Bool.not_true,Bool.false_or] at j2
   refine wpIn_region_any hm ?_
   have hlen:=Cf aT
   refine RE bo jg la BF lT ops.size es.zipIdx _ cs _ σ a _ (by simp;omega) ?_ aT (((S.drew).bump es.length).weaken ?_) (fun bc en aO l3 ad=>du bc en aO l3 ?_)
   · refine⟨by simp,fun p aE=>?_,fun i ab _=>?_,Ir es,fun i ab az=>?_,fun p q aE aN qE=>?_⟩
     · obtain⟨o,U,h2,aB⟩:=yq es rfl p aE
       exact ⟨o,U,h2,by simp[Array.getD_eq_getD_getElem?,aB]⟩
     · exact ⟨es[i]'(by omega),by rw[List.mem_zipIdx_iff_getElem?];simp[List.getElem?_eq_getElem (show i<es.length by omega)]⟩
     · simp[Array.getD_eq_getD_getElem?,ab] at az
     · have l1:q<es.length:=by simpa using aN
       have pR:p<es.length:=by omega
       simp only[List.getElem_zipIdx,Nat.zero_add]
       have a1:=List.all_eq_true.1 lh (es[q],q) (by rw[List.mem_zipIdx_iff_getElem?];simp[List.getElem?_eq_getElem l1])
       have eG:=List.all_eq_true.1 a1 (es[p],p) (by rw[List.mem_zipIdx_iff_getElem?];simp[List.getElem?_eq_getElem pR])
       have b1:=List.all_eq_true.1 j2 (cs[q],q) (by rw[List.mem_zipIdx_iff_getElem?];simp[List.getElem?_eq_getElem qE])
       have dW:=List.all_eq_true.1 b1 (cs[p]'(by omega),p) (by rw[List.mem_zipIdx_iff_getElem?];simp[List.getElem?_eq_getElem (show p<cs.length by omega)])
       simp only[decide_eq_true aE,Bool.not_true,Bool.false_or,Bool.or_eq_true] at eG dW
       rcases eG with eG|eG
       · exact .inl eG
       · rcases dW with dW|dW
         · exact .inl dW
         · exact .inr ⟨eG,dW⟩
   · rintro id ⟨p,aE,rfl⟩
     obtain⟨_,_,_,aB⟩:=yq es rfl p aE
     exact ⟨Nat.le_add_right _ _,by simp;omega⟩
   · exact de.trans (de.of S.aw S.aw.drew.2) ad.next
def yr (tmps:Array Value):ResultVar->Sem Value
 | .tmp t=>pure (tmps.getD t undef)
 | .cell a t=>do loadVar t (<-asAddr (tmps.getD a undef))
theorem RT (fn:Func) (tmps:Array Value):results fn tmps=(do let vs <-fn.results.mapM (yr tmps);pure (if h:vs.size=1 then vs[0] else .tuple vs)):=by
 unfold results
 congr 1
theorem RU {fn:Func} {rs:List mg} (Co:rL P fn.results.toList=some rs) {σ:Nat->Option (Nat × Nat)} {s:aK} {a:Act} {w:World} (di:cz base okin σ s.h w) (It:j3 G (bn base okin σ s.h) σ w s.F a) {v:I} (al:dZ s.h s.F rs=some v):
 ∃cv,(results fn a.tmps).run P w= .ok cv w/\a2 w (bn base okin σ s.h) σ v cv:=by
 have main:∀(nu:List ResultVar) (rs:List mg) (vs:List I),rL P nu=some rs->rs.mapM (e6 s.h s.F)=some vs->
  ∃gK:List Value,(nu.mapM (yr a.tmps)).run P w= .ok gK w/\gK.length=vs.length/\∀i (h:i<vs.length) (h':i<gK.length),a2 w (bn base okin σ s.h) σ vs[i] gK[i]:=by
  intro nu
  induction nu with
  | nil=>
    intro rs vs U h2
    simp only[rL] at U;cases U
    simp only[List.mapM_nil] at h2;cases h2
    exact ⟨[],by simp,rfl,fun i h=>absurd h (by simp)⟩
  | cons r nu a8=>
    intro rs vs U h2
    simp only[rL] at U
    split at U<;>try(cases U;done)
    rename_i x xs ae nY
    cases U
    rw[List.mapM_cons] at h2
    obtain⟨u,hu,h2⟩:=Option.bind_eq_some_iff.1 h2
    obtain⟨us,BH,h2⟩:=Option.bind_eq_some_iff.1 h2
    cases h2
    obtain⟨gK,aq,au,aV⟩:=a8 xs us nY BH
    have one:∃ns,(yr a.tmps r).run P w= .ok ns w/\a2 w (bn base okin σ s.h) σ u ns:=by
     cases r with
     | tmp t=>
       simp only[Bx] at ae;cases ae
       simp only[e6] at hu;cases hu
       exact ⟨_,rfl,It.slot t⟩
     | cell en t=>
       simp only[Bx] at ae
       split at ae<;>try(cases ae;done)
       rename_i bQ sz dr cW
       split at ae<;>try(cases ae;done)
       rename_i aS
       cases ae
       simp only[e6] at hu
       split at hu<;>try(cases hu;done)
       rename_i id idx cC bo
       obtain⟨blk,ad,hu⟩:=Option.bind_eq_some_iff.1 hu
       obtain⟨e,he,hu⟩:=Option.bind_eq_some_iff.1 hu
       obtain⟨cs,oM,aE⟩:=Option.bind_eq_some_iff.1 hu
       have rt:=It.slot en
       rw[bo] at rt
       obtain⟨HF,b5,ev,aw⟩:=rt.vA
       obtain⟨d_,bJ,ch⟩:=di.elem ad he aw oM
       obtain⟨cv,bq,b'⟩:=BD (P:=P) (w:=w) (σ:=σ) (ok:=bn base okin σ s.h) dr cW aS _ d_ bJ (tA oM).2.1 ch aE
       exact ⟨cv,by simp[yr,ev,asAddr,bq],b'⟩
    obtain⟨ns,bY,bP⟩:=one
    refine⟨ns::gK,?_,by simp[au],fun i ab bS=>?_⟩
    · rw[List.mapM_cons]
      simp only[Sem.run_bind]
      rw[bY]
      simp only[Result.andThen_ok]
      rw[aq]
      simp
    · cases i with
      | zero=>exact bP
      | succ i=>exact aV i (by simpa using ab) (by simpa using bS)
 unfold dZ at al
 obtain⟨vs,U,h2⟩:=Option.map_eq_some_iff.1 al
 obtain⟨gK,aq,au,aV⟩:=main _ _ _ Co U
 have cl:(results fn a.tmps).run P w= .ok (if h:gK.toArray.size=1 then gK.toArray[0] else .tuple gK.toArray) w:=by
  rw[RT,Array.mapM_eq_mapM_toList]
  simp only[Sem.run_bind,Sem.run_map]
  rw[aq]
  simp
 refine⟨_,cl,?_⟩
 split at h2
 · rename_i v0
   subst h2
   have az:gK.length=1:=by simpa using au
   rw[dif_pos (by simpa using az)]
   have:=aV 0 (by simp) (by omega)
   simpa using this
 · rename_i bO
   subst h2
   have az:gK.length≠1:=by
    intro az
    rw[au] at az
    obtain⟨v0,rfl⟩:=List.length_eq_one_iff.1 az
    exact bO v0 rfl
   rw[dif_neg (by simpa using az)]
   exact .bL _ _ (by simpa using au) (fun i ab bS=>by simpa using aV i ab (by simpa using bS))
theorem RV {fn:Func} {f:aP} (h:By P fn=some f):∃c,fn.body=some c/\fE P fn.ntmps c=some f.body/\rL P fn.results.toList=some f.res/\fn.name≠ "runtime.NumGoroutine":=by
 unfold By at h
 split at h<;>try(cases h;done)
 rename_i ak
 split at h<;>try(cases h;done)
 rename_i c ad
 split at h<;>try(cases h;done)
 rename_i b rs U h2
 cases h
 exact ⟨c,ad,U,h2,by simpa using ak⟩
theorem yt {f:FuncId} {fn:Func} (a_:P.funcs[f]? =some fn) {c:Code} (ad:fn.body=some c) (ak:fn.name≠ "runtime.NumGoroutine") (args:Array Value) (w:World):(callFunc f args).run P w= .ok (.enter f args) w:=by
 simp[callFunc,a_,ad,ak]
def kh (G:Nat->Option I) (Φ:FuncId->Option aP) (tab:FuncId->Option (List I->Option I)) (n:Nat) (Y:List cy) (f:FuncId) (args:List I) (h:ai):Option (I × ai):=
 match Φ f with
 | some fn=>match exec G Φ tab n Y fn.body ⟨ec args,h⟩ with
   | some (.normal,an)|some (.ret,an)=>(dZ an.h an.F fn.res).map fun v=>(v,an.h)
   | _=>none
 | none=>none
def n5 (G:Nat->Option I) (Φ:FuncId->Option aP) (tab:FuncId->Option (List I->Option I)) (n:Nat) (Y:List cy) (id:Nat) (args:List I) (h:ai):Option (I × ai):=
 match nU id Y with
 | some (L,Y')=>if L.ps.length=args.length then
    match exec G Φ tab n Y' L.dt ⟨mM L.F L.ps args,h⟩ with
    | some (.normal,s1)=>match s1.h.aU id with
      | some .ready=>match exec G Φ tab n Y' L.body ⟨s1.F,s1.h.set id (some .busy)⟩ with
        | some (e,an)=>match an.h.aU id with
          | some .busy=>match e with
            | .normal=>some (.bool true,an.h.set id (some .ready))
            | e=>some (.bool false,an.h.set id (some (.done e)))
          | _=>none
        | none=>none
      | _=>none
    | _=>none
   else none
 | none=>none
def kt (G:Nat->Option I) (Φ:FuncId->Option aP) (tab:FuncId->Option (List I->Option I)) (n:Nat) (Y:List cy) (t:kM) (args:List I) (h:ai):Option (I × ai):=
 match t with
 | .fn f=>kh G Φ tab n Y f args h
 | .k7 id=>n5 G Φ tab n Y id args h
theorem qK {Φ:FuncId->Option aP} {n:Nat} {f:FuncId} {args:List I} {h h':ai} {v:I} (J:kh G Φ tab n Y f args h=some (v,h')):
 ∃fn ex an,Φ f=some fn/\exec G Φ tab n Y fn.body ⟨ec args,h⟩=some (ex,an)/\(ex= .normal\/ex= .ret)/\dZ an.h an.F fn.res=some v/\an.h=h':=by
 unfold kh at J
 split at J<;>try(cases J;done)
 rename_i fn a_
 split at J
 · rename_i an he
   obtain⟨u,hu,J⟩:=Option.map_eq_some_iff.1 J
   cases J
   exact ⟨fn,_,an,a_,he,.inl rfl,hu,rfl⟩
 · rename_i an he
   obtain⟨u,hu,J⟩:=Option.map_eq_some_iff.1 J
   cases J
   exact ⟨fn,_,an,a_,he,.inr rfl,hu,rfl⟩
 · cases J
theorem tX {Φ:FuncId->Option aP} {n:Nat} {id:Nat} {args:List I} {h h':ai} {v:I} (J:n5 G Φ tab n Y id args h=some (v,h')):
 ∃L Y' s1 ex an,nU id Y=some (L,Y')/\L.ps.length=args.length/\exec G Φ tab n Y' L.dt ⟨mM L.F L.ps args,h⟩=some (.normal,s1)/\s1.h.aU id=some .ready/\
  exec G Φ tab n Y' L.body ⟨s1.F,s1.h.set id (some .busy)⟩=some (ex,an)/\an.h.aU id=some .busy/\((ex= .normal/\v= .bool true/\h'=an.h.set id (some .ready))\/(ex≠ .normal/\v= .bool false/\h'=an.h.set id (some (.done ex)))):=by
 unfold n5 at J
 split at J<;>try(cases J;done)
 rename_i L Y' bd
 split at J<;>try(cases J;done)
 rename_i hlen
 split at J<;>try(cases J;done)
 rename_i s1 U
 split at J<;>try(cases J;done)
 rename_i aE
 split at J<;>try(cases J;done)
 rename_i e an h2
 split at J<;>try(cases J;done)
 rename_i ad
 split at J
 · cases J
   exact ⟨L,Y',s1,_,an,bd,hlen,U,aE,h2,ad,.inl ⟨rfl,rfl,rfl⟩⟩
 · rename_i bO
   cases J
   exact ⟨L,Y',s1,e,an,bd,hlen,U,aE,h2,ad,.inr ⟨bO,rfl,rfl⟩⟩
theorem Iu {id:Nat} {L:cy} {Y':List cy}:∀ {Y:List cy},nU id Y=some (L,Y')->L∈Y/\L.id=id/\∀X∈Y',X∈Y
 | [],h=>by cases h
 | X::Y,h=>by
   unfold nU at h
   split at h
   · rename_i bs
     cases h
     exact ⟨by simp,bs,fun Z Cp=>by simp[Cp]⟩
   · obtain⟨U,h2,aB⟩:=Iu h
     exact ⟨by simp[U],h2,fun Z Cp=>by simp[aB Z Cp]⟩
def tY (P:Program) (G:Nat->Option I) (tab:FuncId->Option (List I->Option I)) (n:Nat):Prop:=
 ∀(N:Nat) (Y:List cy) (c:Code) (pS:cU) (s:aK) (ex:da) (an:aK),fE P N c=some pS->exec G (aH P) tab n Y pS s=some (ex,an)->
  ∀(cZ:Fence) (dA:Nat) (_:jy cZ) (bG:Nat) (base:Nat) (okin:Nat->Prop) (cE:Nat) (cH:Nat->Option (Nat × Nat)) (σ:Nat->Option (Nat × Nat)) (a:Act) (w:World) (Q:Exit->Act->World->Prop),ff P G Y cZ.round bG base okin N cE cH (fun _=>False) σ s a w->
   (∀bc en aO,ff P G Y cZ.round bG base okin N cE cH (fun _=>False) bc an en aO->de base okin σ s.h w bc an.h aO->Q (yp ex) en aO)->c.wpIn cZ dA P Q a w
theorem Cq {n:Nat} (fx:tY P G tab n) {f:FuncId} {args:List I} {h h':ai} {v:I} (J:kh G (aH P) tab n Y f args h=some (v,h')):
 ∀base okin σ w (dd:Array Value),cz base okin σ h w->jO σ h.aU w->oT P G base okin Y σ h w->dd.size=args.length->
  (∀i (ab:i<args.length) (bS:i<dd.size),a2 w (bn base okin σ h) σ args[i] dd[i])->
  (∀g u,G g=some u->a2 w (bn base okin σ h) σ (.eJ u) (.pointer (some ⟨g,0,none⟩)))->(∀id,h.next<=id->σ id=none)->
  (callFunc f dd).run P w= .ok (.enter f dd) w/\Calls P f dd w fun e aO=>∃cv,e= .returned cv/\tQ base okin σ h w h' v cv aO:=by
 obtain⟨fn,ex,an,a_,he,hex,Cr,rfl⟩:=qK J
 obtain⟨Fn,bo,RW⟩:=Option.bind_eq_some_iff.1 a_
 obtain⟨c,ad,nt,Co,Cs⟩:=RV RW
 have RX:=fx Fn.ntmps Y c fn.body ⟨ec args,h⟩ ex an nt he
 refine fun base okin σ w dd H Ct yu cW e7 pT vZ=>⟨yt bo ad Cs _ _,?_⟩
 refine(callsIn_wide (n:=0)).1 (callsIn_of_wp_marks bo ad trivial ?_)
 have S:ff P G Y Fence.wide.round w.heap.size base okin Fn.ntmps h.next σ (fun _=>False) σ ⟨ec args,h⟩ {tmps:=dd++Array.replicate (Fn.ntmps - dd.size) undef,defers:=[]} w:=by
  refine⟨H,Ct,yu,⟨fun t=>?_,pT⟩,by simp;omega,⟨fun d a3=>absurd a3 (by simp),List.Pairwise.nil⟩,fun l az=>(by cases az),Nat.le_refl _,fun id bs=>bs.elim,Nat.le_refl _,fun _ _=>rfl,vZ⟩
  simp only[ec]
  by_cases aL:t<args.length
  · have bB:t<dd.size:=by omega
    have aq:args.getD t .undef=args[t]:=by simp[List.getD,aL]
    have au:(dd++Array.replicate (Fn.ntmps - dd.size) undef).getD t undef=dd[t]:=by
     rw[Cb _ _ (by simp;omega),Array.getElem_append_left bB]
    rw[aq,au]
    exact e7 t aL bB
  · have aq:args.getD t .undef= .undef:=by simp[List.getD,List.getElem?_eq_none (Nat.le_of_not_lt aL)]
    rw[aq];exact .undef _
 refine RX Fence.wide 0 (.inl rfl) w.heap.size base okin h.next σ σ _ w _ S (fun bc en aO l3 p=>?_)
 have fin:LeavesInM Fence.wide 0 P Fn en.tmps (fun e aO=>∃cv,e= .returned cv/\tQ base okin σ h w an.h v cv aO) en.defers .returning aO:=by
  refine Io _ _ l3.marks fun dc a3=>?_
  obtain⟨c7,c8,fo,j4⟩:=a3.keeps rfl H.base p l3.aw l3.lk
  obtain⟨cv,bq,b'⟩:=RU Co c8 ⟨fun t=>j4 _ _ (l3.bE.slot t),fun g u aW=>j4 _ _ (l3.bE.mO g u aW)⟩ Cr
  exact ⟨cv,bq,cv,rfl,bc,c7,c8,fo,b',l3.fresh,l3.lX⟩
 rcases hex with rfl|rfl
 · exact fin
 · exact fin
theorem RY {ps:List Nat}:∀ {vs:List I} {gK:List Value} {w:World} {ok:Nat->Prop} {σ:Nat->Option (Nat × Nat)} {F:Nat->I} {b7:Array Value},vs.length=ps.length->gK.length=ps.length->(∀p∈ps,p<b7.size)->
 (∀t,a2 w ok σ (F t) (b7.getD t undef))->(∀i (h:i<vs.length) (h':i<gK.length),a2 w ok σ vs[i] gK[i])->
 ∀t,a2 w ok σ (mM F ps vs t) (((ps.zip gK).foldl (fun tmps (t,a)=>tmps.setIfInBounds t a) b7).getD t undef):=by
 induction ps with
 | nil=>intro vs gK w ok σ F b7 U h2 aE bo al t;simpa[mM] using bo t
 | cons p ps a8=>
   intro vs gK w ok σ F b7 U h2 aE bo al t
   cases vs with
   | nil=>simp at U
   | cons v vs=>
     cases gK with
     | nil=>simp at h2
     | cons c gK=>
       simp only[mM,List.zip_cons_cons,List.foldl_cons]
       refine a8 (by simpa using U) (by simpa using h2) (fun q aN=>by simpa using aE q (by simp[aN])) (fun t=>?_) (fun i ab bS=>by
        have:=al (i+1) (by simpa using ab) (by simpa using bS)
        simpa using this) t
       have bB:=aE p (by simp)
       by_cases e:t=p
       · subst e
         have:=al 0 (by simp) (by simp)
         simpa[ar,Array.getD,bB] using this
       · have au:(b7.setIfInBounds p c).getD t undef=b7.getD t undef:=by
          simp only[Array.getD_eq_getD_getElem?]
          rw[Array.getElem?_setIfInBounds_ne (Ne.symm e)]
         rw[au]
         simpa[ar,e] using bo t
theorem RZ {ps:List Nat}:∀ {gK:List Value} {b7:Array Value},((ps.zip gK).foldl (fun tmps (t,a)=>tmps.setIfInBounds t a) b7).size=b7.size:=by
 induction ps with
 | nil=>intro gK b7;simp
 | cons p ps a8=>
   intro gK b7
   cases gK with
   | nil=>simp
   | cons c gK=>simp only[List.zip_cons_cons,List.foldl_cons];rw[a8];simp
theorem Iv {cc:kM->List I->ai->Option (I × ai)} (jg:∀t args h v h',cc t args h=some (v,h')->h.next<=h'.next) {aZ:Nat}:∀ {L:List (aY × Nat)} {s an:aK} {cs:List dN},cV G tab cc aZ L s=some (an,cs)->s.h.next<=an.h.next
 | [],s,an,cs,h=>by simp only[cV] at h;cases h;exact Nat.le_refl _
 | (e,i)::L,s,an,cs,h=>by
   simp only[cV] at h
   split at h<;>try(cases h;done)
   rename_i s1 c U
   obtain⟨p,h2,aB⟩:=Option.map_eq_some_iff.1 h
   cases aB
   refine Nat.le_trans ?_ (Iv jg h2)
   have go:∀ {s1:aK} {c:dN},c4 G tab cc aZ (aZ+i) e s=some (s1,c)->s.h.next<=s1.h.next:=by
    intro s1 c aW
    unfold c4 at aW
    split at aW
    · split at aW<;>try(cases aW;done)
      · split at aW
        · split at aW<;>try(cases aW;done)
          obtain⟨v,_,aW⟩:=Option.map_eq_some_iff.1 aW
          cases aW
          exact Nat.le_refl _
        · obtain⟨q,aN,aW⟩:=Option.map_eq_some_iff.1 aW
          obtain⟨v,h'⟩:=q
          cases aW
          exact jg _ _ _ _ _ aN
      · obtain⟨q,aN,aW⟩:=Option.map_eq_some_iff.1 aW
        obtain⟨v,h'⟩:=q
        cases aW
        exact jg _ _ _ _ _ aN
    · obtain⟨q,aN,aW⟩:=Option.map_eq_some_iff.1 aW
      obtain⟨v,h',cD⟩:=q
      have oH:(⟨cI s.F e.dst v,h'⟩:aK)=s1:=congrArg Prod.fst aW
      subst oH
      exact Nat.le_of_eq (congrArg Prod.fst (tL aN).1).symm
   unfold cJ at U
   split at U
   · exact go U
   · split at U<;>try(cases U;done)
     · split at U
       · exact go U
       · cases U;exact Nat.le_refl _
     · cases U;exact Nat.le_refl _
theorem fW (G:Nat->Option I) (Φ:FuncId->Option aP) (tab:FuncId->Option (List I->Option I)) (n:Nat) (Y:List cy) (c:cU) (s:aK):exec G Φ tab (n+1) Y c s=match c with
 | .skip=>some (.normal,s)
 | .ret=>some (.ret,s)
 | .exit id=>some (.exit id,s)
 | .region draw ops eK=>(eF G tab (kt G Φ tab n Y) draw ops eK s).map fun an=>(.normal,an)
 | .seq a b=>match exec G Φ tab n Y a s with
   | some (.normal,an)=>exec G Φ tab n Y b an
   | r=>r
 | .cond x a b=>match x.ev G s.F with
   | .bool t=>if t then exec G Φ tab n Y a s else exec G Φ tab n Y b s
   | _=>none
 | .block id b=>match exec G Φ tab n Y b s with
   | some (.exit i,an)=>if i=id then some (.normal,an) else some (.exit i,an)
   | r=>r
 | .loop b=>match exec G Φ tab n Y b s with
   | some (.normal,an)=>exec G Φ tab n Y (.loop b) an
   | r=>r
 | .k6 f ps dt body=>match f.ev G s.F with
   | .fn g first caps=>match Φ g with
     | some fn=>match exec G Φ tab n (⟨s.h.next,s.F,ps,dt,body⟩::Y) fn.body ⟨ec (first++ [.fD s.h.next]++caps),{s.h with next:=s.h.next+1,aU:=ar s.h.aU s.h.next (some .ready)}⟩ with
       | some (.normal,an)|some (.ret,an)=>match dZ an.h an.F fn.res with
         | some _=>match an.h.aU s.h.next with
           | some .ready=>some (.normal,⟨s.F,an.h.set s.h.next none⟩)
           | some (.done e)=>some (e,⟨s.F,an.h.set s.h.next none⟩)
           | _=>none
         | none=>none
       | _=>none
     | none=>none
   | _=>none:=by
 cases c<;>rfl
theorem yv {Φ:FuncId->Option aP} {n:Nat} {f:aR} {ps:List Nat} {dt body:cU} {s an:aK} {ex:da} (he:exec G Φ tab (n+1) Y (.k6 f ps dt body) s=some (ex,an)):
 ∃g first caps v h' p,f.ev G s.F= .fn g first caps/\
  kh G Φ tab n (⟨s.h.next,s.F,ps,dt,body⟩::Y) g (first++ [.fD s.h.next]++caps) {s.h with next:=s.h.next+1,aU:=ar s.h.aU s.h.next (some .ready)}=some (v,h')/\
  h'.aU s.h.next=some p/\((p= .ready/\ex= .normal)\/p= .done ex)/\an=⟨s.F,h'.set s.h.next none⟩:=by
 rw[fW] at he
 simp only at he
 split at he<;>try(cases he;done)
 rename_i g first caps a_
 split at he<;>try(cases he;done)
 rename_i fn mm
 have key:∀(s1:aK),(exec G Φ tab n (⟨s.h.next,s.F,ps,dt,body⟩::Y) fn.body ⟨ec (first++ [.fD s.h.next]++caps),{s.h with next:=s.h.next+1,aU:=ar s.h.aU s.h.next (some .ready)}⟩=some (.normal,s1)\/
  exec G Φ tab n (⟨s.h.next,s.F,ps,dt,body⟩::Y) fn.body ⟨ec (first++ [.fD s.h.next]++caps),{s.h with next:=s.h.next+1,aU:=ar s.h.aU s.h.next (some .ready)}⟩=some (.ret,s1))->
  (match dZ s1.h s1.F fn.res with
    | some _=>match s1.h.aU s.h.next with
      | some .ready=>some (da.normal,(⟨s.F,s1.h.set s.h.next none⟩:aK))
      | some (.done e)=>some (e,⟨s.F,s1.h.set s.h.next none⟩)
      | _=>none
    | none=>none)=some (ex,an)->
  ∃dC Iw Ix v h' p,I.fn g first caps= .fn dC Iw Ix/\
  kh G Φ tab n (⟨s.h.next,s.F,ps,dt,body⟩::Y) dC (Iw++ [.fD s.h.next]++Ix) {s.h with next:=s.h.next+1,aU:=ar s.h.aU s.h.next (some .ready)}=some (v,h')/\
  h'.aU s.h.next=some p/\((p= .ready/\ex= .normal)\/p= .done ex)/\an=⟨s.F,h'.set s.h.next none⟩:=by
  intro s1 U h2
  split at h2<;>try(cases h2;done)
  rename_i v al
  refine⟨g,first,caps,v,s1.h,?_⟩
  have BQ:kh G Φ tab n (⟨s.h.next,s.F,ps,dt,body⟩::Y) g (first++ [.fD s.h.next]++caps) {s.h with next:=s.h.next+1,aU:=ar s.h.aU s.h.next (some .ready)}=some (v,s1.h):=by
   unfold kh
   rw[mm]
   rcases U with U|U<;>simp only[U,al,Option.map_some]
  split at h2
  · rename_i aE
    cases h2
    exact ⟨_,rfl,BQ,aE,.inl ⟨rfl,rfl⟩,rfl⟩
  · rename_i e aE
    cases h2
    exact ⟨_,rfl,BQ,aE,.inr rfl,rfl⟩
  · cases h2
 rw[a_]
 split at he
 · rename_i s1 U
   exact key s1 (.inl U) he
 · rename_i s1 U
   exact key s1 (.inr U) he
 · cases he
theorem yw {Φ:FuncId->Option aP}:∀(n:Nat) (Y:List cy) (c:cU) (s:aK) (ex:da) (an:aK),exec G Φ tab n Y c s=some (ex,an)->s.h.next<=an.h.next:=by
 intro n
 induction n with
 | zero=>intro Y c s ex an he;unfold exec at he;cases he
 | succ n a8=>
   have bw:∀ {Y:List cy} {f:FuncId} {args:List I} {h h':ai} {v:I},kh G Φ tab n Y f args h=some (v,h')->h.next<=h'.next:=by
    intro Y f args h h' v J
    obtain⟨fn,ex,an,_,he,_,_,rfl⟩:=qK J
    exact a8 _ _ _ _ _ he
   have mn:∀ {Y:List cy} {id:Nat} {args:List I} {h h':ai} {v:I},n5 G Φ tab n Y id args h=some (v,h')->h.next<=h'.next:=by
    intro Y id args h h' v J
    obtain⟨L,Y',s1,ex,an,_,_,U,_,h2,_,aB⟩:=tX J
    have a1:=a8 _ _ _ _ _ U
    have eG:=a8 _ _ _ _ _ h2
    have:h'.next=an.h.next:=by rcases aB with⟨_,_,rfl⟩|⟨_,_,rfl⟩<;>rfl
    rw[this]
    exact Nat.le_trans a1 eG
   intro Y c s ex an he
   have yx:=he
   rw[fW] at he
   cases c with
   | skip=>cases he;exact Nat.le_refl _
   | ret=>cases he;exact Nat.le_refl _
   | exit id=>cases he;exact Nat.le_refl _
   | region draw ops eK=>
     simp only at he
     obtain⟨s1,U,he⟩:=Option.map_eq_some_iff.1 he
     cases he
     unfold eF at U
     split at U<;>try(cases U;done)
     rename_i s2 cs h2
     split at U<;>try(cases U;done)
     cases U
     refine Nat.le_trans (Nat.le_add_right _ _) (Iv (fun t args h v h' J=>?_) h2)
     cases t with
     | fn f=>exact bw J
     | k7 id=>exact mn J
   | seq a b=>
     simp only at he
     split at he
     · rename_i s1 U
       exact Nat.le_trans (a8 _ _ _ _ _ U) (a8 _ _ _ _ _ he)
     · exact a8 _ _ _ _ _ he
   | cond x a b=>
     simp only at he
     split at he<;>try(cases he;done)
     split at he
     · exact a8 _ _ _ _ _ he
     · exact a8 _ _ _ _ _ he
   | block id b=>
     simp only at he
     split at he
     · rename_i i s1 U
       have:=a8 _ _ _ _ _ U
       split at he<;>(cases he;exact this)
     · exact a8 _ _ _ _ _ he
   | loop b=>
     simp only at he
     split at he
     · rename_i s1 U
       exact Nat.le_trans (a8 _ _ _ _ _ U) (a8 _ _ _ _ _ he)
     · exact a8 _ _ _ _ _ he
   | k6 f ps dt body=>
     obtain⟨g,first,caps,v,h',p,_,J,_,_,rfl⟩:=yv yx
     have:=bw J
     simp only at this
     show s.h.next<=h'.next
     omega
theorem R0 {Φ:FuncId->Option aP} {n:Nat} {t:kM} {args:List I} {h h':ai} {v:I} (J:kt G Φ tab n Y t args h=some (v,h')):h.next<=h'.next:=by
 cases t with
 | fn f=>
   obtain⟨fn,ex,an,_,he,_,_,rfl⟩:=qK J
   exact yw _ _ _ _ _ _ he
 | k7 id=>
   obtain⟨L,Y',s1,ex,an,_,_,U,_,h2,_,aB⟩:=tX J
   have a1:=yw _ _ _ _ _ _ U
   have eG:=yw _ _ _ _ _ _ h2
   have:h'.next=an.h.next:=by rcases aB with⟨_,_,rfl⟩|⟨_,_,rfl⟩<;>rfl
   rw[this]
   exact Nat.le_trans a1 eG
end
end Go.Eng
namespace Go.Eng
open Go Go.RowKit
section
variable {G:Nat->Option I} {Φ:FuncId->Option aP} {tab:FuncId->Option (List I->Option I)}
theorem R1 {h:ai} {F:Nat->I} {r:Nat} {blk:List I} (ak:h.cells r=none):∀ {x:mg} {v:I},e6 h F x=some v->e6 (h.new r blk) F x=some v
 | .tmp t,v,al=>al
 | .cell t bQ sz,v,al=>by
   simp only[e6] at al|-
   split at al<;>try(cases al;done)
   rename_i id idx cC bo
   obtain⟨b,ad,al⟩:=Option.bind_eq_some_iff.1 al
   try simp only[bo]
   have bO:id≠r:=by rintro rfl;rw[ak] at ad;cases ad
   rw[oO _ _ bO,ad]
   exact al
theorem Iy {h:ai} {F:Nat->I} {r:Nat} {blk:List I} (ak:h.cells r=none):∀ {rs:List mg} {vs:List I},rs.mapM (e6 h F)=some vs->rs.mapM (e6 (h.new r blk) F)=some vs
 | [],vs,al=>al
 | x::rs,vs,al=>by
   rw[List.mapM_cons] at al|-
   simp only[Option.bind_eq_bind,Option.bind_eq_some_iff,Option.pure_def,Option.some.injEq] at al|-
   obtain⟨a,aC,b,ad,e⟩:=al
   exact ⟨a,R1 ak aC,b,Iy ak ad,e⟩
theorem R2 {h:ai} {F:Nat->I} {r:Nat} {blk:List I} (ak:h.cells r=none) {rs:List mg} {v:I} (al:dZ h F rs=some v):dZ (h.new r blk) F rs=some v:=by
 unfold dZ at al|-
 obtain⟨vs,U,h2⟩:=Option.map_eq_some_iff.1 al
 rw[Iy ak U]
 exact congrArg some h2
theorem Iz {cc:kM->List I->ai->Option (I × ai)} (a_:qG cc) {aZ r:Nat} {blk:List I} (qL:r<aZ):∀ {L:List (aY × Nat)} {s an:aK} {cs:List dN},cV G tab cc aZ L s=some (an,cs)->s.h.cells r=none->r<s.h.next->
 cV G tab cc aZ L ⟨s.F,s.h.new r blk⟩=some (⟨an.F,an.h.new r blk⟩,cs)/\an.h.cells r=none/\s.h.next<=an.h.next
 | [],s,an,cs,h,ak,aT=>by
   simp only[cV] at h|-
   cases h
   exact ⟨rfl,ak,Nat.le_refl _⟩
 | (e,i)::L,s,an,cs,h,ak,aT=>by
   simp only[cV] at h|-
   split at h<;>try(cases h;done)
   rename_i s1 c U
   obtain⟨p,h2,aB⟩:=Option.map_eq_some_iff.1 h
   obtain⟨s2,H_⟩:=p
   cases aB
   obtain⟨bq,b',cY⟩:=B5 (blk:=blk) a_ U ak aT (by omega)
   obtain⟨c7,c8,fo⟩:=Iz (blk:=blk) a_ qL h2 b' (by omega)
   exact ⟨by simp only[bq,c7,Option.map_some],c8,by show s.h.next<=s2.h.next;omega⟩
theorem Cu {n:Nat} (fx:∀(Y:List cy) (c:cU) (s:aK) (ex:da) (an:aK),exec G Φ tab n Y c s=some (ex,an)->∀r blk,s.h.cells r=none->r<s.h.next->exec G Φ tab n Y c ⟨s.F,s.h.new r blk⟩=some (ex,⟨an.F,an.h.new r blk⟩)/\an.h.cells r=none/\s.h.next<=an.h.next)
 (Y:List cy):qG (kt G Φ tab n Y):=by
 intro t args h v h' r blk J ak aT
 cases t with
 | fn f=>
   obtain⟨fn,ex,an,mm,he,hex,al,rfl⟩:=qK J
   obtain⟨bq,b',cY⟩:=fx _ _ _ _ _ he r blk ak aT
   refine⟨?_,b',cY⟩
   show kh G Φ tab n Y f args (h.new r blk)=_
   unfold kh
   simp only at bq
   rcases hex with rfl|rfl<;>simp only[mm,bq,R2 b' al,Option.map_some]
 | k7 id=>
   obtain⟨L,Y',s1,ex,an,bd,hlen,U,aE,h2,ad,aB⟩:=tX J
   obtain⟨bq,b',cY⟩:=fx _ _ _ _ _ U r blk ak aT
   obtain⟨c7,c8,fo⟩:=fx _ _ _ _ _ h2 r blk b' (show r<s1.h.next by simp only at cY;omega)
   simp only at bq c7
   have az:h.next<=an.h.next:=Nat.le_trans cY fo
   have IA:exec G Φ tab n Y' L.body ⟨s1.F,(s1.h.new r blk).set id (some .busy)⟩=some (ex,⟨an.F,an.h.new r blk⟩):=c7
   rcases aB with⟨rfl,rfl,rfl⟩|⟨bO,rfl,rfl⟩
   · refine⟨?_,c8,az⟩
     show n5 G Φ tab n Y id args (h.new r blk)=_
     unfold n5
     simp only[bd,if_pos hlen,bq,show (s1.h.new r blk).aU id=some .ready from aE,IA,show (an.h.new r blk).aU id=some .busy from ad]
     rfl
   · refine⟨?_,c8,az⟩
     show n5 G Φ tab n Y id args (h.new r blk)=_
     unfold n5
     simp only[bd,if_pos hlen,bq,show (s1.h.new r blk).aU id=some .ready from aE,IA,show (an.h.new r blk).aU id=some .busy from ad]
     cases ex with
     | normal=>exact absurd rfl bO
     | exit i=>rfl
     | ret=>rfl
theorem IB:∀(n:Nat) (Y:List cy) (c:cU) (s:aK) (ex:da) (an:aK),exec G Φ tab n Y c s=some (ex,an)->∀r blk,s.h.cells r=none->r<s.h.next->
 exec G Φ tab n Y c ⟨s.F,s.h.new r blk⟩=some (ex,⟨an.F,an.h.new r blk⟩)/\an.h.cells r=none/\s.h.next<=an.h.next
 | 0,Y,c,s,ex,an,he,r,blk,ak,aT=>by unfold exec at he;cases he
 | n+1,Y,c,s,ex,an,he,r,blk,ak,aT=>by
   have fx:=IB n
   have aF:=he
   rw[fW] at he|-
   cases c with
   | skip=>cases he;exact ⟨rfl,ak,Nat.le_refl _⟩
   | ret=>cases he;exact ⟨rfl,ak,Nat.le_refl _⟩
   | exit id=>cases he;exact ⟨rfl,ak,Nat.le_refl _⟩
   | region kg ops eK=>
     simp only at he|-
     obtain⟨s1,U,he⟩:=Option.map_eq_some_iff.1 he
     cases he
     unfold eF at U|-
     split at U<;>try(cases U;done)
     rename_i s2 cs cl
     split at U<;>try(cases U;done)
     rename_i j2
     cases U
     obtain⟨bq,b',cY⟩:=Iz (blk:=blk) (Cu fx Y) aT cl ak (show r<s.h.next+ops.length by omega)
     simp only at bq cY
     refine⟨?_,b',by omega⟩
     have R3:cV G tab (kt G Φ tab n Y) (s.h.new r blk).next ops.zipIdx ⟨s.F,{(s.h.new r blk) with next:=(s.h.new r blk).next+ops.length}⟩=some (⟨an.F,an.h.new r blk⟩,cs):=bq
     rw[R3]
     simp only[if_pos j2,Option.map_some]
   | seq a b=>
     simp only at he|-
     split at he
     · rename_i s1 U
       obtain⟨bq,b',cY⟩:=fx _ _ _ _ _ U r blk ak aT
       obtain⟨c7,c8,fo⟩:=fx _ _ _ _ _ he r blk b' (by omega)
       exact ⟨by simp only[bq];exact c7,c8,by omega⟩
     · rename_i bO
       obtain⟨bq,b',cY⟩:=fx _ _ _ _ _ he r blk ak aT
       refine⟨?_,b',cY⟩
       rw[bq]
       cases ex with
       | normal=>exact absurd he (bO an)
       | exit i=>rfl
       | ret=>rfl
   | cond x a b=>
     simp only at he|-
     split at he<;>try(cases he;done)
     rename_i t aL
     try simp only[aL]
     split at he
     · rename_i r6;simp only[if_pos r6];exact fx _ _ _ _ _ he r blk ak aT
     · rename_i r6;simp only[if_neg r6];exact fx _ _ _ _ _ he r blk ak aT
   | block id b=>
     simp only at he|-
     split at he
     · rename_i i s1 U
       obtain⟨bq,b',cY⟩:=fx _ _ _ _ _ U r blk ak aT
       rw[bq]
       simp only
       split at he<;>rename_i ab<;>cases he<;>simp only[ab,if_true,if_false]<;>exact ⟨by first|rfl|trivial,b',cY⟩
     · rename_i bO
       obtain⟨bq,b',cY⟩:=fx _ _ _ _ _ he r blk ak aT
       refine⟨?_,b',cY⟩
       rw[bq]
       cases ex with
       | normal=>rfl
       | exit i=>exact absurd he (bO i an)
       | ret=>rfl
   | loop b=>
     simp only at he|-
     split at he
     · rename_i s1 U
       obtain⟨bq,b',cY⟩:=fx _ _ _ _ _ U r blk ak aT
       obtain⟨c7,c8,fo⟩:=fx _ _ _ _ _ he r blk b' (by omega)
       exact ⟨by simp only[bq];exact c7,c8,by omega⟩
     · rename_i bO
       obtain⟨bq,b',cY⟩:=fx _ _ _ _ _ he r blk ak aT
       refine⟨?_,b',cY⟩
       rw[bq]
       cases ex with
       | normal=>exact absurd he (bO an)
       | exit i=>rfl
       | ret=>rfl
   | k6 f ps dt body=>
     obtain⟨g,first,caps,v,h',p,a_,J,aE,n6,rfl⟩:=yv aF
     have Cv:kt G Φ tab n (⟨s.h.next,s.F,ps,dt,body⟩::Y) (.fn g) (first++ [.fD s.h.next]++caps) {s.h with next:=s.h.next+1,aU:=ar s.h.aU s.h.next (some .ready)}=some (v,h'):=J
     obtain⟨bq,b',cY⟩:=Cu fx _ _ _ _ _ _ r blk Cv ak (show r<s.h.next+1 by omega)
     obtain⟨fn,e,s2,mm,n7,hex,al,cK⟩:=qK (show kh G Φ tab n _ g _ _=some (v,h'.new r blk) from bq)
     refine⟨?_,b',by simp only at cY;show s.h.next<=h'.next;omega⟩
     simp only[a_,mm]
     have v3:exec G Φ tab n (⟨(s.h.new r blk).next,s.F,ps,dt,body⟩::Y) fn.body ⟨ec (first++ [.fD (s.h.new r blk).next]++caps),{(s.h.new r blk) with next:=(s.h.new r blk).next+1,aU:=ar (s.h.new r blk).aU (s.h.new r blk).next (some .ready)}⟩=some (e,s2):=n7
     have pR:s2.h.aU (s.h.new r blk).next=some p:=by rw[cK];exact aE
     rw[v3]
     rcases hex with rfl|rfl<;>simp only[al,pR]<;>rcases n6 with⟨rfl,rfl⟩|rfl<;>simp only[cK]<;>rfl
theorem R4 (n:Nat) (Y:List cy):qG (kt G Φ tab n Y):=Cu (IB n) Y
end
end Go.Eng
namespace Go.Eng
open Go Go.RowKit
section
variable {P:Program} {G:Nat->Option I} {tab:FuncId->Option (List I->Option I)} {Y:List cy}
theorem R5 {n:Nat} (fx:tY P G tab n) {id:Nat} {args:List I} {h h':ai} {v:I} (J:n5 G (aH P) tab n Y id args h=some (v,h')):
 ∀base okin σ w (dd:Array Value) l s,cz base okin σ h w->jO σ h.aU w->oT P G base okin Y σ h w->σ id=some (l,s)->dd.size=args.length->
  (∀i (ab:i<args.length) (bS:i<dd.size),a2 w (bn base okin σ h) σ args[i] dd[i])->
  (∀g u,G g=some u->a2 w (bn base okin σ h) σ (.eJ u) (.pointer (some ⟨g,0,none⟩)))->(∀id,h.next<=id->σ id=none)->
  B' P l dd w (tQ base okin σ h w h' v):=by
 obtain⟨L,Y',s1,ex,an,bd,hlen,R6,v5,n7,R7,jj⟩:=tX J
 obtain⟨cG,dn,mP⟩:=Iu bd
 intro base okin σ w dd l s H Ct yu oV cW e7 pT vZ
 obtain⟨lD,kr,r,nz,bY,bP,cr,cS,kR,mo,j5,n8⟩:=yu L cG
 rw[dn,oV] at bY;cases bY
 have r7:r.params.size=L.ps.length:=by rw[cS];simp
 have pN:dd.size=r.params.size:=by omega
 have R8:oT P G base okin Y' σ h w:=fun X l4=>yu X (mP X l4)
 have k9:base<=l:=(H.val _ _ _ oV).1
 refine⟨r.fn,_,r.assign,r.body,run_yield bP pN,fun F dA bo=>?_⟩
 have R9:(r.params.zip dd).foldl (fun tmps (t,a)=>tmps.setIfInBounds t a) r.tmps=(L.ps.zip dd.toList).foldl (fun tmps (t,a)=>tmps.setIfInBounds t a) r.tmps:=by
  rw[cS,<-Array.foldl_toList,Array.toList_zip]
 rw[R9]
 have S:ff P G Y' (F.inRound l).round w.heap.size base okin nz h.next σ (fun _=>False) σ ⟨mM L.F L.ps args,h⟩ {tmps:=(L.ps.zip dd.toList).foldl (fun tmps (t,a)=>tmps.setIfInBounds t a) r.tmps,defers:=[]} w:=by
  refine⟨H,Ct,R8,⟨fun t=>?_,pT⟩,?_,⟨fun d a3=>absurd a3 (by simp),List.Pairwise.nil⟩,fun dR iS=>?_,Nat.le_refl _,fun id bs=>bs.elim,Nat.le_refl _,fun _ _=>rfl,vZ⟩
  · exact RY (by omega) (by simp;omega) (fun p aE=>Nat.lt_of_lt_of_le (kR p aE) cr) (fun t=>n8.slot t) (fun i ab bS=>by
     have:=e7 i ab (by simpa using bS)
     simpa using this) t
  · show nz<=(Array.size _)
    rw[RZ];exact cr
  · cases iS;exact ⟨r,bP⟩
 refine roundIn_of_wpIn (bo.fn _) ?_
 refine fx nz Y' r.assign L.dt _ _ s1 mo R6 (F.inRound l) dA (bo.inRound l) w.heap.size base okin h.next σ σ _ w _ S (fun jc a1 ca iU bb=>?_)
 obtain⟨bH,vV,bF,d1,d2,d3,d4⟩:=iU.lk.look id _ v5
 have Cw:jc id=some (l,s):=bb.sub _ _ oV
 rw[Cw] at d1;cases d1
 refine⟨_,run_beginRound d2 d3,?_⟩
 have au:({bF with state:= .busy}:Loop)= {bF with state:=n3 .busy,pending:=n4 .busy}:=by
  have:n4 .busy=bF.pending:=by rw[d4];rfl
  rw[this];rfl
 rw[au]
 have ak:∀arr ty e,Obj.loop bF≠ .cells arr ty e:=fun _ _ _ h=>by cases h
 have bC:de base okin jc s1.h ca jc (s1.h.set id (some .busy)) (ca.putObj l (.loop {bF with state:=n3 .busy,pending:=n4 .busy})):=de.Cm d2 k9 _ _ (fun b ad=>ad)
 have yy:=iU.aw.put (.loop {bF with state:=n3 .busy,pending:=n4 .busy}) d2 ak (fun _ _ h=>by cases h)
 have v7:ff P G Y' (F.inRound l).round w.heap.size base okin nz h.next σ (fun _=>False) jc ⟨s1.F,s1.h.set id (some .busy)⟩ a1 (ca.putObj l (.loop {bF with state:=n3 .busy,pending:=n4 .busy})):=
  ⟨⟨yy.val,yy.blk,yy.inj,yy.base⟩,iU.lk.set v5 Cw d2 .busy,iU.jd.mono bC,iU.bE.mono bC,iU.size,iU.marks.mono bC.n2,fun dR iS=>by
    obtain⟨dg,bJ⟩:=iU.rd dR iS
    obtain⟨x,y,ch⟩:=bC.loop dR dg bJ
    exact ⟨_,ch⟩,Nat.le_trans iU.r4 bC.below.size,fun _ h=>h.elim,iU.low,iU.lX,iU.fresh⟩
 refine fx nz Y' r.body L.body _ ex an j5 n7 (F.inRound l) dA (bo.inRound l) w.heap.size base okin h.next σ jc _ _ _ v7 (fun mW yl gn yz bW=>?_)
 have yA:=bW.sub _ _ Cw
 obtain⟨R_,R',f1⟩:=bW.loop l _ (World.putObj_heap_same (pP d2))
 generalize ag1:({bF with state:=R_,pending:=R'}:Loop)=l2 at f1
 have f2:gn.heap[l]? =some (.loop l2):=f1
 have r8:∀arr ty e,Obj.loop l2≠ .cells arr ty e:=fun _ _ _ h=>by cases h
 have fin:∀(p:fu) (cv:Value),h'=an.h.set id (some p)->a2 (gn.putObj l (.loop {l2 with state:=n3 p,pending:=n4 p})) (bn base okin mW (an.h.set id (some p))) mW v cv->
  tQ base okin σ h w h' v cv (gn.putObj l (.loop {l2 with state:=n3 p,pending:=n4 p})):=by
  rintro p cv rfl aT
  have cn:de base okin mW an.h gn mW (an.h.set id (some p)) (gn.putObj l (.loop {l2 with state:=n3 p,pending:=n4 p})):=de.Cm f2 k9 _ _ (fun b ad=>ad)
  have pU:=yz.aw.put (.loop {l2 with state:=n3 p,pending:=n4 p}) f2 r8 (fun _ _ h=>by cases h)
  exact ⟨mW,((bb.trans bC).trans bW).trans cn,⟨pU.val,pU.blk,pU.inj,pU.base⟩,yz.lk.set R7 yA f2 p,aT,yz.fresh,yz.lX⟩
 rcases jj with⟨rfl,rfl,cK⟩|⟨bO,rfl,cK⟩
 · exact ⟨_,_,run_endRound none f2,.bool true,rfl,fin .ready _ cK (.val _ _ (.bool _))⟩
 · cases ex with
   | normal=>exact absurd rfl bO
   | ret=>exact ⟨_,_,run_endRound (some .ret) f2,.bool false,rfl,fin (.done .ret) _ cK (.val _ _ (.bool _))⟩
   | exit i=>exact ⟨_,_,run_endRound (some (.exit i)) f2,.bool false,rfl,fin (.done (.exit i)) _ cK (.val _ _ (.bool _))⟩
theorem Sa {n:Nat} (fx:tY P G tab n):tR P G Y (kt G (aH P) tab n Y):=
 ⟨fun _ _ _ _ _ J=>R0 J,R4 n Y,fun _ _ _ _ _ J base okin σ w dd H L C U h2 aB aS=> .inl (Cq fx J base okin σ w dd H L C U h2 aB aS),
   fun _ _ _ _ _ J=>R5 fx J⟩
theorem IC {N:Nat} {c:Code} {pS:cU} (J:fE P N c=some pS):∀(m:Nat),(∀k,k<m->tY P G tab k)->∀(s:aK) (ex:da) (an:aK),exec G (aH P) tab m Y (.loop pS) s=some (ex,an)->
 ∀(cZ:Fence) (dA:Nat) (_:jy cZ) (bG:Nat) (base:Nat) (okin:Nat->Prop) (cE:Nat) (cH σ:Nat->Option (Nat × Nat)) (a:Act) (w:World) (Q:Exit->Act->World->Prop),ff P G Y cZ.round bG base okin N cE cH (fun _=>False) σ s a w->
  (∀bc en aO,ff P G Y cZ.round bG base okin N cE cH (fun _=>False) bc an en aO->de base okin σ s.h w bc an.h aO->Q (yp ex) en aO)->Code.roundsIn cZ dA P c Q m a w
 | 0,_,s,ex,an,he=>by unfold exec at he;cases he
 | m+1,fx,s,ex,an,he=>by
   rw[fW] at he
   simp only at he
   split at he
   · rename_i s1 U
     have ca:=fx m (Nat.lt_succ_self m) N Y c pS s _ s1 J U
     have dc:=IC J m (fun k ag=>fx k (Nat.lt_succ_of_lt ag)) s1 ex an he
     refine fun cZ dA bo bG base okin cE cH σ a w Q S du=>?_
     rw[roundsIn_succ]
     exact ca cZ dA bo bG base okin cE cH σ a w _ S fun jc a1 mX iU bb=>dc cZ dA bo bG base okin cE cH jc a1 mX Q iU fun pC eG Cx v7 bC=>du pC eG Cx v7 (bb.trans bC)
   · rename_i bO
     have ca:=fx m (Nat.lt_succ_self m) N Y c pS s ex an J he
     refine fun cZ dA bo bG base okin cE cH σ a w Q S du=>?_
     rw[roundsIn_succ]
     refine ca cZ dA bo bG base okin cE cH σ a w _ S fun jc a1 mX iU bb=>?_
     have:=du jc a1 mX iU bb
     cases ex with
     | normal=>exact absurd he (bO an)
     | exit id=>exact this
     | ret=>exact this
theorem Sb {n N:Nat} (fx:tY P G tab n) {x:Operand} {ps:Array Tmp} {dt body:Code} {f:aR} {v8 v9:cU} (ae:dV x=some f) (aC:fE P N dt=some v8) (ad:fE P N body=some v9) (r7:ps.toList.all (fun p=>decide (p<N))=true)
 {s an:aK} {ex:da} (he:exec G (aH P) tab (n+1) Y (.k6 f ps.toList v8 v9) s=some (ex,an))
 (cZ:Fence) (dA:Nat) (bo:jy cZ) (bG:Nat) (base:Nat) (okin:Nat->Prop) (cE:Nat) (cH σ:Nat->Option (Nat × Nat)) (a:Act) (w:World) (Q:Exit->Act->World->Prop) (S:ff P G Y cZ.round bG base okin N cE cH (fun _=>False) σ s a w)
 (du:∀bc en aO,ff P G Y cZ.round bG base okin N cE cH (fun _=>False) bc an en aO->de base okin σ s.h w bc an.h aO->Q (yp ex) en aO):(Code.rangeFunc x ps dt body).wpIn cZ dA P Q a w:=by
 obtain⟨g,first,caps,v,h',p,a_,jg,aE,n6,rfl⟩:=yv he
 have rx:=S.bE.dO ae
 rw[a_] at rx
 obtain⟨eR,cv,Sc,bH,dR,bF,dg⟩:=rx.GQ
 have bs:σ s.h.next=none:=S.fresh _ (Nat.le_refl _)
 have enter:∀fn,∃(l:Nat) (mark:List Deferred) (ca:World) (r:Loop),(Instr.enterLoop fn a.tmps ps dt body cZ.round).run P w= .ok (l,mark) ca/\Below w.heap.size w ca/\w.heap.size<=l/\ca.heap[l]? =some (.loop r)/\
  r.state= .ready/\r.pending=none/\r.tmps=a.tmps/\r.params=ps/\r.assign=dt/\r.body=body/\Marks w.heap.size mark ca:=by
  intro fn
  cases Cy:cZ.round with
  | none=>
    refine⟨_,_,_,{state:= .ready,pending:=none,fn,tmps:=a.tmps,params:=ps,assign:=dt,body,defers:=w.heap.size},run_enterLoop_outer fn a.tmps ps dt body,((Below.refl _ _).alloc (Nat.le_refl _) _).alloc (by simp) _,Nat.le_succ _,?_,rfl,rfl,rfl,rfl,rfl,rfl,⟨fun d a3=>?_,?_⟩⟩
    · have:=World.alloc_heap_new (w.alloc (.deferred (some []))) (.loop {state:= .ready,pending:=none,fn,tmps:=a.tmps,params:=ps,assign:=dt,body,defers:=w.heap.size})
      rwa [World.size_alloc] at this
    · simp at a3
      subst a3
      refine⟨w.heap.size,rfl,Nat.le_refl _,?_⟩
      rw[Below.heap_alloc _ _ _ (by simp)]
      exact World.alloc_heap_new w _
    · simp
  | some tZ=>
    obtain⟨r0,aF⟩:=S.rd tZ Cy
    refine⟨_,_,_,{state:= .ready,pending:=none,fn,tmps:=a.tmps,params:=ps,assign:=dt,body,defers:=r0.defers},run_enterLoop_inner aF fn a.tmps ps dt body,(Below.refl _ _).alloc (Nat.le_refl _) _,Nat.le_refl _,World.alloc_heap_new w _,rfl,rfl,rfl,rfl,rfl,rfl,⟨fun d a3=>absurd a3 (by simp),List.Pairwise.nil⟩⟩
 refine wpIn_rangeFunc fun fn mm=>?_
 obtain⟨l,mark,ca,r,aq,k9,hle,au,aV,bR,eS,k_,B9,qI,ID⟩:=enter fn
 have bB:=pP au
 have vW:=Nat.le_trans S.aw.base hle
 obtain⟨Cd,Ce⟩:=S.aw.grown k9
 obtain⟨yB,pV⟩:=Cd.named bs vW bB
 have bb:de base okin σ s.h w (ar σ s.h.next (some (l,0))) s.h ca:=de.of S.aw (Ce.trans pV)
 have fe:=S.lk.add (fun id b s aw=>(S.aw.val id b s aw).2) bs k9 hle au aV bR
 have v_:de base okin σ s.h w (ar σ s.h.next (some (l,0))) {s.h with next:=s.h.next+1,aU:=ar s.h.aU s.h.next (some .ready)} ca:=⟨bb.sub,bb.still,bb.below,bb.grow,bb.loop,bb.n2⟩
 have H1:cz base okin (ar σ s.h.next (some (l,0))) {s.h with next:=s.h.next+1,aU:=ar s.h.aU s.h.next (some .ready)} ca:=⟨yB.val,yB.blk,yB.inj,yB.base⟩
 have Cz:=S.bE.mono v_
 have Sd:oT P G base okin (⟨s.h.next,s.F,ps.toList,v8,v9⟩::Y) (ar σ s.h.next (some (l,0))) {s.h with next:=s.h.next+1,aU:=ar s.h.aU s.h.next (some .ready)} ca:=by
  intro L bd
  rcases List.mem_cons.1 bd with rfl|bd
  · refine⟨l,0,r,N,by simp[ar],au,by rw[eS];exact S.size,by rw[k_],fun q aN=>by simpa using List.all_eq_true.1 r7 q aN,by rw[B9];exact aC,by rw[qI];exact ad,⟨fun t=>?_,Cz.mO⟩⟩
    rw[eS];exact Cz.slot t
  · exact S.jd.mono v_ L bd
 have e7:∀i (ab:i<(first++ [I.fD s.h.next]++caps).length) (bS:i<(eR++ #[Value.func (.yield l) #[] #[]]++cv).size),a2 ca (bn base okin (ar σ s.h.next (some (l,0))) {s.h with next:=s.h.next+1,aU:=ar s.h.aU s.h.next (some .ready)}) (ar σ s.h.next (some (l,0))) (first++ [I.fD s.h.next]++caps)[i] (eR++ #[Value.func (.yield l) #[] #[]]++cv)[i]:=by
  intro i ab bS
  by_cases U:i<first.length
  · have c7:(first++ [I.fD s.h.next]++caps)[i]=first[i]:=by
     rw[List.getElem_append_left (by simp;omega),List.getElem_append_left U]
    have c8:(eR++ #[Value.func (.yield l) #[] #[]]++cv)[i]=eR[i]'(by omega):=by
     rw[Array.getElem_append_left (by simp;omega),Array.getElem_append_left (by omega)]
    rw[c7,c8];exact v_.rep (bF i U (by omega))
  · by_cases h2:i=first.length
    · have c7:(first++ [I.fD s.h.next]++caps)[i]=I.fD s.h.next:=by
       rw[List.getElem_append_left (by simp;omega),List.getElem_append_right (by omega)];simp
      have c8:(eR++ #[Value.func (.yield l) #[] #[]]++cv)[i]=Value.func (.yield l) #[] #[]:=by
       rw[Array.getElem_append_left (by simp;omega),Array.getElem_append_right (by omega)];simp
      rw[c7,c8]
      exact .fD _ l 0 (by simp[ar])
    · have c7:(first++ [I.fD s.h.next]++caps)[i]=caps[i -(first.length+1)]'(by simp at ab;omega):=by
       rw[List.getElem_append_right (by simp;omega)];simp
      have c8:(eR++ #[Value.func (.yield l) #[] #[]]++cv)[i]=cv[i -(first.length+1)]'(by simp at bS;omega):=by
       rw[Array.getElem_append_right (by simp;omega)]
       congr 1
       simp;omega
      rw[c7,c8];exact v_.rep (dg _ (by simp at ab;omega) (by simp at bS;omega))
 have cW:(eR++ #[Value.func (.yield l) #[] #[]]++cv).size=(first++ [I.fD s.h.next]++caps).length:=by simp;omega
 have vZ:∀id,s.h.next+1<=id->ar σ s.h.next (some (l,0)) id=none:=fun id bs=>by
  have:id≠s.h.next:=by omega
  simp only[ar,this,if_false]
  exact S.fresh id (by omega)
 obtain⟨bY,bP⟩:=Cq fx jg base okin _ ca _ H1 fe Sd cW e7 Cz.mO vZ
 refine⟨l,mark,ca,{target:= .fn (.func g) cv,args:=eR++ #[Value.func (.yield l) #[] #[]]},ca,g,eR++ #[Value.func (.yield l) #[] #[]]++cv,ca,aq,?_,fun pE _=>bo.fn pE,?_,bo.one dA,bo.calls (bP.mono ?_)⟩
 · simp[resolve,Deferred.ofValue,Sc]
   rfl
 · simpa[invoke] using bY
 rintro e gn ⟨Cc,rfl,mW,bW,Se,IE,_,f3,nZ⟩
 obtain⟨lD,an,gI,d1,d2,d3,d4⟩:=IE.look _ p aE
 have yA:mW s.h.next=some (l,0):=bW.sub _ _ (by simp[ar])
 rw[yA] at d1;cases d1
 have pW:gI.state≠ .busy:=by
  rw[d3]
  rcases n6 with⟨rfl,_⟩|rfl<;>simp[n3]
 have r8:∀arr ty e,Obj.loop gI≠ .cells arr ty e:=fun _ _ _ h=>by cases h
 have cn:de base okin mW h' gn mW (h'.set s.h.next none) (gn.putObj l (.loop {gI with state:= .exhausted})):=de.Cm d2 vW .exhausted gI.pending (fun b ad=>ad)
 have pU:=Se.put (.loop {gI with state:= .exhausted}) d2 r8 (fun _ _ h=>by cases h)
 have Sf:jO mW (ar h'.aU s.h.next none) (gn.putObj l (.loop {gI with state:= .exhausted})):=IE.del aE yA _
 have r9:de base okin σ s.h w mW (h'.set s.h.next none) (gn.putObj l (.loop {gI with state:= .exhausted})):=(v_.trans bW).trans cn
 have ym:=(yw (G:=G) (tab:=tab) (Φ:=aH P) (n+1) Y (.k6 f ps.toList v8 v9) s ex _ he)
 have Sg:ff P G Y cZ.round bG base okin N cE cH (fun _=>False) mW ⟨s.F,h'.set s.h.next none⟩ {a with defers:=mark++a.defers} (gn.putObj l (.loop {gI with state:= .exhausted})):=by
  refine⟨⟨pU.val,pU.blk,pU.inj,pU.base⟩,Sf,S.jd.mono r9,⟨fun t=>r9.rep (S.bE.slot t),fun g v aW=>r9.rep (S.bE.mO g v aW)⟩,S.size,?_,fun dR iS=>?_,Nat.le_trans S.r4 r9.below.size,fun _ h=>h.elim,Nat.le_trans S.low ym,fun id bs=>?_,f3⟩
  · have cG:=ID.mono (fun b ad=>cn.n2 b (bW.n2 b ad))
    have dn:=S.marks.mono r9.n2
    refine⟨fun d a3=>?_,List.pairwise_append.2 ⟨cG.nodup,dn.nodup,fun d a3 oD tW=>?_⟩⟩
    · rcases List.mem_append.1 a3 with a3|a3
      · obtain⟨D,bJ,ch,ej⟩:=cG.each d a3
        exact ⟨D,bJ,Nat.le_trans S.r4 ch,ej⟩
      · exact dn.each d a3
    · obtain⟨D,bJ,ch,_⟩:=ID.each d a3
      obtain⟨Ip,Sh,_,CA⟩:=S.marks.each oD tW
      have:=pP CA
      rw[bJ,Sh]
      intro cK
      cases cK
      omega
  · obtain⟨dg,bJ⟩:=S.rd dR iS
    obtain⟨x1,x2,ch⟩:=r9.loop dR dg bJ
    exact ⟨_,ch⟩
  · have:id≠s.h.next:=by have:=S.low;omega
    rw[nZ id (by have:=S.low;show id<s.h.next+1;omega)]
    simp only[ar,this,if_false]
    exact S.lX id bs
 have aN:=du mW _ _ Sg r9
 refine⟨_,_,run_endLoop d2 pW,?_⟩
 rw[d4] at aN|-
 rcases n6 with⟨rfl,rfl⟩|rfl
 · exact aN
 · cases ex with
   | normal=>exact aN
   | ret=>exact wpIn_ret aN
   | exit i=>exact wpIn_exit aN
theorem t_ {P:Program} {b:Frame} {a:Act} {k:List Item} {cs:List Frame} {w:World} {c:Code}:step P (lone (b.atR a (.code (.scope c)::k)) cs w)= .next (lone (b.atR a (.code c:: .inScope c::k)) cs w):=
 step_lone_go (by simp[stepG,stepG.exec,Frame.atR])
theorem Si {P:Program} {b:Frame} {a:Act} {k:List Item} {cs:List Frame} {w:World} {c:Code}:step P (lone (b.atR a (.inScope c::k)) cs w)= .next (lone (b.atR a k) cs w):=
 step_lone_go (by simp[stepG,stepG.exec,Frame.atR])
theorem Sj {F:Fence} {n:Nat} {P:Program} {c:Code} {Q:Exit->Act->World->Prop} {a:Act} {w:World} (h:c.wpIn F n P (Exit.noGoto Q) a w):(Code.scope c).wpIn F n P Q a w:=by
 intro b k cs Cy ad aT
 have aF:(lone (b.atR a (.code (.scope c)::k)) cs w).fenced P F:=fenced_calm ad aT rfl
 obtain⟨e,v',wa,aN,t'⟩:=h b (.inScope c::k) cs Cy ad aT
 cases e with
 | normal=>exact ⟨.normal,v',wa,aN,.head aF t_ (StepsIn.trans t' (.one (fenced_calm ad aT rfl) Si))⟩
 | exit id=>
   have ae:exitTo id (.inScope c::k)=exitTo id k:=by simp[exitTo]
   exact ⟨_,v',wa,aN,fun k' ag=> .head aF t_ (t'.1 k' (by rw[ae];exact ag)),fun mQ ag=>let ⟨k₁,U,h2⟩:=t'.2 mQ (by rw[ae];exact ag);⟨k₁,U,.head aF t_ h2⟩⟩
 | goto l=>exact aN.elim
 | ret=>exact ⟨_,v',wa,aN,.of_steps (.one aF t_) t'⟩
 | panic ag2=>exact ⟨_,v',wa,aN,.of_steps (.one aF t_) t'⟩
 | outgrown=>exact ⟨_,v',wa,aN,.of_steps (.one aF t_) t'⟩
theorem Sk (hm:P.follows .mixedOrders=true) (la:∀f T,tab f=some T->aG P G f T):∀n,tY P G tab n:=by
 intro n
 induction n using Nat.strongRecOn with
 | _ n fx=>
 intro N Y c pS s ex an J he
 cases n with
 | zero=>unfold exec at he;cases he
 | succ n=>
 have a8:=fx n (Nat.lt_succ_self n)
 have yx:=he
 rw[fW] at he
 cases c with
 | skip=>
   simp only[fE] at J;cases J
   cases he
   exact fun cZ dA bo bG base okin cE cH σ a w Q S du=>wpIn_skip (du σ a w S (de.refl ..))
 | ret=>
   simp only[fE] at J;cases J
   cases he
   exact fun cZ dA bo bG base okin cE cH σ a w Q S du=>wpIn_ret (du σ a w S (de.refl ..))
 | exit id=>
   simp only[fE] at J;cases J
   cases he
   exact fun cZ dA bo bG base okin cE cH σ a w Q S du=>wpIn_exit (du σ a w S (de.refl ..))
 | region id ops draw=>
   have gb:=J
   have Sl:∃kg es b,pS= .region kg es b:=by
    simp only[fE] at J
    split at J<;>try(cases J;done)
    split at J
    · split at J<;>try(cases J;done)
      cases J;exact ⟨_,_,_,rfl⟩
    · cases J;exact ⟨_,_,_,rfl⟩
   obtain⟨kg,es,b,rfl⟩:=Sl
   simp only at he
   obtain⟨s1,U,he⟩:=Option.map_eq_some_iff.1 he
   cases he
   exact fun cZ dA bo bG base okin cE cH σ a w Q S du=>RP hm bo (Sa a8) la gb U S du
 | seq x y=>
   simp only[fE] at J
   split at J<;>try(cases J;done)
   rename_i pX CB ae aQ
   cases J
   simp only at he
   split at he
   · rename_i s1 U
     have ca:=a8 N Y x pX s _ s1 ae U
     have dc:=a8 N Y y CB s1 ex an aQ he
     refine fun cZ dA bo bG base okin cE cH σ a w Q S du=>wpIn_seq ?_
     exact ca cZ dA bo bG base okin cE cH σ a w _ S fun jc a1 mX iU bb=>dc cZ dA bo bG base okin cE cH jc a1 mX Q iU fun pC eG Cx v7 bC=>du pC eG Cx v7 (bb.trans bC)
   · rename_i bO
     have ca:=a8 N Y x pX s ex an ae he
     refine fun cZ dA bo bG base okin cE cH σ a w Q S du=>wpIn_seq ?_
     refine ca cZ dA bo bG base okin cE cH σ a w _ S fun jc a1 mX iU bb=>?_
     have:=du jc a1 mX iU bb
     cases ex with
     | normal=>exact absurd he (bO an)
     | exit id=>exact this
     | ret=>exact this
 | cond x y z=>
   simp only[fE] at J
   split at J<;>try(cases J;done)
   rename_i pX CB Sm ae aQ av
   cases J
   simp only at he
   split at he<;>try(cases he;done)
   rename_i t aL
   cases t with
   | true=>
     simp only[if_true] at he
     have ca:=a8 N Y y CB s ex an aQ he
     refine fun cZ dA bo bG base okin cE cH σ a w Q S du=>?_
     have r:=S.bE.dO ae
     rw[aL] at r
     exact wpIn_cond_true r.qx (ca cZ dA bo bG base okin cE cH σ a w Q S du)
   | false=>
     simp only[Bool.false_eq_true,if_false] at he
     have ca:=a8 N Y z Sm s ex an av he
     refine fun cZ dA bo bG base okin cE cH σ a w Q S du=>?_
     have r:=S.bE.dO ae
     rw[aL] at r
     exact wpIn_cond_false r.qx (ca cZ dA bo bG base okin cE cH σ a w Q S du)
 | block id x=>
   simp only[fE] at J
   obtain⟨pX,ae,rfl⟩:=Option.map_eq_some_iff.1 J
   simp only at he
   split at he
   · rename_i i s1 U
     have ca:=a8 N Y x pX s _ s1 ae U
     have aw:s1=an:=by split at he<;>(cases he;rfl)
     subst aw
     refine fun cZ dA bo bG base okin cE cH σ a w Q S du=>wpIn_block ?_
     refine ca cZ dA bo bG base okin cE cH σ a w _ S fun jc a1 mX iU bb=>?_
     have:=du jc a1 mX iU bb
     simp only[yp,Exit.inBlock]
     split at he
     · rename_i bs
       cases he
       rw[if_pos bs];exact this
     · rename_i bs
       cases he
       rw[if_neg bs];exact this
   · rename_i bO
     have ca:=a8 N Y x pX s ex an ae he
     refine fun cZ dA bo bG base okin cE cH σ a w Q S du=>wpIn_block ?_
     refine ca cZ dA bo bG base okin cE cH σ a w _ S fun jc a1 mX iU bb=>?_
     have:=du jc a1 mX iU bb
     cases ex with
     | normal=>exact this
     | exit i=>exact absurd he (bO i an)
     | ret=>exact this
 | loop x=>
   simp only[fE] at J
   obtain⟨pX,ae,rfl⟩:=Option.map_eq_some_iff.1 J
   have ca:=IC ae (n+1) fx s ex an yx
   exact fun cZ dA bo bG base okin cE cH σ a w Q S du=>wpIn_loop_rounds (n+1) (ca cZ dA bo bG base okin cE cH σ a w Q S du)
 | rangeFunc x ps dt body=>
   simp only[fE] at J
   split at J<;>try(cases J;done)
   rename_i f v8 v9 ae aC ad
   split at J<;>try(cases J;done)
   rename_i r7
   cases J
   exact fun cZ dA bo bG base okin cE cH σ a w Q S du=>Sb a8 ae aC ad r7 yx cZ dA bo bG base okin cE cH σ a w Q S du
 | scope x=>
   simp only[fE] at J
   obtain⟨pX,ae,rfl⟩:=Option.map_eq_some_iff.1 J
   simp only at he
   cases n with
   | zero=>
     have aF:exec G (aH P) tab 0 Y .skip s=none:=by unfold exec;rfl
     rw[aF] at he;cases he
   | succ n=>
     have aF:exec G (aH P) tab (n+1) Y .skip s=some (.normal,s):=by rw[fW]
     rw[aF] at he
     simp only at he
     have ca:=a8 N Y x pX s ex an ae he
     refine fun cZ dA bo bG base okin cE cH σ a w Q S du=>Sj ?_
     refine ca cZ dA bo bG base okin cE cH σ a w _ S fun jc a1 mX iU bb=>?_
     have:=du jc a1 mX iU bb
     cases ex<;>exact this
 | label _=>
   simp only[fE] at J;cases J
   cases he
   exact fun cZ dA bo bG base okin cE cH σ a w Q S du=>wpIn_label (du σ a w S (de.refl ..))
 | goto _=>simp only[fE] at J;cases J
 | refuse _=>simp only[fE] at J;cases J
theorem CC (n:Nat) (f:FuncId) (args:List I) (h:ai):xV G (aH P) tab n Y f args h=kh G (aH P) tab n Y f args h:=rfl
theorem yC (hm:P.follows .mixedOrders=true) (la:∀f T,tab f=some T->aG P G f T) {f:FuncId} {T:List I->Option I}
 (ct:∀args v,T args=some v->∃n,mi G (aH P) tab n f args=some v):aG P G f T:=by
 intro args v al ok w dd cW e7 pT
 obtain⟨n,ak⟩:=ct args v al
 unfold mi at ak
 obtain⟨p,U,h2⟩:=Option.bind_eq_some_iff.1 ak
 obtain⟨u,h'⟩:=p
 obtain⟨q,aB,aS⟩:=Option.map_eq_some_iff.1 h2
 obtain⟨j1,ids⟩:=q
 cases aS
 rw[CC] at U
 have H:cz w.heap.size ok (fun _=>none) aF w:=⟨fun id b sz h=>(by cases h),fun id blk h=>(by cases h),fun id fO b sz fw h=>(by cases h),Nat.le_refl _⟩
 have j2:∀b,b<w.heap.size->ok b->bn w.heap.size ok (fun _=>none) aF b:=fun b ad ay=> .inl ⟨ad,ay⟩
 have st:tx w w ok (bn w.heap.size ok (fun _=>none) aF):=fun b o ad _ ay=>⟨j2 b (pP ad) ay,rfl⟩
 obtain⟨d1,d2⟩:=Cq (Sk hm la n) U w.heap.size ok (fun _=>none) w dd H ⟨fun id p h=>(by cases h),fun id fO p ny l s an h=>(by cases h)⟩ (fun L bd=>absurd bd (by simp)) cW (fun i ab bS=> .val _ _ ((e7 i ab bS).mono st))
  (fun g u aW=>(pT g u aW).mono st (fun _ _ h=>h) (fun _=>Nat.le_refl _)) (fun _ _=>rfl)
 refine .inl ⟨d1,d2.mono fun e aO eH=>?_⟩
 obtain⟨cv,he,bc,p,Sn,_,r,_,_⟩:=eH
 refine⟨cv,he,(Rv Sn r aB).rM fun b _ ad=>?_,p.below⟩
 rcases ad with ad|ad
 · exact .inl ad.2
 · exact .inr ad.1
end
#print axioms yC
end Go.Eng
