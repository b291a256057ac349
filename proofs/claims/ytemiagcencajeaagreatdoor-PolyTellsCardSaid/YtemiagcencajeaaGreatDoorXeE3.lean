import Derived.Test.YtemiagcencajeaaGreatDoorXeE2
import Derived.RangeFuncRecord
import Derived.OrdersIn
import Derived.RangeFuncLeaves
import Derived.RangeFuncBox
import Derived.LoopNIn
import Derived.RangeFuncNested
import Derived.Scope
set_option linter.unusedSimpArgs false
set_option linter.unusedVariables false
set_option linter.unusedSectionVars false
namespace Go.Eng
open Go Go.RowKit
section
variable {G:Nat->Option I}
theorem aQ.eQ {F F':Nat->I} {x:aQ} (h:∀t∈x.rd,F t=F' t):x.ev G F=x.ev G F':=by
 cases x with
 | t n=>exact h n (by simp[aQ.rd])
 | _=>rfl
theorem vu {F F':Nat->I} {xs:List aQ} (h:∀t∈xs.flatMap aQ.rd,F t=F' t):xs.map (aQ.ev G F)=xs.map (aQ.ev G F'):=by
 apply List.map_congr_left
 intro x ae
 exact aQ.eQ fun t aJ=>h t (List.mem_flatMap.2 ⟨x,ae,aJ⟩)
theorem Gz {F F':Nat->I}:∀ {ps:List (Nat × Nat × aQ)} {cs:List I},(∀t∈ps.flatMap (fun p=>p.2.2.rd),F t=F' t)->eD cs (aQ.ev G F) ps=eD cs (aQ.ev G F') ps
 | [],cs,_=>rfl
 | (off,sz,x)::ps,cs,h=>by
   have ae:x.ev G F=x.ev G F':=aQ.eQ fun t aJ=>h t (by simp[aJ])
   simp only[eD,ae]
   rw[Gz (ps:=ps) fun t aJ=>h t (by simp only[List.flatMap_cons,List.mem_append];exact .inr aJ)]
theorem GA {F F':Nat->I} {sz:Nat}:∀ {ps:List (Nat × aQ)} {es:List I},(∀t∈ps.flatMap (fun p=>p.2.rd),F t=F' t)->eE sz es (aQ.ev G F) ps=eE sz es (aQ.ev G F') ps
 | [],es,_=>rfl
 | (i,x)::ps,es,h=>by
   have ae:x.ev G F=x.ev G F':=aQ.eQ fun t aJ=>h t (by simp[aJ])
   simp only[eE,ae]
   rw[GA (ps:=ps) fun t aJ=>h t (by simp only[List.flatMap_cons,List.mem_append];exact .inr aJ)]
theorem Bt {F F':Nat->I} {d:Nat} {x:Option aQ} (h:∀t∈aQ.xj x,F t=F' t):bound d (aQ.ev G F) x=bound d (aQ.ev G F') x:=by
 cases x with
 | none=>rfl
 | some x=>simp only[bound];rw[aQ.eQ (G:=G) (F:=F) (F':=F') (x:=x) h]
theorem PC {F F':Nat->I} {aX r:Nat} {h:af} {op:jQ} (bm:∀t∈op.reads,F t=F' t):evalOp aX r (aQ.ev G F) h op=evalOp aX r (aQ.ev G F') h op:=by
 cases op<;>simp only[evalOp,jQ.reads,List.mem_append] at bm|-
 case mv x=>rw[aQ.eQ bm]
 case pick c a b=>
  rw[aQ.eQ (x:=c) fun t aJ=>bm t (.inl (.inl aJ)),aQ.eQ (x:=a) fun t aJ=>bm t (.inl (.inr aJ)),aQ.eQ (x:=b) fun t aJ=>bm t (.inr aJ)]
 case box x=>rw[aQ.eQ bm]
 case build z ps=>rw[Gz bm]
 case bsl sz z n ps=>rw[GA bm]
 case load bM sz x=>rw[aQ.eQ bm]
 case store sz x y=>rw[aQ.eQ (x:=x) fun t aJ=>bm t (.inl aJ),aQ.eQ (x:=y) fun t aJ=>bm t (.inr aJ)]
 case bin ty op x y=>rw[aQ.eQ (x:=x) fun t aJ=>bm t (.inl aJ),aQ.eQ (x:=y) fun t aJ=>bm t (.inr aJ)]
 case eqA tr n x y=>rw[aQ.eQ (x:=x) fun t aJ=>bm t (.inl aJ),aQ.eQ (x:=y) fun t aJ=>bm t (.inr aJ)]
 case un op x=>rw[aQ.eQ bm]
 case conv k x=>rw[aQ.eQ bm]
 case mkfn f a b=>rw[vu (xs:=a) fun t aJ=>bm t (.inl aJ),vu (xs:=b) fun t aJ=>bm t (.inr aJ)]
 case mksl z sz ts x y=>rw[aQ.eQ (x:=x) fun t aJ=>bm t (.inl aJ),aQ.eQ (x:=y) fun t aJ=>bm t (.inr aJ)]
 case slice sz x b' ab jR=>
  rw[aQ.eQ (x:=x) fun t aJ=>bm t (.inl (.inl (.inl aJ)))]
  simp only[Bt (x:=b') fun t aJ=>bm t (.inl (.inl (.inr aJ))),Bt (x:=ab) fun t aJ=>bm t (.inl (.inr aJ)),Bt (x:=jR) fun t aJ=>bm t (.inr aJ)]
 case faddr bM off sz x=>rw[aQ.eQ bm]
 case field bM off sz x=>rw[aQ.eQ bm]
 case iaddrS sz x y=>rw[aQ.eQ (x:=x) fun t aJ=>bm t (.inl aJ),aQ.eQ (x:=y) fun t aJ=>bm t (.inr aJ)]
 case iaddrA bM n sz x y=>rw[aQ.eQ (x:=x) fun t aJ=>bm t (.inl aJ),aQ.eQ (x:=y) fun t aJ=>bm t (.inr aJ)]
 case idxA bM n sz x y=>rw[aQ.eQ (x:=x) fun t aJ=>bm t (.inl aJ),aQ.eQ (x:=y) fun t aJ=>bm t (.inr aJ)]
 case idxS x y=>rw[aQ.eQ (x:=x) fun t aJ=>bm t (.inl aJ),aQ.eQ (x:=y) fun t aJ=>bm t (.inr aJ)]
 case extract x i=>rw[aQ.eQ bm]
 case len s x=>rw[aQ.eQ bm]
 case mlook x y=>rw[aQ.eQ (x:=x) fun t aJ=>bm t (.inl aJ),aQ.eQ (x:=y) fun t aJ=>bm t (.inr aJ)]
 case isnil tr x=>rw[aQ.eQ bm]
 case app sz ts x y=>rw[aQ.eQ (x:=x) fun t aJ=>bm t (.inl aJ),aQ.eQ (x:=y) fun t aJ=>bm t (.inr aJ)]
 case min xs=>rw[vu bm]
 case max xs=>rw[vu bm]
def Bu (aX r:Nat) (a5:aQ->I) (h:af) (op:jQ) (v:I) (h':af):dy->Prop
 | .pure=>h'=h/\∀h2,evalOp aX r a5 h2 op=some (v,h2,.pure)
 | .fg=>∃blk,h'=h.new r blk/\∀h2,evalOp aX r a5 h2 op=some (v,h2.new r blk,.fg)
 | .rd=>h'=h/\∀h2:af,(∀id,id<aX->h2.cells id=h.cells id)->evalOp aX r a5 h2 op=some (v,h2,.rd)
 | .wr=>True
 | .jj id=>h'=h/\id<aX/\∀h2:af,h2.cells id=h.cells id->evalOp aX r a5 h2 op=some (v,h2,.jj id)
 | .k2 _=>False
theorem iB {aX r:Nat} {a5:aQ->I} {h h':af} {op:jQ} {v:I} {c:dy} (X:Option I) (cq:∀h2,evalOp aX r a5 h2 op=X.map fun v=>(v,h2,.pure))
 (he:evalOp aX r a5 h op=some (v,h',c)):(h'.next,h'.aS)=(h.next,h.aS)/\Bu aX r a5 h op v h' c:=by
 rw[cq] at he
 obtain⟨u,hu,he⟩:=Option.map_eq_some_iff.1 he
 cases he
 exact ⟨rfl,rfl,fun h2=>by rw[cq,hu];rfl⟩
theorem Bv {aX r:Nat} {a5:aQ->I} {h h':af} {op:jQ} {v:I} {c:dy} (X:Option (I × List I)) (cq:∀h2,evalOp aX r a5 h2 op=X.map fun p=>(p.1,af.new h2 r p.2,.fg))
 (he:evalOp aX r a5 h op=some (v,h',c)):(h'.next,h'.aS)=(h.next,h.aS)/\Bu aX r a5 h op v h' c:=by
 rw[cq] at he
 obtain⟨u,hu,he⟩:=Option.map_eq_some_iff.1 he
 cases he
 exact ⟨rfl,u.2,rfl,fun h2=>by rw[cq,hu];rfl⟩
theorem tt {aX r:Nat} {a5:aQ->I} {h h':af} {op:jQ} {v:I} {c:dy} (he:evalOp aX r a5 h op=some (v,h',c)):
 (h'.next,h'.aS)=(h.next,h.aS)/\Bu aX r a5 h op v h' c:=by
 cases op
 case mv x=>exact iB (some (a5 x)) (fun h2=>rfl) he
 case pick c a b=>
  cases J:a5 c<;>first
   | (simp only[evalOp,J] at he;cases he;done)
   | (rename_i t;exact iB (some (if t then a5 a else a5 b)) (fun h2=>by simp only[evalOp,J];rfl) he)
 case alloc z=>exact Bv (some (.ptr r 0 0,[z])) (fun h2=>rfl) he
 case box x=>
  by_cases au:(a5 x).cells.all I.bW=true
  · exact Bv (some (.ptr r 0 0,[a5 x])) (fun h2=>by simp only[evalOp,if_pos au];rfl) he
  · simp only[evalOp,if_neg au] at he;cases he
 case build z ps=>exact iB ((eD z a5 ps).map I.agg) (fun h2=>by simp only[evalOp,Option.map_map];rfl) he
 case bsl sz z n ps=>
  by_cases au:z.cells.length=sz/\0<sz/\z.dh=true
  · exact iB ((eE sz (List.replicate n z) a5 ps).map fun es=> .sl es true) (fun h2=>by simp only[evalOp,if_pos au,Option.map_map];rfl) he
  · simp only[evalOp,if_neg au] at he;cases he
 case load bM sz x=>
  cases ae:a5 x<;>first
   | (simp only[evalOp,ae] at he;cases he;done)
   | skip
  · rename_i id idx cu
    simp only[evalOp,ae] at he
    obtain⟨blk,U,he⟩:=Option.bind_eq_some_iff.1 he
    obtain⟨e,h2,he⟩:=Option.bind_eq_some_iff.1 he
    obtain⟨cs,az,he⟩:=Option.bind_eq_some_iff.1 he
    obtain⟨u,aT,he⟩:=Option.map_eq_some_iff.1 he
    cases he
    refine⟨rfl,?_⟩
    by_cases bn:id<aX
    · rw[if_pos bn]
      refine⟨rfl,bn,fun cw di=>?_⟩
      simp only[evalOp,ae,di,U,Option.bind_some,h2,az,aT,if_pos bn];rfl
    · rw[if_neg bn];trivial
  · rename_i u
    exact iB ((cut u.cells 0 sz).bind (partOf bM)) (fun h2=>by
     simp only[evalOp,ae]
     cases cut u.cells 0 sz<;>simp) he
 case store sz a w=>
  simp only[evalOp] at he
  split at he
  · split at he<;>try(cases he;done)
    obtain⟨blk,U,he⟩:=Option.bind_eq_some_iff.1 he
    obtain⟨e,h2,he⟩:=Option.bind_eq_some_iff.1 he
    split at he<;>try(cases he;done)
    split at he
    · cases he;exact ⟨rfl,trivial⟩
    · split at he
      · cases he;exact ⟨rfl,trivial⟩
      · cases he
  · cases he
 case bin ty op x y=>exact iB (e7 ty op (a5 x) (a5 y)) (fun h2=>rfl) he
 case mlook x y=>
  cases ae:a5 x<;>first
   | (simp only[evalOp,ae] at he;cases he;done)
   | skip
  rename_i m
  cases aO:a5 y<;>first
   | (simp only[evalOp,ae,aO] at he;cases he;done)
   | skip
  rename_i k n
  cases k<;>first
   | (simp only[evalOp,ae,aO] at he;cases he;done)
   | (exact iB (some (.bo [match m.lookup n with
       | some f=> .fn f [] []
       | none=> .nilfn,.bool (m.lookup n).isSome])) (fun h2=>by simp only[evalOp,ae,aO];rfl) he)
 case isnil tr x=>
  cases ae:a5 x<;>first
   | (simp only[evalOp,ae] at he;cases he;done)
   | skip
  · rename_i xs ex
    exact iB (if 0<xs.length then some (.bool tr) else none) (fun h2=>by simp only[evalOp,ae];split<;>rfl) he
  · rename_i id off len cap
    exact iB (if 0<len\/0<cap then some (.bool tr) else none) (fun h2=>by simp only[evalOp,ae];split<;>rfl) he
 case eqA tr n x y=>
  cases ae:a5 x<;>first
   | (simp only[evalOp,ae] at he;cases he;done)
   | skip
  cases aO:a5 y<;>first
   | (simp only[evalOp,ae,aO] at he;cases he;done)
   | skip
  rename_i xs ys
  by_cases aq:xs.length=n
  · exact iB ((eC xs ys).map fun b=> .bool (b != tr)) (fun h2=>by simp only[evalOp,ae,aO,if_pos aq,Option.map_map];rfl) he
  · simp only[evalOp,ae,aO,if_neg aq] at he;cases he
 case un op x=>exact iB (e8 op (a5 x)) (fun h2=>rfl) he
 case conv k x=>
  cases ae:a5 x<;>first
   | (simp only[evalOp,ae] at he;cases he;done)
   | (rename_i k' n;exact iB (some (.int k (k.wrap n))) (fun h2=>by simp only[evalOp,ae];rfl) he)
 case mkfn f a b=>exact iB (some (.fn f (a.map a5) (b.map a5))) (fun h2=>rfl) he
 case mksl z sz bytes l c=>
  cases ae:a5 l<;>first
   | (simp only[evalOp,ae] at he;cases he;done)
   | skip
  cases aO:a5 c<;>first
   | (simp only[evalOp,ae,aO] at he;cases he;done)
   | skip
  rename_i k a k' b
  by_cases aq:0<=a/\a<=b/\b*bytes<=140737488355328/\0<bytes/\z.cells.length=sz/\0<sz/\(z.cells.all I.bW)=true
  · exact Bv (some (.ref r 0 a.toNat b.toNat,List.replicate b.toNat z)) (fun h2=>by simp only[evalOp,ae,aO,if_pos aq];rfl) he
  · simp only[evalOp,ae,aO,if_neg aq] at he;cases he
 case slice sz x b' ab jR=>
  cases ae:a5 x<;>first
   | (simp only[evalOp,ae] at he;cases he;done)
   | skip
  · rename_i xs ex
    refine iB (match bound 0 a5 b',bound xs.length a5 ab,bound xs.length a5 jR with
     | some l,some u,some m=>if l<=u/\u<=m/\m<=xs.length/\(l=0\/(xs.all fun e=>e.cells.length == sz)=true) then some (.sl ((xs.drop l).take (u - l)) ((jR.isSome||ex)&&m == u)) else none
     | _,_,_=>none) (fun h2=>?_) he
    simp only[evalOp,ae]
    cases bound 0 a5 b'<;>cases bound xs.length a5 ab<;>cases bound xs.length a5 jR<;>simp only[Option.map_none]
    split<;>rfl
  · rename_i id off len cap
    simp only[evalOp,ae] at he
    split at he<;>try(cases he;done)
    rename_i l u m b1 dL kx
    split at he<;>try(cases he;done)
    rename_i aG
    cases he
    refine⟨rfl,?_⟩
    by_cases bn:id<aX
    · rw[if_pos bn]
      refine⟨rfl,fun cw di=>?_⟩
      simp only[evalOp,ae,b1,dL,kx,di id bn,if_pos aG,if_pos bn]
    · rw[if_neg bn];trivial
 case faddr bM off sz x=>
  cases ae:a5 x<;>first
   | (simp only[evalOp,ae] at he;cases he;done)
   | skip
  · rename_i id idx cu
    exact iB (some (.ptr id idx (cu+off))) (fun h2=>by simp only[evalOp,ae];rfl) he
  · rename_i u
    exact iB (((cut u.cells off sz).bind (partOf bM)).map I.eK) (fun h2=>by
     simp only[evalOp,ae]
     cases cut u.cells off sz<;>simp[Function.comp_def]) he
 case field bM off sz x=>
  cases ae:a5 x<;>first
   | (simp only[evalOp,ae] at he;cases he;done)
   | skip
  rename_i cs
  exact iB ((cut cs off sz).bind (partOf bM)) (fun h2=>by
   simp only[evalOp,ae]
   cases cut cs off sz<;>simp) he
 case iaddrS sz x i=>
  cases ae:a5 x<;>first
   | (simp only[evalOp,ae] at he;cases he;done)
   | skip
  · cases aO:a5 i<;>first
     | (simp only[evalOp,ae,aO] at he;cases he;done)
     | skip
    rename_i xs ex k n
    refine iB (if 0<=n then (xs[n.toNat]?).bind fun e=>if e.cells.length=sz then some (.eK e) else none else none) (fun h2=>?_) he
    simp only[evalOp,ae,aO]
    split
    · cases xs[n.toNat]? with
      | none=>rfl
      | some e=>simp only[Option.bind_some];split<;>rfl
    · rfl
  · cases aO:a5 i<;>first
     | (simp only[evalOp,ae,aO] at he;cases he;done)
     | skip
    rename_i id off len cap k n
    simp only[evalOp,ae,aO] at he
    split at he<;>try(cases he;done)
    rename_i aG
    cases he
    refine⟨rfl,?_⟩
    by_cases bn:id<aX
    · rw[if_pos bn]
      refine⟨rfl,fun cw di=>?_⟩
      simp only[evalOp,ae,aO,di id bn,if_pos aG,if_pos bn]
    · rw[if_neg bn];trivial
 case iaddrA bM n sz x i=>
  cases ae:a5 x<;>first
   | (simp only[evalOp,ae] at he;cases he;done)
   | skip
  · cases aO:a5 i<;>first
     | (simp only[evalOp,ae,aO] at he;cases he;done)
     | skip
    rename_i id idx cu k j
    refine iB (if 0<=j/\j<n then some (.ptr id idx (cu+j.toNat*sz)) else none) (fun h2=>?_) he
    simp only[evalOp,ae,aO]
    split<;>rfl
  · cases aO:a5 i<;>first
     | (simp only[evalOp,ae,aO] at he;cases he;done)
     | skip
    rename_i u k j
    refine iB (if 0<=j/\j<n then ((cut u.cells (j.toNat*sz) sz).bind (partOf bM)).map I.eK else none) (fun h2=>?_) he
    simp only[evalOp,ae,aO]
    split
    · cases cut u.cells (j.toNat*sz) sz<;>simp[Function.comp_def]
    · rfl
 case idxA bM n sz x i=>
  cases ae:a5 x<;>first
   | (simp only[evalOp,ae] at he;cases he;done)
   | skip
  cases aO:a5 i<;>first
   | (simp only[evalOp,ae,aO] at he;cases he;done)
   | skip
  rename_i cs k j
  refine iB (if 0<=j/\j<n then (cut cs (j.toNat*sz) sz).bind (partOf bM) else none) (fun h2=>?_) he
  simp only[evalOp,ae,aO]
  split
  · cases cut cs (j.toNat*sz) sz<;>simp
  · rfl
 case idxS x i=>
  cases ae:a5 x<;>first
   | (simp only[evalOp,ae] at he;cases he;done)
   | skip
  cases aO:a5 i<;>first
   | (simp only[evalOp,ae,aO] at he;cases he;done)
   | skip
  rename_i s k j
  refine iB (if 0<=j then (s[j.toNat]?).map fun b=> .int .u8 b.toNat else none) (fun h2=>?_) he
  simp only[evalOp,ae,aO]
  split
  · simp[Option.map_map,Function.comp_def]
  · rfl
 case extract x i=>
  cases ae:a5 x<;>first
   | (simp only[evalOp,ae] at he;cases he;done)
   | skip
  rename_i vs
  exact iB (vs[i]?) (fun h2=>by simp only[evalOp,ae]) he
 case call f as=>simp only[evalOp] at he;cases he
 case len s x=>
  cases ae:a5 x<;>first
   | (simp only[evalOp,ae] at he;cases he;done)
   | skip
  · rename_i st
    refine iB (if s=true then some (.int .i64 st.size) else none) (fun h2=>?_) he
    simp only[evalOp,ae];split<;>rfl
  · rename_i xs ex
    refine iB (if s=false then some (.int .i64 xs.length) else none) (fun h2=>?_) he
    simp only[evalOp,ae];split<;>rfl
  · rename_i id off len cap
    refine iB (if s=false then some (.int .i64 len) else none) (fun h2=>?_) he
    simp only[evalOp,ae];split<;>rfl
 case app sz bytes x y=>
  simp only[evalOp] at he
  obtain⟨ys,U,he⟩:=Option.bind_eq_some_iff.1 he
  split at he<;>try(cases he;done)
  rename_i aG
  split at he
  · rename_i xs ex ae
    split at he
    · rename_i jC
      cases he
      refine⟨rfl,?_⟩
      cases aO:a5 y<;>simp only[j1]<;>try trivial
      refine⟨rfl,fun h2=>?_⟩
      rw[aO] at U
      simp only[elems] at U
      cases U
      simp only[evalOp,aO,elems,Option.bind_some,if_pos aG,ae,if_pos jC,j1,if_true]
    rename_i jC
    split at he<;>try(cases he;done)
    rename_i qn
    cases he
    refine⟨rfl,?_⟩
    cases aO:a5 y<;>simp only[j1]<;>try trivial
    refine⟨_,rfl,fun h2=>?_⟩
    rw[aO] at U
    simp only[elems] at U
    cases U
    simp only[evalOp,aO,elems,Option.bind_some,if_pos aG,ae,if_neg jC,if_pos qn,j1,if_true]
  · rename_i id off len cap ae
    split at he
    · rename_i jC
      cases he
      refine⟨rfl,?_⟩
      cases aO:a5 y<;>simp only[j1]<;>try trivial
      refine⟨rfl,fun h2=>?_⟩
      rw[aO] at U
      simp only[elems] at U
      cases U
      simp only[evalOp,aO,elems,Option.bind_some,if_pos aG,ae,if_pos jC,j1,if_true]
    split at he<;>try(cases he;done)
    obtain⟨blk,h2,he⟩:=Option.bind_eq_some_iff.1 he
    split at he<;>try(cases he;done)
    split at he
    · split at he<;>try(cases he;done)
      cases he;exact ⟨rfl,trivial⟩
    · split at he<;>try(cases he;done)
      cases he;exact ⟨rfl,trivial⟩
  · cases he
 case min xs=>exact iB (jy (fun a b=>if b<a then b else a) (xs.map a5)) (fun h2=>rfl) he
 case max xs=>exact iB (jy (fun a b=>if a<b then b else a) (xs.map a5)) (fun h2=>rfl) he
end
end Go.Eng
namespace Go.Eng
open Go Go.RowKit
theorem GB {h h2:af} {v u:I} {ids:List Nat} (ay:df h v=some (u,ids)) (J:∀id∈ids,h2.cells id=h.cells id):df h2 v=some (u,ids):=by
 cases v<;>simp only[df] at ay|- <;>try(first|exact ay|cases ay)
 rename_i id off len cap
 split at ay<;>try(cases ay;done)
 rename_i blk aa
 split at ay<;>try(cases ay;done)
 rename_i aG
 cases ay
 rw[J id (by simp),aa]
 simp only[if_pos aG]
theorem GC {h h2:af}:∀ {vs us:List I} {ids:List Nat},dM h vs=some (us,ids)->(∀id∈ids,h2.cells id=h.cells id)->dM h2 vs=some (us,ids)
 | [],us,ids,ay,_=>by simp only[dM] at ay|-;exact ay
 | v::vs,us,ids,ay,J=>by
   simp only[dM] at ay|-
   split at ay<;>try(cases ay;done)
   rename_i jT a l_ b U rL
   cases ay
   rw[GB U fun id bn=>J id (by simp[bn]),GC rL fun id bn=>J id (by simp[bn])]
theorem PD {h h2:af} {v u:I} {ids:List Nat} (ay:ib h v=some (u,ids)) (J:∀id∈ids,h2.cells id=h.cells id):ib h2 v=some (u,ids):=by
 cases v<;>simp only[ib] at ay|- <;>try(exact GB ay J)
 obtain⟨p,U,he⟩:=Option.map_eq_some_iff.1 ay
 cases he
 rw[GC U J];rfl
theorem xL {h h2:af}:∀ {vs us:List I} {ids:List Nat},dC h vs=some (us,ids)->(∀id∈ids,h2.cells id=h.cells id)->dC h2 vs=some (us,ids)
 | [],us,ids,ay,_=>by simp only[dC] at ay|-;exact ay
 | v::vs,us,ids,ay,J=>by
   simp only[dC] at ay|-
   split at ay<;>try(cases ay;done)
   rename_i jT a l_ b U rL
   cases ay
   rw[PD U fun id bn=>J id (by simp[bn]),xL rL fun id bn=>J id (by simp[bn])]
theorem tu (h:af) {bu c2:Nat} (b1 dL:List I) (bG:bu≠c2):(h.new bu b1).new c2 dL=(h.new c2 dL).new bu b1:=by
 simp only[af.new,af.mk.injEq,and_true]
 funext t
 simp only[an]
 by_cases U:t=bu<;>by_cases h2:t=c2<;>simp_all
theorem od (h:af) {r id:Nat} (b:List I) (bG:id≠r):(h.new r b).cells id=h.cells id:=by
 simp only[af.new,an,if_neg bG]
theorem PE {aX q:Nat} {a5:aQ->I} {h h':af} {op:jQ} {v:I} {c:dy} {r:Nat} {blk:List I} (he:evalOp aX q a5 h op=some (v,h',c)) (aq:h.cells r=none) (oe:r≠q):
 evalOp aX q a5 (h.new r blk) op=some (v,h'.new r blk,c)/\h'.cells r=none:=by
 have bG:∀ {id b},h.cells id=some b->id≠r:=by rintro id b aa rfl;rw[aq] at aa;cases aa
 have pf:∀ {id b},h.cells id=some b->(h.new r blk).cells id=some b:=fun aa=>by rw[od _ _ (bG aa)];exact aa
 have c7:∀ {sz id},sizedB sz (h.cells id)=true->sizedB sz ((h.new r blk).cells id)=true:=fun {sz id} au=>by
  cases aa:h.cells id with
  | none=>rw[aa] at au;cases au
  | some b=>rw[pf aa,<-aa];exact au
 have kv:∀ {y ys},elems h y=some ys->elems (h.new r blk) y=some ys:=fun {y ys} aO=>by
  cases y<;>simp only[elems] at aO|- <;>try(first|exact aO|cases aO)
  split at aO<;>try(cases aO;done)
  rename_i b aa
  rw[pf aa];exact aO
 obtain⟨_,E⟩:=tt he
 have pu:c= .pure->evalOp aX q a5 (h.new r blk) op=some (v,h'.new r blk,c)/\h'.cells r=none:=by
  rintro rfl
  obtain⟨rfl,ao⟩:=E
  exact ⟨ao _,aq⟩
 have fg:c= .fg->evalOp aX q a5 (h.new r blk) op=some (v,h'.new r blk,c)/\h'.cells r=none:=by
  rintro rfl
  obtain⟨dL,rfl,ao⟩:=E
  exact ⟨by rw[ao,tu _ _ _ oe],by rw[od _ _ oe];exact aq⟩
 clear E
 cases op
 case load bM sz x=>
  cases ae:a5 x<;>(try(simp only[evalOp,ae] at he;cases he;done))
  · rename_i id idx cu
    simp only[evalOp,ae] at he|-
    obtain⟨b,aa,he⟩:=Option.bind_eq_some_iff.1 he
    obtain⟨e,U,he⟩:=Option.bind_eq_some_iff.1 he
    obtain⟨cs,h2,he⟩:=Option.bind_eq_some_iff.1 he
    obtain⟨u,az,he⟩:=Option.map_eq_some_iff.1 he
    cases he
    exact ⟨by simp only[pf aa,Option.bind_some,U,h2,az,Option.map_some],aq⟩
  · refine pu ?_
    simp only[evalOp,ae] at he
    obtain⟨cs,h2,he⟩:=Option.bind_eq_some_iff.1 he
    obtain⟨u,az,he⟩:=Option.map_eq_some_iff.1 he
    cases he;rfl
 case store sz a x=>
  cases ae:a5 a<;>(try(simp only[evalOp,ae] at he;cases he;done))
  rename_i id idx cu
  simp only[evalOp,ae] at he|-
  split at he<;>try(cases he;done)
  rename_i au
  obtain⟨b,aa,he⟩:=Option.bind_eq_some_iff.1 he
  obtain⟨e,U,he⟩:=Option.bind_eq_some_iff.1 he
  have qo:=bG aa
  split at he<;>try(cases he;done)
  rename_i aG
  rw[if_neg (show ¬(h.new r blk).shut id=true from au),pf aa]
  simp only[Option.bind_some,U,if_pos aG]
  split at he
  · cases he
    exact ⟨by rw[tu _ _ _ (Ne.symm qo)],by rw[od _ _ (Ne.symm qo)];exact aq⟩
  · split at he<;>try(cases he;done)
    cases he
    exact ⟨by rw[tu _ _ _ (Ne.symm qo)],by rw[od _ _ (Ne.symm qo)];exact aq⟩
 case slice sz x b' ab jR=>
  cases ae:a5 x<;>(try(simp only[evalOp,ae] at he;cases he;done))
  · refine pu ?_
    simp only[evalOp,ae] at he
    split at he<;>try(cases he;done)
    split at he<;>try(cases he;done)
    cases he;rfl
  · rename_i id off len cap
    simp only[evalOp,ae] at he|-
    split at he<;>try(cases he;done)
    split at he<;>try(cases he;done)
    rename_i aG
    cases he
    rw[if_pos ⟨aG.1,aG.2.1,aG.2.2.1,aG.2.2.2.imp (fun h=>h) c7⟩]
    exact ⟨rfl,aq⟩
 case iaddrS sz x i=>
  cases ae:a5 x<;>(try(simp only[evalOp,ae] at he;cases he;done))
  · refine pu ?_
    cases ab:a5 i<;>(try(simp only[evalOp,ae,ab] at he;cases he;done))
    simp only[evalOp,ae,ab] at he
    split at he<;>try(cases he;done)
    obtain⟨e,U,he⟩:=Option.bind_eq_some_iff.1 he
    split at he<;>try(cases he;done)
    cases he;rfl
  · rename_i id off len cap
    cases ab:a5 i<;>(try(simp only[evalOp,ae,ab] at he;cases he;done))
    simp only[evalOp,ae,ab] at he|-
    split at he<;>try(cases he;done)
    rename_i aG
    cases he
    rw[if_pos ⟨aG.1,aG.2.1,c7 aG.2.2⟩]
    exact ⟨rfl,aq⟩
 case app sz bytes x y=>
  simp only[evalOp] at he|-
  obtain⟨ys,aO,he⟩:=Option.bind_eq_some_iff.1 he
  simp only[kv aO,Option.bind_some]
  split at he<;>try(cases he;done)
  rename_i aG
  rw[if_pos aG]
  cases ae:a5 x<;>(try(simp only[ae] at he;cases he;done))
  · simp only[ae] at he|-
    split at he
    · rename_i aD
      cases he
      rw[if_pos aD];exact ⟨rfl,aq⟩
    · rename_i aD
      split at he<;>try(cases he;done)
      rename_i U
      cases he
      rw[if_neg aD,if_pos U]
      exact ⟨by rw[tu _ _ _ oe],by rw[od _ _ oe];exact aq⟩
  · rename_i id off len cap
    simp only[ae] at he|-
    split at he
    · rename_i aD
      cases he
      rw[if_pos aD];exact ⟨rfl,aq⟩
    · rename_i aD
      split at he<;>try(cases he;done)
      rename_i au
      obtain⟨b,aa,he⟩:=Option.bind_eq_some_iff.1 he
      have qo:=bG aa
      rw[if_neg aD,if_neg (show ¬(h.new r blk).shut id=true from au),pf aa]
      simp only[Option.bind_some]
      split at he<;>try(cases he;done)
      rename_i U
      rw[if_pos U]
      split at he
      · rename_i h2
        rw[if_pos h2]
        split at he<;>try(cases he;done)
        rename_i az
        cases he
        rw[if_pos az]
        exact ⟨by rw[tu _ _ _ (Ne.symm qo)],by rw[od _ _ (Ne.symm qo)];exact aq⟩
      · rename_i h2
        rw[if_neg h2]
        split at he<;>try(cases he;done)
        rename_i az
        cases he
        rw[if_pos az]
        refine⟨?_,by simp only[an];rw[if_neg oe,if_neg (Ne.symm qo)];exact aq⟩
        simp only[af.new,Option.some.injEq,Prod.mk.injEq,af.mk.injEq,and_true,true_and]
        funext t
        simp only[an]
        by_cases t1:t=r<;>by_cases t2:t=id<;>by_cases t3:t=q<;>simp_all
 all_goals
  cases c with
  | pure=>exact pu rfl
  | fg=>exact fg rfl
  | _=>
    exfalso
    simp only[evalOp] at he
    repeat' split at he
    all_goals first
     | (cases he;done)
     | (obtain⟨_,_,he⟩:=Option.map_eq_some_iff.1 he;cases he;done)
     | (obtain⟨_,_,he⟩:=Option.bind_eq_some_iff.1 he;obtain⟨_,_,he⟩:=Option.map_eq_some_iff.1 he;cases he;done)
     | (obtain⟨_,_,he⟩:=Option.bind_eq_some_iff.1 he;split at he<;>cases he;done)
theorem GD {h:af} {v u:I} {ids:List Nat} (ay:df h v=some (u,ids)):∀id∈ids,∃b,h.cells id=some b:=by
 cases v<;>simp only[df] at ay<;>try(first|(cases ay;done)|(cases ay;intro id bn;cases bn;done))
 split at ay<;>try(cases ay;done)
 rename_i b aa
 split at ay<;>try(cases ay;done)
 cases ay
 intro id bn
 rw[List.mem_singleton] at bn
 subst bn
 exact ⟨b,aa⟩
theorem GF {h:af}:∀ {vs us:List I} {ids:List Nat},dM h vs=some (us,ids)->∀id∈ids,∃b,h.cells id=some b
 | [],us,ids,ay=>by simp only[dM] at ay;cases ay;intro id bn;cases bn
 | v::vs,us,ids,ay=>by
   simp only[dM] at ay
   split at ay<;>try(cases ay;done)
   rename_i jT a l_ b U rL
   cases ay
   intro id bn
   rcases List.mem_append.1 bn with bn|bn
   · exact GD U id bn
   · exact GF rL id bn
theorem PF {h:af} {v u:I} {ids:List Nat} (ay:ib h v=some (u,ids)):∀id∈ids,∃b,h.cells id=some b:=by
 cases v<;>simp only[ib] at ay<;>try(exact GD ay)
 obtain⟨p,U,he⟩:=Option.map_eq_some_iff.1 ay
 cases he
 exact GF U
theorem GG {h:af}:∀ {vs us:List I} {ids:List Nat},dC h vs=some (us,ids)->∀id∈ids,∃b,h.cells id=some b
 | [],us,ids,ay=>by simp only[dC] at ay;cases ay;intro id bn;cases bn
 | v::vs,us,ids,ay=>by
   simp only[dC] at ay
   split at ay<;>try(cases ay;done)
   rename_i jT a l_ b U rL
   cases ay
   intro id bn
   rcases List.mem_append.1 bn with bn|bn
   · exact PF U id bn
   · exact GG rL id bn
theorem PG {h:af} {vs us:List I} {ids:List Nat} {r:Nat} {blk:List I} (ay:dC h vs=some (us,ids)) (aq:h.cells r=none):dC (h.new r blk) vs=some (us,ids):=
 xL ay fun id bn=>od _ _ (by
  rintro rfl
  obtain⟨b,aa⟩:=GG ay _ bn
  rw[aq] at aa;cases aa)
def qp (b5:ku->List I->af->Option (I × af)):Prop:=
 ∀t args h v h' r blk,b5 t args h=some (v,h')->h.cells r=none->r<h.next->b5 t args (h.new r blk)=some (v,h'.new r blk)/\h'.cells r=none/\h.next<=h'.next
theorem PH {aX:Nat} {h h':af} {r:Nat} {blk:List I} (aq:h.cells r=none) (og:h'.cells r=none):qa aX (h.new r blk) (h'.new r blk)=qa aX h h':=by
 funext id
 simp only[qa]
 by_cases e:id=r
 · subst e
   simp only[af.new,an,if_true,aq,og,xl]
 · rw[od _ _ e,od _ _ e]
theorem GH {G:Nat->Option I} {tab:FuncId->Option (List I->Option I)} {b5:ku->List I->af->Option (I × af)} (bg:qp b5) {aX q:Nat} {e:aU} {s aj:aI} {c:dy} {r:Nat} {blk:List I}
 (he:cM G tab b5 aX q e s=some (aj,c)) (aq:s.h.cells r=none) (aH:r<s.h.next) (oe:r≠q):
 cM G tab b5 aX q e ⟨s.F,s.h.new r blk⟩=some (⟨aj.F,aj.h.new r blk⟩,c)/\aj.h.cells r=none/\s.h.next<=aj.h.next:=by
 unfold cM at he|-
 split at he
 · split at he
   · split at he
     · split at he<;>try(cases he;done)
       rename_i vs ids ay
       obtain⟨v,av,he⟩:=Option.map_eq_some_iff.1 he
       cases he
       simp_all only
       refine⟨?_,aq,Nat.le_refl _⟩
       simp only[PG ay aq,av,Option.map_some]
       rfl
     · obtain⟨p,av,he⟩:=Option.map_eq_some_iff.1 he
       obtain⟨v,h'⟩:=p
       cases he
       obtain⟨bx,bZ,cX⟩:=bg _ _ _ _ _ r blk av aq aH
       simp_all only
       refine⟨?_,by first|exact bZ|trivial,by first|exact cX|trivial⟩
       simp only[bx,Option.map_some,PH aq bZ]
   · obtain⟨p,av,he⟩:=Option.map_eq_some_iff.1 he
     obtain⟨v,h'⟩:=p
     cases he
     obtain⟨bx,bZ,cX⟩:=bg _ _ _ _ _ r blk av aq aH
     simp_all only
     exact ⟨by simp only[bx,Option.map_some],by first|exact bZ|trivial,by first|exact cX|trivial⟩
   · cases he
 · obtain⟨p,av,he⟩:=Option.map_eq_some_iff.1 he
   obtain⟨v,h',c'⟩:=p
   cases he
   obtain⟨bx,bZ⟩:=PE (blk:=blk) av aq oe
   have cX:=(tt av).1
   simp only[Prod.mk.injEq] at cX
   exact ⟨by simp only[bx,Option.map_some],bZ,by simp only[cX.1];exact Nat.le_refl _⟩
theorem Bw {G:Nat->Option I} {tab:FuncId->Option (List I->Option I)} {b5:ku->List I->af->Option (I × af)} (bg:qp b5) {aX q:Nat} {e:aU} {s aj:aI} {c:dy} {r:Nat} {blk:List I}
 (he:ch G tab b5 aX q e s=some (aj,c)) (aq:s.h.cells r=none) (aH:r<s.h.next) (oe:r≠q):
 ch G tab b5 aX q e ⟨s.F,s.h.new r blk⟩=some (⟨aj.F,aj.h.new r blk⟩,c)/\aj.h.cells r=none/\s.h.next<=aj.h.next:=by
 unfold ch at he|-
 split at he
 · exact GH bg he aq aH oe
 · split at he
   · rename_i b aa
     split at he
     · rename_i hw
       simp only[aa,if_pos hw]
       exact GH bg he aq aH oe
     · rename_i hw
       cases he
       simp only[aa,if_neg hw]
       exact ⟨by first|rfl|trivial,aq,Nat.le_refl _⟩
   · rename_i aa
     cases he
     simp only[aa]
     exact ⟨by first|rfl|trivial,aq,Nat.le_refl _⟩
   · cases he
theorem rM (h:af):h.close []=h:=by
 cases h;simp[af.close]
section
variable {G:Nat->Option I} {tab:FuncId->Option (List I->Option I)} {b5:ku->List I->af->Option (I × af)}
def GI (G:Nat->Option I) (tab:FuncId->Option (List I->Option I)) (b5:ku->List I->af->Option (I × af)) (aX r:Nat) (e:aU) (s:aI) (v:I) (h':af):dy->Prop
 | .pure=>h'=s.h/\∀cl h2,(∀t∈e.reads,cl t=s.F t)->ch G tab b5 aX r e ⟨cl,h2⟩=some (⟨cg cl e.dst v,h2⟩,.pure)
 | .fg=>∃blk,h'=s.h.new r blk/\∀cl h2,(∀t∈e.reads,cl t=s.F t)->ch G tab b5 aX r e ⟨cl,h2⟩=some (⟨cg cl e.dst v,h2.new r blk⟩,.fg)
 | .rd=>∃ids,h'=s.h.close ids/\∀cl (h2:af),(∀t∈e.reads,cl t=s.F t)->(∀id,id<aX->h2.cells id=s.h.cells id)->ch G tab b5 aX r e ⟨cl,h2⟩=some (⟨cg cl e.dst v,h2.close ids⟩,.rd)
 | .wr=>∀cl,(∀t∈e.reads,cl t=s.F t)->ch G tab b5 aX r e ⟨cl,s.h⟩=some (⟨cg cl e.dst v,h'⟩,.wr)
 | .jj id=>h'=s.h/\id<aX/\∀cl (h2:af),(∀t∈e.reads,cl t=s.F t)->h2.cells id=s.h.cells id->ch G tab b5 aX r e ⟨cl,h2⟩=some (⟨cg cl e.dst v,h2⟩,.jj id)
 | .k2 p'=>(∀id,p' id=true->h'.cells id=s.h.cells id)/\∀cl,(∀t∈e.reads,cl t=s.F t)->ch G tab b5 aX r e ⟨cl,s.h⟩=some (⟨cg cl e.dst v,h'⟩,.k2 p')
theorem GJ {aX r:Nat} {e:aU} {s aj:aI} {c:dy} (aW:cM G tab b5 aX r e s=some (aj,c))
 (ca:∀cl h2,(∀t∈e.reads,cl t=s.F t)->ch G tab b5 aX r e ⟨cl,h2⟩=cM G tab b5 aX r e ⟨cl,h2⟩):
 ∃v h',aj=⟨cg s.F e.dst v,h'⟩/\GI G tab b5 aX r e s v h' c:=by
 have GK:∀t∈e.op.reads,t∈e.reads:=fun t aJ=>by simp only[aU.reads,List.mem_append];exact .inr aJ
 by_cases ja:∃f args,e.op= .call f args
 · obtain⟨f,args,cq⟩:=ja
   have vv:∀cl,(∀t∈e.reads,cl t=s.F t)->f.ev G cl=f.ev G s.F/\args.map (aQ.ev G cl)=args.map (aQ.ev G s.F):=by
    intro cl h2
    have az:∀t∈e.op.reads,cl t=s.F t:=fun t aJ=>h2 t (GK t aJ)
    rw[cq] at az
    simp only[jQ.reads,List.mem_append] at az
    exact ⟨aQ.eQ fun t aJ=>az t (.inl aJ),vu fun t aJ=>az t (.inr aJ)⟩
   unfold cM at aW
   simp only[cq] at aW
   split at aW<;>try(cases aW;done)
   rotate_left
   · rename_i id bg
     obtain⟨p,av,aW⟩:=Option.map_eq_some_iff.1 aW
     cases aW
     refine⟨p.1,p.2,rfl,fun cl di=>?_⟩
     rw[ca cl s.h di]
     obtain⟨al,ao⟩:=vv cl di
     unfold cM
     simp only[cq,al,bg,ao,av,Option.map_some]
   rename_i n first caps bg
   split at aW
   · rename_i T cR
     split at aW<;>try(cases aW;done)
     rename_i vs ids ay
     obtain⟨v,av,aW⟩:=Option.map_eq_some_iff.1 aW
     cases aW
     refine⟨v,_,rfl,?_⟩
     by_cases ab:ids.isEmpty=true
     · rw[if_pos ab]
       have PI:ids= []:=by simpa using ab
       subst PI
       refine⟨rM _,fun cl h2 di=>?_⟩
       rw[ca cl h2 di]
       obtain⟨al,ao⟩:=vv cl di
       unfold cM
       simp only[cq,al,bg,cR,ao,xL ay (h2:=h2) (fun id bn=>absurd bn (by simp)),av,Option.map_some,rM]
       rfl
     · rw[if_neg ab]
       by_cases aq:ids.all (fun i=>decide (i<aX))=true
       · rw[if_pos aq]
         refine⟨ids,rfl,fun cl h2 di J=>?_⟩
         rw[ca cl h2 di]
         obtain⟨al,ao⟩:=vv cl di
         unfold cM
         simp only[cq,al,bg,cR,ao,xL ay (h2:=h2) (fun id bn=>J id (by simpa using List.all_eq_true.1 aq id bn)),av,Option.map_some,if_neg ab,if_pos aq]
       · rw[if_neg aq]
         intro cl di
         rw[ca cl s.h di]
         obtain⟨al,ao⟩:=vv cl di
         unfold cM
         simp only[cq,al,bg,cR,ao,ay,av,Option.map_some,if_neg ab,if_neg aq]
   · rename_i cR
     obtain⟨p,av,aW⟩:=Option.map_eq_some_iff.1 aW
     cases aW
     refine⟨p.1,p.2,rfl,fun id ag=>?_,fun cl di=>?_⟩
     · simp only[qa,Bool.and_eq_true] at ag
       exact (OE ag.2).symm
     rw[ca cl s.h di]
     obtain⟨al,ao⟩:=vv cl di
     unfold cM
     simp only[cq,al,bg,cR,ao,av,Option.map_some]
 · have rJ:∀k9,cM G tab b5 aX r e k9=(evalOp aX r (aQ.ev G k9.F) k9.h e.op).map fun(v,h',c)=>(⟨cg k9.F e.dst v,h'⟩,c):=by
    intro k9
    unfold cM
    split
    · exact absurd ⟨_,_,‹_›⟩ ja
    · rfl
   rw[rJ] at aW
   obtain⟨p,aF,aW⟩:=Option.map_eq_some_iff.1 aW
   obtain⟨v,h',cG⟩:=p
   have Bx:(⟨cg s.F e.dst v,h'⟩:aI)=aj:=congrArg Prod.fst aW
   have PJ:cG=c:=congrArg Prod.snd aW
   subst Bx;subst PJ
   refine⟨v,h',rfl,?_⟩
   obtain⟨_,E⟩:=tt aF
   have key:∀cl h2,(∀t∈e.reads,cl t=s.F t)->ch G tab b5 aX r e ⟨cl,h2⟩=(evalOp aX r (aQ.ev G s.F) h2 e.op).map fun(v,h',c)=>(⟨cg cl e.dst v,h'⟩,c):=by
    intro cl h2 di
    rw[ca cl h2 di,rJ]
    simp only
    rw[PC (F:=cl) (F':=s.F) fun t aJ=>di t (GK t aJ)]
   cases cG with
   | pure=>
     obtain⟨al,ao⟩:=E
     exact ⟨al,fun cl h2 di=>by rw[key cl h2 di,ao h2];rfl⟩
   | fg=>
     obtain⟨blk,al,ao⟩:=E
     exact ⟨blk,al,fun cl h2 di=>by rw[key cl h2 di,ao h2];rfl⟩
   | rd=>
     obtain⟨al,ao⟩:=E
     refine⟨[],by rw[rM];exact al,fun cl h2 di J=>?_⟩
     rw[key cl h2 di,ao h2 J,rM];rfl
   | wr=>exact fun cl di=>by rw[key cl s.h di,aF];rfl
   | jj id=>
     obtain⟨al,aV,ao⟩:=E
     exact ⟨al,aV,fun cl h2 di J=>by rw[key cl h2 di,ao h2 J];rfl⟩
   | k2 k=>exact E.elim
theorem GL {aX r:Nat} {e:aU} {s aj:aI} {c:dy} (aW:ch G tab b5 aX r e s=some (aj,c)):
 ∃v h',aj=⟨cg s.F e.dst v,h'⟩/\GI G tab b5 aX r e s v h' c:=by
 cases qq:e.guard with
 | none=>
   have aH:∀k9,ch G tab b5 aX r e k9=cM G tab b5 aX r e k9:=fun k9=>by unfold ch;rw[qq]
   rw[aH] at aW
   exact GJ aW fun cl h2 _=>aH _
 | some g=>
   obtain⟨t,want⟩:=g
   have aJ:t∈e.reads:=by simp[aU.reads,qq]
   cases aa:s.F t<;>first
    | (unfold ch at aW;simp only[qq,aa] at aW;cases aW;done)
    | skip
   · unfold ch at aW
     simp only[qq,aa] at aW
     cases aW
     refine⟨.kd,s.h,rfl,rfl,fun cl h2 di=>?_⟩
     unfold ch;simp only[qq,di t aJ,aa]
   rename_i b
   by_cases nt:b=want
   · have aH:∀cl h2,(∀t∈e.reads,cl t=s.F t)->ch G tab b5 aX r e ⟨cl,h2⟩=cM G tab b5 aX r e ⟨cl,h2⟩:=fun cl h2 di=>by
      unfold ch;simp only[qq,di t aJ,aa,if_pos nt]
     have aD:=aH s.F s.h (fun _ _=>rfl)
     have:ch G tab b5 aX r e s=cM G tab b5 aX r e s:=aD
     rw[this] at aW
     exact GJ aW aH
   · unfold ch at aW
     simp only[qq,aa,if_neg nt] at aW
     cases aW
     refine⟨.kd,s.h,rfl,rfl,fun cl h2 di=>?_⟩
     unfold ch;simp only[qq,di t aJ,aa,if_neg nt]
theorem PK {F:Nat->I} {d e:Option Nat} {u v:I} (h:∀x,d=some x->e≠some x):cg (cg F d u) e v=cg (cg F e v) d u:=by
 cases d with
 | none=>rfl
 | some x=>
   cases e with
   | none=>rfl
   | some y=>
     have bG:x≠y:=fun q=>h x rfl (by rw[q])
     funext t
     simp only[cg,an]
     by_cases U:t=x<;>by_cases h2:t=y<;>simp_all
theorem GM {F:Nat->I} {d:Option Nat} {v:I} {t:Nat} (h:∀x,d=some x->t≠x):cg F d v t=F t:=by
 cases d with
 | none=>rfl
 | some x=>simp[cg,an,h x rfl]
theorem apart_spec {e f:aU} (h:e.apart f=true):(∀x,e.dst=some x->x ∉ f.reads)/\(∀x,e.dst=some x->f.dst≠some x)/\(∀x,f.dst=some x->x ∉ e.reads):=by
 refine⟨fun d a_=>?_,fun d a_=>?_,fun d a_=>?_⟩<;>simp[aU.apart,a_] at h
 · exact h.1.1
 · exact h.1.2
 · exact h.2
theorem PL (h:af) (a b:List Nat):(h.close a).close b=(h.close b).close a:=by
 simp only[af.close,af.mk.injEq,true_and,and_true]
 funext t
 cases h.shut t<;>cases a.contains t<;>cases b.contains t<;>rfl
theorem PM {aX ob jq:Nat} {rN rO:aU} {s s1 s2:aI} {ci pg:dy} (U:ch G tab b5 aX ob rN s=some (s1,ci)) (h2:ch G tab b5 aX jq rO s1=some (s2,pg))
 (xM:rN.apart rO=true) (J:ke ci pg=true) (aH:ob≠jq) (ab:aX<=ob) (aA:aX<=jq) (vw:qp b5) (PN:s.h.cells jq=none) (PO:jq<s.h.next):
 ∃vx,ch G tab b5 aX jq rO s=some (vx,pg)/\ch G tab b5 aX ob rN vx=some (s2,ci):=by
 obtain⟨a1,eO,By⟩:=apart_spec xM
 obtain⟨Bz,bI,rfl,oh⟩:=GL U
 obtain⟨jb,j2,rfl,jr⟩:=GL h2
 have jF:∀t∈rO.reads,s.F t=(cg s.F rN.dst Bz) t:=fun t aJ=>(GM fun x ae=>by rintro rfl;exact a1 _ ae aJ).symm
 have jG:∀v t,t∈rN.reads->(cg s.F rO.dst v) t=s.F t:=fun v t aJ=>GM fun x ae=>by rintro rfl;exact By _ ae aJ
 have eG:cg (cg s.F rO.dst jb) rN.dst Bz=cg (cg s.F rN.dst Bz) rO.dst jb:=(PK fun x ae=>eO x ae).symm
 cases ci with
 | pure=>
   obtain⟨al,ao⟩:=oh
   subst al
   cases pg with
   | pure=>
     obtain⟨aV,bJ⟩:=jr
     subst aV
     exact ⟨_,bJ s.F s.h jF,by rw[ao _ _ (jG jb),eG]⟩
   | fg=>
     obtain⟨blk,aV,bJ⟩:=jr
     subst aV
     exact ⟨_,bJ s.F s.h jF,by rw[ao _ _ (jG jb),eG]⟩
   | rd=>
     obtain⟨ids,aV,bJ⟩:=jr
     subst aV
     exact ⟨_,bJ s.F s.h jF (fun _ _=>rfl),by rw[ao _ _ (jG jb),eG]⟩
   | wr=>exact ⟨_,jr s.F jF,by rw[ao _ _ (jG jb),eG]⟩
   | jj id=>
     obtain⟨aV,eW,bJ⟩:=jr
     subst aV
     exact ⟨_,bJ s.F s.h jF rfl,by rw[ao _ _ (jG jb),eG]⟩
   | k2 k=>exact ⟨_,jr.2 s.F jF,by rw[ao _ _ (jG jb),eG]⟩
 | fg=>
   obtain⟨blk,al,ao⟩:=oh
   subst al
   cases pg with
   | pure=>
     obtain⟨aV,bJ⟩:=jr
     subst aV
     exact ⟨_,bJ s.F s.h jF,by rw[ao _ _ (jG jb),eG]⟩
   | fg=>
     obtain⟨tv,aV,bJ⟩:=jr
     subst aV
     exact ⟨_,bJ s.F s.h jF,by rw[ao _ _ (jG jb),eG,tu _ _ _ aH]⟩
   | rd=>
     obtain⟨ids,aV,bJ⟩:=jr
     subst aV
     have aG:∀id,id<aX->s.h.cells id=(s.h.new ob blk).cells id:=fun id bn=>by
      simp only[af.new,an];rw[if_neg (by omega)]
     exact ⟨_,bJ s.F s.h jF aG,by rw[ao _ _ (jG jb),eG];rfl⟩
   | wr=>simp[ke] at J
   | jj id=>
     obtain⟨aV,eW,bJ⟩:=jr
     subst aV
     have aG:s.h.cells id=(s.h.new ob blk).cells id:=by
      simp only[af.new,an];rw[if_neg (by omega)]
     exact ⟨_,bJ s.F s.h jF aG,by rw[ao _ _ (jG jb),eG]⟩
   | k2 k=>simp[ke] at J
 | rd=>
   obtain⟨ids,al,ao⟩:=oh
   subst al
   cases pg with
   | pure=>
     obtain⟨aV,bJ⟩:=jr
     subst aV
     exact ⟨_,bJ s.F s.h jF,by rw[ao _ _ (jG jb) (fun _ _=>rfl),eG]⟩
   | fg=>
     obtain⟨tv,aV,bJ⟩:=jr
     subst aV
     have aG:∀id,id<aX->(s.h.new jq tv).cells id=s.h.cells id:=fun id bn=>by
      simp only[af.new,an];rw[if_neg (by omega)]
     exact ⟨_,bJ s.F s.h jF,by rw[ao _ _ (jG jb) aG,eG];rfl⟩
   | rd=>
     obtain⟨BA,aV,bJ⟩:=jr
     subst aV
     exact ⟨_,bJ s.F s.h jF (fun _ _=>rfl),by rw[ao _ (s.h.close BA) (jG jb) (fun _ _=>rfl),eG,PL]⟩
   | wr=>simp[ke] at J
   | jj id=>
     obtain⟨aV,eW,bJ⟩:=jr
     subst aV
     exact ⟨_,bJ s.F s.h jF rfl,by rw[ao _ s.h (jG jb) (fun _ _=>rfl),eG]⟩
   | k2 k=>simp[ke] at J
 | jj id=>
   obtain⟨al,eW,ao⟩:=oh
   subst al
   cases pg with
   | pure=>
     obtain⟨aV,bJ⟩:=jr
     subst aV
     exact ⟨_,bJ s.F s.h jF,by rw[ao _ _ (jG jb) rfl,eG]⟩
   | fg=>
     obtain⟨tv,aV,bJ⟩:=jr
     subst aV
     have aG:(s.h.new jq tv).cells id=s.h.cells id:=by
      simp only[af.new,an];rw[if_neg (by omega)]
     exact ⟨_,bJ s.F s.h jF,by rw[ao _ _ (jG jb) aG,eG]⟩
   | rd=>
     obtain⟨BA,aV,bJ⟩:=jr
     subst aV
     exact ⟨_,bJ s.F s.h jF (fun _ _=>rfl),by rw[ao _ (s.h.close BA) (jG jb) rfl,eG]⟩
   | wr=>simp[ke] at J
   | jj adf=>
     obtain⟨aV,kO,bJ⟩:=jr
     subst aV
     exact ⟨_,bJ s.F s.h jF rfl,by rw[ao _ _ (jG jb) rfl,eG]⟩
   | k2 k=>
     exact ⟨_,jr.2 s.F jF,by rw[ao _ _ (jG jb) (jr.1 id J),eG]⟩
 | k2 k=>
   obtain⟨rP,oh⟩:=oh
   cases pg with
   | pure=>
     obtain⟨aV,bJ⟩:=jr
     subst aV
     exact ⟨_,bJ s.F s.h jF,by rw[oh _ (jG jb),eG]⟩
   | fg=>
     obtain⟨tv,aV,bJ⟩:=jr
     subst aV
     have eW:=(Bw (blk:=tv) vw (oh _ (jG jb)) PN PO (Ne.symm aH)).1
     exact ⟨_,bJ s.F s.h jF,by rw[eG] at eW;exact eW⟩
   | rd=>simp[ke] at J
   | wr=>simp[ke] at J
   | jj id=>
     obtain⟨aV,eW,bJ⟩:=jr
     subst aV
     exact ⟨_,bJ s.F s.h jF (rP id J).symm,by rw[oh _ (jG jb),eG]⟩
   | k2 k=>simp[ke] at J
 | wr=>
   cases pg with
   | pure=>
     obtain⟨aV,bJ⟩:=jr
     subst aV
     exact ⟨_,bJ s.F s.h jF,by rw[oh _ (jG jb),eG]⟩
   | fg=>simp[ke] at J
   | rd=>simp[ke] at J
   | wr=>simp[ke] at J
   | jj id=>simp[ke] at J
   | k2 k=>simp[ke] at J
theorem GN {aX:Nat} {e:aU} {i:Nat}:∀ {fh kA:List (aU × Nat)} {s aj:aI} {cs:List dy},cE G tab b5 aX (fh++(e,i)::kA) s=some (aj,cs)->
 (∀k (ag:k<fh.length) (jA:k<cs.length) (aw:fh.length<cs.length),fh[k].1.apart e=true/\ke cs[k] cs[fh.length]=true/\fh[k].2≠i)->qp b5->s.h.cells (aX+i)=none->aX+i<s.h.next->
 ∃s1 c b7 bX,ch G tab b5 aX (aX+i) e s=some (s1,c)/\cE G tab b5 aX (fh++kA) s1=some (aj,b7++bX)/\cs=b7++c::bX/\b7.length=fh.length
 | [],kA,s,aj,cs,h,_,_,_,_=>by
   simp only[List.nil_append,cE] at h
   split at h<;>try(cases h;done)
   rename_i s1 c U
   obtain⟨p,h2,az⟩:=Option.map_eq_some_iff.1 h
   cases az
   exact ⟨s1,c,[],p.2,U,h2,rfl,rfl⟩
 | (bz,i0)::fh,kA,s,aj,cs,h,aG,vw,vy,GO=>by
   simp only[List.cons_append,cE] at h
   split at h<;>try(cases h;done)
   rename_i tw cG U
   obtain⟨p,h2,az⟩:=Option.map_eq_some_iff.1 h
   obtain⟨AV,jk⟩:=p
   cases az
   have hlen:∀ {L:List (aU × Nat)} {s aj:aI} {cs:List dy},cE G tab b5 aX L s=some (aj,cs)->cs.length=L.length:=by
    intro L
    induction L with
    | nil=>intro s aj cs h;simp only[cE] at h;cases h;rfl
    | cons q L a6=>
      intro s aj cs h
      simp only[cE] at h
      split at h<;>try(cases h;done)
      obtain⟨p,h2,az⟩:=Option.map_eq_some_iff.1 h
      cases az
      simp[a6 h2]
   have jm:=hlen h2
   have PQ:=(aG 0 (by simp) (by simp) (by simp[jm])).2.2
   simp only[List.getElem_cons_zero] at PQ
   obtain⟨-,fw,iM⟩:=Bw (blk:=[]) vw U vy GO (by omega)
   obtain⟨tx,c,b7,bX,bE,cp,rfl,jW⟩:=GN h2 (fun k ag jA aw=>by
    have:=aG (k+1) (by simp;omega) (by simp;omega) (by simp;omega)
    simpa using this) vw fw (by omega)
   have aD:=aG 0 (by simp) (by simp) (by simp[jW])
   simp only[List.getElem_cons_zero,List.length_cons,List.getElem_cons_succ] at aD
   have m0:(b7++c::bX)[fh.length]'(by simp[jW])=c:=by simp[<-jW]
   rw[m0] at aD
   obtain⟨vx,bx,bZ⟩:=PM U bE aD.1 aD.2.1 (by have:=aD.2.2;simp at this;omega) (by omega) (by omega) vw vy GO
   refine⟨vx,c,cG::b7,bX,bx,?_,rfl,by simp[jW]⟩
   simp only[List.cons_append,cE,bZ,cp,Option.map_some]
end
end Go.Eng
namespace Go.Eng
open Go Go.RowKit
theorem a2.PR {w:World} {ok:Nat->Prop} {σ ba:Nat->Option (Nat × Nat)} {v:I} {cv:Value} (h:a2 w ok σ (.eK v) cv):a2 w ok ba (.eK v) cv:=by
 obtain⟨cb,dO,rfl,U,h2⟩:=h.xu
 exact .eK v cb dO U h2
def js (F:Fence):Prop:=F=Fence.wide\/∃l,F=Fence.wide.inRound l
theorem js.fn {F:Fence} (h:js F) (f:FuncId):F.fn f:=by
 rcases h with rfl|⟨l,rfl⟩<;>trivial
theorem js.depth {F:Fence} (h:js F):F.depth=none:=by
 rcases h with rfl|⟨l,rfl⟩<;>rfl
theorem js.room {F:Fence} (h:js F) (n:Nat):F.room n:=fun d a_=>by rw[h.depth] at a_;cases a_
theorem js.one {F:Fence} (h:js F) (n:Nat):F.depth.isSome=true->1<=n:=fun a_=>by rw[h.depth] at a_;cases a_
theorem js.inRound {F:Fence} (h:js F) (l:Nat):js (F.inRound l):=by
 rcases h with rfl|⟨k,rfl⟩
 · exact .inr ⟨l,rfl⟩
 · exact .inr ⟨l,rfl⟩
theorem js.calls {F:Fence} (h:js F) {n:Nat} {P:Program} {f:FuncId} {args:Array Value} {w:World} {R:Ending->World->Prop} (J:Calls P f args w R):CallsIn F n P f args w R:=by
 rcases h with rfl|⟨l,rfl⟩
 · exact callsIn_wide.2 J
 · exact (callsIn_wide (n:=n)).2 J
structure da (base:Nat) (okin:Nat->Prop) (σ:Nat->Option (Nat × Nat)) (h:af) (w:World) (ba:Nat->Option (Nat × Nat)) (h':af) (aN:World):Prop where
 sub:∀id x,σ id=some x->ba id=some x
 still:tf w aN (bk base okin σ h) (bk base okin ba h')
 below:Below base w aN
 grow:∀b,iv w b<=iv aN b
 loop:∀(b:Nat) (r:Loop),w.heap[b]? =some (.loop r)->∃st j5,aN.heap[b]? =some (.loop {r with state:=st,pending:=j5})
 nu:∀b:Nat,w.heap[b]? =some (.deferred (some []))->aN.heap[b]? =some (.deferred (some []))
theorem da.refl (base:Nat) (okin:Nat->Prop) (σ:Nat->Option (Nat × Nat)) (h:af) (w:World):da base okin σ h w σ h w:=
 ⟨fun _ _ h=>h,fun _ _ _ _ h=>⟨h,rfl⟩,Below.refl _ _,fun _=>Nat.le_refl _,fun _ r h=>⟨r.state,r.pending,h⟩,fun _ h=>h⟩
theorem da.trans {base:Nat} {okin:Nat->Prop} {σ iZ o6:Nat->Option (Nat × Nat)} {h U h2:af} {w bP cy:World}
 (p:da base okin σ h w iZ U bP) (q:da base okin iZ U bP o6 h2 cy):da base okin σ h w o6 h2 cy:=
 ⟨fun id x ae=>q.sub id x (p.sub id x ae),fun b o aa ag ay=>by
   obtain⟨jz,al⟩:=p.still b o aa ag ay
   obtain⟨dD,ao⟩:=q.still b o (by rw[al];exact aa) ag jz
   exact ⟨dD,ao.trans al⟩,p.below.trans q.below,fun b=>Nat.le_trans (p.grow b) (q.grow b),fun b r aa=>by
   obtain⟨s1,bd,al⟩:=p.loop b r aa
   obtain⟨s2,bs,ao⟩:=q.loop b _ al
   exact ⟨s2,bs,ao⟩,fun b aa=>q.nu b (p.nu b aa)⟩
theorem da.rep {base:Nat} {okin:Nat->Prop} {σ ba:Nat->Option (Nat × Nat)} {h h':af} {w aN:World} (p:da base okin σ h w ba h' aN)
 {v:I} {cv:Value} (r:a2 w (bk base okin σ h) σ v cv):a2 aN (bk base okin ba h') ba v cv:=r.mono p.still p.sub p.grow
theorem ph {w:World} {b:Nat} {o:Obj} (h:w.heap[b]? =some o):b<w.heap.size:=(Array.getElem?_eq_some_iff.1 h).1
theorem cn.other {base:Nat} {okin:Nat->Prop} {σ ba:Nat->Option (Nat × Nat)} {h h':af} {w aN:World} (H:cn base okin σ h w) (p:Prog base okin σ h w ba h' aN) {b:Nat} {o:Obj} (aa:w.heap[b]? =some o)
 (aq:∀arr ty e,o≠ .cells arr ty e):aN.heap[b]? =some o:=by
 have bq:=ph aa
 by_cases vz:b<base
 · rw[p.below.block b vz];exact aa
 · have:=(p.p' b bq (.inr ⟨Nat.le_of_not_lt vz,fun id s au aw=>by
    obtain⟨blk,nq⟩:=Option.isSome_iff_exists.1 aw
    obtain⟨jS,aj,arr,ty,al,ao,_⟩:=H.blk id blk nq
    rw[au] at al;cases al
    rw[aa] at ao
    exact absurd (Option.some.inj ao) (aq _ _ _)⟩)).2
   rw[this];exact aa
theorem da.of {base:Nat} {okin:Nat->Prop} {σ ba:Nat->Option (Nat × Nat)} {h h':af} {w aN:World} (H:cn base okin σ h w) (p:Prog base okin σ h w ba h' aN):da base okin σ h w ba h' aN:=
 ⟨p.sub,p.still,p.below,p.grow,fun b r aa=>⟨r.state,r.pending,H.other p aa (fun _ _ _ h=>by cases h)⟩,fun b aa=>H.other p aa (fun _ _ _ h=>by cases h)⟩
def nv:ff->LoopState
 | .ready=> .ready
 | .busy=> .busy
 | .done _=> .done
def PS:c0->Option Code
 | .normal=>none
 | .exit id=>some (.exit id)
 | .ret=>some .ret
def nw:ff->Option Code
 | .ready=>none
 | .busy=>none
 | .done e=>PS e
structure jH (σ:Nat->Option (Nat × Nat)) (aS:Nat->Option ff) (w:World):Prop where
 look:∀id p,aS id=some p->∃(l s:Nat) (r:Loop),σ id=some (l,s)/\w.heap[l]? =some (.loop r)/\r.state=nv p/\r.pending=nw p
 inj:∀id h4 p lO l s aj,aS id=some p->aS h4=some lO->σ id=some (l,s)->σ h4=some (l,aj)->id=h4
theorem jH.of {base:Nat} {okin:Nat->Prop} {σ ba:Nat->Option (Nat × Nat)} {h h':af} {w aN:World} (L:jH σ h.aS w) (H:cn base okin σ h w) (p:Prog base okin σ h w ba h' aN) (aF:h'.aS=h.aS):jH ba h'.aS aN:=by
 rw[aF]
 refine⟨fun id q aG=>?_,fun id h4 q mc l s aj U h2 al ao=>?_⟩
 · obtain⟨l,s,r,al,ao,aV,bJ⟩:=L.look id q aG
   exact ⟨l,s,r,p.sub _ _ al,H.other p ao (fun _ _ _ h=>by cases h),aV,bJ⟩
 · obtain⟨cc,s1,bu,a1,_⟩:=L.look id q U
   obtain⟨ed,s2,c2,eO,_⟩:=L.look h4 mc h2
   have b1:=p.sub _ _ a1;rw[al] at b1
   have dL:=p.sub _ _ eO;rw[ao] at dL
   cases b1;cases dL
   exact L.inj id h4 q mc l s aj U h2 a1 eO
def oi (P:Program) (G:Nat->Option I) (base:Nat) (okin:Nat->Prop) (Y:List cF) (σ:Nat->Option (Nat × Nat)) (h:af) (w:World):Prop:=
 ∀L∈Y,∃(l s:Nat) (r:Loop) (m3:Nat),σ L.id=some (l,s)/\w.heap[l]? =some (.loop r)/\m3<=r.tmps.size/\L.ps=r.params.toList/\(∀p∈L.ps,p<m3)/\
  fS P m3 r.assign=some L.dm/\fS P m3 r.body=some L.body/\jV G (bk base okin σ h) σ w L.F {tmps:=r.tmps,defers:=[]}
theorem oi.mono {P:Program} {G:Nat->Option I} {base:Nat} {okin:Nat->Prop} {Y:List cF} {σ ba:Nat->Option (Nat × Nat)} {h h':af} {w aN:World} (C:oi P G base okin Y σ h w) (p:da base okin σ h w ba h' aN):oi P G base okin Y ba h' aN:=by
 intro L bb
 obtain⟨l,s,r,m3,al,ao,aV,bJ,eW,kO,BB,qs⟩:=C L bb
 obtain⟨st,j5,PT⟩:=p.loop l r ao
 exact ⟨l,s,_,m3,p.sub _ _ al,PT,aV,bJ,eW,kO,BB,⟨fun t=>p.rep (qs.slot t),fun g v aW=>p.rep (qs.mx g v aW)⟩⟩
structure Marks (bz:Nat) (cQ:List Deferred) (w:World):Prop where
 each:∀d∈cQ,∃D,d.target= .collected D/\bz<=D/\w.heap[D]? =some (.deferred (some []))
 nodup:cQ.Pairwise fun d o2=>d.target≠o2.target
theorem Marks.mono {bz:Nat} {cQ:List Deferred} {w aN:World} (M:Marks bz cQ w) (a_:∀b:Nat,w.heap[b]? =some (.deferred (some []))->aN.heap[b]? =some (.deferred (some []))):Marks bz cQ aN:=
 ⟨fun d h=>by
   obtain⟨D,U,h2,az⟩:=M.each d h
   exact ⟨D,U,h2,a_ D az⟩,M.nodup⟩
def BC (P:Program) (f:FuncId) (args:Array Value) (w:World) (R:Value->World->Prop):Prop:=
 ((callFunc f args).run P w= .ok (.enter f args) w/\Calls P f args w fun e aN=>∃cv,e= .returned cv/\R cv aN)\/
 ∃cv aN,(callFunc f args).run P w= .ok (.value cv) aN/\R cv aN
def BD (P:Program) (l:Nat) (args:Array Value) (w:World) (R:Value->World->Prop):Prop:=
 ∃f tmps dm body,(Instr.yield l args).run P w= .ok (.round l f tmps dm body) w/\∀F n,js F->RoundIn F n P l f tmps dm body w fun e aN=>∃cv,e= .returned cv/\R cv aN
def aP (P:Program) (G:Nat->Option I) (f:FuncId) (T:List I->Option I):Prop:=
 ∀args v,T args=some v->∀(ok:Nat->Prop) (w:World) (dd:Array Value),dd.size=args.length->
  (∀i (h:i<args.length) (h':i<dd.size),db w ok args[i] dd[i])->
  (∀g u,G g=some u->a2 w ok (fun _=>none) (.eK u) (.pointer (some ⟨g,0,none⟩)))->
  BC P f dd w fun cv aN=>db aN (fun b=>ok b\/w.heap.size<=b) v cv/\Below w.heap.size w aN
def tz (base:Nat) (okin:Nat->Prop) (σ:Nat->Option (Nat × Nat)) (h:af) (w:World) (h':af) (v:I) (cv:Value) (aN:World):Prop:=
 ∃ba,da base okin σ h w ba h' aN/\cn base okin ba h' aN/\jH ba h'.aS aN/\a2 aN (bk base okin ba h') ba v cv/\(∀id,h'.next<=id->ba id=none)/\∀id,id<h.next->ba id=σ id
structure tA (P:Program) (G:Nat->Option I) (Y:List cF) (b5:ku->List I->af->Option (I × af)):Prop where
 next:∀t args h v h',b5 t args h=some (v,h')->h.next<=h'.next
 frame:qp b5
 fn:∀f args h v h',b5 (.fn f) args h=some (v,h')->∀base okin σ w (dd:Array Value),cn base okin σ h w->jH σ h.aS w->oi P G base okin Y σ h w->dd.size=args.length->
    (∀i (ab:i<args.length) (bI:i<dd.size),a2 w (bk base okin σ h) σ args[i] dd[i])->
    (∀g u,G g=some u->a2 w (bk base okin σ h) σ (.eK u) (.pointer (some ⟨g,0,none⟩)))->(∀id,h.next<=id->σ id=none)->
    BC P f dd w (tz base okin σ h w h' v)
 k4:∀id args h v h',b5 (.k4 id) args h=some (v,h')->∀base okin σ w (dd:Array Value) l s,cn base okin σ h w->jH σ h.aS w->oi P G base okin Y σ h w->σ id=some (l,s)->dd.size=args.length->
    (∀i (ab:i<args.length) (bI:i<dd.size),a2 w (bk base okin σ h) σ args[i] dd[i])->
    (∀g u,G g=some u->a2 w (bk base okin σ h) σ (.eK u) (.pointer (some ⟨g,0,none⟩)))->(∀id,h.next<=id->σ id=none)->
    BD P l dd w (tz base okin σ h w h' v)
structure fi (P:Program) (G:Nat->Option I) (Y:List cF) (jc:Option Nat) (bz:Nat) (base:Nat) (okin:Nat->Prop) (N:Nat) (cN:Nat) (cz:Nat->Option (Nat × Nat)) (b':Nat->Prop) (σ:Nat->Option (Nat × Nat)) (s:aI) (a:Act) (w:World):Prop where
 au:cn base okin σ s.h w
 k_:jH σ s.h.aS w
 i_:oi P G base okin Y σ s.h w
 br:jV G (bk base okin σ s.h) σ w s.F a
 size:N<=a.tmps.size
 marks:Marks bz a.defers w
 rd:∀l,jc=some l->∃r,w.heap[l]? =some (.loop r)
 rQ:bz<=w.heap.size
 free:∀id,b' id->cN<=id/\id<s.h.next/\σ id=none
 low:cN<=s.h.next
 lN:∀id,id<cN->σ id=cz id
 fresh:∀id,s.h.next<=id->σ id=none
section
variable {P:Program} {G:Nat->Option I} {base:Nat} {okin:Nat->Prop} {N:Nat} {cN:Nat} {cz:Nat->Option (Nat × Nat)} {b':Nat->Prop} {σ:Nat->Option (Nat × Nat)} {w:World} {a:Act}
theorem jV.mono {ba:Nat->Option (Nat × Nat)} {h h':af} {aN:World} {F:Nat->I} (br:jV G (bk base okin σ h) σ w F a) (p:da base okin σ h w ba h' aN):jV G (bk base okin ba h') ba aN F a:=
 ⟨fun t=>p.rep (br.slot t),fun g v aW=>p.rep (br.mx g v aW)⟩
theorem jV.put {h:af} {F:Nat->I} (br:jV G (bk base okin σ h) σ w F a) {d:Option Nat} (a_:d.all (fun d=>decide (d<N))=true) (ix:N<=a.tmps.size) {v:I} {cv:Value} (av:a2 w (bk base okin σ h) σ v cv):
 jV G (bk base okin σ h) σ w (cg F d v) (a.put d cv):=by
 refine⟨fun t=>?_,br.mx⟩
 cases d with
 | none=>exact br.slot t
 | some d=>
   have bq:d<a.tmps.size:=by
    have:d<N:=by simpa using a_
    omega
   simp only[cg,an,Act.put]
   by_cases e:t=d
   · subst e
     rw[if_pos rfl]
     simpa[Array.getD,bq] using av
   · rw[if_neg e]
     have:=br.slot t
     have ao:(a.tmps.setIfInBounds d cv).getD t undef=a.tmps.getD t undef:=by
      simp only[Array.getD_eq_getD_getElem?]
      rw[Array.getElem?_setIfInBounds_ne (Ne.symm e)]
     rw[ao];exact this
theorem PU (a:Act) (d:Option Nat) (v:Value):(a.put d v).tmps.size=a.tmps.size:=by
 cases d<;>simp[Act.put]
theorem put_defers (a:Act) (d:Option Nat) (v:Value):(a.put d v).defers=a.defers:=by
 cases d<;>rfl
theorem cn.grown {h:af} (H:cn base okin σ h w) {aN:World} (aa:Below w.heap.size w aN):cn base okin σ h aN/\Prog base okin σ h w σ h aN:=by
 have P:Prog base okin σ h w σ h aN:=⟨fun _ _ x=>x,fun b bq ay=>⟨ay,aa.block b bq⟩,aa.mono H.base,OL aa⟩
 refine⟨⟨fun id b s ab=>⟨(H.val id b s ab).1,Nat.lt_of_lt_of_le (H.val id b s ab).2 aa.size⟩,fun id fT iw=>?_,H.inj,Nat.le_trans H.base aa.size⟩,P⟩
 obtain⟨b,s,ql,ty,al,ao,aV⟩:=H.blk id fT iw
 refine⟨b,s,ql,ty,al,by rw[aa.block b (H.val _ _ _ al).2];exact ao,fun i ab=>⟨(aV i ab).1,fun j aA=>?_⟩⟩
 obtain⟨v,bE,cp⟩:=(aV i ab).2 j aA
 exact ⟨v,bE,P.rep cp⟩
theorem vA {h:af} {x y:List Nat} (m1:∀i∈x,i∈y) (b:Nat) (ay:bk base okin σ (h.close x) b):bk base okin σ (h.close y) b:=by
 rcases ay with ay|⟨U,h2⟩
 · exact .inl ay
 · refine .inr ⟨U,fun id s au aw=>?_⟩
   have:=h2 id s au aw
   simp only[af.close,Bool.or_eq_true,List.contains_iff_mem] at this|-
   exact this.imp (fun q=>q) (m1 id)
theorem GP {h:af} (H:cn base okin σ h w) {v u:I} {cv:Value} {ids:List Nat} (aH:a2 w (bk base okin σ h) σ v cv) (ay:df h v=some (u,ids)):db w (bk base okin σ (h.close ids)) u cv:=by
 cases v<;>simp only[df] at ay<;>try(cases ay;done)
 case int k n=>cases ay;rw[aH.jl];exact .int k n
 case bool b=>cases ay;rw[aH.qe];exact .bool b
 case str s=>cases ay;rw[aH.va];exact .str s
 case nilfn=>cases ay;rw[aH.OJ];exact .nilfn
 case mp m=>
  cases ay
  have:=aH.FH
  rw[rM]
  exact this
 case sl xs ex=>
  cases ay
  have:=aH.qf
  rw[rM]
  exact this
 case ref id off len cap=>
  split at ay<;>try(cases ay;done)
  rename_i blk aa
  split at ay<;>try(cases ay;done)
  rename_i aG
  obtain⟨c8,c_⟩:=aG
  cases ay
  obtain⟨A,c,b,sz,rfl,al,ao,aV,bJ⟩:=aH.qg
  obtain⟨jS,fG,arr,ty,f1,f2,f3⟩:=H.blk id blk aa
  rw[al] at f1;cases f1
  have hlen:((blk.drop off).take len).length=len:=by simp;omega
  have kv:∀i (ab:i<len),((blk.drop off).take len)[i]'(by rw[hlen];exact ab)=blk[off+i]'(by omega):=by intro i ab;simp
  have jU:bk base okin σ (h.close [id]) b:=by
   refine .inr ⟨(H.val _ _ _ al).1,fun h4 s au aw=>?_⟩
   have:h4=id:=H.inj h4 id b s sz aw (by simp[aa]) au al
   subst this
   simp[af.close]
  have R:=db.sl (w:=w) (ok:=bk base okin σ (h.close [id])) ((blk.drop off).take len) false A c sz (fun i j=>(arr[(off+i)*sz+j]?).getD undef) (by rw[hlen];exact ao) (fun cw=>absurd cw (by simp))
   (fun i ab=>by rw[hlen] at ab;rw[kv i ab];exact (f3 _ _).1)
   (fun i j ab aA=>by
     rw[hlen] at ab
     obtain⟨rfl,_⟩:=bJ (by omega)
     refine⟨_,rfl,jU,?_⟩
     obtain⟨lq,bE,_⟩:=(f3 (off+i) (by omega)).2 j (by rw[(f3 (off+i) (by omega)).1];exact aA)
     rw[o9]
     simp only[World.cell?,f2,Option.isSome_none,Bool.false_eq_true,if_false]
     rw[show off*sz+(i*sz+j)=(off+i)*sz+j by rw[Nat.add_mul];omega,bE];rfl)
   (fun rH=>by
     rw[hlen] at rH
     obtain⟨rfl,_⟩:=bJ (by omega)
     rfl)
   (fun i ab j aA=>by
     rw[hlen] at ab
     have he:=kv i ab
     simp only[he] at aA|-
     obtain⟨lq,bE,cp⟩:=(f3 (off+i) (by omega)).2 j aA
     show db _ _ _ ((arr[(off+i)*sz+j]?).getD undef)
     rw[bE]
     have nx:(blk[off+i]'(by omega)).cells[j].dk=true:=List.all_eq_true.1 (List.all_eq_true.1 c_ _ (List.getElem_mem _)) _ (List.getElem_mem aA)
     exact (db.F2 cp nx).rq fun k ag jU=>by
      have:=vA (base:=base) (okin:=okin) (σ:=σ) (h:=h) (x:=[]) (y:=[id]) (by simp) k (by rw[rM];exact jU)
      exact this)
  rw[hlen] at R
  exact R
theorem GQ {h:af} (H:cn base okin σ h w):∀ {vs us:List I} {ids:List Nat} (cs:Nat->Value),(∀i (ab:i<vs.length),a2 w (bk base okin σ h) σ vs[i] (cs i))->dM h vs=some (us,ids)->
 us.length=vs.length/\∀i (ab:i<us.length),db w (bk base okin σ (h.close ids)) us[i] (cs i)
 | [],us,ids,cs,_,ay=>by simp only[dM] at ay;cases ay;exact ⟨rfl,fun i ab=>absurd ab (by simp)⟩
 | v::vs,us,ids,cs,aH,ay=>by
   simp only[dM] at ay
   split at ay<;>try(cases ay;done)
   rename_i jT x l_ y U h2
   cases ay
   obtain⟨l,q⟩:=GQ H (fun i=>cs (i+1)) (fun i ab=>aH (i+1) (by simpa using ab)) h2
   refine⟨by simp[l],fun i ab=>?_⟩
   cases i with
   | zero=>exact (GP H (aH 0 (by simp)) U).rq fun b _ aa=>vA (fun i ab=>by simp[ab]) b aa
   | succ i=>exact (q i (by simpa using ab)).rq fun b _ aa=>vA (fun i ab=>by simp[ab]) b aa
theorem GR {h:af} (H:cn base okin σ h w) {v u:I} {cv:Value} {ids:List Nat} (aH:a2 w (bk base okin σ h) σ v cv) (ay:ib h v=some (u,ids)):db w (bk base okin σ (h.close ids)) u cv:=by
 by_cases av:∃cs,v= .agg cs
 · obtain⟨cs,rfl⟩:=av
   simp only[ib] at ay
   obtain⟨p,U,he⟩:=Option.map_eq_some_iff.1 ay
   obtain⟨us,GS⟩:=p
   cases he
   obtain⟨vs,rfl,cc,bu⟩:=aH.tg
   obtain⟨ed,c2⟩:=GQ H (fun i=>vs.getD i undef) (fun i ab=>by
    have bq:i<vs.size:=by omega
    have:=bu i ab bq
    simpa[Array.getD,bq] using this) U
   refine .agg _ _ (by show vs.size=us.length;omega) (fun i ab bI=>?_)
   have:=c2 i ab
   simpa[Array.getD,bI] using this
 · refine GP H aH ?_
   cases v<;>first|exact ay|exact absurd ⟨_,rfl⟩ av
theorem BE {h:af} (H:cn base okin σ h w):∀ {vs us:List I} {ids:List Nat} (cs:Nat->Value),(∀i (ab:i<vs.length),a2 w (bk base okin σ h) σ vs[i] (cs i))->dC h vs=some (us,ids)->
 us.length=vs.length/\∀i (ab:i<us.length),db w (bk base okin σ (h.close ids)) us[i] (cs i)
 | [],us,ids,cs,_,ay=>by simp only[dC] at ay;cases ay;exact ⟨rfl,fun i ab=>absurd ab (by simp)⟩
 | v::vs,us,ids,cs,aH,ay=>by
   simp only[dC] at ay
   split at ay<;>try(cases ay;done)
   rename_i jT x l_ y U h2
   cases ay
   obtain⟨l,q⟩:=BE H (fun i=>cs (i+1)) (fun i ab=>aH (i+1) (by simpa using ab)) h2
   refine⟨by simp[l],fun i ab=>?_⟩
   cases i with
   | zero=>exact (GR H (aH 0 (by simp)) U).rq fun b _ aa=>vA (fun i ab=>by simp[ab]) b aa
   | succ i=>exact (q i (by simpa using ab)).rq fun b _ aa=>vA (fun i ab=>by simp[ab]) b aa
theorem PV {h:af} (H:cn base okin σ h w) {v u:I} {cv:Value} {ids:List Nat} (aH:a2 w (bk base okin σ h) σ v cv) (ay:iY h v=some (u,ids)):db w (bk base okin σ (h.close ids)) u cv:=by
 by_cases av:∃cs,v= .bo cs
 · obtain⟨cs,rfl⟩:=av
   simp only[iY] at ay
   obtain⟨p,U,he⟩:=Option.map_eq_some_iff.1 ay
   obtain⟨us,GS⟩:=p
   cases he
   obtain⟨vs,rfl,cc,bu⟩:=aH.FJ
   obtain⟨ed,c2⟩:=BE H (fun i=>vs.getD i undef) (fun i ab=>by
    have bq:i<vs.size:=by omega
    have:=bu i ab bq
    simpa[Array.getD,bq] using this) U
   refine .bo _ _ (by show vs.size=us.length;omega) (fun i ab bI=>?_)
   have:=c2 i ab
   simpa[Array.getD,bI] using this
 · refine GR H aH ?_
   cases v<;>first|exact ay|exact absurd ⟨_,rfl⟩ av
end
end Go.Eng
namespace Go.Eng
open Go Go.RowKit
section
variable {P:Program} {G:Nat->Option I} {base:Nat} {okin:Nat->Prop} {N:Nat} {cN:Nat} {cz:Nat->Option (Nat × Nat)} {b':Nat->Prop} {σ:Nat->Option (Nat × Nat)} {w:World} {a:Act}
 {tab:FuncId->Option (List I->Option I)} {b5:ku->List I->af->Option (I × af)} {Y:List cF} {jc:Option Nat} {bz:Nat} {cV:Fence} {dv:Nat}
theorem BF (x:Array Value) (i:Nat) (h:i<x.size):x.getD i undef=x[i]:=by simp[Array.getD,h]
theorem GU {ops:Array Oper} {o:Oper} {e:aU} (h:o5 P N ops o=some e):
 e.dst=o.dst/\fF P o.op=some e.op/\o.dst.all (fun d=>decide (d<N))=true/\
   ((o.guard=none/\e.guard=none)\/∃j t want,o.guard=some (j,want)/\(ops[j]?).bind (·.dst)=some t/\e.guard=some (t,want)):=by
 unfold o5 at h
 split at h<;>try(cases h;done)
 rename_i a_
 split at h<;>try(cases h;done)
 rename_i op cq
 split at h
 · rename_i aW
   cases h
   exact ⟨rfl,cq,a_,.inl ⟨aW,rfl⟩⟩
 · rename_i j w aW
   split at h<;>try(cases h;done)
   rename_i t aJ
   cases h
   exact ⟨rfl,cq,a_,.inr ⟨j,t,w,aW,aJ,rfl⟩⟩
theorem PW {o:Oper} {x:Operand} {args:Array Operand} {argTypes:Array TypeId} (cq:o.op= .call {callee:= .value x,args,argTypes}) {f:FuncId} {eV cv:Array Value} (ae:a.eval x= .func (.func f) eV cv):
 (execOp a.eval o).run P w=(callFunc f (eV++args.map a.eval++cv)).run P w:=by
 simp[execOp,cq,resolve,Deferred.ofValue,ae,invoke]
theorem PX {o:Oper} {x:Operand} {args:Array Operand} {argTypes:Array TypeId} (cq:o.op= .call {callee:= .value x,args,argTypes}) {l:Nat} (ae:a.eval x= .func (.yield l) #[] #[]):
 (execOp a.eval o).run P w=(Instr.yield l (args.map a.eval)).run P w:=by
 simp[execOp,cq,resolve,Deferred.ofValue,ae,invoke]
theorem fi.step {ba:Nat->Option (Nat × Nat)} {s:aI} (S:fi P G Y jc bz base okin N cN cz b' σ s a w) {d:Option Nat} (a_:d.all (fun d=>decide (d<N))=true) {v:I} {cv:Value} {h':af} {aN:World} {r:Nat}
 (p:da base okin σ s.h w ba h' aN) (H:cn base okin ba h' aN) (L:jH ba h'.aS aN) (aH:a2 aN (bk base okin ba h') ba v cv) (aq:s.h.next<=h'.next) (bg:∀id,b' id->id≠r->ba id=none) (PY:∀id,h'.next<=id->ba id=none) (ay:∀id,id<cN->ba id=σ id):
 fi P G Y jc bz base okin N cN cz (fun id=>b' id/\id≠r) ba ⟨cg s.F d v,h'⟩ (a.put d cv) aN:=
 ⟨H,L,S.i_.mono p,(S.br.mono p).put a_ S.size aH,by rw[PU];exact S.size,by rw[put_defers];exact S.marks.mono p.nu,fun l aw=>by
   obtain⟨ky,U⟩:=S.rd l aw
   obtain⟨st,j5,h2⟩:=p.loop l ky U
   exact ⟨_,h2⟩,Nat.le_trans S.rQ p.below.size,fun id bn=>⟨(S.free id bn.1).1,Nat.lt_of_lt_of_le (S.free id bn.1).2.1 aq,bg id bn.1 bn.2⟩,Nat.le_trans S.low aq,fun id bn=>(ay id bn).trans (S.lN id bn),PY⟩
theorem GV (bm:js cV) {Q:Exit->Act->World->Prop} {K:Act->World->Prop} {o:Oper} {f:FuncId} {dd:Array Value} {R:Value->World->Prop} (a_:BC P f dd w R) (oj:∀c,o.op≠ .defer c) (ca:(execOp a.eval o).run P w=(callFunc f dd).run P w)
 (md:∀cv aN,R cv aN->K (a.put o.dst cv) aN):o.wpIn cV dv P a w K Q:=by
 unfold Oper.wpIn
 refine⟨fun f _=>bm.fn f,?_⟩
 rw[Oper.semAt_eq _ _ _ oj,ca]
 rcases a_ with⟨U,h2⟩|⟨cv,aN,U,h2⟩
 · rw[U,Oper.uponIn_enter]
   refine⟨bm.one dv,bm.calls (h2.mono fun e aN ⟨cv,he,ee⟩=>?_)⟩
   subst he
   exact md cv aN ee
 · rw[U]
   exact md cv aN h2
theorem PZ (bm:js cV) {Q:Exit->Act->World->Prop} {K:Act->World->Prop} {o:Oper} {l:Nat} {dd:Array Value} {R:Value->World->Prop} (a_:BD P l dd w R) (oj:∀c,o.op≠ .defer c) (ca:(execOp a.eval o).run P w=(Instr.yield l dd).run P w)
 (md:∀cv aN,R cv aN->K (a.put o.dst cv) aN):o.wpIn cV dv P a w K Q:=by
 unfold Oper.wpIn
 refine⟨fun f _=>bm.fn f,?_⟩
 rw[Oper.semAt_eq _ _ _ oj,ca]
 obtain⟨f,tmps,dm,body,U,h2⟩:=a_
 rw[U,Oper.uponIn_round]
 refine⟨bm.one dv,(h2 cV _ bm).mono fun e aN ⟨cv,he,ee⟩=>?_⟩
 subst he
 exact md cv aN ee
theorem GW (bm:js cV) (ja:tA P G Y b5) (kP:∀f T,tab f=some T->aP P G f T) {ops:Array Oper} {o:Oper} {e:aU} (ix:o5 P N ops o=some e) {aX r:Nat} {s aj:aI} {c:dy}
 (ca:cM G tab b5 aX r e s=some (aj,c)) (S:fi P G Y jc bz base okin N cN cz b' σ s a w) (qt:b' r) {K:Act->World->Prop} {Q:Exit->Act->World->Prop}
 (md:∀ba eh aN,fi P G Y jc bz base okin N cN cz (fun id=>b' id/\id≠r) ba aj eh aN->da base okin σ s.h w ba aj.h aN->K eh aN):o.wpIn cV dv P a w K Q:=by
 obtain⟨d1,d2,d3,_⟩:=GU ix
 have a_:e.dst.all (fun d=>decide (d<N))=true:=by rw[d1];exact d3
 by_cases J:∃f args,e.op= .call f args
 · obtain⟨f,args,cq⟩:=J
   rw[cq] at d2
   have ma:∃x as dV,o.op= .call {callee:= .value x,args:=as,argTypes:=dV}/\dK x=some f/\o4 as.toList=some args:=by
    cases ay:o.op<;>rw[ay] at d2<;>simp only[fF] at d2<;>try(first|(cases d2;done)|(split at d2<;>cases d2;done))
    case call Br=>
     obtain⟨callee,as,dV⟩:=Br
     cases callee with
     | value x=>
       simp only at d2
       split at d2<;>try(cases d2;done)
       rename_i U h2
       cases d2
       exact ⟨x,as,dV,rfl,U,h2⟩
     | invoke _ _=>simp only at d2;cases d2
     | builtin b=>
       exfalso
       cases b<;>simp only at d2<;>(repeat' split at d2)<;>first|(cases d2;done)|(obtain⟨_,_,d2⟩:=Option.map_eq_some_iff.1 d2;cases d2)
    all_goals
     exfalso
     first
      | (obtain⟨_,_,d2⟩:=Option.map_eq_some_iff.1 d2;cases d2;done)
      | ((repeat' split at d2)<;>first|contradiction|(cases d2;done)|(obtain⟨_,_,d2⟩:=Option.map_eq_some_iff.1 d2;cases d2;done))
   obtain⟨x,as,dV,ay,ae,has⟩:=ma
   unfold cM at ca
   simp only[cq] at ca
   have oj:∀c,o.op≠ .defer c:=fun c J=>by rw[ay] at J;cases J
   split at ca<;>try(cases ca;done)
   rotate_left
   · rename_i id bg
     obtain⟨p,aF,ca⟩:=Option.map_eq_some_iff.1 ca
     obtain⟨v,h'⟩:=p
     cases ca
     have rx:=S.br.dA ae
     rw[bg] at rx
     obtain⟨l,sl,ex,om⟩:=rx.OK
     obtain⟨la,oo⟩:=rz S.br has
     have aq:=ja.next _ _ _ _ _ aF
     refine PZ bm (ja.k4 _ _ _ _ _ aF base okin σ w (as.map a.eval) l sl S.au S.k_ S.i_ om (by simp at la|-;omega) (fun i ab bI=>by
      have:=oo i (by simpa using ab) (by simpa using bI)
      simpa using this) S.br.mx S.fresh) oj (PX ay ex) (fun BG aN ee=>?_)
     obtain⟨ba,bx,bZ,BH,cX,mb,ki⟩:=ee
     rw[<-d1]
     exact md ba _ aN (S.step a_ bx bZ BH cX aq (fun id bn _=>by rw[ki id (S.free id bn).2.1];exact (S.free id bn).2.2) mb (fun id bn=>ki id (Nat.lt_of_lt_of_le bn S.low))) bx
   rename_i n first caps bg
   have rx:=S.br.dA ae
   rw[bg] at rx
   obtain⟨eV,cv,ex,cc,ed,bu,c2⟩:=rx.FI
   obtain⟨la,oo⟩:=rz S.br has
   have GX:=PW (P:=P) (w:=w) ay ex
   have c7:(eV++as.map a.eval++cv).size=(first++args.map (aQ.ev G s.F)++caps).length:=by simp at la|-;omega
   have fu:∀i (ab:i<(first++args.map (aQ.ev G s.F)++caps).length) (bI:i<(eV++as.map a.eval++cv).size),a2 w (bk base okin σ s.h) σ (first++args.map (aQ.ev G s.F)++caps)[i] (eV++as.map a.eval++cv)[i]:=by
    intro i ab bI
    by_cases U:i<first.length
    · have al:(first++args.map (aQ.ev G s.F)++caps)[i]=first[i]:=by
       rw[List.getElem_append_left (by simp;omega),List.getElem_append_left U]
      have ao:(eV++as.map a.eval++cv)[i]=eV[i]'(by omega):=by
       rw[Array.getElem_append_left (by simp;omega),Array.getElem_append_left (by omega)]
      rw[al,ao];exact bu i U (by omega)
    · by_cases h2:i<first.length+args.length
      · have al:(first++args.map (aQ.ev G s.F)++caps)[i]=args[i - first.length].ev G s.F:=by
         rw[List.getElem_append_left (by simp;omega),List.getElem_append_right (by omega)];simp
        have ao:(eV++as.map a.eval++cv)[i]=a.eval (as.toList[i - first.length]'(by simp at la|-;omega)):=by
         rw[Array.getElem_append_left (by simp at la|-;omega),Array.getElem_append_right (by omega)]
         simp[cc]
        rw[al,ao];exact oo _ (by omega) (by simp at la|-;omega)
      · have al:(first++args.map (aQ.ev G s.F)++caps)[i]=caps[i -(first.length+args.length)]'(by simp at ab;omega):=by
         rw[List.getElem_append_right (by simp;omega)];simp
        have ao:(eV++as.map a.eval++cv)[i]=cv[i -(first.length+args.length)]'(by simp at ab;omega):=by
         rw[Array.getElem_append_right (by simp at la|-;omega)]
         congr 1
         simp at la|-;omega
        rw[al,ao];exact c2 _ (by simp at ab;omega) (by simp at ab;omega)
   split at ca
   · rename_i T cR
     split at ca<;>try(cases ca;done)
     rename_i vs ids nm
     obtain⟨v,av,ca⟩:=Option.map_eq_some_iff.1 ca
     cases ca
     obtain⟨P0,GY⟩:=S.au.close ids
     obtain⟨c1,en⟩:=BE S.au (fun i=>(eV++as.map a.eval++cv).getD i undef) (fun i ab=>by
      have bq:i<(eV++as.map a.eval++cv).size:=by rw[c7];exact ab
      have:=fu i ab bq
      rw[BF _ _ bq];exact this) nm
     refine GV bm (kP n T cR vs v av (bk base okin σ (s.h.close ids)) w (eV++as.map a.eval++cv) (by rw[c7,c1]) (fun i ab bI=>by
      have:=en i ab
      rw[BF _ _ bI] at this;exact this) (fun g u aW=>(GY.rep (S.br.mx g u aW)).PR)) oj GX (fun BG aN ee=>?_)
     obtain⟨c8,c_⟩:=ee
     obtain⟨BI,BJ⟩:=P0.grown c_
     have GZ:=GY.trans BJ
     have G0:=da.of S.au GZ
     rw[<-d1]
     refine md σ _ aN (S.step a_ G0 BI (S.k_.of S.au GZ rfl) (.val _ _ (c8.rq fun b _ aa=>?_)) (Nat.le_refl _) (fun id bn _=>(S.free id bn).2.2) S.fresh (fun _ _=>rfl)) G0
     rcases aa with aa|aa
     · exact aa
     · exact .inr ⟨Nat.le_trans S.au.base aa,fun id sz au _=>by have:=(S.au.val _ _ _ au).2;omega⟩
   · rename_i cR
     obtain⟨p,aF,ca⟩:=Option.map_eq_some_iff.1 ca
     obtain⟨v,h'⟩:=p
     cases ca
     have aq:=ja.next _ _ _ _ _ aF
     refine GV bm (ja.fn _ _ _ _ _ aF base okin σ w _ S.au S.k_ S.i_ c7 fu S.br.mx S.fresh) oj GX (fun BG aN ee=>?_)
     obtain⟨ba,bx,bZ,BH,cX,mb,ki⟩:=ee
     rw[<-d1]
     exact md ba _ aN (S.step a_ bx bZ BH cX aq (fun id bn _=>by rw[ki id (S.free id bn).2.1];exact (S.free id bn).2.2) mb (fun id bn=>ki id (Nat.lt_of_lt_of_le bn S.low))) bx
 · have rJ:cM G tab b5 aX r e s=(evalOp aX r (aQ.ev G s.F) s.h e.op).map fun(v,h',c)=>(⟨cg s.F e.dst v,h'⟩,c):=by
    unfold cM
    split
    · exact absurd ⟨_,_,‹_›⟩ J
    · rfl
   rw[rJ] at ca
   obtain⟨p,aF,ca⟩:=Option.map_eq_some_iff.1 ca
   obtain⟨v,h',cG⟩:=p
   have n':(⟨cg s.F e.dst v,h'⟩:aI)=aj:=congrArg Prod.fst ca
   subst n'
   have xN:h'.next=s.h.next:=congrArg Prod.fst (tt aF).1
   have P1:h'.aS=s.h.aS:=congrArg Prod.snd (tt aF).1
   obtain⟨ba,cv,aN,al,ao,aV,bJ,eW⟩:=Pw S.au S.br (S.free r qt).2.2 o d2 aF
   have fin:fi P G Y jc bz base okin N cN cz (fun id=>b' id/\id≠r) ba ⟨cg s.F e.dst v,h'⟩ (a.put e.dst cv) aN:=
    S.step a_ (da.of S.au ao) aV (S.k_.of S.au ao P1) bJ (by rw[xN];exact Nat.le_refl _) (fun id bn bG=>by rw[eW id bG];exact (S.free id bn).2.2) (fun id bn=>by
      rw[xN] at bn
      have:id≠r:=by have:=(S.free r qt).2.1;omega
      rw[eW id this];exact S.fresh id bn) (fun id bn=>eW id (by have:=(S.free r qt).1;omega))
   have G1:=md ba _ aN fin (da.of S.au ao)
   have oj:∀c,o.op≠ .defer c:=fun c J=>by rw[J] at d2;simp only[fF] at d2;cases d2
   unfold Oper.wpIn
   refine⟨fun f _=>bm.fn f,?_⟩
   rw[Oper.semAt_eq _ _ _ oj]
   rcases al with al|⟨al,rfl⟩
   · rw[al,Oper.uponIn_value,<-d1];exact G1
   · rw[al,Oper.uponIn_skip,<-d1];exact G1
theorem G2 (bm:js cV) (ja:tA P G Y b5) (kP:∀f T,tab f=some T->aP P G f T) {ops:Array Oper} {i:Nat} {o:Oper} (ab:ops[i]? =some o) {e:aU} (ix:o5 P N ops o=some e) {aX r:Nat} {s aj:aI} {c:dy}
 (ca:ch G tab b5 aX r e s=some (aj,c)) (S:fi P G Y jc bz base okin N cN cz b' σ s a w) (qt:b' r) {K:Act->World->Prop} {Q:Exit->Act->World->Prop}
 (md:∀ba eh aN,fi P G Y jc bz base okin N cN cz (fun id=>b' id/\id≠r) ba aj eh aN->da base okin σ s.h w ba aj.h aN->K eh aN):wpOpIn cV dv P ops Q i K a w:=by
 obtain⟨d1,d2,d3,aW⟩:=GU ix
 unfold wpOpIn
 rw[ab]
 simp only
 unfold ch at ca
 rcases aW with⟨bE,cp⟩|⟨j,t,want,bE,cp,fv⟩
 · rw[cp] at ca
   simp only[Region.wanted,bE,if_true]
   exact GW bm ja kP ix ca S qt md
 · rw[fv] at ca
   simp only at ca
   cases aa:s.F t<;>rw[aa] at ca<;>try(cases ca;done)
   · cases ca
     have aJ:=S.br.slot t
     rw[aa] at aJ
     have oq:=aJ.OI
     have aO:yielded ops a.tmps j=none:=by
      rw[Array.getD_eq_getD_getElem?] at oq
      cases aG:a.tmps[t]? with
      | none=>simp[yielded,cp,aG]
      | some v=>
        rw[aG] at oq
        simp only[Option.getD_some] at oq
        subst oq
        simp[yielded,cp,aG,Go.undef]
     simp only[Region.wanted,bE,aO]
     have bG:((none:Option Bool) == some want)=false:=rfl
     rw[bG]
     simp only[Bool.false_eq_true,if_false]
     have a_:e.dst.all (fun d=>decide (d<N))=true:=by rw[d1];exact d3
     refine⟨fun f _=>bm.fn f,?_⟩
     rw[<-d1]
     exact md σ _ w (S.step a_ (da.refl ..) S.au S.k_ .kd (Nat.le_refl _) (fun id bn _=>(S.free id bn).2.2) S.fresh (fun _ _=>rfl)) (da.refl ..)
   rename_i b
   have aJ:=S.br.slot t
   rw[aa] at aJ
   have oq:=aJ.qe
   have vB:a.tmps[t]? =some (.bool b):=by
    rw[Array.getD_eq_getD_getElem?] at oq
    cases aG:a.tmps[t]? with
    | none=>rw[aG] at oq;simp[undef] at oq
    | some v=>rw[aG] at oq;simpa using oq
   have aO:yielded ops a.tmps j=some b:=by
    simp[yielded,cp,vB]
   simp only[Region.wanted,bE,aO]
   by_cases nt:b=want
   · subst nt
     simp only[if_true] at ca
     simp only[BEq.rfl,if_true]
     exact GW bm ja kP ix ca S qt md
   · simp only[if_neg nt] at ca
     cases ca
     have bG:(some b == some want)=false:=by simpa using nt
     rw[bG]
     simp only[Bool.false_eq_true,if_false]
     have a_:e.dst.all (fun d=>decide (d<N))=true:=by rw[d1];exact d3
     refine⟨fun f _=>bm.fn f,?_⟩
     rw[<-d1]
     exact md σ _ w (S.step a_ (da.refl ..) S.au S.k_ .kd (Nat.le_refl _) (fun id bn _=>(S.free id bn).2.2) S.fresh (fun _ _=>rfl)) (da.refl ..)
end
end Go.Eng
namespace Go.Eng
open Go Go.RowKit
section
variable {P:Program} {G:Nat->Option I} {base:Nat} {okin:Nat->Prop} {N:Nat} {cN:Nat} {cz:Nat->Option (Nat × Nat)} {tab:FuncId->Option (List I->Option I)} {b5:ku->List I->af->Option (I × af)} {Y:List cF} {jc:Option Nat} {bz:Nat} {cV:Fence} {dv:Nat}
theorem BK {aX:Nat}:∀ {L:List (aU × Nat)} {s aj:aI} {cs:List dy},cE G tab b5 aX L s=some (aj,cs)->cs.length=L.length
 | [],s,aj,cs,h=>by simp only[cE] at h;cases h;rfl
 | q::L,s,aj,cs,h=>by
   simp only[cE] at h
   split at h<;>try(cases h;done)
   obtain⟨p,h2,az⟩:=Option.map_eq_some_iff.1 h
   cases az
   simp[BK h2]
theorem fi.weaken {b' tl:Nat->Prop} {σ:Nat->Option (Nat × Nat)} {s:aI} {a:Act} {w:World} (S:fi P G Y jc bz base okin N cN cz b' σ s a w) (h:∀i,tl i->b' i):fi P G Y jc bz base okin N cN cz tl σ s a w:=
 ⟨S.au,S.k_,S.i_,S.br,S.size,S.marks,S.rd,S.rQ,fun i ab=>S.free i (h i ab),S.low,S.lN,S.fresh⟩
theorem G3 (bm:js cV) (ja:tA P G Y b5) (kP:∀f T,tab f=some T->aP P G f T) {ops:Array Oper} {aX:Nat} {aj:aI} {Q:Exit->Act->World->Prop}:∀(L:List (aU × Nat)) (s:aI) (cs:List dy) (σ:Nat->Option (Nat × Nat)) (a:Act) (w:World),
 (∀p∈L,∃o,ops[p.2]? =some o/\o5 P N ops o=some p.1)->L.Pairwise (fun p q=>p.2<q.2)->cE G tab b5 aX L s=some (aj,cs)->
 fi P G Y jc bz base okin N cN cz (fun id=>∃p∈L,id=aX+p.2) σ s a w->
 (∀ba eh aN,fi P G Y jc bz base okin N cN cz (fun _=>False) ba aj eh aN->da base okin σ s.h w ba aj.h aN->Q .normal eh aN)->wpOpsIn cV dv P ops Q (L.map (·.2)) a w
 | [],s,cs,σ,a,w,_,_,ca,S,dp=>by
   simp only[cE] at ca;cases ca
   exact dp σ a w (S.weaken fun _ h=>h.elim) (da.refl ..)
 | (e,i)::L,s,cs,σ,a,w,bb,a_,ca,S,dp=>by
   simp only[cE] at ca
   split at ca<;>try(cases ca;done)
   rename_i s1 c U
   obtain⟨p,h2,az⟩:=Option.map_eq_some_iff.1 ca
   obtain⟨s2,G4⟩:=p
   have BL:s2=aj:=congrArg Prod.fst az
   subst BL
   obtain⟨o,ay,xO⟩:=bb (e,i) (by simp)
   rw[List.map_cons,wpOpsIn_cons]
   refine G2 bm ja kP ay xO U S ⟨(e,i),by simp,rfl⟩ (fun ba eh aN lP aa=>?_)
   refine G3 bm ja kP L s1 G4 ba eh aN (fun p aF=>bb p (by simp[aF])) (List.pairwise_cons.1 a_).2 h2 (lP.weaken ?_) (fun BM BN BO BP rR=>dp BM BN BO BP (aa.trans rR))
   rintro id ⟨p,aF,rfl⟩
   refine⟨⟨p,by simp[aF],rfl⟩,?_⟩
   have:=(List.pairwise_cons.1 a_).1 p aF
   simp only at this|-
   omega
theorem P2 {ops:Array Oper} {b:List Nat} (h:xt ops b=true) {i k:Nat} {o:Oper} (ay:ops[i]? =some o) (ag:k<i) (aa:(b.getD i 0).testBit k=true):
 ∃e∈o.after,Region.binds .any e=true/\(e.on=k\/(k<e.on/\(b.getD e.on 0).testBit k=true)):=by
 unfold xt at h
 have U:=List.all_eq_true.1 h (o,i) (by
  rw[List.mem_zipIdx_iff_getElem?]
  simpa using ay)
 have h2:=List.all_eq_true.1 U k (by simpa using ag)
 simp only[aa,Bool.not_true,Bool.false_or] at h2
 obtain⟨e,he,az⟩:=Array.any_eq_true'.1 h2
 simp only[Bool.and_eq_true,Bool.or_eq_true,beq_iff_eq,decide_eq_true_eq] at az
 exact ⟨e,he,az.1,az.2⟩
theorem G5 {ops:Array Oper} (h:xr ops=true) {i:Nat} {o:Oper} (ay:ops[i]? =some o) {e:Edge} (he:e∈o.after) (aa:Region.binds .any e=true):e.on<i:=by
 unfold xr at h
 have U:=List.all_eq_true.1 h (o,i) (by
  rw[List.mem_zipIdx_iff_getElem?]
  simpa using ay)
 have h2:=Array.all_eq_true'.1 U e he
 simpa[aa] using h2
structure Left (P:Program) (N:Nat) (ops:Array Oper) (b:List Nat) (L:List (aU × Nat)) (cs:List dy) (listed:Array Bool):Prop where
 size:listed.size=ops.size
 mem:∀p∈L,∃o,ops[p.2]? =some o/\o5 P N ops o=some p.1/\listed.getD p.2 true=false
 all:∀i,i<ops.size->listed.getD i true=false->∃e,(e,i)∈L
 xP:L.Pairwise (fun p q=>p.2<q.2)
 shut:∀i,i<ops.size->listed.getD i false=true->∀k,k<i->(b.getD i 0).testBit k=true->listed.getD k false=true
 G6:∀p q (aF:p<q) (aG:q<L.length) (qm:q<cs.length),(b.getD L[q].2 0).testBit L[p].2=true\/(L[p].1.apart L[q].1=true/\ke cs[p] cs[q]=true)
theorem P3 {listed:Array Bool} {n i:Nat} (au:listed.size=n) (ab:i<n):listed.getD i true=false\/listed.getD i false=true:=by
 have:i<listed.size:=by omega
 simp only[Array.getD_eq_getD_getElem?,Array.getElem?_eq_getElem this,Option.getD_some]
 cases listed[i]<;>simp
theorem P4 (bm:js cV) (ja:tA P G Y b5) (kP:∀f T,tab f=some T->aP P G f T) {ops:Array Oper} {b:List Nat} (P5:xt ops b=true) (G7:xr ops=true) {aX:Nat} {aj:aI} {Q:Exit->Act->World->Prop}:
 ∀(fuel:Nat) (L:List (aU × Nat)) (s:aI) (cs:List dy) (listed:Array Bool) (σ:Nat->Option (Nat × Nat)) (a:Act) (w:World),L.length<=fuel->
 Left P N ops b L cs listed->cE G tab b5 aX L s=some (aj,cs)->
 fi P G Y jc bz base okin N cN cz (fun id=>∃p∈L,id=aX+p.2) σ s a w->
 (∀ba eh aN,fi P G Y jc bz base okin N cN cz (fun _=>False) ba aj eh aN->da base okin σ s.h w ba aj.h aN->Q .normal eh aN)->wpAnyIn cV dv P .any ops Q fuel listed a w:=by
 have fin:∀(s:aI) (cs:List dy) (σ:Nat->Option (Nat × Nat)) (a:Act) (w:World),cE G tab b5 aX [] s=some (aj,cs)->
  fi P G Y jc bz base okin N cN cz (fun id=>∃p∈([]:List (aU × Nat)),id=aX+p.2) σ s a w->
  (∀ba eh aN,fi P G Y jc bz base okin N cN cz (fun _=>False) ba aj eh aN->da base okin σ s.h w ba aj.h aN->Q .normal eh aN)->Q .normal a w:=by
  intro s cs σ a w ca S dp
  simp only[cE] at ca;cases ca
  exact dp σ a w (S.weaken fun _ h=>h.elim) (da.refl ..)
 have P6:∀ {cs:List dy} {listed:Array Bool},Left P N ops b [] cs listed->Region.ready .any ops listed= []:=by
  intro cs listed bb
  apply List.eq_nil_iff_forall_not_mem.2
  intro i ab
  have aH:=mem_ready.1 ab
  obtain⟨aw,o,ay,_⟩:=aH
  obtain⟨e,he⟩:=bb.all i (Array.getElem?_eq_some_iff.1 ay).1 aw
  simp at he
 intro fuel
 induction fuel with
 | zero=>
   intro L s cs listed σ a w bg bb ca S dp
   have:L= []:=List.eq_nil_of_length_eq_zero (by omega)
   subst this
   exact ⟨P6 bb,fin s cs σ a w ca S dp⟩
 | succ fuel a6=>
   intro L s cs listed σ a w bg bb ca S dp
   refine⟨fun aH=>?_,fun i ab=>?_⟩
   · cases L with
     | nil=>exact fin s cs σ a w ca S dp
     | cons p L=>
       exfalso
       obtain⟨o,ay,xO,aw⟩:=bb.mem p (by simp)
       have:p.2∈Region.ready .any ops listed:=by
        refine mem_ready.2 ⟨aw,o,ay,fun e he aa=>?_⟩
        have bq:=G5 G7 ay he aa
        have c7:=(Array.getElem?_eq_some_iff.1 ay).1
        rcases P3 bb.size (show e.on<ops.size by omega) with U|U
        · obtain⟨q,aG⟩:=bb.all e.on (by omega) U
          rcases List.mem_cons.1 aG with aG|aG
          · rw[<-aG] at bq;simp at bq
          · have:=(List.pairwise_cons.1 bb.xP).1 _ aG
            simp at this;omega
        · exact U
       rw[aH] at this;simp at this
   · obtain⟨aw,o,ay,P7⟩:=mem_ready.1 ab
     have tq:=(Array.getElem?_eq_some_iff.1 ay).1
     obtain⟨e,he⟩:=bb.all i tq aw
     obtain⟨fh,kA,rfl⟩:=List.append_of_mem he
     have xH:∀k,k<i->listed.getD k false=false->(b.getD i 0).testBit k=false:=by
      intro k ag tB
      cases aJ:(b.getD i 0).testBit k with
      | false=>rfl
      | true=>
        exfalso
        obtain⟨G8,U,h2,az⟩:=P2 P5 ay ag aJ
        have G9:=P7 G8 U h2
        rcases az with rfl|⟨az,aT⟩
        · rw[G9] at tB;cases tB
        · have bq:=G5 G7 ay U h2
          have:=bb.shut G8.on (by omega) G9 k az aT
          rw[this] at tB;cases tB
     have hlen:=BK ca
     have P8:∀p∈fh++(e,i)::kA,listed.getD p.2 false=false:=by
      intro p aF
      obtain⟨o',nm,_,qi⟩:=bb.mem p aF
      have c7:=(Array.getElem?_eq_some_iff.1 nm).1
      have j4:p.2<listed.size:=by rw[bb.size];exact c7
      simp only[Array.getD_eq_getD_getElem?,Array.getElem?_eq_getElem j4,Option.getD_some] at qi|-
      exact qi
     obtain⟨s1,c,b7,bX,bx,bZ,rfl,mb⟩:=GN ca (fun k ag jA qi=>by
      have pb:(fh++(e,i)::kA)[k]'(by simp;omega)=fh[k]:=List.getElem_append_left ag
      have vh:(fh++(e,i)::kA)[fh.length]'(by simp)=(e,i):=by simp
      have aF:=bb.G6 k fh.length ag (by simp) qi
      rw[pb,vh] at aF
      have bq:fh[k].2<i:=by
       have:=List.pairwise_append.1 bb.xP
       exact this.2.2 _ (List.getElem_mem ag) (e,i) (by simp)
      have bg:=xH fh[k].2 bq (P8 _ (by simp[List.getElem_mem ag]))
      rcases aF with aF|aF
      · rw[bg] at aF;cases aF
      · exact ⟨aF.1,aF.2,by omega⟩) ja.frame (by
        have P9:=S.free (aX+i) ⟨(e,i),by simp,rfl⟩
        cases aa:s.h.cells (aX+i) with
        | none=>rfl
        | some b=>
          obtain⟨_,_,_,_,U,_⟩:=S.au.blk _ _ aa
          rw[P9.2.2] at U;cases U) (S.free (aX+i) ⟨(e,i),by simp,rfl⟩).2.1
     obtain⟨o',nm,xO,_⟩:=bb.mem (e,i) (by simp)
     refine G2 bm ja kP nm xO bx S ⟨(e,i),by simp,rfl⟩ (fun ba eh aN lP kN=>?_)
     have G_:∀p∈fh++kA,p.2≠i:=by
      intro p aF
      have aG:=List.pairwise_append.1 bb.xP
      rcases List.mem_append.1 aF with aF|aF
      · have:=aG.2.2 p aF (e,i) (by simp);simp at this;omega
      · have:=(List.pairwise_cons.1 aG.2.1).1 p aF;simp at this;omega
     have G':∀p∈fh++kA,p∈fh++(e,i)::kA:=by
      intro p aF
      rcases List.mem_append.1 aF with aF|aF
      · simp[aF]
      · simp[aF]
     have me:∀(j:Nat) (d:Bool),j≠i->(listed.setIfInBounds i true).getD j d=listed.getD j d:=fun j d aA=>by
      simp only[Array.getD_eq_getD_getElem?]
      rw[Array.getElem?_setIfInBounds_ne (Ne.symm aA)]
     have P_:(listed.setIfInBounds i true).getD i false=true:=by
      have:i<listed.size:=by rw[bb.size];exact tq
      simp[Array.getD_eq_getD_getElem?,this]
     have P':Left P N ops b (fh++kA) (b7++bX) (listed.setIfInBounds i true):=by
      refine⟨by simpa using bb.size,fun p aF=>?_,fun j aA rv=>?_,?_,fun j aA rv k ag aJ=>?_,fun p q aF aG qm=>?_⟩
      · obtain⟨jz,U,h2,az⟩:=bb.mem p (G' p aF)
        exact ⟨jz,U,h2,by rw[me _ _ (G_ p aF)];exact az⟩
      · by_cases tC:j=i
        · subst tC
          have:j<listed.size:=by rw[bb.size];exact tq
          simp[Array.getD_eq_getD_getElem?,this] at rv
        · rw[me _ _ tC] at rv
          obtain⟨e',Qa⟩:=bb.all j aA rv
          refine⟨e',?_⟩
          rcases List.mem_append.1 Qa with h|h
          · simp[h]
          · rcases List.mem_cons.1 h with h|h
            · exact absurd (congrArg Prod.snd h) tC
            · simp[h]
      · have aG:=List.pairwise_append.1 bb.xP
        exact List.pairwise_append.2 ⟨aG.1,(List.pairwise_cons.1 aG.2.1).2,fun p aF q qm=>aG.2.2 p aF q (by simp[qm])⟩
      · by_cases Ha:k=i
        · subst Ha;exact P_
        · rw[me _ _ Ha]
          by_cases tC:j=i
          · subst tC
            cases tB:listed.getD k false with
            | true=>rfl
            | false=>rw[xH k ag tB] at aJ;cases aJ
          · rw[me _ _ tC] at rv
            exact bb.shut j aA rv k ag aJ
      ·
       have Hb:b7.length=fh.length:=mb
       have pos:∀(r:Nat) (aH:r<(fh++kA).length) (mX:r<(b7++bX).length),∃iS,(iS=if r<fh.length then r else r+1)/\∃(U:iS<(fh++(e,i)::kA).length) (h2:iS<(b7++c::bX).length),(fh++kA)[r]=(fh++(e,i)::kA)[iS]/\(b7++bX)[r]=(b7++c::bX)[iS]:=by
        intro r aH mX
        simp only[List.length_append] at aH mX
        by_cases h:r<fh.length
        · refine⟨r,by rw[if_pos h],by simp;omega,by simp;omega,?_,?_⟩
          · rw[List.getElem_append_left h,List.getElem_append_left h]
          · rw[List.getElem_append_left (by omega),List.getElem_append_left (by omega)]
        · refine⟨r+1,by rw[if_neg h],by simp;omega,by simp;omega,?_,?_⟩
          · rw[List.getElem_append_right (by omega),List.getElem_append_right (by omega)]
            have:r+1 - fh.length=(r - fh.length)+1:=by omega
            simp[this]
          · rw[List.getElem_append_right (by omega),List.getElem_append_right (by omega)]
            have:r+1 - b7.length=(r - b7.length)+1:=by omega
            simp[this]
       obtain⟨lO,Qb,bd,bs,bK,b3⟩:=pos p (by omega) (by omega)
       obtain⟨mc,Qc,c8,c_,h5,jB⟩:=pos q aG qm
       have:=bb.G6 lO mc (by subst Qb;subst Qc;split<;>split<;>omega) c8 c_
       rw[bK,h5,b3,jB]
       exact this
     refine a6 (fh++kA) s1 (b7++bX) (listed.setIfInBounds i true) ba eh aN (by simp at bg|-;omega) P' bZ (lP.weaken ?_) (fun BM BN BO BP rR=>dp BM BN BO BP (kN.trans rR))
     rintro id ⟨p,aF,rfl⟩
     exact ⟨⟨p,G' p aF,rfl⟩,by have:=G_ p aF;omega⟩
theorem Hc {ops:Array Oper}:∀ {os:List Oper} {es:List aU},u' P N ops os=some es->es.length=os.length/\∀i (h:i<es.length) (h':i<os.length),o5 P N ops os[i]=some es[i]
 | [],es,h=>by simp only[u'] at h;cases h;exact ⟨rfl,fun i h=>absurd h (by simp)⟩
 | o::os,es,h=>by
   simp only[u'] at h
   split at h<;>try(cases h;done)
   rename_i e qj U h2
   cases h
   obtain⟨l,q⟩:=Hc h2
   refine⟨by simp[l],fun i ab bI=>?_⟩
   cases i with
   | zero=>exact U
   | succ i=>exact q i (by simpa using ab) (by simpa using bI)
end
end Go.Eng
namespace Go.Eng
open Go Go.RowKit
section
variable {P:Program} {G:Nat->Option I} {base:Nat} {okin:Nat->Prop} {σ:Nat->Option (Nat × Nat)} {h:af} {w:World}
theorem BQ {l:Nat} {o o':Obj} (aw:w.heap[l]? =some o) (aq:∀arr ty e,o≠ .cells arr ty e) (og:∀es c,o≠ .map es c) (ok:Nat->Prop):tf w (w.putObj l o') ok ok:=fun b x aa ag ay=>
 ⟨ay,World.putObj_heap_other (by
   rintro rfl
   rw[aw] at aa
   cases aa
   rcases ag with⟨_,_,_,rfl⟩|⟨_,_,rfl⟩
   · exact aq _ _ _ rfl
   · exact og _ _ rfl)⟩
theorem BR {l:Nat} {o o':Obj} (aw:w.heap[l]? =some o) (aq:∀arr ty e,o≠ .cells arr ty e) (b:Nat):iv w b<=iv (w.putObj l o') b:=by
 by_cases e:b=l
 · subst e
   have:iv w b=0:=by
    unfold iv
    rw[aw]
    cases o<;>first|rfl|exact absurd rfl (aq _ _ _)
   omega
 · unfold iv
   rw[World.putObj_heap_other e];exact Nat.le_refl _
theorem cn.put (H:cn base okin σ h w) {l:Nat} {o:Obj} (o':Obj) (aw:w.heap[l]? =some o) (aq:∀arr ty e,o≠ .cells arr ty e) (og:∀es c,o≠ .map es c):cn base okin σ h (w.putObj l o'):=by
 refine⟨fun id b s ab=>⟨(H.val id b s ab).1,by simpa using (H.val id b s ab).2⟩,fun id fT iw=>?_,H.inj,by simpa using H.base⟩
 obtain⟨b,s,ql,ty,al,ao,aV⟩:=H.blk id fT iw
 refine⟨b,s,ql,ty,al,?_,fun i ab=>⟨(aV i ab).1,fun j aA=>?_⟩⟩
 · rw[World.putObj_heap_other (by rintro rfl;rw[aw] at ao;exact aq _ _ _ (Option.some.inj ao))];exact ao
 · obtain⟨v,bE,cp⟩:=(aV i ab).2 j aA
   exact ⟨v,bE,cp.mono (BQ aw aq og _) (fun _ _ x=>x) (BR aw aq)⟩
theorem Hd {l:Nat} (o':Obj) (aa:base<=l):Below base w (w.putObj l o'):=⟨rfl,rfl,rfl,by simp,fun k ag=>World.putObj_heap_other (by omega)⟩
theorem da.BS {l:Nat} {r:Loop} (aw:w.heap[l]? =some (.loop r)) (aa:base<=l) (st:LoopState) (j5:Option Code) {h':af} (jU:∀b,bk base okin σ h b->bk base okin σ h' b):
 da base okin σ h w σ h' (w.putObj l (.loop {r with state:=st,pending:=j5})):=by
 have aq:∀arr ty e,Obj.loop r≠ .cells arr ty e:=fun _ _ _ h=>by cases h
 have og:∀es c,Obj.loop r≠ .map es c:=fun _ _ h=>by cases h
 refine⟨fun _ _ x=>x,fun b o U ag h2=>⟨jU b h2,(BQ aw aq og (fun _=>True) b o U ag trivial).2⟩,Hd _ aa,BR aw aq,fun b r0 aD=>?_,fun b aD=>?_⟩
 · by_cases e:b=l
   · subst e
     rw[aw] at aD;cases aD
     exact ⟨st,j5,World.putObj_heap_same (ph aw)⟩
   · exact ⟨r0.state,r0.pending,by rw[World.putObj_heap_other e];exact aD⟩
 · rw[World.putObj_heap_other (by rintro rfl;rw[aw] at aD;cases aD)];exact aD
theorem jH.set {aS:Nat->Option ff} (L:jH σ aS w) {id l s:Nat} {r:Loop} {bN:ff} (aF:aS id=some bN) (om:σ id=some (l,s)) (aw:w.heap[l]? =some (.loop r)) (p:ff):
 jH σ (an aS id (some p)) (w.putObj l (.loop {r with state:=nv p,pending:=nw p})):=by
 refine⟨fun h4 q aG=>?_,fun i iK q mc a s1 s2 U h2 al ao=>?_⟩
 · by_cases e:h4=id
   · subst e
     simp only[an,if_true] at aG
     cases aG
     exact ⟨l,s,_,om,World.putObj_heap_same (ph aw),rfl,rfl⟩
   · simp only[an,e,if_false] at aG
     obtain⟨lu,aj,iS,al,ao,aV,bJ⟩:=L.look h4 q aG
     refine⟨lu,aj,iS,al,?_,aV,bJ⟩
     rw[World.putObj_heap_other]
     · exact ao
     · rintro rfl
       exact e (L.inj h4 id q bN _ _ _ aG aF al om)
 · have f:∀i q,an aS id (some p) i=some q->∃q,aS i=some q:=by
    intro i q aG
    by_cases e:i=id
    · subst e;exact ⟨bN,aF⟩
    · exact ⟨q,by simpa[an,e] using aG⟩
   obtain⟨c8,U⟩:=f i q U
   obtain⟨c_,h2⟩:=f iK mc h2
   exact L.inj i iK c8 c_ a s1 s2 U h2 al ao
theorem jH.del {aS:Nat->Option ff} (L:jH σ aS w) {id l s:Nat} {bN:ff} (aF:aS id=some bN) (om:σ id=some (l,s)) (o':Obj):jH σ (an aS id none) (w.putObj l o'):=by
 have f:∀i q,an aS id none i=some q->i≠id/\aS i=some q:=by
  intro i q aG
  by_cases e:i=id
  · simp[an,e] at aG
  · exact ⟨e,by simpa[an,e] using aG⟩
 refine⟨fun h4 q aG=>?_,fun i iK q mc a s1 s2 U h2 al ao=>L.inj i iK q mc a s1 s2 (f i q U).2 (f iK mc h2).2 al ao⟩
 obtain⟨e,aG⟩:=f h4 q aG
 obtain⟨lu,aj,iS,al,ao,aV,bJ⟩:=L.look h4 q aG
 refine⟨lu,aj,iS,al,?_,aV,bJ⟩
 rw[World.putObj_heap_other]
 · exact ao
 · rintro rfl
   exact e (L.inj h4 id q bN _ _ _ aG aF al om)
theorem jH.add {aS:Nat->Option ff} (L:jH σ aS w) (lr:∀id b s,σ id=some (b,s)->b<w.heap.size) {id:Nat} (bn:σ id=none) {bP:World} (aa:Below w.heap.size w bP) {l:Nat} (bq:w.heap.size<=l) {r:Loop}
 (aw:bP.heap[l]? =some (.loop r)) (au:r.state= .ready) (aF:r.pending=none):jH (an σ id (some (l,0))) (an aS id (some .ready)) bP:=by
 refine⟨fun h4 q aG=>?_,fun i iK q mc a s1 s2 U h2 al ao=>?_⟩
 · by_cases e:h4=id
   · subst e
     simp only[an,if_true] at aG
     cases aG
     exact ⟨l,0,r,by simp[an],aw,au,aF⟩
   · simp only[an,e,if_false] at aG
     obtain⟨lu,aj,iS,al,ao,aV,bJ⟩:=L.look h4 q aG
     exact ⟨lu,aj,iS,by simpa[an,e] using al,by rw[aa.block lu (ph ao)];exact ao,aV,bJ⟩
 · by_cases e:i=id<;>by_cases e':iK=id
   · rw[e,e']
   · exfalso
     simp only[an,e,e',if_true,if_false] at al ao
     have:=lr _ _ _ ao
     cases al;omega
   · exfalso
     simp only[an,e,e',if_true,if_false] at al ao
     have:=lr _ _ _ al
     cases ao;omega
   · simp only[an,e,e',if_false] at U h2 al ao
     exact L.inj i iK q mc a s1 s2 U h2 al ao
theorem cn.named (H:cn base okin σ h w) {id l:Nat} (bn:σ id=none) (aa:base<=l) (aw:l<w.heap.size):cn base okin (an σ id (some (l,0))) h w/\Prog base okin σ h w (an σ id (some (l,0))) h w:=by
 have J:=H.A1 bn
 have sub:∀i x,σ i=some x->an σ id (some (l,0)) i=some x:=by
  intro i x ae
  unfold an
  by_cases e:i=id
  · subst e;rw[bn] at ae;cases ae
  · rw[if_neg e];exact ae
 have ok:∀b,bk base okin σ h b->bk base okin (an σ id (some (l,0))) h b:=by
  rintro b (ay|⟨U,h2⟩)
  · exact .inl ay
  · refine .inr ⟨U,fun i s au BT=>?_⟩
    by_cases e:i=id
    · subst e;rw[J] at BT;simp at BT
    · exact h2 i s (by simpa[an,e] using au) BT
 have P:Prog base okin σ h w (an σ id (some (l,0))) h w:=⟨sub,fun b _ ay=>⟨ok b ay,rfl⟩,Below.refl _ _,fun _=>Nat.le_refl _⟩
 refine⟨⟨fun i b s ab=>?_,fun i fT iw=>?_,fun i iK b s aj U h2 al ao=>?_,H.base⟩,P⟩
 · by_cases e:i=id
   · simp only[an,e,if_true] at ab;cases ab;exact ⟨aa,aw⟩
   · simp only[an,e,if_false] at ab;exact H.val i b s ab
 · obtain⟨b,s,ql,ty,al,ao,aV⟩:=H.blk i fT iw
   refine⟨b,s,ql,ty,sub _ _ al,ao,fun j aA=>⟨(aV j aA).1,fun k ag=>?_⟩⟩
   obtain⟨v,bE,cp⟩:=(aV j aA).2 k ag
   exact ⟨v,bE,P.rep cp⟩
 · have k5:i≠id:=by rintro rfl;rw[J] at U;simp at U
   have k6:iK≠id:=by rintro rfl;rw[J] at h2;simp at h2
   exact H.inj i iK b s aj U h2 (by simpa[an,k5] using al) (by simpa[an,k6] using ao)
inductive Drop (bz:Nat):World->World->Prop
 | refl (w:World):Drop bz w w
 | step {w cy:World} {D:Nat}:bz<=D->w.heap[D]? =some (.deferred (some []))->Drop bz (w.putObj D (.deferred none)) cy->Drop bz w cy
theorem Drop.keeps {bz:Nat} {w cy:World} (d:Drop bz w cy):∀ {rS:World} {cz:Nat->Option (Nat × Nat)} {aD:af},bz=rS.heap.size->base<=bz->da base okin cz aD rS σ h w->cn base okin σ h w->jH σ h.aS w->
 da base okin cz aD rS σ h cy/\cn base okin σ h cy/\jH σ h.aS cy/\(∀v cv,a2 w (bk base okin σ h) σ v cv->a2 cy (bk base okin σ h) σ v cv):=by
 induction d with
 | refl w=>exact fun _ _ p H L=>⟨p,H,L,fun _ _ r=>r⟩
 | @step w cy D U h2 _ a6=>
   intro rS cz aD he aa p H L
   have aq:∀arr ty e,Obj.deferred (some [])≠ .cells arr ty e:=fun _ _ _ h=>by cases h
   have og:∀es c,Obj.deferred (some [])≠ .map es c:=fun _ _ h=>by cases h
   have st:=BQ (o':= .deferred none) h2 aq og (bk base okin σ h)
   have He:=BR (o':= .deferred none) h2 aq
   have bs:da base okin cz aD rS σ h (w.putObj D (.deferred none)):=by
    refine⟨p.sub,fun b o bE Hf cp=>?_,p.below.trans (Hd _ (Nat.le_trans aa U)),fun b=>Nat.le_trans (p.grow b) (He b),fun b r g=>?_,fun b g=>?_⟩
    · obtain⟨jz,al⟩:=p.still b o bE Hf cp
      obtain⟨dD,ao⟩:=st b o (by rw[al];exact bE) Hf jz
      exact ⟨dD,ao.trans al⟩
    · obtain⟨s1,bd,al⟩:=p.loop b r g
      exact ⟨s1,bd,by rw[World.putObj_heap_other (by rintro rfl;rw[h2] at al;cases al)];exact al⟩
    · have:=ph g
      rw[World.putObj_heap_other (by omega)]
      exact p.nu b g
   have kA:jH σ h.aS (w.putObj D (.deferred none)):=⟨fun id q aG=>by
    obtain⟨l,s,r,al,ao,aV,bJ⟩:=L.look id q aG
    exact ⟨l,s,r,al,by rw[World.putObj_heap_other (by rintro rfl;rw[h2] at ao;cases ao)];exact ao,aV,bJ⟩,L.inj⟩
   obtain⟨c8,c_,h5,jB⟩:=a6 he aa bs (H.put _ h2 aq og) kA
   exact ⟨c8,c_,h5,fun v cv r=>jB v cv (r.mono st (fun _ _ x=>x) He)⟩
theorem Hg {Fn:Func} {tmps:Array Value} {R:Ending->World->Prop} {bz:Nat}:∀(cQ:List Deferred) (w:World),Marks bz cQ w->(∀cy,Drop bz w cy->∃v,(results Fn tmps).run P cy= .ok v cy/\R (.returned v) cy)->
 LeavesInM Fence.wide 0 P Fn tmps R cQ .returning w
 | [],w,_,ee=>ee w (.refl w)
 | d::cQ,w,M,ee=>by
   obtain⟨D,U,h2,az⟩:=M.each d (by simp)
   refine⟨by simp,.inl ⟨D,w.putObj D (.deferred none),U,run_takeDeferred az,Hg cQ _ ⟨fun o2 tD=>?_,(List.pairwise_cons.1 M.nodup).2⟩ (fun cy a_=>ee cy (.step h2 az a_))⟩⟩
   obtain⟨Hh,bE,cp,fv⟩:=M.each o2 (by simp[tD])
   refine⟨Hh,bE,cp,?_⟩
   rw[World.putObj_heap_other]
   · exact fv
   · rintro rfl
     exact (List.pairwise_cons.1 M.nodup).1 o2 tD (by rw[U,bE])
end
end Go.Eng
namespace Go.Eng
open Go Go.RowKit
def xQ:c0->Exit
 | .normal=> .normal
 | .exit id=> .exit id
 | .ret=> .ret
section
variable {P:Program} {G:Nat->Option I} {base:Nat} {okin:Nat->Prop} {N:Nat} {cN:Nat} {cz:Nat->Option (Nat × Nat)} {tab:FuncId->Option (List I->Option I)} {Y:List cF} {jc:Option Nat} {bz:Nat}
theorem fi.bump {b':Nat->Prop} {σ:Nat->Option (Nat × Nat)} {s:aI} {a:Act} {w:World} (S:fi P G Y jc bz base okin N cN cz b' σ s a w) (m:Nat):
 fi P G Y jc bz base okin N cN cz (fun id=>s.h.next<=id/\id<s.h.next+m) σ ⟨s.F,{s.h with next:=s.h.next+m}⟩ a w:=
 ⟨⟨S.au.val,S.au.blk,S.au.inj,S.au.base⟩,S.k_,S.i_,S.br,S.size,S.marks,S.rd,S.rQ,fun id bn=>⟨Nat.le_trans S.low bn.1,bn.2,S.fresh id bn.1⟩,Nat.le_trans S.low (Nat.le_add_right _ _),S.lN,fun id bn=>S.fresh id (Nat.le_trans (Nat.le_add_right _ _) bn)⟩
theorem da.next {σ ba:Nat->Option (Nat × Nat)} {h h':af} {w aN:World} {m:Nat} (p:da base okin σ {h with next:=m} w ba h' aN):da base okin σ h w ba h' aN:=⟨p.sub,p.still,p.below,p.grow,p.loop,p.nu⟩
theorem fi.drew {b':Nat->Prop} {σ:Nat->Option (Nat × Nat)} {s:aI} {a:Act} {w:World} (S:fi P G Y jc bz base okin N cN cz b' σ s a w):fi P G Y jc bz base okin N cN cz b' σ s a w.drew:=by
 obtain⟨H,p⟩:=S.au.drew
 have q:=da.of S.au p
 exact ⟨H,S.k_.of S.au p rfl,S.i_.mono q,S.br.mono q,S.size,S.marks.mono q.nu,fun l aw=>by
  obtain⟨r,U⟩:=S.rd l aw
  obtain⟨st,j5,h2⟩:=q.loop l r U
  exact ⟨_,h2⟩,Nat.le_trans S.rQ q.below.size,S.free,S.low,S.lN,S.fresh⟩
theorem Qd (hm:P.follows .mixedOrders=true) {cV:Fence} {dv:Nat} (bm:js cV) {b5:ku->List I->af->Option (I × af)} (ja:tA P G Y b5) (kP:∀f T,tab f=some T->aP P G f T)
 {id:Nat} {ops:Array Oper} {draw:Bool} {es:List aU} {b:List Nat} {j6:Bool} (J:fS P N (.region id ops draw)=some (.region j6 es b)) {s aj:aI} (ca:dN G tab b5 j6 es b s=some aj)
 {b':Nat->Prop} {σ:Nat->Option (Nat × Nat)} {a:Act} {w:World} (S:fi P G Y jc bz base okin N cN cz b' σ s a w) {Q:Exit->Act->World->Prop}
 (dp:∀ba eh aN,fi P G Y jc bz base okin N cN cz (fun _=>False) ba aj eh aN->da base okin σ s.h w ba aj.h aN->Q .normal eh aN):(Code.region id ops draw).wpIn cV dv P Q a w:=by
 simp only[fS] at J
 split at J<;>try(cases J;done)
 rename_i Hi Qe
 obtain⟨cc,c8⟩:=Hc Qe
 have c7:Hi.length=ops.size:=by simpa using cc
 unfold dN at ca
 split at ca<;>try(cases ca;done)
 rename_i s1 cs aH
 split at ca<;>try(cases ca;done)
 rename_i jU
 cases ca
 have ot:∀(es:List aU),es=Hi->∀p∈es.zipIdx,∃o,ops[p.2]? =some o/\o5 P N ops o=some p.1/\p.2<ops.size:=by
  rintro es rfl p aF
  obtain⟨e,i⟩:=p
  have U:=List.mem_zipIdx_iff_getElem?.1 aF
  simp only at U
  obtain⟨ab,rfl⟩:=List.getElem?_eq_some_iff.1 U
  have bI:i<ops.toList.length:=by simp;omega
  have:=c8 i ab bI
  refine⟨ops[i]'(by simpa using bI),by simp[Array.getElem?_eq_getElem (show i<ops.size by simpa using bI)],by simpa using this,by simpa using bI⟩
 have Hj:∀(es:List aU),es.zipIdx.Pairwise (fun p q=>p.2<q.2):=by
  intro es
  rw[List.pairwise_iff_getElem]
  intro i j ab aA Qf
  simpa using Qf
 cases draw with
 | false=>
   simp only[Bool.false_eq_true,if_false] at J
   cases J
   refine wpIn_region ?_
   have Qg:es.zipIdx.map (·.2)=List.range ops.size:=by
    rw[<-c7]
    apply List.ext_getElem
    · simp
    · intro i U h2;simp
   rw[<-Qg]
   refine G3 bm ja kP _ _ cs σ a w (fun p aF=>by obtain⟨o,U,h2,_⟩:=ot es rfl p aF;exact ⟨o,U,h2⟩) (Hj es) aH ((S.bump es.length).weaken ?_) (fun ba eh aN lP aa=>dp ba eh aN lP aa.next)
   rintro id ⟨p,aF,rfl⟩
   obtain⟨_,_,_,az⟩:=ot es rfl p aF
   exact ⟨Nat.le_add_right _ _,by omega⟩
 | true=>
   simp only[if_true] at J
   split at J<;>try(cases J;done)
   rename_i Hk
   cases J
   simp only[Bool.and_eq_true] at Hk
   obtain⟨⟨⟨k5,k6⟩,A7⟩,Hl⟩:=Hk
   simp only[Bool.not_true,Bool.false_or] at jU
   refine wpIn_region_any hm ?_
   have hlen:=BK aH
   refine P4 bm ja kP A7 k6 ops.size es.zipIdx _ cs _ σ a _ (by simp;omega) ?_ aH (((S.drew).bump es.length).weaken ?_) (fun ba eh aN lP aa=>dp ba eh aN lP ?_)
   · refine⟨by simp,fun p aF=>?_,fun i ab _=>?_,Hj es,fun i ab aw=>?_,fun p q aF aG qm=>?_⟩
     · obtain⟨o,U,h2,az⟩:=ot es rfl p aF
       exact ⟨o,U,h2,by simp[Array.getD_eq_getD_getElem?,az]⟩
     · exact ⟨es[i]'(by omega),by rw[List.mem_zipIdx_iff_getElem?];simp[List.getElem?_eq_getElem (show i<es.length by omega)]⟩
     · simp[Array.getD_eq_getD_getElem?,ab] at aw
     · have qn:q<es.length:=by simpa using aG
       have vC:p<es.length:=by omega
       simp only[List.getElem_zipIdx,Nat.zero_add]
       have a1:=List.all_eq_true.1 k5 (es[q],q) (by rw[List.mem_zipIdx_iff_getElem?];simp[List.getElem?_eq_getElem qn])
       have eO:=List.all_eq_true.1 a1 (es[p],p) (by rw[List.mem_zipIdx_iff_getElem?];simp[List.getElem?_eq_getElem vC])
       have b1:=List.all_eq_true.1 jU (cs[q],q) (by rw[List.mem_zipIdx_iff_getElem?];simp[List.getElem?_eq_getElem qm])
       have dL:=List.all_eq_true.1 b1 (cs[p]'(by omega),p) (by rw[List.mem_zipIdx_iff_getElem?];simp[List.getElem?_eq_getElem (show p<cs.length by omega)])
       simp only[decide_eq_true aF,Bool.not_true,Bool.false_or,Bool.or_eq_true] at eO dL
       rcases eO with eO|eO
       · exact .inl eO
       · rcases dL with dL|dL
         · exact .inl dL
         · exact .inr ⟨eO,dL⟩
   · rintro id ⟨p,aF,rfl⟩
     obtain⟨_,_,_,az⟩:=ot es rfl p aF
     exact ⟨Nat.le_add_right _ _,by simp;omega⟩
   · exact da.trans (da.of S.au S.au.drew.2) aa.next
def xR (tmps:Array Value):ResultVar->Sem Value
 | .tmp t=>pure (tmps.getD t undef)
 | .cell a t=>do loadVar t (<-asAddr (tmps.getD a undef))
theorem Qh (fn:Func) (tmps:Array Value):results fn tmps=(do let vs <-fn.results.mapM (xR tmps);pure (if h:vs.size=1 then vs[0] else .tuple vs)):=by
 unfold results
 congr 1
theorem Qi {fn:Func} {rs:List l9} (BU:rp P fn.results.toList=some rs) {σ:Nat->Option (Nat × Nat)} {s:aI} {a:Act} {w:World} (de:cn base okin σ s.h w) (Hm:jV G (bk base okin σ s.h) σ w s.F a) {v:I} (av:dz s.h s.F rs=some v):
 ∃cv,(results fn a.tmps).run P w= .ok cv w/\a2 w (bk base okin σ s.h) σ v cv:=by
 have main:∀(h6:List ResultVar) (rs:List l9) (vs:List I),rp P h6=some rs->rs.mapM (eF s.h s.F)=some vs->
  ∃iN:List Value,(h6.mapM (xR a.tmps)).run P w= .ok iN w/\iN.length=vs.length/\∀i (h:i<vs.length) (h':i<iN.length),a2 w (bk base okin σ s.h) σ vs[i] iN[i]:=by
  intro h6
  induction h6 with
  | nil=>
    intro rs vs U h2
    simp only[rp] at U;cases U
    simp only[List.mapM_nil] at h2;cases h2
    exact ⟨[],by simp,rfl,fun i h=>absurd h (by simp)⟩
  | cons r h6 a6=>
    intro rs vs U h2
    simp only[rp] at U
    split at U<;>try(cases U;done)
    rename_i x xs ae nr
    cases U
    rw[List.mapM_cons] at h2
    obtain⟨u,hu,h2⟩:=Option.bind_eq_some_iff.1 h2
    obtain⟨us,A9,h2⟩:=Option.bind_eq_some_iff.1 h2
    cases h2
    obtain⟨iN,al,ao,aV⟩:=a6 xs us nr A9
    have one:∃mY,(xR a.tmps r).run P w= .ok mY w/\a2 w (bk base okin σ s.h) σ u mY:=by
     cases r with
     | tmp t=>
       simp only[AY] at ae;cases ae
       simp only[eF] at hu;cases hu
       exact ⟨_,rfl,Hm.slot t⟩
     | cell eh t=>
       simp only[AY] at ae
       split at ae<;>try(cases ae;done)
       rename_i bM sz di c7
       split at ae<;>try(cases ae;done)
       rename_i aT
       cases ae
       simp only[eF] at hu
       split at hu<;>try(cases hu;done)
       rename_i id idx cu bm
       obtain⟨blk,aa,hu⟩:=Option.bind_eq_some_iff.1 hu
       obtain⟨e,he,hu⟩:=Option.bind_eq_some_iff.1 hu
       obtain⟨cs,oc,aF⟩:=Option.bind_eq_some_iff.1 hu
       have rt:=Hm.slot eh
       rw[bm] at rt
       obtain⟨Gy,bQ,ev,au⟩:=rt.vb
       obtain⟨dO,bE,cp⟩:=de.elem aa he au oc
       obtain⟨cv,bx,bZ⟩:=A4 (P:=P) (w:=w) (σ:=σ) (ok:=bk base okin σ s.h) di c7 aT _ dO bE (th oc).2.1 cp aF
       exact ⟨cv,by simp[xR,ev,asAddr,bx],bZ⟩
    obtain⟨mY,b7,bX⟩:=one
    refine⟨mY::iN,?_,by simp[ao],fun i ab bI=>?_⟩
    · rw[List.mapM_cons]
      simp only[Sem.run_bind]
      rw[b7]
      simp only[Result.andThen_ok]
      rw[al]
      simp
    · cases i with
      | zero=>exact bX
      | succ i=>exact aV i (by simpa using ab) (by simpa using bI)
 unfold dz at av
 obtain⟨vs,U,h2⟩:=Option.map_eq_some_iff.1 av
 obtain⟨iN,al,ao,aV⟩:=main _ _ _ BU U
 have ca:(results fn a.tmps).run P w= .ok (if h:iN.toArray.size=1 then iN.toArray[0] else .tuple iN.toArray) w:=by
  rw[Qh,Array.mapM_eq_mapM_toList]
  simp only[Sem.run_bind,Sem.run_map]
  rw[al]
  simp
 refine⟨_,ca,?_⟩
 split at h2
 · rename_i v0
   subst h2
   have aw:iN.length=1:=by simpa using ao
   rw[dif_pos (by simpa using aw)]
   have:=aV 0 (by simp) (by omega)
   simpa using this
 · rename_i bG
   subst h2
   have aw:iN.length≠1:=by
    intro aw
    rw[ao] at aw
    obtain⟨v0,rfl⟩:=List.length_eq_one_iff.1 aw
    exact bG v0 rfl
   rw[dif_neg (by simpa using aw)]
   exact .bo _ _ (by simpa using ao) (fun i ab bI=>by simpa using aV i ab (by simpa using bI))
theorem Qj {fn:Func} {f:aM} (h:AZ P fn=some f):∃c,fn.body=some c/\fS P fn.ntmps c=some f.body/\rp P fn.results.toList=some f.res/\fn.name≠ "runtime.NumGoroutine":=by
 unfold AZ at h
 split at h<;>try(cases h;done)
 rename_i aq
 split at h<;>try(cases h;done)
 rename_i c aa
 split at h<;>try(cases h;done)
 rename_i b rs U h2
 cases h
 exact ⟨c,aa,U,h2,by simpa using aq⟩
theorem BV {f:FuncId} {fn:Func} (bg:P.funcs[f]? =some fn) {c:Code} (aa:fn.body=some c) (aq:fn.name≠ "runtime.NumGoroutine") (args:Array Value) (w:World):(callFunc f args).run P w= .ok (.enter f args) w:=by
 simp[callFunc,bg,aa,aq]
def j7 (G:Nat->Option I) (Φ:FuncId->Option aM) (tab:FuncId->Option (List I->Option I)) (n:Nat) (Y:List cF) (f:FuncId) (args:List I) (h:af):Option (I × af):=
 match Φ f with
 | some fn=>match exec G Φ tab n Y fn.body ⟨ds args,h⟩ with
   | some (.normal,aj)|some (.ret,aj)=>(dz aj.h aj.F fn.res).map fun v=>(v,aj.h)
   | _=>none
 | none=>none
def ny (G:Nat->Option I) (Φ:FuncId->Option aM) (tab:FuncId->Option (List I->Option I)) (n:Nat) (Y:List cF) (id:Nat) (args:List I) (h:af):Option (I × af):=
 match n8 id Y with
 | some (L,Y')=>if L.ps.length=args.length then
    match exec G Φ tab n Y' L.dm ⟨mW L.F L.ps args,h⟩ with
    | some (.normal,s1)=>match s1.h.aS id with
      | some .ready=>match exec G Φ tab n Y' L.body ⟨s1.F,s1.h.set id (some .busy)⟩ with
        | some (e,aj)=>match aj.h.aS id with
          | some .busy=>match e with
            | .normal=>some (.bool true,aj.h.set id (some .ready))
            | e=>some (.bool false,aj.h.set id (some (.done e)))
          | _=>none
        | none=>none
      | _=>none
    | _=>none
   else none
 | none=>none
def kj (G:Nat->Option I) (Φ:FuncId->Option aM) (tab:FuncId->Option (List I->Option I)) (n:Nat) (Y:List cF) (t:ku) (args:List I) (h:af):Option (I × af):=
 match t with
 | .fn f=>j7 G Φ tab n Y f args h
 | .k4 id=>ny G Φ tab n Y id args h
theorem qu {Φ:FuncId->Option aM} {n:Nat} {f:FuncId} {args:List I} {h h':af} {v:I} (J:j7 G Φ tab n Y f args h=some (v,h')):
 ∃fn ex aj,Φ f=some fn/\exec G Φ tab n Y fn.body ⟨ds args,h⟩=some (ex,aj)/\(ex= .normal\/ex= .ret)/\dz aj.h aj.F fn.res=some v/\aj.h=h':=by
 unfold j7 at J
 split at J<;>try(cases J;done)
 rename_i fn bg
 split at J
 · rename_i aj he
   obtain⟨u,hu,J⟩:=Option.map_eq_some_iff.1 J
   cases J
   exact ⟨fn,_,aj,bg,he,.inl rfl,hu,rfl⟩
 · rename_i aj he
   obtain⟨u,hu,J⟩:=Option.map_eq_some_iff.1 J
   cases J
   exact ⟨fn,_,aj,bg,he,.inr rfl,hu,rfl⟩
 · cases J
theorem tE {Φ:FuncId->Option aM} {n:Nat} {id:Nat} {args:List I} {h h':af} {v:I} (J:ny G Φ tab n Y id args h=some (v,h')):
 ∃L Y' s1 ex aj,n8 id Y=some (L,Y')/\L.ps.length=args.length/\exec G Φ tab n Y' L.dm ⟨mW L.F L.ps args,h⟩=some (.normal,s1)/\s1.h.aS id=some .ready/\
  exec G Φ tab n Y' L.body ⟨s1.F,s1.h.set id (some .busy)⟩=some (ex,aj)/\aj.h.aS id=some .busy/\((ex= .normal/\v= .bool true/\h'=aj.h.set id (some .ready))\/(ex≠ .normal/\v= .bool false/\h'=aj.h.set id (some (.done ex)))):=by
 unfold ny at J
 split at J<;>try(cases J;done)
 rename_i L Y' bb
 split at J<;>try(cases J;done)
 rename_i hlen
 split at J<;>try(cases J;done)
 rename_i s1 U
 split at J<;>try(cases J;done)
 rename_i aF
 split at J<;>try(cases J;done)
 rename_i e aj h2
 split at J<;>try(cases J;done)
 rename_i aa
 split at J
 · cases J
   exact ⟨L,Y',s1,_,aj,bb,hlen,U,aF,h2,aa,.inl ⟨rfl,rfl,rfl⟩⟩
 · rename_i bG
   cases J
   exact ⟨L,Y',s1,e,aj,bb,hlen,U,aF,h2,aa,.inr ⟨bG,rfl,rfl⟩⟩
theorem Hn {id:Nat} {L:cF} {Y':List cF}:∀ {Y:List cF},n8 id Y=some (L,Y')->L∈Y/\L.id=id/\∀X∈Y',X∈Y
 | [],h=>by cases h
 | X::Y,h=>by
   unfold n8 at h
   split at h
   · rename_i bn
     cases h
     exact ⟨by simp,bn,fun Z BW=>by simp[BW]⟩
   · obtain⟨U,h2,az⟩:=Hn h
     exact ⟨by simp[U],h2,fun Z BW=>by simp[az Z BW]⟩
def tF (P:Program) (G:Nat->Option I) (tab:FuncId->Option (List I->Option I)) (n:Nat):Prop:=
 ∀(N:Nat) (Y:List cF) (c:Code) (pj:cU) (s:aI) (ex:c0) (aj:aI),fS P N c=some pj->exec G (aE P) tab n Y pj s=some (ex,aj)->
  ∀(cV:Fence) (dv:Nat) (_:js cV) (bz:Nat) (base:Nat) (okin:Nat->Prop) (cN:Nat) (cz:Nat->Option (Nat × Nat)) (σ:Nat->Option (Nat × Nat)) (a:Act) (w:World) (Q:Exit->Act->World->Prop),fi P G Y cV.round bz base okin N cN cz (fun _=>False) σ s a w->
   (∀ba eh aN,fi P G Y cV.round bz base okin N cN cz (fun _=>False) ba aj eh aN->da base okin σ s.h w ba aj.h aN->Q (xQ ex) eh aN)->c.wpIn cV dv P Q a w
theorem BX {n:Nat} (fH:tF P G tab n) {f:FuncId} {args:List I} {h h':af} {v:I} (J:j7 G (aE P) tab n Y f args h=some (v,h')):
 ∀base okin σ w (dd:Array Value),cn base okin σ h w->jH σ h.aS w->oi P G base okin Y σ h w->dd.size=args.length->
  (∀i (ab:i<args.length) (bI:i<dd.size),a2 w (bk base okin σ h) σ args[i] dd[i])->
  (∀g u,G g=some u->a2 w (bk base okin σ h) σ (.eK u) (.pointer (some ⟨g,0,none⟩)))->(∀id,h.next<=id->σ id=none)->
  (callFunc f dd).run P w= .ok (.enter f dd) w/\Calls P f dd w fun e aN=>∃cv,e= .returned cv/\tz base okin σ h w h' v cv aN:=by
 obtain⟨fn,ex,aj,bg,he,hex,BY,rfl⟩:=qu J
 obtain⟨Fn,bm,Qk⟩:=Option.bind_eq_some_iff.1 bg
 obtain⟨c,aa,m0,BU,BZ⟩:=Qj Qk
 have Ql:=fH Fn.ntmps Y c fn.body ⟨ds args,h⟩ ex aj m0 he
 refine fun base okin σ w dd H B0 xS c7 fu qv vD=>⟨BV bm aa BZ _ _,?_⟩
 refine(callsIn_wide (n:=0)).1 (callsIn_of_wp_marks bm aa trivial ?_)
 have S:fi P G Y Fence.wide.round w.heap.size base okin Fn.ntmps h.next σ (fun _=>False) σ ⟨ds args,h⟩ {tmps:=dd++Array.replicate (Fn.ntmps - dd.size) undef,defers:=[]} w:=by
  refine⟨H,B0,xS,⟨fun t=>?_,qv⟩,by simp;omega,⟨fun d a_=>absurd a_ (by simp),List.Pairwise.nil⟩,fun l aw=>(by cases aw),Nat.le_refl _,fun id bn=>bn.elim,Nat.le_refl _,fun _ _=>rfl,vD⟩
  simp only[ds]
  by_cases aJ:t<args.length
  · have bq:t<dd.size:=by omega
    have al:args.getD t .undef=args[t]:=by simp[List.getD,aJ]
    have ao:(dd++Array.replicate (Fn.ntmps - dd.size) undef).getD t undef=dd[t]:=by
     rw[BF _ _ (by simp;omega),Array.getElem_append_left bq]
    rw[al,ao]
    exact fu t aJ bq
  · have al:args.getD t .undef= .undef:=by simp[List.getD,List.getElem?_eq_none (Nat.le_of_not_lt aJ)]
    rw[al];exact .undef _
 refine Ql Fence.wide 0 (.inl rfl) w.heap.size base okin h.next σ σ _ w _ S (fun ba eh aN lP p=>?_)
 have fin:LeavesInM Fence.wide 0 P Fn eh.tmps (fun e aN=>∃cv,e= .returned cv/\tz base okin σ h w aj.h v cv aN) eh.defers .returning aN:=by
  refine Hg _ _ lP.marks fun cy a_=>?_
  obtain⟨c8,c_,h5,jB⟩:=a_.keeps rfl H.base p lP.au lP.k_
  obtain⟨cv,bx,bZ⟩:=Qi BU c_ ⟨fun t=>jB _ _ (lP.br.slot t),fun g u aW=>jB _ _ (lP.br.mx g u aW)⟩ BY
  exact ⟨cv,bx,cv,rfl,ba,c8,c_,h5,bZ,lP.fresh,lP.lN⟩
 rcases hex with rfl|rfl
 · exact fin
 · exact fin
theorem Qm {ps:List Nat}:∀ {vs:List I} {iN:List Value} {w:World} {ok:Nat->Prop} {σ:Nat->Option (Nat × Nat)} {F:Nat->I} {cT:Array Value},vs.length=ps.length->iN.length=ps.length->(∀p∈ps,p<cT.size)->
 (∀t,a2 w ok σ (F t) (cT.getD t undef))->(∀i (h:i<vs.length) (h':i<iN.length),a2 w ok σ vs[i] iN[i])->
 ∀t,a2 w ok σ (mW F ps vs t) (((ps.zip iN).foldl (fun tmps (t,a)=>tmps.setIfInBounds t a) cT).getD t undef):=by
 induction ps with
 | nil=>intro vs iN w ok σ F cT U h2 aF bm av t;simpa[mW] using bm t
 | cons p ps a6=>
   intro vs iN w ok σ F cT U h2 aF bm av t
   cases vs with
   | nil=>simp at U
   | cons v vs=>
     cases iN with
     | nil=>simp at h2
     | cons c iN=>
       simp only[mW,List.zip_cons_cons,List.foldl_cons]
       refine a6 (by simpa using U) (by simpa using h2) (fun q aG=>by simpa using aF q (by simp[aG])) (fun t=>?_) (fun i ab bI=>by
        have:=av (i+1) (by simpa using ab) (by simpa using bI)
        simpa using this) t
       have bq:=aF p (by simp)
       by_cases e:t=p
       · subst e
         have:=av 0 (by simp) (by simp)
         simpa[an,Array.getD,bq] using this
       · have ao:(cT.setIfInBounds p c).getD t undef=cT.getD t undef:=by
          simp only[Array.getD_eq_getD_getElem?]
          rw[Array.getElem?_setIfInBounds_ne (Ne.symm e)]
         rw[ao]
         simpa[an,e] using bm t
theorem Qn {ps:List Nat}:∀ {iN:List Value} {cT:Array Value},((ps.zip iN).foldl (fun tmps (t,a)=>tmps.setIfInBounds t a) cT).size=cT.size:=by
 induction ps with
 | nil=>intro iN cT;simp
 | cons p ps a6=>
   intro iN cT
   cases iN with
   | nil=>simp
   | cons c iN=>simp only[List.zip_cons_cons,List.foldl_cons];rw[a6];simp
theorem Ho {b5:ku->List I->af->Option (I × af)} (ja:∀t args h v h',b5 t args h=some (v,h')->h.next<=h'.next) {aX:Nat}:∀ {L:List (aU × Nat)} {s aj:aI} {cs:List dy},cE G tab b5 aX L s=some (aj,cs)->s.h.next<=aj.h.next
 | [],s,aj,cs,h=>by simp only[cE] at h;cases h;exact Nat.le_refl _
 | (e,i)::L,s,aj,cs,h=>by
   simp only[cE] at h
   split at h<;>try(cases h;done)
   rename_i s1 c U
   obtain⟨p,h2,az⟩:=Option.map_eq_some_iff.1 h
   cases az
   refine Nat.le_trans ?_ (Ho ja h2)
   have go:∀ {s1:aI} {c:dy},cM G tab b5 aX (aX+i) e s=some (s1,c)->s.h.next<=s1.h.next:=by
    intro s1 c aW
    unfold cM at aW
    split at aW
    · split at aW<;>try(cases aW;done)
      · split at aW
        · split at aW<;>try(cases aW;done)
          obtain⟨v,_,aW⟩:=Option.map_eq_some_iff.1 aW
          cases aW
          exact Nat.le_refl _
        · obtain⟨q,aG,aW⟩:=Option.map_eq_some_iff.1 aW
          obtain⟨v,h'⟩:=q
          cases aW
          exact ja _ _ _ _ _ aG
      · obtain⟨q,aG,aW⟩:=Option.map_eq_some_iff.1 aW
        obtain⟨v,h'⟩:=q
        cases aW
        exact ja _ _ _ _ _ aG
    · obtain⟨q,aG,aW⟩:=Option.map_eq_some_iff.1 aW
      obtain⟨v,h',cG⟩:=q
      have n':(⟨cg s.F e.dst v,h'⟩:aI)=s1:=congrArg Prod.fst aW
      subst n'
      exact Nat.le_of_eq (congrArg Prod.fst (tt aG).1).symm
   unfold ch at U
   split at U
   · exact go U
   · split at U<;>try(cases U;done)
     · split at U
       · exact go U
       · cases U;exact Nat.le_refl _
     · cases U;exact Nat.le_refl _
theorem ic (G:Nat->Option I) (Φ:FuncId->Option aM) (tab:FuncId->Option (List I->Option I)) (n:Nat) (Y:List cF) (c:cU) (s:aI):exec G Φ tab (n+1) Y c s=match c with
 | .skip=>some (.normal,s)
 | .ret=>some (.ret,s)
 | .exit id=>some (.exit id,s)
 | .region draw ops eL=>(dN G tab (kj G Φ tab n Y) draw ops eL s).map fun aj=>(.normal,aj)
 | .seq a b=>match exec G Φ tab n Y a s with
   | some (.normal,aj)=>exec G Φ tab n Y b aj
   | r=>r
 | .cond x a b=>match x.ev G s.F with
   | .bool t=>if t then exec G Φ tab n Y a s else exec G Φ tab n Y b s
   | _=>none
 | .block id b=>match exec G Φ tab n Y b s with
   | some (.exit i,aj)=>if i=id then some (.normal,aj) else some (.exit i,aj)
   | r=>r
 | .loop b=>match exec G Φ tab n Y b s with
   | some (.normal,aj)=>exec G Φ tab n Y (.loop b) aj
   | r=>r
 | .kM f ps dm body=>match f.ev G s.F with
   | .fn g first caps=>match Φ g with
     | some fn=>match exec G Φ tab n (⟨s.h.next,s.F,ps,dm,body⟩::Y) fn.body ⟨ds (first++ [.fR s.h.next]++caps),{s.h with next:=s.h.next+1,aS:=an s.h.aS s.h.next (some .ready)}⟩ with
       | some (.normal,aj)|some (.ret,aj)=>match dz aj.h aj.F fn.res with
         | some _=>match aj.h.aS s.h.next with
           | some .ready=>some (.normal,⟨s.F,aj.h.set s.h.next none⟩)
           | some (.done e)=>some (e,⟨s.F,aj.h.set s.h.next none⟩)
           | _=>none
         | none=>none
       | _=>none
     | none=>none
   | _=>none:=by
 cases c<;>rfl
theorem xT {Φ:FuncId->Option aM} {n:Nat} {f:aQ} {ps:List Nat} {dm body:cU} {s aj:aI} {ex:c0} (he:exec G Φ tab (n+1) Y (.kM f ps dm body) s=some (ex,aj)):
 ∃g first caps v h' p,f.ev G s.F= .fn g first caps/\
  j7 G Φ tab n (⟨s.h.next,s.F,ps,dm,body⟩::Y) g (first++ [.fR s.h.next]++caps) {s.h with next:=s.h.next+1,aS:=an s.h.aS s.h.next (some .ready)}=some (v,h')/\
  h'.aS s.h.next=some p/\((p= .ready/\ex= .normal)\/p= .done ex)/\aj=⟨s.F,h'.set s.h.next none⟩:=by
 rw[ic] at he
 simp only at he
 split at he<;>try(cases he;done)
 rename_i g first caps bg
 split at he<;>try(cases he;done)
 rename_i fn mf
 have key:∀(s1:aI),(exec G Φ tab n (⟨s.h.next,s.F,ps,dm,body⟩::Y) fn.body ⟨ds (first++ [.fR s.h.next]++caps),{s.h with next:=s.h.next+1,aS:=an s.h.aS s.h.next (some .ready)}⟩=some (.normal,s1)\/
  exec G Φ tab n (⟨s.h.next,s.F,ps,dm,body⟩::Y) fn.body ⟨ds (first++ [.fR s.h.next]++caps),{s.h with next:=s.h.next+1,aS:=an s.h.aS s.h.next (some .ready)}⟩=some (.ret,s1))->
  (match dz s1.h s1.F fn.res with
    | some _=>match s1.h.aS s.h.next with
      | some .ready=>some (c0.normal,(⟨s.F,s1.h.set s.h.next none⟩:aI))
      | some (.done e)=>some (e,⟨s.F,s1.h.set s.h.next none⟩)
      | _=>none
    | none=>none)=some (ex,aj)->
  ∃fx Hp Hq v h' p,I.fn g first caps= .fn fx Hp Hq/\
  j7 G Φ tab n (⟨s.h.next,s.F,ps,dm,body⟩::Y) fx (Hp++ [.fR s.h.next]++Hq) {s.h with next:=s.h.next+1,aS:=an s.h.aS s.h.next (some .ready)}=some (v,h')/\
  h'.aS s.h.next=some p/\((p= .ready/\ex= .normal)\/p= .done ex)/\aj=⟨s.F,h'.set s.h.next none⟩:=by
  intro s1 U h2
  split at h2<;>try(cases h2;done)
  rename_i v av
  refine⟨g,first,caps,v,s1.h,?_⟩
  have Bg:j7 G Φ tab n (⟨s.h.next,s.F,ps,dm,body⟩::Y) g (first++ [.fR s.h.next]++caps) {s.h with next:=s.h.next+1,aS:=an s.h.aS s.h.next (some .ready)}=some (v,s1.h):=by
   unfold j7
   rw[mf]
   rcases U with U|U<;>simp only[U,av,Option.map_some]
  split at h2
  · rename_i aF
    cases h2
    exact ⟨_,rfl,Bg,aF,.inl ⟨rfl,rfl⟩,rfl⟩
  · rename_i e aF
    cases h2
    exact ⟨_,rfl,Bg,aF,.inr rfl,rfl⟩
  · cases h2
 rw[bg]
 split at he
 · rename_i s1 U
   exact key s1 (.inl U) he
 · rename_i s1 U
   exact key s1 (.inr U) he
 · cases he
theorem xU {Φ:FuncId->Option aM}:∀(n:Nat) (Y:List cF) (c:cU) (s:aI) (ex:c0) (aj:aI),exec G Φ tab n Y c s=some (ex,aj)->s.h.next<=aj.h.next:=by
 intro n
 induction n with
 | zero=>intro Y c s ex aj he;unfold exec at he;cases he
 | succ n a6=>
   have bj:∀ {Y:List cF} {f:FuncId} {args:List I} {h h':af} {v:I},j7 G Φ tab n Y f args h=some (v,h')->h.next<=h'.next:=by
    intro Y f args h h' v J
    obtain⟨fn,ex,aj,_,he,_,_,rfl⟩:=qu J
    exact a6 _ _ _ _ _ he
   have mg:∀ {Y:List cF} {id:Nat} {args:List I} {h h':af} {v:I},ny G Φ tab n Y id args h=some (v,h')->h.next<=h'.next:=by
    intro Y id args h h' v J
    obtain⟨L,Y',s1,ex,aj,_,_,U,_,h2,_,az⟩:=tE J
    have a1:=a6 _ _ _ _ _ U
    have eO:=a6 _ _ _ _ _ h2
    have:h'.next=aj.h.next:=by rcases az with⟨_,_,rfl⟩|⟨_,_,rfl⟩<;>rfl
    rw[this]
    exact Nat.le_trans a1 eO
   intro Y c s ex aj he
   have xV:=he
   rw[ic] at he
   cases c with
   | skip=>cases he;exact Nat.le_refl _
   | ret=>cases he;exact Nat.le_refl _
   | exit id=>cases he;exact Nat.le_refl _
   | region draw ops eL=>
     simp only at he
     obtain⟨s1,U,he⟩:=Option.map_eq_some_iff.1 he
     cases he
     unfold dN at U
     split at U<;>try(cases U;done)
     rename_i s2 cs h2
     split at U<;>try(cases U;done)
     cases U
     refine Nat.le_trans (Nat.le_add_right _ _) (Ho (fun t args h v h' J=>?_) h2)
     cases t with
     | fn f=>exact bj J
     | k4 id=>exact mg J
   | seq a b=>
     simp only at he
     split at he
     · rename_i s1 U
       exact Nat.le_trans (a6 _ _ _ _ _ U) (a6 _ _ _ _ _ he)
     · exact a6 _ _ _ _ _ he
   | cond x a b=>
     simp only at he
     split at he<;>try(cases he;done)
     split at he
     · exact a6 _ _ _ _ _ he
     · exact a6 _ _ _ _ _ he
   | block id b=>
     simp only at he
     split at he
     · rename_i i s1 U
       have:=a6 _ _ _ _ _ U
       split at he<;>(cases he;exact this)
     · exact a6 _ _ _ _ _ he
   | loop b=>
     simp only at he
     split at he
     · rename_i s1 U
       exact Nat.le_trans (a6 _ _ _ _ _ U) (a6 _ _ _ _ _ he)
     · exact a6 _ _ _ _ _ he
   | kM f ps dm body=>
     obtain⟨g,first,caps,v,h',p,_,J,_,_,rfl⟩:=xT xV
     have:=bj J
     simp only at this
     show s.h.next<=h'.next
     omega
theorem Qo {Φ:FuncId->Option aM} {n:Nat} {t:ku} {args:List I} {h h':af} {v:I} (J:kj G Φ tab n Y t args h=some (v,h')):h.next<=h'.next:=by
 cases t with
 | fn f=>
   obtain⟨fn,ex,aj,_,he,_,_,rfl⟩:=qu J
   exact xU _ _ _ _ _ _ he
 | k4 id=>
   obtain⟨L,Y',s1,ex,aj,_,_,U,_,h2,_,az⟩:=tE J
   have a1:=xU _ _ _ _ _ _ U
   have eO:=xU _ _ _ _ _ _ h2
   have:h'.next=aj.h.next:=by rcases az with⟨_,_,rfl⟩|⟨_,_,rfl⟩<;>rfl
   rw[this]
   exact Nat.le_trans a1 eO
end
end Go.Eng
namespace Go.Eng
open Go Go.RowKit
section
variable {G:Nat->Option I} {Φ:FuncId->Option aM} {tab:FuncId->Option (List I->Option I)}
theorem Qp {h:af} {F:Nat->I} {r:Nat} {blk:List I} (aq:h.cells r=none):∀ {x:l9} {v:I},eF h F x=some v->eF (h.new r blk) F x=some v
 | .tmp t,v,av=>av
 | .cell t bM sz,v,av=>by
   simp only[eF] at av|-
   split at av<;>try(cases av;done)
   rename_i id idx cu bm
   obtain⟨b,aa,av⟩:=Option.bind_eq_some_iff.1 av
   try simp only[bm]
   have bG:id≠r:=by rintro rfl;rw[aq] at aa;cases aa
   rw[od _ _ bG,aa]
   exact av
theorem Hr {h:af} {F:Nat->I} {r:Nat} {blk:List I} (aq:h.cells r=none):∀ {rs:List l9} {vs:List I},rs.mapM (eF h F)=some vs->rs.mapM (eF (h.new r blk) F)=some vs
 | [],vs,av=>av
 | x::rs,vs,av=>by
   rw[List.mapM_cons] at av|-
   simp only[Option.bind_eq_bind,Option.bind_eq_some_iff,Option.pure_def,Option.some.injEq] at av|-
   obtain⟨a,aK,b,aa,e⟩:=av
   exact ⟨a,Qp aq aK,b,Hr aq aa,e⟩
theorem Qq {h:af} {F:Nat->I} {r:Nat} {blk:List I} (aq:h.cells r=none) {rs:List l9} {v:I} (av:dz h F rs=some v):dz (h.new r blk) F rs=some v:=by
 unfold dz at av|-
 obtain⟨vs,U,h2⟩:=Option.map_eq_some_iff.1 av
 rw[Hr aq U]
 exact congrArg some h2
theorem Hs {b5:ku->List I->af->Option (I × af)} (bg:qp b5) {aX r:Nat} {blk:List I} (qw:r<aX):∀ {L:List (aU × Nat)} {s aj:aI} {cs:List dy},cE G tab b5 aX L s=some (aj,cs)->s.h.cells r=none->r<s.h.next->
 cE G tab b5 aX L ⟨s.F,s.h.new r blk⟩=some (⟨aj.F,aj.h.new r blk⟩,cs)/\aj.h.cells r=none/\s.h.next<=aj.h.next
 | [],s,aj,cs,h,aq,aH=>by
   simp only[cE] at h|-
   cases h
   exact ⟨rfl,aq,Nat.le_refl _⟩
 | (e,i)::L,s,aj,cs,h,aq,aH=>by
   simp only[cE] at h|-
   split at h<;>try(cases h;done)
   rename_i s1 c U
   obtain⟨p,h2,az⟩:=Option.map_eq_some_iff.1 h
   obtain⟨s2,G4⟩:=p
   cases az
   obtain⟨bx,bZ,cX⟩:=Bw (blk:=blk) bg U aq aH (by omega)
   obtain⟨c8,c_,h5⟩:=Hs (blk:=blk) bg qw h2 bZ (by omega)
   exact ⟨by simp only[bx,c8,Option.map_some],c_,by show s.h.next<=s2.h.next;omega⟩
theorem B1 {n:Nat} (fH:∀(Y:List cF) (c:cU) (s:aI) (ex:c0) (aj:aI),exec G Φ tab n Y c s=some (ex,aj)->∀r blk,s.h.cells r=none->r<s.h.next->exec G Φ tab n Y c ⟨s.F,s.h.new r blk⟩=some (ex,⟨aj.F,aj.h.new r blk⟩)/\aj.h.cells r=none/\s.h.next<=aj.h.next)
 (Y:List cF):qp (kj G Φ tab n Y):=by
 intro t args h v h' r blk J aq aH
 cases t with
 | fn f=>
   obtain⟨fn,ex,aj,mf,he,hex,av,rfl⟩:=qu J
   obtain⟨bx,bZ,cX⟩:=fH _ _ _ _ _ he r blk aq aH
   refine⟨?_,bZ,cX⟩
   show j7 G Φ tab n Y f args (h.new r blk)=_
   unfold j7
   simp only at bx
   rcases hex with rfl|rfl<;>simp only[mf,bx,Qq bZ av,Option.map_some]
 | k4 id=>
   obtain⟨L,Y',s1,ex,aj,bb,hlen,U,aF,h2,aa,az⟩:=tE J
   obtain⟨bx,bZ,cX⟩:=fH _ _ _ _ _ U r blk aq aH
   obtain⟨c8,c_,h5⟩:=fH _ _ _ _ _ h2 r blk bZ (show r<s1.h.next by simp only at cX;omega)
   simp only at bx c8
   have aw:h.next<=aj.h.next:=Nat.le_trans cX h5
   have Ht:exec G Φ tab n Y' L.body ⟨s1.F,(s1.h.new r blk).set id (some .busy)⟩=some (ex,⟨aj.F,aj.h.new r blk⟩):=c8
   rcases az with⟨rfl,rfl,rfl⟩|⟨bG,rfl,rfl⟩
   · refine⟨?_,c_,aw⟩
     show ny G Φ tab n Y id args (h.new r blk)=_
     unfold ny
     simp only[bb,if_pos hlen,bx,show (s1.h.new r blk).aS id=some .ready from aF,Ht,show (aj.h.new r blk).aS id=some .busy from aa]
     rfl
   · refine⟨?_,c_,aw⟩
     show ny G Φ tab n Y id args (h.new r blk)=_
     unfold ny
     simp only[bb,if_pos hlen,bx,show (s1.h.new r blk).aS id=some .ready from aF,Ht,show (aj.h.new r blk).aS id=some .busy from aa]
     cases ex with
     | normal=>exact absurd rfl bG
     | exit i=>rfl
     | ret=>rfl
theorem Hu:∀(n:Nat) (Y:List cF) (c:cU) (s:aI) (ex:c0) (aj:aI),exec G Φ tab n Y c s=some (ex,aj)->∀r blk,s.h.cells r=none->r<s.h.next->
 exec G Φ tab n Y c ⟨s.F,s.h.new r blk⟩=some (ex,⟨aj.F,aj.h.new r blk⟩)/\aj.h.cells r=none/\s.h.next<=aj.h.next
 | 0,Y,c,s,ex,aj,he,r,blk,aq,aH=>by unfold exec at he;cases he
 | n+1,Y,c,s,ex,aj,he,r,blk,aq,aH=>by
   have fH:=Hu n
   have aD:=he
   rw[ic] at he|-
   cases c with
   | skip=>cases he;exact ⟨rfl,aq,Nat.le_refl _⟩
   | ret=>cases he;exact ⟨rfl,aq,Nat.le_refl _⟩
   | exit id=>cases he;exact ⟨rfl,aq,Nat.le_refl _⟩
   | region j6 ops eL=>
     simp only at he|-
     obtain⟨s1,U,he⟩:=Option.map_eq_some_iff.1 he
     cases he
     unfold dN at U|-
     split at U<;>try(cases U;done)
     rename_i s2 cs ca
     split at U<;>try(cases U;done)
     rename_i jU
     cases U
     obtain⟨bx,bZ,cX⟩:=Hs (blk:=blk) (B1 fH Y) aH ca aq (show r<s.h.next+ops.length by omega)
     simp only at bx cX
     refine⟨?_,bZ,by omega⟩
     have Qr:cE G tab (kj G Φ tab n Y) (s.h.new r blk).next ops.zipIdx ⟨s.F,{(s.h.new r blk) with next:=(s.h.new r blk).next+ops.length}⟩=some (⟨aj.F,aj.h.new r blk⟩,cs):=bx
     rw[Qr]
     simp only[if_pos jU,Option.map_some]
   | seq a b=>
     simp only at he|-
     split at he
     · rename_i s1 U
       obtain⟨bx,bZ,cX⟩:=fH _ _ _ _ _ U r blk aq aH
       obtain⟨c8,c_,h5⟩:=fH _ _ _ _ _ he r blk bZ (by omega)
       exact ⟨by simp only[bx];exact c8,c_,by omega⟩
     · rename_i bG
       obtain⟨bx,bZ,cX⟩:=fH _ _ _ _ _ he r blk aq aH
       refine⟨?_,bZ,cX⟩
       rw[bx]
       cases ex with
       | normal=>exact absurd he (bG aj)
       | exit i=>rfl
       | ret=>rfl
   | cond x a b=>
     simp only at he|-
     split at he<;>try(cases he;done)
     rename_i t aJ
     try simp only[aJ]
     split at he
     · rename_i rT;simp only[if_pos rT];exact fH _ _ _ _ _ he r blk aq aH
     · rename_i rT;simp only[if_neg rT];exact fH _ _ _ _ _ he r blk aq aH
   | block id b=>
     simp only at he|-
     split at he
     · rename_i i s1 U
       obtain⟨bx,bZ,cX⟩:=fH _ _ _ _ _ U r blk aq aH
       rw[bx]
       simp only
       split at he<;>rename_i ab<;>cases he<;>simp only[ab,if_true,if_false]<;>exact ⟨by first|rfl|trivial,bZ,cX⟩
     · rename_i bG
       obtain⟨bx,bZ,cX⟩:=fH _ _ _ _ _ he r blk aq aH
       refine⟨?_,bZ,cX⟩
       rw[bx]
       cases ex with
       | normal=>rfl
       | exit i=>exact absurd he (bG i aj)
       | ret=>rfl
   | loop b=>
     simp only at he|-
     split at he
     · rename_i s1 U
       obtain⟨bx,bZ,cX⟩:=fH _ _ _ _ _ U r blk aq aH
       obtain⟨c8,c_,h5⟩:=fH _ _ _ _ _ he r blk bZ (by omega)
       exact ⟨by simp only[bx];exact c8,c_,by omega⟩
     · rename_i bG
       obtain⟨bx,bZ,cX⟩:=fH _ _ _ _ _ he r blk aq aH
       refine⟨?_,bZ,cX⟩
       rw[bx]
       cases ex with
       | normal=>exact absurd he (bG aj)
       | exit i=>rfl
       | ret=>rfl
   | kM f ps dm body=>
     obtain⟨g,first,caps,v,h',p,bg,J,aF,nz,rfl⟩:=xT aD
     have B2:kj G Φ tab n (⟨s.h.next,s.F,ps,dm,body⟩::Y) (.fn g) (first++ [.fR s.h.next]++caps) {s.h with next:=s.h.next+1,aS:=an s.h.aS s.h.next (some .ready)}=some (v,h'):=J
     obtain⟨bx,bZ,cX⟩:=B1 fH _ _ _ _ _ _ r blk B2 aq (show r<s.h.next+1 by omega)
     obtain⟨fn,e,s2,mf,rU,hex,av,cw⟩:=qu (show j7 G Φ tab n _ g _ _=some (v,h'.new r blk) from bx)
     refine⟨?_,bZ,by simp only at cX;show s.h.next<=h'.next;omega⟩
     simp only[bg,mf]
     have B3:exec G Φ tab n (⟨(s.h.new r blk).next,s.F,ps,dm,body⟩::Y) fn.body ⟨ds (first++ [.fR (s.h.new r blk).next]++caps),{(s.h.new r blk) with next:=(s.h.new r blk).next+1,aS:=an (s.h.new r blk).aS (s.h.new r blk).next (some .ready)}⟩=some (e,s2):=rU
     have vC:s2.h.aS (s.h.new r blk).next=some p:=by rw[cw];exact aF
     rw[B3]
     rcases hex with rfl|rfl<;>simp only[av,vC]<;>rcases nz with⟨rfl,rfl⟩|rfl<;>simp only[cw]<;>rfl
theorem Qs (n:Nat) (Y:List cF):qp (kj G Φ tab n Y):=B1 (Hu n) Y
end
end Go.Eng
namespace Go.Eng
open Go Go.RowKit
section
variable {P:Program} {G:Nat->Option I} {tab:FuncId->Option (List I->Option I)} {Y:List cF}
theorem Qt {n:Nat} (fH:tF P G tab n) {id:Nat} {args:List I} {h h':af} {v:I} (J:ny G (aE P) tab n Y id args h=some (v,h')):
 ∀base okin σ w (dd:Array Value) l s,cn base okin σ h w->jH σ h.aS w->oi P G base okin Y σ h w->σ id=some (l,s)->dd.size=args.length->
  (∀i (ab:i<args.length) (bI:i<dd.size),a2 w (bk base okin σ h) σ args[i] dd[i])->
  (∀g u,G g=some u->a2 w (bk base okin σ h) σ (.eK u) (.pointer (some ⟨g,0,none⟩)))->(∀id,h.next<=id->σ id=none)->
  BD P l dd w (tz base okin σ h w h' v):=by
 obtain⟨L,Y',s1,ex,aj,bb,hlen,Qu,Hv,rU,Qv,jd⟩:=tE J
 obtain⟨c1,en,A5⟩:=Hn bb
 intro base okin σ w dd l s H B0 xS om c7 fu qv vD
 obtain⟨lu,k9,r,m3,b7,bX,cW,cS,vE,vF,iy,nA⟩:=xS L c1
 rw[en,om] at b7;cases b7
 have xW:r.params.size=L.ps.length:=by rw[cS];simp
 have pf:dd.size=r.params.size:=by omega
 have Qw:oi P G base okin Y' σ h w:=fun X lQ=>xS X (A5 X lQ)
 have kN:base<=l:=(H.val _ _ _ om).1
 refine⟨r.fn,_,r.assign,r.body,run_yield bX pf,fun F dv bm=>?_⟩
 have Qx:(r.params.zip dd).foldl (fun tmps (t,a)=>tmps.setIfInBounds t a) r.tmps=(L.ps.zip dd.toList).foldl (fun tmps (t,a)=>tmps.setIfInBounds t a) r.tmps:=by
  rw[cS,<-Array.foldl_toList,Array.toList_zip]
 rw[Qx]
 have S:fi P G Y' (F.inRound l).round w.heap.size base okin m3 h.next σ (fun _=>False) σ ⟨mW L.F L.ps args,h⟩ {tmps:=(L.ps.zip dd.toList).foldl (fun tmps (t,a)=>tmps.setIfInBounds t a) r.tmps,defers:=[]} w:=by
  refine⟨H,B0,Qw,⟨fun t=>?_,qv⟩,?_,⟨fun d a_=>absurd a_ (by simp),List.Pairwise.nil⟩,fun ed jm=>?_,Nat.le_refl _,fun id bn=>bn.elim,Nat.le_refl _,fun _ _=>rfl,vD⟩
  · exact Qm (by omega) (by simp;omega) (fun p aF=>Nat.lt_of_lt_of_le (vE p aF) cW) (fun t=>nA.slot t) (fun i ab bI=>by
     have:=fu i ab (by simpa using bI)
     simpa using this) t
  · show m3<=(Array.size _)
    rw[Qn];exact cW
  · cases jm;exact ⟨r,bX⟩
 refine roundIn_of_wpIn (bm.fn _) ?_
 refine fH m3 Y' r.assign L.dm _ _ s1 vF Qu (F.inRound l) dv (bm.inRound l) w.heap.size base okin h.next σ σ _ w _ S (fun iZ a1 bP iT bd=>?_)
 obtain⟨cc,vx,bu,d1,d2,d3,d4⟩:=iT.k_.look id _ Hv
 have B4:iZ id=some (l,s):=bd.sub _ _ om
 rw[B4] at d1;cases d1
 refine⟨_,run_beginRound d2 d3,?_⟩
 have ao:({bu with state:= .busy}:Loop)= {bu with state:=nv .busy,pending:=nw .busy}:=by
  have:nw .busy=bu.pending:=by rw[d4];rfl
  rw[this];rfl
 rw[ao]
 have aq:∀arr ty e,Obj.loop bu≠ .cells arr ty e:=fun _ _ _ h=>by cases h
 have bs:da base okin iZ s1.h bP iZ (s1.h.set id (some .busy)) (bP.putObj l (.loop {bu with state:=nv .busy,pending:=nw .busy})):=da.BS d2 kN _ _ (fun b aa=>aa)
 have xX:=iT.au.put (.loop {bu with state:=nv .busy,pending:=nw .busy}) d2 aq (fun _ _ h=>by cases h)
 have vG:fi P G Y' (F.inRound l).round w.heap.size base okin m3 h.next σ (fun _=>False) iZ ⟨s1.F,s1.h.set id (some .busy)⟩ a1 (bP.putObj l (.loop {bu with state:=nv .busy,pending:=nw .busy})):=
  ⟨⟨xX.val,xX.blk,xX.inj,xX.base⟩,iT.k_.set Hv B4 d2 .busy,iT.i_.mono bs,iT.br.mono bs,iT.size,iT.marks.mono bs.nu,fun ed jm=>by
    obtain⟨c2,bE⟩:=iT.rd ed jm
    obtain⟨x,y,cp⟩:=bs.loop ed c2 bE
    exact ⟨_,cp⟩,Nat.le_trans iT.rQ bs.below.size,fun _ h=>h.elim,iT.low,iT.lN,iT.fresh⟩
 refine fH m3 Y' r.body L.body _ ex aj iy rU (F.inRound l) dv (bm.inRound l) w.heap.size base okin h.next σ iZ _ _ _ vG (fun mC By e9 xY bK=>?_)
 have xZ:=bK.sub _ _ B4
 obtain⟨Qy,Qz,f1⟩:=bK.loop l _ (World.putObj_heap_same (ph d2))
 generalize adg:({bu with state:=Qy,pending:=Qz}:Loop)=oo at f1
 have f2:e9.heap[l]? =some (.loop oo):=f1
 have rV:∀arr ty e,Obj.loop oo≠ .cells arr ty e:=fun _ _ _ h=>by cases h
 have fin:∀(p:ff) (cv:Value),h'=aj.h.set id (some p)->a2 (e9.putObj l (.loop {oo with state:=nv p,pending:=nw p})) (bk base okin mC (aj.h.set id (some p))) mC v cv->
  tz base okin σ h w h' v cv (e9.putObj l (.loop {oo with state:=nv p,pending:=nw p})):=by
  rintro p cv rfl aH
  have b3:da base okin mC aj.h e9 mC (aj.h.set id (some p)) (e9.putObj l (.loop {oo with state:=nv p,pending:=nw p})):=da.BS f2 kN _ _ (fun b aa=>aa)
  have pk:=xY.au.put (.loop {oo with state:=nv p,pending:=nw p}) f2 rV (fun _ _ h=>by cases h)
  exact ⟨mC,((bd.trans bs).trans bK).trans b3,⟨pk.val,pk.blk,pk.inj,pk.base⟩,xY.k_.set Qv xZ f2 p,aH,xY.fresh,xY.lN⟩
 rcases jd with⟨rfl,rfl,cw⟩|⟨bG,rfl,cw⟩
 · exact ⟨_,_,run_endRound none f2,.bool true,rfl,fin .ready _ cw (.val _ _ (.bool _))⟩
 · cases ex with
   | normal=>exact absurd rfl bG
   | ret=>exact ⟨_,_,run_endRound (some .ret) f2,.bool false,rfl,fin (.done .ret) _ cw (.val _ _ (.bool _))⟩
   | exit i=>exact ⟨_,_,run_endRound (some (.exit i)) f2,.bool false,rfl,fin (.done (.exit i)) _ cw (.val _ _ (.bool _))⟩
theorem QA {n:Nat} (fH:tF P G tab n):tA P G Y (kj G (aE P) tab n Y):=
 ⟨fun _ _ _ _ _ J=>Qo J,Qs n Y,fun _ _ _ _ _ J base okin σ w dd H L C U h2 az aT=> .inl (BX fH J base okin σ w dd H L C U h2 az aT),
   fun _ _ _ _ _ J=>Qt fH J⟩
theorem Hw {N:Nat} {c:Code} {pj:cU} (J:fS P N c=some pj):∀(m:Nat),(∀k,k<m->tF P G tab k)->∀(s:aI) (ex:c0) (aj:aI),exec G (aE P) tab m Y (.loop pj) s=some (ex,aj)->
 ∀(cV:Fence) (dv:Nat) (_:js cV) (bz:Nat) (base:Nat) (okin:Nat->Prop) (cN:Nat) (cz σ:Nat->Option (Nat × Nat)) (a:Act) (w:World) (Q:Exit->Act->World->Prop),fi P G Y cV.round bz base okin N cN cz (fun _=>False) σ s a w->
  (∀ba eh aN,fi P G Y cV.round bz base okin N cN cz (fun _=>False) ba aj eh aN->da base okin σ s.h w ba aj.h aN->Q (xQ ex) eh aN)->Code.roundsIn cV dv P c Q m a w
 | 0,_,s,ex,aj,he=>by unfold exec at he;cases he
 | m+1,fH,s,ex,aj,he=>by
   rw[ic] at he
   simp only at he
   split at he
   · rename_i s1 U
     have bP:=fH m (Nat.lt_succ_self m) N Y c pj s _ s1 J U
     have cy:=Hw J m (fun k ag=>fH k (Nat.lt_succ_of_lt ag)) s1 ex aj he
     refine fun cV dv bm bz base okin cN cz σ a w Q S dp=>?_
     rw[roundsIn_succ]
     exact bP cV dv bm bz base okin cN cz σ a w _ S fun iZ a1 mD iT bd=>cy cV dv bm bz base okin cN cz iZ a1 mD Q iT fun o6 eO rW vG bs=>dp o6 eO rW vG (bd.trans bs)
   · rename_i bG
     have bP:=fH m (Nat.lt_succ_self m) N Y c pj s ex aj J he
     refine fun cV dv bm bz base okin cN cz σ a w Q S dp=>?_
     rw[roundsIn_succ]
     refine bP cV dv bm bz base okin cN cz σ a w _ S fun iZ a1 mD iT bd=>?_
     have:=dp iZ a1 mD iT bd
     cases ex with
     | normal=>exact absurd he (bG aj)
     | exit id=>exact this
     | ret=>exact this
theorem QB {n N:Nat} (fH:tF P G tab n) {x:Operand} {ps:Array Tmp} {dm body:Code} {f:aQ} {vH vI:cU} (ae:dK x=some f) (aK:fS P N dm=some vH) (aa:fS P N body=some vI) (xW:ps.toList.all (fun p=>decide (p<N))=true)
 {s aj:aI} {ex:c0} (he:exec G (aE P) tab (n+1) Y (.kM f ps.toList vH vI) s=some (ex,aj))
 (cV:Fence) (dv:Nat) (bm:js cV) (bz:Nat) (base:Nat) (okin:Nat->Prop) (cN:Nat) (cz σ:Nat->Option (Nat × Nat)) (a:Act) (w:World) (Q:Exit->Act->World->Prop) (S:fi P G Y cV.round bz base okin N cN cz (fun _=>False) σ s a w)
 (dp:∀ba eh aN,fi P G Y cV.round bz base okin N cN cz (fun _=>False) ba aj eh aN->da base okin σ s.h w ba aj.h aN->Q (xQ ex) eh aN):(Code.rangeFunc x ps dm body).wpIn cV dv P Q a w:=by
 obtain⟨g,first,caps,v,h',p,bg,ja,aF,nz,rfl⟩:=xT he
 have rx:=S.br.dA ae
 rw[bg] at rx
 obtain⟨eV,cv,QC,cc,ed,bu,c2⟩:=rx.FI
 have bn:σ s.h.next=none:=S.fresh _ (Nat.le_refl _)
 have enter:∀fn,∃(l:Nat) (mark:List Deferred) (bP:World) (r:Loop),(Instr.enterLoop fn a.tmps ps dm body cV.round).run P w= .ok (l,mark) bP/\Below w.heap.size w bP/\w.heap.size<=l/\bP.heap[l]? =some (.loop r)/\
  r.state= .ready/\r.pending=none/\r.tmps=a.tmps/\r.params=ps/\r.assign=dm/\r.body=body/\Marks w.heap.size mark bP:=by
  intro fn
  cases B5:cV.round with
  | none=>
    refine⟨_,_,_,{state:= .ready,pending:=none,fn,tmps:=a.tmps,params:=ps,assign:=dm,body,defers:=w.heap.size},run_enterLoop_outer fn a.tmps ps dm body,((Below.refl _ _).alloc (Nat.le_refl _) _).alloc (by simp) _,Nat.le_succ _,?_,rfl,rfl,rfl,rfl,rfl,rfl,⟨fun d a_=>?_,?_⟩⟩
    · have:=World.alloc_heap_new (w.alloc (.deferred (some []))) (.loop {state:= .ready,pending:=none,fn,tmps:=a.tmps,params:=ps,assign:=dm,body,defers:=w.heap.size})
      rwa [World.size_alloc] at this
    · simp at a_
      subst a_
      refine⟨w.heap.size,rfl,Nat.le_refl _,?_⟩
      rw[Below.heap_alloc _ _ _ (by simp)]
      exact World.alloc_heap_new w _
    · simp
  | some tG=>
    obtain⟨r0,aD⟩:=S.rd tG B5
    refine⟨_,_,_,{state:= .ready,pending:=none,fn,tmps:=a.tmps,params:=ps,assign:=dm,body,defers:=r0.defers},run_enterLoop_inner aD fn a.tmps ps dm body,(Below.refl _ _).alloc (Nat.le_refl _) _,Nat.le_refl _,World.alloc_heap_new w _,rfl,rfl,rfl,rfl,rfl,rfl,⟨fun d a_=>absurd a_ (by simp),List.Pairwise.nil⟩⟩
 refine wpIn_rangeFunc fun fn mf=>?_
 obtain⟨l,mark,bP,r,al,kN,hle,ao,aV,bJ,eW,kO,BB,qs,Hx⟩:=enter fn
 have bq:=ph ao
 have vz:=Nat.le_trans S.au.base hle
 obtain⟨BI,BJ⟩:=S.au.grown kN
 obtain⟨x3,pn⟩:=BI.named bn vz bq
 have bd:da base okin σ s.h w (an σ s.h.next (some (l,0))) s.h bP:=da.of S.au (BJ.trans pn)
 have fh:=S.k_.add (fun id b s au=>(S.au.val id b s au).2) bn kN hle ao aV bJ
 have vJ:da base okin σ s.h w (an σ s.h.next (some (l,0))) {s.h with next:=s.h.next+1,aS:=an s.h.aS s.h.next (some .ready)} bP:=⟨bd.sub,bd.still,bd.below,bd.grow,bd.loop,bd.nu⟩
 have H1:cn base okin (an σ s.h.next (some (l,0))) {s.h with next:=s.h.next+1,aS:=an s.h.aS s.h.next (some .ready)} bP:=⟨x3.val,x3.blk,x3.inj,x3.base⟩
 have B6:=S.br.mono vJ
 have QD:oi P G base okin (⟨s.h.next,s.F,ps.toList,vH,vI⟩::Y) (an σ s.h.next (some (l,0))) {s.h with next:=s.h.next+1,aS:=an s.h.aS s.h.next (some .ready)} bP:=by
  intro L bb
  rcases List.mem_cons.1 bb with rfl|bb
  · refine⟨l,0,r,N,by simp[an],ao,by rw[eW];exact S.size,by rw[kO],fun q aG=>by simpa using List.all_eq_true.1 xW q aG,by rw[BB];exact aK,by rw[qs];exact aa,⟨fun t=>?_,B6.mx⟩⟩
    rw[eW];exact B6.slot t
  · exact S.i_.mono vJ L bb
 have fu:∀i (ab:i<(first++ [I.fR s.h.next]++caps).length) (bI:i<(eV++ #[Value.func (.yield l) #[] #[]]++cv).size),a2 bP (bk base okin (an σ s.h.next (some (l,0))) {s.h with next:=s.h.next+1,aS:=an s.h.aS s.h.next (some .ready)}) (an σ s.h.next (some (l,0))) (first++ [I.fR s.h.next]++caps)[i] (eV++ #[Value.func (.yield l) #[] #[]]++cv)[i]:=by
  intro i ab bI
  by_cases U:i<first.length
  · have c8:(first++ [I.fR s.h.next]++caps)[i]=first[i]:=by
     rw[List.getElem_append_left (by simp;omega),List.getElem_append_left U]
    have c_:(eV++ #[Value.func (.yield l) #[] #[]]++cv)[i]=eV[i]'(by omega):=by
     rw[Array.getElem_append_left (by simp;omega),Array.getElem_append_left (by omega)]
    rw[c8,c_];exact vJ.rep (bu i U (by omega))
  · by_cases h2:i=first.length
    · have c8:(first++ [I.fR s.h.next]++caps)[i]=I.fR s.h.next:=by
       rw[List.getElem_append_left (by simp;omega),List.getElem_append_right (by omega)];simp
      have c_:(eV++ #[Value.func (.yield l) #[] #[]]++cv)[i]=Value.func (.yield l) #[] #[]:=by
       rw[Array.getElem_append_left (by simp;omega),Array.getElem_append_right (by omega)];simp
      rw[c8,c_]
      exact .fR _ l 0 (by simp[an])
    · have c8:(first++ [I.fR s.h.next]++caps)[i]=caps[i -(first.length+1)]'(by simp at ab;omega):=by
       rw[List.getElem_append_right (by simp;omega)];simp
      have c_:(eV++ #[Value.func (.yield l) #[] #[]]++cv)[i]=cv[i -(first.length+1)]'(by simp at bI;omega):=by
       rw[Array.getElem_append_right (by simp;omega)]
       congr 1
       simp;omega
      rw[c8,c_];exact vJ.rep (c2 _ (by simp at ab;omega) (by simp at bI;omega))
 have c7:(eV++ #[Value.func (.yield l) #[] #[]]++cv).size=(first++ [I.fR s.h.next]++caps).length:=by simp;omega
 have vD:∀id,s.h.next+1<=id->an σ s.h.next (some (l,0)) id=none:=fun id bn=>by
  have:id≠s.h.next:=by omega
  simp only[an,this,if_false]
  exact S.fresh id (by omega)
 obtain⟨b7,bX⟩:=BX fH ja base okin _ bP _ H1 fh QD c7 fu B6.mx vD
 refine⟨l,mark,bP,{target:= .fn (.func g) cv,args:=eV++ #[Value.func (.yield l) #[] #[]]},bP,g,eV++ #[Value.func (.yield l) #[] #[]]++cv,bP,al,?_,fun o8 _=>bm.fn o8,?_,bm.one dv,bm.calls (bX.mono ?_)⟩
 · simp[resolve,Deferred.ofValue,QC]
   rfl
 · simpa[invoke] using b7
 rintro e e9 ⟨BG,rfl,mC,bK,QE,Hy,_,f3,ns⟩
 obtain⟨lu,aj,iS,d1,d2,d3,d4⟩:=Hy.look _ p aF
 have xZ:mC s.h.next=some (l,0):=bK.sub _ _ (by simp[an])
 rw[xZ] at d1;cases d1
 have vK:iS.state≠ .busy:=by
  rw[d3]
  rcases nz with⟨rfl,_⟩|rfl<;>simp[nv]
 have rV:∀arr ty e,Obj.loop iS≠ .cells arr ty e:=fun _ _ _ h=>by cases h
 have b3:da base okin mC h' e9 mC (h'.set s.h.next none) (e9.putObj l (.loop {iS with state:= .exhausted})):=da.BS d2 vz .exhausted iS.pending (fun b aa=>aa)
 have pk:=QE.put (.loop {iS with state:= .exhausted}) d2 rV (fun _ _ h=>by cases h)
 have QF:jH mC (an h'.aS s.h.next none) (e9.putObj l (.loop {iS with state:= .exhausted})):=Hy.del aF xZ _
 have rX:da base okin σ s.h w mC (h'.set s.h.next none) (e9.putObj l (.loop {iS with state:= .exhausted})):=(vJ.trans bK).trans b3
 have xN:=(xU (G:=G) (tab:=tab) (Φ:=aE P) (n+1) Y (.kM f ps.toList vH vI) s ex _ he)
 have QG:fi P G Y cV.round bz base okin N cN cz (fun _=>False) mC ⟨s.F,h'.set s.h.next none⟩ {a with defers:=mark++a.defers} (e9.putObj l (.loop {iS with state:= .exhausted})):=by
  refine⟨⟨pk.val,pk.blk,pk.inj,pk.base⟩,QF,S.i_.mono rX,⟨fun t=>rX.rep (S.br.slot t),fun g v aW=>rX.rep (S.br.mx g v aW)⟩,S.size,?_,fun ed jm=>?_,Nat.le_trans S.rQ rX.below.size,fun _ h=>h.elim,Nat.le_trans S.low xN,fun id bn=>?_,f3⟩
  · have c1:=Hx.mono (fun b aa=>b3.nu b (bK.nu b aa))
    have en:=S.marks.mono rX.nu
    refine⟨fun d a_=>?_,List.pairwise_append.2 ⟨c1.nodup,en.nodup,fun d a_ o2 tD=>?_⟩⟩
    · rcases List.mem_append.1 a_ with a_|a_
      · obtain⟨D,bE,cp,fv⟩:=c1.each d a_
        exact ⟨D,bE,Nat.le_trans S.rQ cp,fv⟩
      · exact en.each d a_
    · obtain⟨D,bE,cp,_⟩:=Hx.each d a_
      obtain⟨Hh,QH,_,QI⟩:=S.marks.each o2 tD
      have:=ph QI
      rw[bE,QH]
      intro cw
      cases cw
      omega
  · obtain⟨c2,bE⟩:=S.rd ed jm
    obtain⟨x1,x2,cp⟩:=rX.loop ed c2 bE
    exact ⟨_,cp⟩
  · have:id≠s.h.next:=by have:=S.low;omega
    rw[ns id (by have:=S.low;show id<s.h.next+1;omega)]
    simp only[an,this,if_false]
    exact S.lN id bn
 have aG:=dp mC _ _ QG rX
 refine⟨_,_,run_endLoop d2 vK,?_⟩
 rw[d4] at aG|-
 rcases nz with⟨rfl,rfl⟩|rfl
 · exact aG
 · cases ex with
   | normal=>exact aG
   | ret=>exact wpIn_ret aG
   | exit i=>exact wpIn_exit aG
theorem tH {P:Program} {b:Frame} {a:Act} {k:List Item} {cs:List Frame} {w:World} {c:Code}:step P (lone (b.atR a (.code (.scope c)::k)) cs w)= .next (lone (b.atR a (.code c:: .inScope c::k)) cs w):=
 step_lone_go (by simp[stepG,stepG.exec,Frame.atR])
theorem QJ {P:Program} {b:Frame} {a:Act} {k:List Item} {cs:List Frame} {w:World} {c:Code}:step P (lone (b.atR a (.inScope c::k)) cs w)= .next (lone (b.atR a k) cs w):=
 step_lone_go (by simp[stepG,stepG.exec,Frame.atR])
theorem QK {F:Fence} {n:Nat} {P:Program} {c:Code} {Q:Exit->Act->World->Prop} {a:Act} {w:World} (h:c.wpIn F n P (Exit.noGoto Q) a w):(Code.scope c).wpIn F n P Q a w:=by
 intro b k cs B5 aa aH
 have aD:(lone (b.atR a (.code (.scope c)::k)) cs w).fenced P F:=fenced_calm aa aH rfl
 obtain⟨e,vL,vM,aG,tI⟩:=h b (.inScope c::k) cs B5 aa aH
 cases e with
 | normal=>exact ⟨.normal,vL,vM,aG,.head aD tH (StepsIn.trans tI (.one (fenced_calm aa aH rfl) QJ))⟩
 | exit id=>
   have ae:exitTo id (.inScope c::k)=exitTo id k:=by simp[exitTo]
   exact ⟨_,vL,vM,aG,fun k' ag=> .head aD tH (tI.1 k' (by rw[ae];exact ag)),fun mX ag=>let ⟨k₁,U,h2⟩:=tI.2 mX (by rw[ae];exact ag);⟨k₁,U,.head aD tH h2⟩⟩
 | goto l=>exact aG.elim
 | ret=>exact ⟨_,vL,vM,aG,.of_steps (.one aD tH) tI⟩
 | panic adh=>exact ⟨_,vL,vM,aG,.of_steps (.one aD tH) tI⟩
 | outgrown=>exact ⟨_,vL,vM,aG,.of_steps (.one aD tH) tI⟩
theorem QL (hm:P.follows .mixedOrders=true) (kP:∀f T,tab f=some T->aP P G f T):∀n,tF P G tab n:=by
 intro n
 induction n using Nat.strongRecOn with
 | _ n fH=>
 intro N Y c pj s ex aj J he
 cases n with
 | zero=>unfold exec at he;cases he
 | succ n=>
 have a6:=fH n (Nat.lt_succ_self n)
 have xV:=he
 rw[ic] at he
 cases c with
 | skip=>
   simp only[fS] at J;cases J
   cases he
   exact fun cV dv bm bz base okin cN cz σ a w Q S dp=>wpIn_skip (dp σ a w S (da.refl ..))
 | ret=>
   simp only[fS] at J;cases J
   cases he
   exact fun cV dv bm bz base okin cN cz σ a w Q S dp=>wpIn_ret (dp σ a w S (da.refl ..))
 | exit id=>
   simp only[fS] at J;cases J
   cases he
   exact fun cV dv bm bz base okin cN cz σ a w Q S dp=>wpIn_exit (dp σ a w S (da.refl ..))
 | region id ops draw=>
   have jE:=J
   have QM:∃j6 es b,pj= .region j6 es b:=by
    simp only[fS] at J
    split at J<;>try(cases J;done)
    split at J
    · split at J<;>try(cases J;done)
      cases J;exact ⟨_,_,_,rfl⟩
    · cases J;exact ⟨_,_,_,rfl⟩
   obtain⟨j6,es,b,rfl⟩:=QM
   simp only at he
   obtain⟨s1,U,he⟩:=Option.map_eq_some_iff.1 he
   cases he
   exact fun cV dv bm bz base okin cN cz σ a w Q S dp=>Qd hm bm (QA a6) kP jE U S dp
 | seq x y=>
   simp only[fS] at J
   split at J<;>try(cases J;done)
   rename_i po B7 ae aO
   cases J
   simp only at he
   split at he
   · rename_i s1 U
     have bP:=a6 N Y x po s _ s1 ae U
     have cy:=a6 N Y y B7 s1 ex aj aO he
     refine fun cV dv bm bz base okin cN cz σ a w Q S dp=>wpIn_seq ?_
     exact bP cV dv bm bz base okin cN cz σ a w _ S fun iZ a1 mD iT bd=>cy cV dv bm bz base okin cN cz iZ a1 mD Q iT fun o6 eO rW vG bs=>dp o6 eO rW vG (bd.trans bs)
   · rename_i bG
     have bP:=a6 N Y x po s ex aj ae he
     refine fun cV dv bm bz base okin cN cz σ a w Q S dp=>wpIn_seq ?_
     refine bP cV dv bm bz base okin cN cz σ a w _ S fun iZ a1 mD iT bd=>?_
     have:=dp iZ a1 mD iT bd
     cases ex with
     | normal=>exact absurd he (bG aj)
     | exit id=>exact this
     | ret=>exact this
 | cond x y z=>
   simp only[fS] at J
   split at J<;>try(cases J;done)
   rename_i po B7 QN ae aO ar
   cases J
   simp only at he
   split at he<;>try(cases he;done)
   rename_i t aJ
   cases t with
   | true=>
     simp only[if_true] at he
     have bP:=a6 N Y y B7 s ex aj aO he
     refine fun cV dv bm bz base okin cN cz σ a w Q S dp=>?_
     have r:=S.br.dA ae
     rw[aJ] at r
     exact wpIn_cond_true r.qe (bP cV dv bm bz base okin cN cz σ a w Q S dp)
   | false=>
     simp only[Bool.false_eq_true,if_false] at he
     have bP:=a6 N Y z QN s ex aj ar he
     refine fun cV dv bm bz base okin cN cz σ a w Q S dp=>?_
     have r:=S.br.dA ae
     rw[aJ] at r
     exact wpIn_cond_false r.qe (bP cV dv bm bz base okin cN cz σ a w Q S dp)
 | block id x=>
   simp only[fS] at J
   obtain⟨po,ae,rfl⟩:=Option.map_eq_some_iff.1 J
   simp only at he
   split at he
   · rename_i i s1 U
     have bP:=a6 N Y x po s _ s1 ae U
     have au:s1=aj:=by split at he<;>(cases he;rfl)
     subst au
     refine fun cV dv bm bz base okin cN cz σ a w Q S dp=>wpIn_block ?_
     refine bP cV dv bm bz base okin cN cz σ a w _ S fun iZ a1 mD iT bd=>?_
     have:=dp iZ a1 mD iT bd
     simp only[xQ,Exit.inBlock]
     split at he
     · rename_i bn
       cases he
       rw[if_pos bn];exact this
     · rename_i bn
       cases he
       rw[if_neg bn];exact this
   · rename_i bG
     have bP:=a6 N Y x po s ex aj ae he
     refine fun cV dv bm bz base okin cN cz σ a w Q S dp=>wpIn_block ?_
     refine bP cV dv bm bz base okin cN cz σ a w _ S fun iZ a1 mD iT bd=>?_
     have:=dp iZ a1 mD iT bd
     cases ex with
     | normal=>exact this
     | exit i=>exact absurd he (bG i aj)
     | ret=>exact this
 | loop x=>
   simp only[fS] at J
   obtain⟨po,ae,rfl⟩:=Option.map_eq_some_iff.1 J
   have bP:=Hw ae (n+1) fH s ex aj xV
   exact fun cV dv bm bz base okin cN cz σ a w Q S dp=>wpIn_loop_rounds (n+1) (bP cV dv bm bz base okin cN cz σ a w Q S dp)
 | rangeFunc x ps dm body=>
   simp only[fS] at J
   split at J<;>try(cases J;done)
   rename_i f vH vI ae aK aa
   split at J<;>try(cases J;done)
   rename_i xW
   cases J
   exact fun cV dv bm bz base okin cN cz σ a w Q S dp=>QB a6 ae aK aa xW xV cV dv bm bz base okin cN cz σ a w Q S dp
 | scope x=>
   simp only[fS] at J
   obtain⟨po,ae,rfl⟩:=Option.map_eq_some_iff.1 J
   simp only at he
   cases n with
   | zero=>
     have aD:exec G (aE P) tab 0 Y .skip s=none:=by unfold exec;rfl
     rw[aD] at he;cases he
   | succ n=>
     have aD:exec G (aE P) tab (n+1) Y .skip s=some (.normal,s):=by rw[ic]
     rw[aD] at he
     simp only at he
     have bP:=a6 N Y x po s ex aj ae he
     refine fun cV dv bm bz base okin cN cz σ a w Q S dp=>QK ?_
     refine bP cV dv bm bz base okin cN cz σ a w _ S fun iZ a1 mD iT bd=>?_
     have:=dp iZ a1 mD iT bd
     cases ex<;>exact this
 | label _=>
   simp only[fS] at J;cases J
   cases he
   exact fun cV dv bm bz base okin cN cz σ a w Q S dp=>wpIn_label (dp σ a w S (da.refl ..))
 | goto _=>simp only[fS] at J;cases J
 | refuse _=>simp only[fS] at J;cases J
theorem B8 (n:Nat) (f:FuncId) (args:List I) (h:af):xm G (aE P) tab n Y f args h=j7 G (aE P) tab n Y f args h:=rfl
theorem x4 (hm:P.follows .mixedOrders=true) (kP:∀f T,tab f=some T->aP P G f T) {f:FuncId} {T:List I->Option I}
 (cR:∀args v,T args=some v->∃n,l' G (aE P) tab n f args=some v):aP P G f T:=by
 intro args v av ok w dd c7 fu qv
 obtain⟨n,aq⟩:=cR args v av
 unfold l' at aq
 obtain⟨p,U,h2⟩:=Option.bind_eq_some_iff.1 aq
 obtain⟨u,h'⟩:=p
 obtain⟨q,az,aT⟩:=Option.map_eq_some_iff.1 h2
 obtain⟨jT,ids⟩:=q
 cases aT
 rw[B8] at U
 have H:cn w.heap.size ok (fun _=>none) aD w:=⟨fun id b sz h=>(by cases h),fun id blk h=>(by cases h),fun id h4 b sz fG h=>(by cases h),Nat.le_refl _⟩
 have jU:∀b,b<w.heap.size->ok b->bk w.heap.size ok (fun _=>none) aD b:=fun b aa ay=> .inl ⟨aa,ay⟩
 have st:tf w w ok (bk w.heap.size ok (fun _=>none) aD):=fun b o aa _ ay=>⟨jU b (ph aa) ay,rfl⟩
 obtain⟨d1,d2⟩:=BX (QL hm kP n) U w.heap.size ok (fun _=>none) w dd H ⟨fun id p h=>(by cases h),fun id h4 p lO l s aj h=>(by cases h)⟩ (fun L bb=>absurd bb (by simp)) c7 (fun i ab bI=> .val _ _ ((fu i ab bI).mono st))
  (fun g u aW=>(qv g u aW).mono st (fun _ _ h=>h) (fun _=>Nat.le_refl _)) (fun _ _=>rfl)
 refine .inl ⟨d1,d2.mono fun e aN ee=>?_⟩
 obtain⟨cv,he,ba,p,QO,_,r,_,_⟩:=ee
 refine⟨cv,he,(PV QO r az).rq fun b _ aa=>?_,p.below⟩
 rcases aa with aa|aa
 · exact .inl aa.2
 · exact .inr aa.1
end
#print axioms x4
end Go.Eng
