import Derived.Test.YtemiagcencajeaaGreatDoorCqE2
import Derived.RangeFuncRecord
import Derived.OrdersIn
import Derived.RangeFuncLeaves
import Derived.RangeFuncBox
import Derived.LoopNIn
import Derived.RangeFuncNested
import Derived.Scope
set_option linter.unusedSimpArgs false
set_option linter.unusedVariables false
set_option linter.unusedSectionVars false
namespace Go.Eng
open Go Go.RowKit
section
variable {G:Nat->Option J}
theorem a6.e4 {F F':Nat->J} {x:a6} (h:∀t∈x.rd,F t=F' t):x.ev G F=x.ev G F':=by
 cases x with
 | t n=>exact h n (by simp[a6.rd])
 | _=>rfl
theorem vQ {F F':Nat->J} {xs:List a6} (h:∀t∈xs.flatMap a6.rd,F t=F' t):xs.map (a6.ev G F)=xs.map (a6.ev G F'):=by
 apply List.map_congr_left
 intro x ae
 exact a6.e4 fun t aY=>h t (List.mem_flatMap.2 ⟨x,ae,aY⟩)
theorem G6 {F F':Nat->J}:∀ {ps:List (Nat × Nat × a6)} {cs:List J},(∀t∈ps.flatMap (fun p=>p.2.2.rd),F t=F' t)->eZ cs (a6.ev G F) ps=eZ cs (a6.ev G F') ps
 | [],cs,_=>rfl
 | (off,sz,x)::ps,cs,h=>by
   have ae:x.ev G F=x.ev G F':=a6.e4 fun t aY=>h t (by simp[aY])
   simp only[eZ,ae]
   rw[G6 (ps:=ps) fun t aY=>h t (by simp only[List.flatMap_cons,List.mem_append];exact .inr aY)]
theorem G7 {F F':Nat->J} {sz:Nat}:∀ {ps:List (Nat × a6)} {es:List J},(∀t∈ps.flatMap (fun p=>p.2.rd),F t=F' t)->e0 sz es (a6.ev G F) ps=e0 sz es (a6.ev G F') ps
 | [],es,_=>rfl
 | (i,x)::ps,es,h=>by
   have ae:x.ev G F=x.ev G F':=a6.e4 fun t aY=>h t (by simp[aY])
   simp only[e0,ae]
   rw[G7 (ps:=ps) fun t aY=>h t (by simp only[List.flatMap_cons,List.mem_append];exact .inr aY)]
theorem BN {F F':Nat->J} {d:Nat} {x:Option a6} (h:∀t∈a6.xB x,F t=F' t):bound d (a6.ev G F) x=bound d (a6.ev G F') x:=by
 cases x with
 | none=>rfl
 | some x=>simp only[bound];rw[a6.e4 (G:=G) (F:=F) (F':=F') (x:=x) h]
theorem P4 {F F':Nat->J} {bb r:Nat} {h:af} {op:j7} (bA:∀t∈op.reads,F t=F' t):evalOp bb r (a6.ev G F) h op=evalOp bb r (a6.ev G F') h op:=by
 cases op<;>simp only[evalOp,j7.reads,List.mem_append] at bA|-
 case mv x=>rw[a6.e4 bA]
 case pick c a b=>
  rw[a6.e4 (x:=c) fun t aY=>bA t (.inl (.inl aY)),a6.e4 (x:=a) fun t aY=>bA t (.inl (.inr aY)),a6.e4 (x:=b) fun t aY=>bA t (.inr aY)]
 case box x=>rw[a6.e4 bA]
 case build z ps=>rw[G6 bA]
 case bsl sz z n ps=>rw[G7 bA]
 case load bZ sz x=>rw[a6.e4 bA]
 case store sz x y=>rw[a6.e4 (x:=x) fun t aY=>bA t (.inl aY),a6.e4 (x:=y) fun t aY=>bA t (.inr aY)]
 case bin ty op x y=>rw[a6.e4 (x:=x) fun t aY=>bA t (.inl aY),a6.e4 (x:=y) fun t aY=>bA t (.inr aY)]
 case eqA tJ n x y=>rw[a6.e4 (x:=x) fun t aY=>bA t (.inl aY),a6.e4 (x:=y) fun t aY=>bA t (.inr aY)]
 case un op x=>rw[a6.e4 bA]
 case conv k x=>rw[a6.e4 bA]
 case mkfn f a b=>rw[vQ (xs:=a) fun t aY=>bA t (.inl aY),vQ (xs:=b) fun t aY=>bA t (.inr aY)]
 case mksl z sz tK x y=>rw[a6.e4 (x:=x) fun t aY=>bA t (.inl aY),a6.e4 (x:=y) fun t aY=>bA t (.inr aY)]
 case slice sz x cu ab j8=>
  rw[a6.e4 (x:=x) fun t aY=>bA t (.inl (.inl (.inl aY)))]
  simp only[BN (x:=cu) fun t aY=>bA t (.inl (.inl (.inr aY))),BN (x:=ab) fun t aY=>bA t (.inl (.inr aY)),BN (x:=j8) fun t aY=>bA t (.inr aY)]
 case faddr bZ off sz x=>rw[a6.e4 bA]
 case field bZ off sz x=>rw[a6.e4 bA]
 case iaddrS sz x y=>rw[a6.e4 (x:=x) fun t aY=>bA t (.inl aY),a6.e4 (x:=y) fun t aY=>bA t (.inr aY)]
 case iaddrA bZ n sz x y=>rw[a6.e4 (x:=x) fun t aY=>bA t (.inl aY),a6.e4 (x:=y) fun t aY=>bA t (.inr aY)]
 case idxA bZ n sz x y=>rw[a6.e4 (x:=x) fun t aY=>bA t (.inl aY),a6.e4 (x:=y) fun t aY=>bA t (.inr aY)]
 case idxS x y=>rw[a6.e4 (x:=x) fun t aY=>bA t (.inl aY),a6.e4 (x:=y) fun t aY=>bA t (.inr aY)]
 case extract x i=>rw[a6.e4 bA]
 case len s x=>rw[a6.e4 bA]
 case mlook x y=>rw[a6.e4 (x:=x) fun t aY=>bA t (.inl aY),a6.e4 (x:=y) fun t aY=>bA t (.inr aY)]
 case isnil tJ x=>rw[a6.e4 bA]
 case app sz tK x y=>rw[a6.e4 (x:=x) fun t aY=>bA t (.inl aY),a6.e4 (x:=y) fun t aY=>bA t (.inr aY)]
 case min xs=>rw[vQ bA]
 case max xs=>rw[vQ bA]
def BO (bb r:Nat) (bh:a6->J) (h:af) (op:j7) (v:J) (h':af):dV->Prop
 | .pure=>h'=h/\∀h2,evalOp bb r bh h2 op=some (v,h2,.pure)
 | .fs=>∃blk,h'=h.new r blk/\∀h2,evalOp bb r bh h2 op=some (v,h2.new r blk,.fs)
 | .rd=>h'=h/\∀h2:af,(∀id,id<bb->h2.cells id=h.cells id)->evalOp bb r bh h2 op=some (v,h2,.rd)
 | .wr=>True
 | .jD id=>h'=h/\id<bb/\∀h2:af,h2.cells id=h.cells id->evalOp bb r bh h2 op=some (v,h2,.jD id)
 | .lh _=>False
theorem iQ {bb r:Nat} {bh:a6->J} {h h':af} {op:j7} {v:J} {c:dV} (X:Option J) (cM:∀h2,evalOp bb r bh h2 op=X.map fun v=>(v,h2,.pure))
 (he:evalOp bb r bh h op=some (v,h',c)):(h'.next,h'.a7)=(h.next,h.a7)/\BO bb r bh h op v h' c:=by
 rw[cM] at he
 obtain⟨u,hu,he⟩:=Option.map_eq_some_iff.1 he
 cases he
 exact ⟨rfl,rfl,fun h2=>by rw[cM,hu];rfl⟩
theorem BP {bb r:Nat} {bh:a6->J} {h h':af} {op:j7} {v:J} {c:dV} (X:Option (J × List J)) (cM:∀h2,evalOp bb r bh h2 op=X.map fun p=>(p.1,af.new h2 r p.2,.fs))
 (he:evalOp bb r bh h op=some (v,h',c)):(h'.next,h'.a7)=(h.next,h.a7)/\BO bb r bh h op v h' c:=by
 rw[cM] at he
 obtain⟨u,hu,he⟩:=Option.map_eq_some_iff.1 he
 cases he
 exact ⟨rfl,u.2,rfl,fun h2=>by rw[cM,hu];rfl⟩
theorem tL {bb r:Nat} {bh:a6->J} {h h':af} {op:j7} {v:J} {c:dV} (he:evalOp bb r bh h op=some (v,h',c)):
 (h'.next,h'.a7)=(h.next,h.a7)/\BO bb r bh h op v h' c:=by
 cases op
 case mv x=>exact iQ (some (bh x)) (fun h2=>rfl) he
 case pick c a b=>
  cases I:bh c<;>first
   | (simp only[evalOp,I] at he;cases he;done)
   | (rename_i t;exact iQ (some (if t then bh a else bh b)) (fun h2=>by simp only[evalOp,I];rfl) he)
 case alloc z=>exact BP (some (.ptr r 0 0,[z])) (fun h2=>rfl) he
 case box x=>
  by_cases aE:(bh x).cells.all J.ch=true
  · exact BP (some (.ptr r 0 0,[bh x])) (fun h2=>by simp only[evalOp,if_pos aE];rfl) he
  · simp only[evalOp,if_neg aE] at he;cases he
 case build z ps=>exact iQ ((eZ z bh ps).map J.agg) (fun h2=>by simp only[evalOp,Option.map_map];rfl) he
 case bsl sz z n ps=>
  by_cases aE:z.cells.length=sz/\0<sz/\z.dJ=true
  · exact iQ ((e0 sz (List.replicate n z) bh ps).map fun es=> .sl es true) (fun h2=>by simp only[evalOp,if_pos aE,Option.map_map];rfl) he
  · simp only[evalOp,if_neg aE] at he;cases he
 case load bZ sz x=>
  cases ae:bh x<;>first
   | (simp only[evalOp,ae] at he;cases he;done)
   | skip
  · rename_i id idx cQ
    simp only[evalOp,ae] at he
    obtain⟨blk,U,he⟩:=Option.bind_eq_some_iff.1 he
    obtain⟨e,h2,he⟩:=Option.bind_eq_some_iff.1 he
    obtain⟨cs,aN,he⟩:=Option.bind_eq_some_iff.1 he
    obtain⟨u,a8,he⟩:=Option.map_eq_some_iff.1 he
    cases he
    refine⟨rfl,?_⟩
    by_cases bC:id<bb
    · rw[if_pos bC]
      refine⟨rfl,bC,fun cS dG=>?_⟩
      simp only[evalOp,ae,dG,U,Option.bind_some,h2,aN,a8,if_pos bC];rfl
    · rw[if_neg bC];trivial
  · rename_i u
    exact iQ ((cut u.cells 0 sz).bind (partOf bZ)) (fun h2=>by
     simp only[evalOp,ae]
     cases cut u.cells 0 sz<;>simp) he
 case store sz a w=>
  simp only[evalOp] at he
  split at he
  · split at he<;>try(cases he;done)
    obtain⟨blk,U,he⟩:=Option.bind_eq_some_iff.1 he
    obtain⟨e,h2,he⟩:=Option.bind_eq_some_iff.1 he
    split at he<;>try(cases he;done)
    split at he
    · cases he;exact ⟨rfl,trivial⟩
    · split at he
      · cases he;exact ⟨rfl,trivial⟩
      · cases he
  · cases he
 case bin ty op x y=>exact iQ (ft ty op (bh x) (bh y)) (fun h2=>rfl) he
 case mlook x y=>
  cases ae:bh x<;>first
   | (simp only[evalOp,ae] at he;cases he;done)
   | skip
  rename_i m
  cases a2:bh y<;>first
   | (simp only[evalOp,ae,a2] at he;cases he;done)
   | skip
  rename_i k n
  cases k<;>first
   | (simp only[evalOp,ae,a2] at he;cases he;done)
   | (exact iQ (some (.bD [match m.lookup n with
       | some f=> .fn f [] []
       | none=> .nilfn,.bool (m.lookup n).isSome])) (fun h2=>by simp only[evalOp,ae,a2];rfl) he)
 case isnil tJ x=>
  cases ae:bh x<;>first
   | (simp only[evalOp,ae] at he;cases he;done)
   | skip
  · rename_i xs ex
    exact iQ (if 0<xs.length then some (.bool tJ) else none) (fun h2=>by simp only[evalOp,ae];split<;>rfl) he
  · rename_i id off len cap
    exact iQ (if 0<len\/0<cap then some (.bool tJ) else none) (fun h2=>by simp only[evalOp,ae];split<;>rfl) he
 case eqA tJ n x y=>
  cases ae:bh x<;>first
   | (simp only[evalOp,ae] at he;cases he;done)
   | skip
  cases a2:bh y<;>first
   | (simp only[evalOp,ae,a2] at he;cases he;done)
   | skip
  rename_i xs ys
  by_cases az:xs.length=n
  · exact iQ ((eY xs ys).map fun b=> .bool (b != tJ)) (fun h2=>by simp only[evalOp,ae,a2,if_pos az,Option.map_map];rfl) he
  · simp only[evalOp,ae,a2,if_neg az] at he;cases he
 case un op x=>exact iQ (fu op (bh x)) (fun h2=>rfl) he
 case conv k x=>
  cases ae:bh x<;>first
   | (simp only[evalOp,ae] at he;cases he;done)
   | (rename_i k' n;exact iQ (some (.int k (k.wrap n))) (fun h2=>by simp only[evalOp,ae];rfl) he)
 case mkfn f a b=>exact iQ (some (.fn f (a.map bh) (b.map bh))) (fun h2=>rfl) he
 case mksl z sz bytes l c=>
  cases ae:bh l<;>first
   | (simp only[evalOp,ae] at he;cases he;done)
   | skip
  cases a2:bh c<;>first
   | (simp only[evalOp,ae,a2] at he;cases he;done)
   | skip
  rename_i k a k' b
  by_cases az:0<=a/\a<=b/\b*bytes<=140737488355328/\0<bytes/\z.cells.length=sz/\0<sz/\(z.cells.all J.ch)=true
  · exact BP (some (.ref r 0 a.toNat b.toNat,List.replicate b.toNat z)) (fun h2=>by simp only[evalOp,ae,a2,if_pos az];rfl) he
  · simp only[evalOp,ae,a2,if_neg az] at he;cases he
 case slice sz x cu ab j8=>
  cases ae:bh x<;>first
   | (simp only[evalOp,ae] at he;cases he;done)
   | skip
  · rename_i xs ex
    refine iQ (match bound 0 bh cu,bound xs.length bh ab,bound xs.length bh j8 with
     | some l,some u,some m=>if l<=u/\u<=m/\m<=xs.length/\(l=0\/(xs.all fun e=>e.cells.length == sz)=true) then some (.sl ((xs.drop l).take (u - l)) ((j8.isSome||ex)&&m == u)) else none
     | _,_,_=>none) (fun h2=>?_) he
    simp only[evalOp,ae]
    cases bound 0 bh cu<;>cases bound xs.length bh ab<;>cases bound xs.length bh j8<;>simp only[Option.map_none]
    split<;>rfl
  · rename_i id off len cap
    simp only[evalOp,ae] at he
    split at he<;>try(cases he;done)
    rename_i l u m b1 ej kQ
    split at he<;>try(cases he;done)
    rename_i aT
    cases he
    refine⟨rfl,?_⟩
    by_cases bC:id<bb
    · rw[if_pos bC]
      refine⟨rfl,fun cS dG=>?_⟩
      simp only[evalOp,ae,b1,ej,kQ,dG id bC,if_pos aT,if_pos bC]
    · rw[if_neg bC];trivial
 case faddr bZ off sz x=>
  cases ae:bh x<;>first
   | (simp only[evalOp,ae] at he;cases he;done)
   | skip
  · rename_i id idx cQ
    exact iQ (some (.ptr id idx (cQ+off))) (fun h2=>by simp only[evalOp,ae];rfl) he
  · rename_i u
    exact iQ (((cut u.cells off sz).bind (partOf bZ)).map J.eV) (fun h2=>by
     simp only[evalOp,ae]
     cases cut u.cells off sz<;>simp[Function.comp_def]) he
 case field bZ off sz x=>
  cases ae:bh x<;>first
   | (simp only[evalOp,ae] at he;cases he;done)
   | skip
  rename_i cs
  exact iQ ((cut cs off sz).bind (partOf bZ)) (fun h2=>by
   simp only[evalOp,ae]
   cases cut cs off sz<;>simp) he
 case iaddrS sz x i=>
  cases ae:bh x<;>first
   | (simp only[evalOp,ae] at he;cases he;done)
   | skip
  · cases a2:bh i<;>first
     | (simp only[evalOp,ae,a2] at he;cases he;done)
     | skip
    rename_i xs ex k n
    refine iQ (if 0<=n then (xs[n.toNat]?).bind fun e=>if e.cells.length=sz then some (.eV e) else none else none) (fun h2=>?_) he
    simp only[evalOp,ae,a2]
    split
    · cases xs[n.toNat]? with
      | none=>rfl
      | some e=>simp only[Option.bind_some];split<;>rfl
    · rfl
  · cases a2:bh i<;>first
     | (simp only[evalOp,ae,a2] at he;cases he;done)
     | skip
    rename_i id off len cap k n
    simp only[evalOp,ae,a2] at he
    split at he<;>try(cases he;done)
    rename_i aT
    cases he
    refine⟨rfl,?_⟩
    by_cases bC:id<bb
    · rw[if_pos bC]
      refine⟨rfl,fun cS dG=>?_⟩
      simp only[evalOp,ae,a2,dG id bC,if_pos aT,if_pos bC]
    · rw[if_neg bC];trivial
 case iaddrA bZ n sz x i=>
  cases ae:bh x<;>first
   | (simp only[evalOp,ae] at he;cases he;done)
   | skip
  · cases a2:bh i<;>first
     | (simp only[evalOp,ae,a2] at he;cases he;done)
     | skip
    rename_i id idx cQ k j
    refine iQ (if 0<=j/\j<n then some (.ptr id idx (cQ+j.toNat*sz)) else none) (fun h2=>?_) he
    simp only[evalOp,ae,a2]
    split<;>rfl
  · cases a2:bh i<;>first
     | (simp only[evalOp,ae,a2] at he;cases he;done)
     | skip
    rename_i u k j
    refine iQ (if 0<=j/\j<n then ((cut u.cells (j.toNat*sz) sz).bind (partOf bZ)).map J.eV else none) (fun h2=>?_) he
    simp only[evalOp,ae,a2]
    split
    · cases cut u.cells (j.toNat*sz) sz<;>simp[Function.comp_def]
    · rfl
 case idxA bZ n sz x i=>
  cases ae:bh x<;>first
   | (simp only[evalOp,ae] at he;cases he;done)
   | skip
  cases a2:bh i<;>first
   | (simp only[evalOp,ae,a2] at he;cases he;done)
   | skip
  rename_i cs k j
  refine iQ (if 0<=j/\j<n then (cut cs (j.toNat*sz) sz).bind (partOf bZ) else none) (fun h2=>?_) he
  simp only[evalOp,ae,a2]
  split
  · cases cut cs (j.toNat*sz) sz<;>simp
  · rfl
 case idxS x i=>
  cases ae:bh x<;>first
   | (simp only[evalOp,ae] at he;cases he;done)
   | skip
  cases a2:bh i<;>first
   | (simp only[evalOp,ae,a2] at he;cases he;done)
   | skip
  rename_i s k j
  refine iQ (if 0<=j then (s[j.toNat]?).map fun b=> .int .u8 b.toNat else none) (fun h2=>?_) he
  simp only[evalOp,ae,a2]
  split
  · simp[Option.map_map,Function.comp_def]
  · rfl
 case extract x i=>
  cases ae:bh x<;>first
   | (simp only[evalOp,ae] at he;cases he;done)
   | skip
  rename_i vs
  exact iQ (vs[i]?) (fun h2=>by simp only[evalOp,ae]) he
 case call f as=>simp only[evalOp] at he;cases he
 case len s x=>
  cases ae:bh x<;>first
   | (simp only[evalOp,ae] at he;cases he;done)
   | skip
  · rename_i st
    refine iQ (if s=true then some (.int .i64 st.size) else none) (fun h2=>?_) he
    simp only[evalOp,ae];split<;>rfl
  · rename_i xs ex
    refine iQ (if s=false then some (.int .i64 xs.length) else none) (fun h2=>?_) he
    simp only[evalOp,ae];split<;>rfl
  · rename_i id off len cap
    refine iQ (if s=false then some (.int .i64 len) else none) (fun h2=>?_) he
    simp only[evalOp,ae];split<;>rfl
 case app sz bytes x y=>
  simp only[evalOp] at he
  obtain⟨ys,U,he⟩:=Option.bind_eq_some_iff.1 he
  split at he<;>try(cases he;done)
  rename_i aT
  split at he
  · rename_i xs ex ae
    split at he
    · rename_i jW
      cases he
      refine⟨rfl,?_⟩
      cases a2:bh y<;>simp only[kg]<;>try trivial
      refine⟨rfl,fun h2=>?_⟩
      rw[a2] at U
      simp only[elems] at U
      cases U
      simp only[evalOp,a2,elems,Option.bind_some,if_pos aT,ae,if_pos jW,kg,if_true]
    rename_i jW
    split at he<;>try(cases he;done)
    rename_i qK
    cases he
    refine⟨rfl,?_⟩
    cases a2:bh y<;>simp only[kg]<;>try trivial
    refine⟨_,rfl,fun h2=>?_⟩
    rw[a2] at U
    simp only[elems] at U
    cases U
    simp only[evalOp,a2,elems,Option.bind_some,if_pos aT,ae,if_neg jW,if_pos qK,kg,if_true]
  · rename_i id off len cap ae
    split at he
    · rename_i jW
      cases he
      refine⟨rfl,?_⟩
      cases a2:bh y<;>simp only[kg]<;>try trivial
      refine⟨rfl,fun h2=>?_⟩
      rw[a2] at U
      simp only[elems] at U
      cases U
      simp only[evalOp,a2,elems,Option.bind_some,if_pos aT,ae,if_pos jW,kg,if_true]
    split at he<;>try(cases he;done)
    obtain⟨blk,h2,he⟩:=Option.bind_eq_some_iff.1 he
    split at he<;>try(cases he;done)
    split at he
    · split at he<;>try(cases he;done)
      cases he;exact ⟨rfl,trivial⟩
    · split at he<;>try(cases he;done)
      cases he;exact ⟨rfl,trivial⟩
  · cases he
 case min xs=>exact iQ (jm (fun a b=>if b<a then b else a) (xs.map bh)) (fun h2=>rfl) he
 case max xs=>exact iQ (jm (fun a b=>if a<b then b else a) (xs.map bh)) (fun h2=>rfl) he
end
end Go.Eng
namespace Go.Eng
open Go Go.RowKit
theorem G8 {h h2:af} {v u:J} {ids:List Nat} (aL:dE h v=some (u,ids)) (I:∀id∈ids,h2.cells id=h.cells id):dE h2 v=some (u,ids):=by
 cases v<;>simp only[dE] at aL|- <;>try(first|exact aL|cases aL)
 rename_i id off len cap
 split at aL<;>try(cases aL;done)
 rename_i blk aa
 split at aL<;>try(cases aL;done)
 rename_i aT
 cases aL
 rw[I id (by simp),aa]
 simp only[if_pos aT]
theorem G9 {h h2:af}:∀ {vs us:List J} {ids:List Nat},ey h vs=some (us,ids)->(∀id∈ids,h2.cells id=h.cells id)->ey h2 vs=some (us,ids)
 | [],us,ids,aL,_=>by simp only[ey] at aL|-;exact aL
 | v::vs,us,ids,aL,I=>by
   simp only[ey] at aL|-
   split at aL<;>try(cases aL;done)
   rename_i j_ a mu b U sa
   cases aL
   rw[G8 U fun id bC=>I id (by simp[bC]),G9 sa fun id bC=>I id (by simp[bC])]
theorem P5 {h h2:af} {v u:J} {ids:List Nat} (aL:iu h v=some (u,ids)) (I:∀id∈ids,h2.cells id=h.cells id):iu h2 v=some (u,ids):=by
 cases v<;>simp only[iu] at aL|- <;>try(exact G8 aL I)
 obtain⟨p,U,he⟩:=Option.map_eq_some_iff.1 aL
 cases he
 rw[G9 U I];rfl
theorem x5 {h h2:af}:∀ {vs us:List J} {ids:List Nat},eh h vs=some (us,ids)->(∀id∈ids,h2.cells id=h.cells id)->eh h2 vs=some (us,ids)
 | [],us,ids,aL,_=>by simp only[eh] at aL|-;exact aL
 | v::vs,us,ids,aL,I=>by
   simp only[eh] at aL|-
   split at aL<;>try(cases aL;done)
   rename_i j_ a mu b U sa
   cases aL
   rw[P5 U fun id bC=>I id (by simp[bC]),x5 sa fun id bC=>I id (by simp[bC])]
theorem tM (h:af) {bJ dh:Nat} (b1 ej:List J) (bV:bJ≠dh):(h.new bJ b1).new dh ej=(h.new dh ej).new bJ b1:=by
 simp only[af.new,af.mk.injEq,and_true]
 funext t
 simp only[aw]
 by_cases U:t=bJ<;>by_cases h2:t=dh<;>simp_all
theorem oy (h:af) {r id:Nat} (b:List J) (bV:id≠r):(h.new r b).cells id=h.cells id:=by
 simp only[af.new,aw,if_neg bV]
theorem P6 {bb q:Nat} {bh:a6->J} {h h':af} {op:j7} {v:J} {c:dV} {r:Nat} {blk:List J} (he:evalOp bb q bh h op=some (v,h',c)) (az:h.cells r=none) (oz:r≠q):
 evalOp bb q bh (h.new r blk) op=some (v,h'.new r blk,c)/\h'.cells r=none:=by
 have bV:∀ {id b},h.cells id=some b->id≠r:=by rintro id b aa rfl;rw[az] at aa;cases aa
 have pB:∀ {id b},h.cells id=some b->(h.new r blk).cells id=some b:=fun aa=>by rw[oy _ _ (bV aa)];exact aa
 have df:∀ {sz id},sizedB sz (h.cells id)=true->sizedB sz ((h.new r blk).cells id)=true:=fun {sz id} aE=>by
  cases aa:h.cells id with
  | none=>rw[aa] at aE;cases aE
  | some b=>rw[pB aa,<-aa];exact aE
 have kP:∀ {y ys},elems h y=some ys->elems (h.new r blk) y=some ys:=fun {y ys} a2=>by
  cases y<;>simp only[elems] at a2|- <;>try(first|exact a2|cases a2)
  split at a2<;>try(cases a2;done)
  rename_i b aa
  rw[pB aa];exact a2
 obtain⟨_,E⟩:=tL he
 have pu:c= .pure->evalOp bb q bh (h.new r blk) op=some (v,h'.new r blk,c)/\h'.cells r=none:=by
  rintro rfl
  obtain⟨rfl,ax⟩:=E
  exact ⟨ax _,az⟩
 have fs:c= .fs->evalOp bb q bh (h.new r blk) op=some (v,h'.new r blk,c)/\h'.cells r=none:=by
  rintro rfl
  obtain⟨ej,rfl,ax⟩:=E
  exact ⟨by rw[ax,tM _ _ _ oz],by rw[oy _ _ oz];exact az⟩
 clear E
 cases op
 case load bZ sz x=>
  cases ae:bh x<;>(try(simp only[evalOp,ae] at he;cases he;done))
  · rename_i id idx cQ
    simp only[evalOp,ae] at he|-
    obtain⟨b,aa,he⟩:=Option.bind_eq_some_iff.1 he
    obtain⟨e,U,he⟩:=Option.bind_eq_some_iff.1 he
    obtain⟨cs,h2,he⟩:=Option.bind_eq_some_iff.1 he
    obtain⟨u,aN,he⟩:=Option.map_eq_some_iff.1 he
    cases he
    exact ⟨by simp only[pB aa,Option.bind_some,U,h2,aN,Option.map_some],az⟩
  · refine pu ?_
    simp only[evalOp,ae] at he
    obtain⟨cs,h2,he⟩:=Option.bind_eq_some_iff.1 he
    obtain⟨u,aN,he⟩:=Option.map_eq_some_iff.1 he
    cases he;rfl
 case store sz a x=>
  cases ae:bh a<;>(try(simp only[evalOp,ae] at he;cases he;done))
  rename_i id idx cQ
  simp only[evalOp,ae] at he|-
  split at he<;>try(cases he;done)
  rename_i aE
  obtain⟨b,aa,he⟩:=Option.bind_eq_some_iff.1 he
  obtain⟨e,U,he⟩:=Option.bind_eq_some_iff.1 he
  have qL:=bV aa
  split at he<;>try(cases he;done)
  rename_i aT
  rw[if_neg (show ¬(h.new r blk).shut id=true from aE),pB aa]
  simp only[Option.bind_some,U,if_pos aT]
  split at he
  · cases he
    exact ⟨by rw[tM _ _ _ (Ne.symm qL)],by rw[oy _ _ (Ne.symm qL)];exact az⟩
  · split at he<;>try(cases he;done)
    cases he
    exact ⟨by rw[tM _ _ _ (Ne.symm qL)],by rw[oy _ _ (Ne.symm qL)];exact az⟩
 case slice sz x cu ab j8=>
  cases ae:bh x<;>(try(simp only[evalOp,ae] at he;cases he;done))
  · refine pu ?_
    simp only[evalOp,ae] at he
    split at he<;>try(cases he;done)
    split at he<;>try(cases he;done)
    cases he;rfl
  · rename_i id off len cap
    simp only[evalOp,ae] at he|-
    split at he<;>try(cases he;done)
    split at he<;>try(cases he;done)
    rename_i aT
    cases he
    rw[if_pos ⟨aT.1,aT.2.1,aT.2.2.1,aT.2.2.2.imp (fun h=>h) df⟩]
    exact ⟨rfl,az⟩
 case iaddrS sz x i=>
  cases ae:bh x<;>(try(simp only[evalOp,ae] at he;cases he;done))
  · refine pu ?_
    cases ab:bh i<;>(try(simp only[evalOp,ae,ab] at he;cases he;done))
    simp only[evalOp,ae,ab] at he
    split at he<;>try(cases he;done)
    obtain⟨e,U,he⟩:=Option.bind_eq_some_iff.1 he
    split at he<;>try(cases he;done)
    cases he;rfl
  · rename_i id off len cap
    cases ab:bh i<;>(try(simp only[evalOp,ae,ab] at he;cases he;done))
    simp only[evalOp,ae,ab] at he|-
    split at he<;>try(cases he;done)
    rename_i aT
    cases he
    rw[if_pos ⟨aT.1,aT.2.1,df aT.2.2⟩]
    exact ⟨rfl,az⟩
 case app sz bytes x y=>
  simp only[evalOp] at he|-
  obtain⟨ys,a2,he⟩:=Option.bind_eq_some_iff.1 he
  simp only[kP a2,Option.bind_some]
  split at he<;>try(cases he;done)
  rename_i aT
  rw[if_pos aT]
  cases ae:bh x<;>(try(simp only[ae] at he;cases he;done))
  · simp only[ae] at he|-
    split at he
    · rename_i aQ
      cases he
      rw[if_pos aQ];exact ⟨rfl,az⟩
    · rename_i aQ
      split at he<;>try(cases he;done)
      rename_i U
      cases he
      rw[if_neg aQ,if_pos U]
      exact ⟨by rw[tM _ _ _ oz],by rw[oy _ _ oz];exact az⟩
  · rename_i id off len cap
    simp only[ae] at he|-
    split at he
    · rename_i aQ
      cases he
      rw[if_pos aQ];exact ⟨rfl,az⟩
    · rename_i aQ
      split at he<;>try(cases he;done)
      rename_i aE
      obtain⟨b,aa,he⟩:=Option.bind_eq_some_iff.1 he
      have qL:=bV aa
      rw[if_neg aQ,if_neg (show ¬(h.new r blk).shut id=true from aE),pB aa]
      simp only[Option.bind_some]
      split at he<;>try(cases he;done)
      rename_i U
      rw[if_pos U]
      split at he
      · rename_i h2
        rw[if_pos h2]
        split at he<;>try(cases he;done)
        rename_i aN
        cases he
        rw[if_pos aN]
        exact ⟨by rw[tM _ _ _ (Ne.symm qL)],by rw[oy _ _ (Ne.symm qL)];exact az⟩
      · rename_i h2
        rw[if_neg h2]
        split at he<;>try(cases he;done)
        rename_i aN
        cases he
        rw[if_pos aN]
        refine⟨?_,by simp only[aw];rw[if_neg oz,if_neg (Ne.symm qL)];exact az⟩
        simp only[af.new,Option.some.injEq,Prod.mk.injEq,af.mk.injEq,and_true,true_and]
        funext t
        simp only[aw]
        by_cases t1:t=r<;>by_cases t2:t=id<;>by_cases t3:t=q<;>simp_all
 all_goals
  cases c with
  | pure=>exact pu rfl
  | fs=>exact fs rfl
  | _=>
    exfalso
    simp only[evalOp] at he
    repeat' split at he
    all_goals first
     | (cases he;done)
     | (obtain⟨_,_,he⟩:=Option.map_eq_some_iff.1 he;cases he;done)
     | (obtain⟨_,_,he⟩:=Option.bind_eq_some_iff.1 he;obtain⟨_,_,he⟩:=Option.map_eq_some_iff.1 he;cases he;done)
     | (obtain⟨_,_,he⟩:=Option.bind_eq_some_iff.1 he;split at he<;>cases he;done)
theorem G_ {h:af} {v u:J} {ids:List Nat} (aL:dE h v=some (u,ids)):∀id∈ids,∃b,h.cells id=some b:=by
 cases v<;>simp only[dE] at aL<;>try(first|(cases aL;done)|(cases aL;intro id bC;cases bC;done))
 split at aL<;>try(cases aL;done)
 rename_i b aa
 split at aL<;>try(cases aL;done)
 cases aL
 intro id bC
 rw[List.mem_singleton] at bC
 subst bC
 exact ⟨b,aa⟩
theorem G' {h:af}:∀ {vs us:List J} {ids:List Nat},ey h vs=some (us,ids)->∀id∈ids,∃b,h.cells id=some b
 | [],us,ids,aL=>by simp only[ey] at aL;cases aL;intro id bC;cases bC
 | v::vs,us,ids,aL=>by
   simp only[ey] at aL
   split at aL<;>try(cases aL;done)
   rename_i j_ a mu b U sa
   cases aL
   intro id bC
   rcases List.mem_append.1 bC with bC|bC
   · exact G_ U id bC
   · exact G' sa id bC
theorem P7 {h:af} {v u:J} {ids:List Nat} (aL:iu h v=some (u,ids)):∀id∈ids,∃b,h.cells id=some b:=by
 cases v<;>simp only[iu] at aL<;>try(exact G_ aL)
 obtain⟨p,U,he⟩:=Option.map_eq_some_iff.1 aL
 cases he
 exact G' U
theorem Ha {h:af}:∀ {vs us:List J} {ids:List Nat},eh h vs=some (us,ids)->∀id∈ids,∃b,h.cells id=some b
 | [],us,ids,aL=>by simp only[eh] at aL;cases aL;intro id bC;cases bC
 | v::vs,us,ids,aL=>by
   simp only[eh] at aL
   split at aL<;>try(cases aL;done)
   rename_i j_ a mu b U sa
   cases aL
   intro id bC
   rcases List.mem_append.1 bC with bC|bC
   · exact P7 U id bC
   · exact Ha sa id bC
theorem P8 {h:af} {vs us:List J} {ids:List Nat} {r:Nat} {blk:List J} (aL:eh h vs=some (us,ids)) (az:h.cells r=none):eh (h.new r blk) vs=some (us,ids):=
 x5 aL fun id bC=>oy _ _ (by
  rintro rfl
  obtain⟨b,aa⟩:=Ha aL _ bC
  rw[az] at aa;cases aa)
def qM (cl:kO->List J->af->Option (J × af)):Prop:=
 ∀t args h v h' r blk,cl t args h=some (v,h')->h.cells r=none->r<h.next->cl t args (h.new r blk)=some (v,h'.new r blk)/\h'.cells r=none/\h.next<=h'.next
theorem P9 {bb:Nat} {h h':af} {r:Nat} {blk:List J} (az:h.cells r=none) (oA:h'.cells r=none):qx bb (h.new r blk) (h'.new r blk)=qx bb h h':=by
 funext id
 simp only[qx]
 by_cases e:id=r
 · subst e
   simp only[af.new,aw,if_true,az,oA,xD]
 · rw[oy _ _ e,oy _ _ e]
theorem Hb {G:Nat->Option J} {tab:FuncId->Option (List J->Option J)} {cl:kO->List J->af->Option (J × af)} (bw:qM cl) {bb q:Nat} {e:a_} {s aj:aW} {c:dV} {r:Nat} {blk:List J}
 (he:c4 G tab cl bb q e s=some (aj,c)) (az:s.h.cells r=none) (aU:r<s.h.next) (oz:r≠q):
 c4 G tab cl bb q e ⟨s.F,s.h.new r blk⟩=some (⟨aj.F,aj.h.new r blk⟩,c)/\aj.h.cells r=none/\s.h.next<=aj.h.next:=by
 unfold c4 at he|-
 split at he
 · split at he
   · split at he
     · split at he<;>try(cases he;done)
       rename_i vs ids aL
       obtain⟨v,aF,he⟩:=Option.map_eq_some_iff.1 he
       cases he
       simp_all only
       refine⟨?_,az,Nat.le_refl _⟩
       simp only[P8 aL az,aF,Option.map_some]
       rfl
     · obtain⟨p,aF,he⟩:=Option.map_eq_some_iff.1 he
       obtain⟨v,h'⟩:=p
       cases he
       obtain⟨bL,cj,dd⟩:=bw _ _ _ _ _ r blk aF az aU
       simp_all only
       refine⟨?_,by first|exact cj|trivial,by first|exact dd|trivial⟩
       simp only[bL,Option.map_some,P9 az cj]
   · obtain⟨p,aF,he⟩:=Option.map_eq_some_iff.1 he
     obtain⟨v,h'⟩:=p
     cases he
     obtain⟨bL,cj,dd⟩:=bw _ _ _ _ _ r blk aF az aU
     simp_all only
     exact ⟨by simp only[bL,Option.map_some],by first|exact cj|trivial,by first|exact dd|trivial⟩
   · cases he
 · obtain⟨p,aF,he⟩:=Option.map_eq_some_iff.1 he
   obtain⟨v,h',c'⟩:=p
   cases he
   obtain⟨bL,cj⟩:=P6 (blk:=blk) aF az oz
   have dd:=(tL aF).1
   simp only[Prod.mk.injEq] at dd
   exact ⟨by simp only[bL,Option.map_some],cj,by simp only[dd.1];exact Nat.le_refl _⟩
theorem BQ {G:Nat->Option J} {tab:FuncId->Option (List J->Option J)} {cl:kO->List J->af->Option (J × af)} (bw:qM cl) {bb q:Nat} {e:a_} {s aj:aW} {c:dV} {r:Nat} {blk:List J}
 (he:cE G tab cl bb q e s=some (aj,c)) (az:s.h.cells r=none) (aU:r<s.h.next) (oz:r≠q):
 cE G tab cl bb q e ⟨s.F,s.h.new r blk⟩=some (⟨aj.F,aj.h.new r blk⟩,c)/\aj.h.cells r=none/\s.h.next<=aj.h.next:=by
 unfold cE at he|-
 split at he
 · exact Hb bw he az aU oz
 · split at he
   · rename_i b aa
     split at he
     · rename_i hw
       simp only[aa,if_pos hw]
       exact Hb bw he az aU oz
     · rename_i hw
       cases he
       simp only[aa,if_neg hw]
       exact ⟨by first|rfl|trivial,az,Nat.le_refl _⟩
   · rename_i aa
     cases he
     simp only[aa]
     exact ⟨by first|rfl|trivial,az,Nat.le_refl _⟩
   · cases he
theorem sb (h:af):h.close []=h:=by
 cases h;simp[af.close]
section
variable {G:Nat->Option J} {tab:FuncId->Option (List J->Option J)} {cl:kO->List J->af->Option (J × af)}
def Hc (G:Nat->Option J) (tab:FuncId->Option (List J->Option J)) (cl:kO->List J->af->Option (J × af)) (bb r:Nat) (e:a_) (s:aW) (v:J) (h':af):dV->Prop
 | .pure=>h'=s.h/\∀cG h2,(∀t∈e.reads,cG t=s.F t)->cE G tab cl bb r e ⟨cG,h2⟩=some (⟨cD cG e.dst v,h2⟩,.pure)
 | .fs=>∃blk,h'=s.h.new r blk/\∀cG h2,(∀t∈e.reads,cG t=s.F t)->cE G tab cl bb r e ⟨cG,h2⟩=some (⟨cD cG e.dst v,h2.new r blk⟩,.fs)
 | .rd=>∃ids,h'=s.h.close ids/\∀cG (h2:af),(∀t∈e.reads,cG t=s.F t)->(∀id,id<bb->h2.cells id=s.h.cells id)->cE G tab cl bb r e ⟨cG,h2⟩=some (⟨cD cG e.dst v,h2.close ids⟩,.rd)
 | .wr=>∀cG,(∀t∈e.reads,cG t=s.F t)->cE G tab cl bb r e ⟨cG,s.h⟩=some (⟨cD cG e.dst v,h'⟩,.wr)
 | .jD id=>h'=s.h/\id<bb/\∀cG (h2:af),(∀t∈e.reads,cG t=s.F t)->h2.cells id=s.h.cells id->cE G tab cl bb r e ⟨cG,h2⟩=some (⟨cD cG e.dst v,h2⟩,.jD id)
 | .lh qw=>(∀id,qw id=true->h'.cells id=s.h.cells id)/\∀cG,(∀t∈e.reads,cG t=s.F t)->cE G tab cl bb r e ⟨cG,s.h⟩=some (⟨cD cG e.dst v,h'⟩,.lh qw)
theorem Hd {bb r:Nat} {e:a_} {s aj:aW} {c:dV} (ba:c4 G tab cl bb r e s=some (aj,c))
 (cw:∀cG h2,(∀t∈e.reads,cG t=s.F t)->cE G tab cl bb r e ⟨cG,h2⟩=c4 G tab cl bb r e ⟨cG,h2⟩):
 ∃v h',aj=⟨cD s.F e.dst v,h'⟩/\Hc G tab cl bb r e s v h' c:=by
 have He:∀t∈e.op.reads,t∈e.reads:=fun t aY=>by simp only[a_.reads,List.mem_append];exact .inr aY
 by_cases js:∃f args,e.op= .call f args
 · obtain⟨f,args,cM⟩:=js
   have vR:∀cG,(∀t∈e.reads,cG t=s.F t)->f.ev G cG=f.ev G s.F/\args.map (a6.ev G cG)=args.map (a6.ev G s.F):=by
    intro cG h2
    have aN:∀t∈e.op.reads,cG t=s.F t:=fun t aY=>h2 t (He t aY)
    rw[cM] at aN
    simp only[j7.reads,List.mem_append] at aN
    exact ⟨a6.e4 fun t aY=>aN t (.inl aY),vQ fun t aY=>aN t (.inr aY)⟩
   unfold c4 at ba
   simp only[cM] at ba
   split at ba<;>try(cases ba;done)
   rotate_left
   · rename_i id bw
     obtain⟨p,aF,ba⟩:=Option.map_eq_some_iff.1 ba
     cases ba
     refine⟨p.1,p.2,rfl,fun cG dG=>?_⟩
     rw[cw cG s.h dG]
     obtain⟨au,ax⟩:=vR cG dG
     unfold c4
     simp only[cM,au,bw,ax,aF,Option.map_some]
   rename_i n first caps bw
   split at ba
   · rename_i T c6
     split at ba<;>try(cases ba;done)
     rename_i vs ids aL
     obtain⟨v,aF,ba⟩:=Option.map_eq_some_iff.1 ba
     cases ba
     refine⟨v,_,rfl,?_⟩
     by_cases ab:ids.isEmpty=true
     · rw[if_pos ab]
       have P_:ids= []:=by simpa using ab
       subst P_
       refine⟨sb _,fun cG h2 dG=>?_⟩
       rw[cw cG h2 dG]
       obtain⟨au,ax⟩:=vR cG dG
       unfold c4
       simp only[cM,au,bw,c6,ax,x5 aL (h2:=h2) (fun id bC=>absurd bC (by simp)),aF,Option.map_some,sb]
       rfl
     · rw[if_neg ab]
       by_cases az:ids.all (fun i=>decide (i<bb))=true
       · rw[if_pos az]
         refine⟨ids,rfl,fun cG h2 dG I=>?_⟩
         rw[cw cG h2 dG]
         obtain⟨au,ax⟩:=vR cG dG
         unfold c4
         simp only[cM,au,bw,c6,ax,x5 aL (h2:=h2) (fun id bC=>I id (by simpa using List.all_eq_true.1 az id bC)),aF,Option.map_some,if_neg ab,if_pos az]
       · rw[if_neg az]
         intro cG dG
         rw[cw cG s.h dG]
         obtain⟨au,ax⟩:=vR cG dG
         unfold c4
         simp only[cM,au,bw,c6,ax,aL,aF,Option.map_some,if_neg ab,if_neg az]
   · rename_i c6
     obtain⟨p,aF,ba⟩:=Option.map_eq_some_iff.1 ba
     cases ba
     refine⟨p.1,p.2,rfl,fun id ag=>?_,fun cG dG=>?_⟩
     · simp only[qx,Bool.and_eq_true] at ag
       exact (O5 ag.2).symm
     rw[cw cG s.h dG]
     obtain⟨au,ax⟩:=vR cG dG
     unfold c4
     simp only[cM,au,bw,c6,ax,aF,Option.map_some]
 · have r_:∀lq,c4 G tab cl bb r e lq=(evalOp bb r (a6.ev G lq.F) lq.h e.op).map fun(v,h',c)=>(⟨cD lq.F e.dst v,h'⟩,c):=by
    intro lq
    unfold c4
    split
    · exact absurd ⟨_,_,‹_›⟩ js
    · rfl
   rw[r_] at ba
   obtain⟨p,aS,ba⟩:=Option.map_eq_some_iff.1 ba
   obtain⟨v,h',cY⟩:=p
   have BR:(⟨cD s.F e.dst v,h'⟩:aW)=aj:=congrArg Prod.fst ba
   have P':cY=c:=congrArg Prod.snd ba
   subst BR;subst P'
   refine⟨v,h',rfl,?_⟩
   obtain⟨_,E⟩:=tL aS
   have key:∀cG h2,(∀t∈e.reads,cG t=s.F t)->cE G tab cl bb r e ⟨cG,h2⟩=(evalOp bb r (a6.ev G s.F) h2 e.op).map fun(v,h',c)=>(⟨cD cG e.dst v,h'⟩,c):=by
    intro cG h2 dG
    rw[cw cG h2 dG,r_]
    simp only
    rw[P4 (F:=cG) (F':=s.F) fun t aY=>dG t (He t aY)]
   cases cY with
   | pure=>
     obtain⟨au,ax⟩:=E
     exact ⟨au,fun cG h2 dG=>by rw[key cG h2 dG,ax h2];rfl⟩
   | fs=>
     obtain⟨blk,au,ax⟩:=E
     exact ⟨blk,au,fun cG h2 dG=>by rw[key cG h2 dG,ax h2];rfl⟩
   | rd=>
     obtain⟨au,ax⟩:=E
     refine⟨[],by rw[sb];exact au,fun cG h2 dG I=>?_⟩
     rw[key cG h2 dG,ax h2 I,sb];rfl
   | wr=>exact fun cG dG=>by rw[key cG s.h dG,aS];rfl
   | jD id=>
     obtain⟨au,a9,ax⟩:=E
     exact ⟨au,a9,fun cG h2 dG I=>by rw[key cG h2 dG,ax h2 I];rfl⟩
   | lh k=>exact E.elim
theorem Hf {bb r:Nat} {e:a_} {s aj:aW} {c:dV} (ba:cE G tab cl bb r e s=some (aj,c)):
 ∃v h',aj=⟨cD s.F e.dst v,h'⟩/\Hc G tab cl bb r e s v h' c:=by
 cases qN:e.guard with
 | none=>
   have aU:∀lq,cE G tab cl bb r e lq=c4 G tab cl bb r e lq:=fun lq=>by unfold cE;rw[qN]
   rw[aU] at ba
   exact Hd ba fun cG h2 _=>aU _
 | some g=>
   obtain⟨t,want⟩:=g
   have aY:t∈e.reads:=by simp[a_.reads,qN]
   cases aa:s.F t<;>first
    | (unfold cE at ba;simp only[qN,aa] at ba;cases ba;done)
    | skip
   · unfold cE at ba
     simp only[qN,aa] at ba
     cases ba
     refine⟨.kv,s.h,rfl,rfl,fun cG h2 dG=>?_⟩
     unfold cE;simp only[qN,dG t aY,aa]
   rename_i b
   by_cases nK:b=want
   · have aU:∀cG h2,(∀t∈e.reads,cG t=s.F t)->cE G tab cl bb r e ⟨cG,h2⟩=c4 G tab cl bb r e ⟨cG,h2⟩:=fun cG h2 dG=>by
      unfold cE;simp only[qN,dG t aY,aa,if_pos nK]
     have aQ:=aU s.F s.h (fun _ _=>rfl)
     have:cE G tab cl bb r e s=c4 G tab cl bb r e s:=aQ
     rw[this] at ba
     exact Hd ba aU
   · unfold cE at ba
     simp only[qN,aa,if_neg nK] at ba
     cases ba
     refine⟨.kv,s.h,rfl,rfl,fun cG h2 dG=>?_⟩
     unfold cE;simp only[qN,dG t aY,aa,if_neg nK]
theorem Qa {F:Nat->J} {d e:Option Nat} {u v:J} (h:∀x,d=some x->e≠some x):cD (cD F d u) e v=cD (cD F e v) d u:=by
 cases d with
 | none=>rfl
 | some x=>
   cases e with
   | none=>rfl
   | some y=>
     have bV:x≠y:=fun q=>h x rfl (by rw[q])
     funext t
     simp only[cD,aw]
     by_cases U:t=x<;>by_cases h2:t=y<;>simp_all
theorem Hg {F:Nat->J} {d:Option Nat} {v:J} {t:Nat} (h:∀x,d=some x->t≠x):cD F d v t=F t:=by
 cases d with
 | none=>rfl
 | some x=>simp[cD,aw,h x rfl]
theorem apart_spec {e f:a_} (h:e.apart f=true):(∀x,e.dst=some x->x ∉ f.reads)/\(∀x,e.dst=some x->f.dst≠some x)/\(∀x,f.dst=some x->x ∉ e.reads):=by
 refine⟨fun d bk=>?_,fun d bk=>?_,fun d bk=>?_⟩<;>simp[a_.apart,bk] at h
 · exact h.1.1
 · exact h.1.2
 · exact h.2
theorem Qb (h:af) (a b:List Nat):(h.close a).close b=(h.close b).close a:=by
 simp only[af.close,af.mk.injEq,true_and,and_true]
 funext t
 cases h.shut t<;>cases a.contains t<;>cases b.contains t<;>rfl
theorem Qc {bb ow jI:Nat} {sc sd:a_} {s s1 s2:aW} {ci pC:dV} (U:cE G tab cl bb ow sc s=some (s1,ci)) (h2:cE G tab cl bb jI sd s1=some (s2,pC))
 (x6:sc.apart sd=true) (I:kx ci pC=true) (aU:ow≠jI) (ab:bb<=ow) (aO:bb<=jI) (vS:qM cl) (Qd:s.h.cells jI=none) (Qe:jI<s.h.next):
 ∃vT,cE G tab cl bb jI sd s=some (vT,pC)/\cE G tab cl bb ow sc vT=some (s2,ci):=by
 obtain⟨a1,e2,BS⟩:=apart_spec x6
 obtain⟨BT,bW,rfl,oB⟩:=Hf U
 obtain⟨jt,kh,rfl,jJ⟩:=Hf h2
 have jX:∀t∈sd.reads,s.F t=(cD s.F sc.dst BT) t:=fun t aY=>(Hg fun x ae=>by rintro rfl;exact a1 _ ae aY).symm
 have jY:∀v t,t∈sc.reads->(cD s.F sd.dst v) t=s.F t:=fun v t aY=>Hg fun x ae=>by rintro rfl;exact BS _ ae aY
 have eO:cD (cD s.F sd.dst jt) sc.dst BT=cD (cD s.F sc.dst BT) sd.dst jt:=(Qa fun x ae=>e2 x ae).symm
 cases ci with
 | pure=>
   obtain⟨au,ax⟩:=oB
   subst au
   cases pC with
   | pure=>
     obtain⟨a9,bX⟩:=jJ
     subst a9
     exact ⟨_,bX s.F s.h jX,by rw[ax _ _ (jY jt),eO]⟩
   | fs=>
     obtain⟨blk,a9,bX⟩:=jJ
     subst a9
     exact ⟨_,bX s.F s.h jX,by rw[ax _ _ (jY jt),eO]⟩
   | rd=>
     obtain⟨ids,a9,bX⟩:=jJ
     subst a9
     exact ⟨_,bX s.F s.h jX (fun _ _=>rfl),by rw[ax _ _ (jY jt),eO]⟩
   | wr=>exact ⟨_,jJ s.F jX,by rw[ax _ _ (jY jt),eO]⟩
   | jD id=>
     obtain⟨a9,fc,bX⟩:=jJ
     subst a9
     exact ⟨_,bX s.F s.h jX rfl,by rw[ax _ _ (jY jt),eO]⟩
   | lh k=>exact ⟨_,jJ.2 s.F jX,by rw[ax _ _ (jY jt),eO]⟩
 | fs=>
   obtain⟨blk,au,ax⟩:=oB
   subst au
   cases pC with
   | pure=>
     obtain⟨a9,bX⟩:=jJ
     subst a9
     exact ⟨_,bX s.F s.h jX,by rw[ax _ _ (jY jt),eO]⟩
   | fs=>
     obtain⟨tN,a9,bX⟩:=jJ
     subst a9
     exact ⟨_,bX s.F s.h jX,by rw[ax _ _ (jY jt),eO,tM _ _ _ aU]⟩
   | rd=>
     obtain⟨ids,a9,bX⟩:=jJ
     subst a9
     have aT:∀id,id<bb->s.h.cells id=(s.h.new ow blk).cells id:=fun id bC=>by
      simp only[af.new,aw];rw[if_neg (by omega)]
     exact ⟨_,bX s.F s.h jX aT,by rw[ax _ _ (jY jt),eO];rfl⟩
   | wr=>simp[kx] at I
   | jD id=>
     obtain⟨a9,fc,bX⟩:=jJ
     subst a9
     have aT:s.h.cells id=(s.h.new ow blk).cells id:=by
      simp only[af.new,aw];rw[if_neg (by omega)]
     exact ⟨_,bX s.F s.h jX aT,by rw[ax _ _ (jY jt),eO]⟩
   | lh k=>simp[kx] at I
 | rd=>
   obtain⟨ids,au,ax⟩:=oB
   subst au
   cases pC with
   | pure=>
     obtain⟨a9,bX⟩:=jJ
     subst a9
     exact ⟨_,bX s.F s.h jX,by rw[ax _ _ (jY jt) (fun _ _=>rfl),eO]⟩
   | fs=>
     obtain⟨tN,a9,bX⟩:=jJ
     subst a9
     have aT:∀id,id<bb->(s.h.new jI tN).cells id=s.h.cells id:=fun id bC=>by
      simp only[af.new,aw];rw[if_neg (by omega)]
     exact ⟨_,bX s.F s.h jX,by rw[ax _ _ (jY jt) aT,eO];rfl⟩
   | rd=>
     obtain⟨BU,a9,bX⟩:=jJ
     subst a9
     exact ⟨_,bX s.F s.h jX (fun _ _=>rfl),by rw[ax _ (s.h.close BU) (jY jt) (fun _ _=>rfl),eO,Qb]⟩
   | wr=>simp[kx] at I
   | jD id=>
     obtain⟨a9,fc,bX⟩:=jJ
     subst a9
     exact ⟨_,bX s.F s.h jX rfl,by rw[ax _ s.h (jY jt) (fun _ _=>rfl),eO]⟩
   | lh k=>simp[kx] at I
 | jD id=>
   obtain⟨au,fc,ax⟩:=oB
   subst au
   cases pC with
   | pure=>
     obtain⟨a9,bX⟩:=jJ
     subst a9
     exact ⟨_,bX s.F s.h jX,by rw[ax _ _ (jY jt) rfl,eO]⟩
   | fs=>
     obtain⟨tN,a9,bX⟩:=jJ
     subst a9
     have aT:(s.h.new jI tN).cells id=s.h.cells id:=by
      simp only[af.new,aw];rw[if_neg (by omega)]
     exact ⟨_,bX s.F s.h jX,by rw[ax _ _ (jY jt) aT,eO]⟩
   | rd=>
     obtain⟨BU,a9,bX⟩:=jJ
     subst a9
     exact ⟨_,bX s.F s.h jX (fun _ _=>rfl),by rw[ax _ (s.h.close BU) (jY jt) rfl,eO]⟩
   | wr=>simp[kx] at I
   | jD ad2=>
     obtain⟨a9,k7,bX⟩:=jJ
     subst a9
     exact ⟨_,bX s.F s.h jX rfl,by rw[ax _ _ (jY jt) rfl,eO]⟩
   | lh k=>
     exact ⟨_,jJ.2 s.F jX,by rw[ax _ _ (jY jt) (jJ.1 id I),eO]⟩
 | lh k=>
   obtain⟨mz,oB⟩:=oB
   cases pC with
   | pure=>
     obtain⟨a9,bX⟩:=jJ
     subst a9
     exact ⟨_,bX s.F s.h jX,by rw[oB _ (jY jt),eO]⟩
   | fs=>
     obtain⟨tN,a9,bX⟩:=jJ
     subst a9
     have fc:=(BQ (blk:=tN) vS (oB _ (jY jt)) Qd Qe (Ne.symm aU)).1
     exact ⟨_,bX s.F s.h jX,by rw[eO] at fc;exact fc⟩
   | rd=>simp[kx] at I
   | wr=>simp[kx] at I
   | jD id=>
     obtain⟨a9,fc,bX⟩:=jJ
     subst a9
     exact ⟨_,bX s.F s.h jX (mz id I).symm,by rw[oB _ (jY jt),eO]⟩
   | lh k=>simp[kx] at I
 | wr=>
   cases pC with
   | pure=>
     obtain⟨a9,bX⟩:=jJ
     subst a9
     exact ⟨_,bX s.F s.h jX,by rw[oB _ (jY jt),eO]⟩
   | fs=>simp[kx] at I
   | rd=>simp[kx] at I
   | wr=>simp[kx] at I
   | jD id=>simp[kx] at I
   | lh k=>simp[kx] at I
theorem Hh {bb:Nat} {e:a_} {i:Nat}:∀ {fv kT:List (a_ × Nat)} {s aj:aW} {cs:List dV},c2 G tab cl bb (fv++(e,i)::kT) s=some (aj,cs)->
 (∀k (ag:k<fv.length) (jU:k<cs.length) (aG:fv.length<cs.length),fv[k].1.apart e=true/\kx cs[k] cs[fv.length]=true/\fv[k].2≠i)->qM cl->s.h.cells (bb+i)=none->bb+i<s.h.next->
 ∃s1 c cn cd,cE G tab cl bb (bb+i) e s=some (s1,c)/\c2 G tab cl bb (fv++kT) s1=some (aj,cn++cd)/\cs=cn++c::cd/\cn.length=fv.length
 | [],kT,s,aj,cs,h,_,_,_,_=>by
   simp only[List.nil_append,c2] at h
   split at h<;>try(cases h;done)
   rename_i s1 c U
   obtain⟨p,h2,aN⟩:=Option.map_eq_some_iff.1 h
   cases aN
   exact ⟨s1,c,[],p.2,U,h2,rfl,rfl⟩
 | (bO,i0)::fv,kT,s,aj,cs,h,aT,vS,vU,Hi=>by
   simp only[List.cons_append,c2] at h
   split at h<;>try(cases h;done)
   rename_i tO cY U
   obtain⟨p,h2,aN⟩:=Option.map_eq_some_iff.1 h
   obtain⟨Bd,jE⟩:=p
   cases aN
   have hlen:∀ {L:List (a_ × Nat)} {s aj:aW} {cs:List dV},c2 G tab cl bb L s=some (aj,cs)->cs.length=L.length:=by
    intro L
    induction L with
    | nil=>intro s aj cs h;simp only[c2] at h;cases h;rfl
    | cons q L bj=>
      intro s aj cs h
      simp only[c2] at h
      split at h<;>try(cases h;done)
      obtain⟨p,h2,aN⟩:=Option.map_eq_some_iff.1 h
      cases aN
      simp[bj h2]
   have jq:=hlen h2
   have Qf:=(aT 0 (by simp) (by simp) (by simp[jq])).2.2
   simp only[List.getElem_cons_zero] at Qf
   obtain⟨-,e3,ff⟩:=BQ (blk:=[]) vS U vU Hi (by omega)
   obtain⟨tP,c,cn,cd,bT,cL,rfl,kb⟩:=Hh h2 (fun k ag jU aG=>by
    have:=aT (k+1) (by simp;omega) (by simp;omega) (by simp;omega)
    simpa using this) vS e3 (by omega)
   have aQ:=aT 0 (by simp) (by simp) (by simp[kb])
   simp only[List.getElem_cons_zero,List.length_cons,List.getElem_cons_succ] at aQ
   have ni:(cn++c::cd)[fv.length]'(by simp[kb])=c:=by simp[<-kb]
   rw[ni] at aQ
   obtain⟨vT,bL,cj⟩:=Qc U bT aQ.1 aQ.2.1 (by have:=aQ.2.2;simp at this;omega) (by omega) (by omega) vS vU Hi
   refine⟨vT,c,cY::cn,cd,bL,?_,rfl,by simp[kb]⟩
   simp only[List.cons_append,c2,cj,cL,Option.map_some]
end
end Go.Eng
namespace Go.Eng
open Go Go.RowKit
theorem bf.Qg {w:World} {ok:Nat->Prop} {σ bp:Nat->Option (Nat × Nat)} {v:J} {cv:Value} (h:bf w ok σ (.eV v) cv):bf w ok bp (.eV v) cv:=by
 obtain⟨cy,eo,rfl,U,h2⟩:=h.xL
 exact .eV v cy eo U h2
def jK (F:Fence):Prop:=F=Fence.wide\/∃l,F=Fence.wide.inRound l
theorem jK.fn {F:Fence} (h:jK F) (f:FuncId):F.fn f:=by
 rcases h with rfl|⟨l,rfl⟩<;>trivial
theorem jK.depth {F:Fence} (h:jK F):F.depth=none:=by
 rcases h with rfl|⟨l,rfl⟩<;>rfl
theorem jK.room {F:Fence} (h:jK F) (n:Nat):F.room n:=fun d bk=>by rw[h.depth] at bk;cases bk
theorem jK.one {F:Fence} (h:jK F) (n:Nat):F.depth.isSome=true->1<=n:=fun bk=>by rw[h.depth] at bk;cases bk
theorem jK.inRound {F:Fence} (h:jK F) (l:Nat):jK (F.inRound l):=by
 rcases h with rfl|⟨k,rfl⟩
 · exact .inr ⟨l,rfl⟩
 · exact .inr ⟨l,rfl⟩
theorem jK.calls {F:Fence} (h:jK F) {n:Nat} {P:Program} {f:FuncId} {args:Array Value} {w:World} {R:Ending->World->Prop} (I:Calls P f args w R):CallsIn F n P f args w R:=by
 rcases h with rfl|⟨l,rfl⟩
 · exact callsIn_wide.2 I
 · exact (callsIn_wide (n:=n)).2 I
structure ds (base:Nat) (okin:Nat->Prop) (σ:Nat->Option (Nat × Nat)) (h:af) (w:World) (bp:Nat->Option (Nat × Nat)) (h':af) (a5:World):Prop where
 sub:∀id x,σ id=some x->bp id=some x
 still:tx w a5 (bz base okin σ h) (bz base okin bp h')
 below:Below base w a5
 grow:∀b,iB w b<=iB a5 b
 loop:∀(b:Nat) (r:Loop),w.heap[b]? =some (.loop r)->∃st kk,a5.heap[b]? =some (.loop {r with state:=st,pending:=kk})
 nL:∀b:Nat,w.heap[b]? =some (.deferred (some []))->a5.heap[b]? =some (.deferred (some []))
theorem ds.refl (base:Nat) (okin:Nat->Prop) (σ:Nat->Option (Nat × Nat)) (h:af) (w:World):ds base okin σ h w σ h w:=
 ⟨fun _ _ h=>h,fun _ _ _ _ h=>⟨h,rfl⟩,Below.refl _ _,fun _=>Nat.le_refl _,fun _ r h=>⟨r.state,r.pending,h⟩,fun _ h=>h⟩
theorem ds.trans {base:Nat} {okin:Nat->Prop} {σ jn po:Nat->Option (Nat × Nat)} {h U h2:af} {w b3 cF:World}
 (p:ds base okin σ h w jn U b3) (q:ds base okin jn U b3 po h2 cF):ds base okin σ h w po h2 cF:=
 ⟨fun id x ae=>q.sub id x (p.sub id x ae),fun b o aa ag aL=>by
   obtain⟨jT,au⟩:=p.still b o aa ag aL
   obtain⟨d',ax⟩:=q.still b o (by rw[au];exact aa) ag jT
   exact ⟨d',ax.trans au⟩,p.below.trans q.below,fun b=>Nat.le_trans (p.grow b) (q.grow b),fun b r aa=>by
   obtain⟨s1,bo,au⟩:=p.loop b r aa
   obtain⟨s2,bB,ax⟩:=q.loop b _ au
   exact ⟨s2,bB,ax⟩,fun b aa=>q.nL b (p.nL b aa)⟩
theorem ds.rep {base:Nat} {okin:Nat->Prop} {σ bp:Nat->Option (Nat × Nat)} {h h':af} {w a5:World} (p:ds base okin σ h w bp h' a5)
 {v:J} {cv:Value} (r:bf w (bz base okin σ h) σ v cv):bf a5 (bz base okin bp h') bp v cv:=r.mono p.still p.sub p.grow
theorem pD {w:World} {b:Nat} {o:Obj} (h:w.heap[b]? =some o):b<w.heap.size:=(Array.getElem?_eq_some_iff.1 h).1
theorem cK.other {base:Nat} {okin:Nat->Prop} {σ bp:Nat->Option (Nat × Nat)} {h h':af} {w a5:World} (H:cK base okin σ h w) (p:Prog base okin σ h w bp h' a5) {b:Nat} {o:Obj} (aa:w.heap[b]? =some o)
 (az:∀arr ty e,o≠ .cells arr ty e):a5.heap[b]? =some o:=by
 have bF:=pD aa
 by_cases vV:b<base
 · rw[p.below.block b vV];exact aa
 · have:=(p.qw b bF (.inr ⟨Nat.le_of_not_lt vV,fun id s aE aG=>by
    obtain⟨blk,nH⟩:=Option.isSome_iff_exists.1 aG
    obtain⟨j9,aj,arr,ty,au,ax,_⟩:=H.blk id blk nH
    rw[aE] at au;cases au
    rw[aa] at ax
    exact absurd (Option.some.inj ax) (az _ _ _)⟩)).2
   rw[this];exact aa
theorem ds.of {base:Nat} {okin:Nat->Prop} {σ bp:Nat->Option (Nat × Nat)} {h h':af} {w a5:World} (H:cK base okin σ h w) (p:Prog base okin σ h w bp h' a5):ds base okin σ h w bp h' a5:=
 ⟨p.sub,p.still,p.below,p.grow,fun b r aa=>⟨r.state,r.pending,H.other p aa (fun _ _ _ h=>by cases h)⟩,fun b aa=>H.other p aa (fun _ _ _ h=>by cases h)⟩
def nM:fr->LoopState
 | .ready=> .ready
 | .busy=> .busy
 | .done _=> .done
def Qh:de->Option Code
 | .normal=>none
 | .exit id=>some (.exit id)
 | .ret=>some .ret
def nN:fr->Option Code
 | .ready=>none
 | .busy=>none
 | .done e=>Qh e
structure jZ (σ:Nat->Option (Nat × Nat)) (a7:Nat->Option fr) (w:World):Prop where
 look:∀id p,a7 id=some p->∃(l s:Nat) (r:Loop),σ id=some (l,s)/\w.heap[l]? =some (.loop r)/\r.state=nM p/\r.pending=nN p
 inj:∀id gh p l1 l s aj,a7 id=some p->a7 gh=some l1->σ id=some (l,s)->σ gh=some (l,aj)->id=gh
theorem jZ.of {base:Nat} {okin:Nat->Prop} {σ bp:Nat->Option (Nat × Nat)} {h h':af} {w a5:World} (L:jZ σ h.a7 w) (H:cK base okin σ h w) (p:Prog base okin σ h w bp h' a5) (aS:h'.a7=h.a7):jZ bp h'.a7 a5:=by
 rw[aS]
 refine⟨fun id q aT=>?_,fun id gh q l2 l s aj U h2 au ax=>?_⟩
 · obtain⟨l,s,r,au,ax,a9,bX⟩:=L.look id q aT
   exact ⟨l,s,r,p.sub _ _ au,H.other p ax (fun _ _ _ h=>by cases h),a9,bX⟩
 · obtain⟨cp,s1,bJ,a1,_⟩:=L.look id q U
   obtain⟨ea,s2,dh,e2,_⟩:=L.look gh l2 h2
   have b1:=p.sub _ _ a1;rw[au] at b1
   have ej:=p.sub _ _ e2;rw[ax] at ej
   cases b1;cases ej
   exact L.inj id gh q l2 l s aj U h2 a1 e2
def oC (P:Program) (G:Nat->Option J) (base:Nat) (okin:Nat->Prop) (Y:List cR) (σ:Nat->Option (Nat × Nat)) (h:af) (w:World):Prop:=
 ∀L∈Y,∃(l s:Nat) (r:Loop) (nm:Nat),σ L.id=some (l,s)/\w.heap[l]? =some (.loop r)/\nm<=r.tmps.size/\L.ps=r.params.toList/\(∀p∈L.ps,p<nm)/\
  fY P nm r.assign=some L.dK/\fY P nm r.body=some L.body/\ka G (bz base okin σ h) σ w L.F {tmps:=r.tmps,defers:=[]}
theorem oC.mono {P:Program} {G:Nat->Option J} {base:Nat} {okin:Nat->Prop} {Y:List cR} {σ bp:Nat->Option (Nat × Nat)} {h h':af} {w a5:World} (C:oC P G base okin Y σ h w) (p:ds base okin σ h w bp h' a5):oC P G base okin Y bp h' a5:=by
 intro L bq
 obtain⟨l,s,r,nm,au,ax,a9,bX,fc,k7,BV,qO⟩:=C L bq
 obtain⟨st,kk,Qi⟩:=p.loop l r ax
 exact ⟨l,s,_,nm,p.sub _ _ au,Qi,a9,bX,fc,k7,BV,⟨fun t=>p.rep (qO.slot t),fun g v ba=>p.rep (qO.mS g v ba)⟩⟩
structure Marks (bO:Nat) (c5:List Deferred) (w:World):Prop where
 each:∀d∈c5,∃D,d.target= .collected D/\bO<=D/\w.heap[D]? =some (.deferred (some []))
 nodup:c5.Pairwise fun d ph=>d.target≠ph.target
theorem Marks.mono {bO:Nat} {c5:List Deferred} {w a5:World} (M:Marks bO c5 w) (bk:∀b:Nat,w.heap[b]? =some (.deferred (some []))->a5.heap[b]? =some (.deferred (some []))):Marks bO c5 a5:=
 ⟨fun d h=>by
   obtain⟨D,U,h2,aN⟩:=M.each d h
   exact ⟨D,U,h2,bk D aN⟩,M.nodup⟩
def BW (P:Program) (f:FuncId) (args:Array Value) (w:World) (R:Value->World->Prop):Prop:=
 ((callFunc f args).run P w= .ok (.enter f args) w/\Calls P f args w fun e a5=>∃cv,e= .returned cv/\R cv a5)\/
 ∃cv a5,(callFunc f args).run P w= .ok (.value cv) a5/\R cv a5
def BX (P:Program) (l:Nat) (args:Array Value) (w:World) (R:Value->World->Prop):Prop:=
 ∃f tmps dK body,(Instr.yield l args).run P w= .ok (.round l f tmps dK body) w/\∀F n,jK F->RoundIn F n P l f tmps dK body w fun e a5=>∃cv,e= .returned cv/\R cv a5
def a3 (P:Program) (G:Nat->Option J) (f:FuncId) (T:List J->Option J):Prop:=
 ∀args v,T args=some v->∀(ok:Nat->Prop) (w:World) (dA:Array Value),dA.size=args.length->
  (∀i (h:i<args.length) (h':i<dA.size),dy w ok args[i] dA[i])->
  (∀g u,G g=some u->bf w ok (fun _=>none) (.eV u) (.pointer (some ⟨g,0,none⟩)))->
  BW P f dA w fun cv a5=>dy a5 (fun b=>ok b\/w.heap.size<=b) v cv/\Below w.heap.size w a5
def tQ (base:Nat) (okin:Nat->Prop) (σ:Nat->Option (Nat × Nat)) (h:af) (w:World) (h':af) (v:J) (cv:Value) (a5:World):Prop:=
 ∃bp,ds base okin σ h w bp h' a5/\cK base okin bp h' a5/\jZ bp h'.a7 a5/\bf a5 (bz base okin bp h') bp v cv/\(∀id,h'.next<=id->bp id=none)/\∀id,id<h.next->bp id=σ id
structure tR (P:Program) (G:Nat->Option J) (Y:List cR) (cl:kO->List J->af->Option (J × af)):Prop where
 next:∀t args h v h',cl t args h=some (v,h')->h.next<=h'.next
 frame:qM cl
 fn:∀f args h v h',cl (.fn f) args h=some (v,h')->∀base okin σ w (dA:Array Value),cK base okin σ h w->jZ σ h.a7 w->oC P G base okin Y σ h w->dA.size=args.length->
    (∀i (ab:i<args.length) (bW:i<dA.size),bf w (bz base okin σ h) σ args[i] dA[i])->
    (∀g u,G g=some u->bf w (bz base okin σ h) σ (.eV u) (.pointer (some ⟨g,0,none⟩)))->(∀id,h.next<=id->σ id=none)->
    BW P f dA w (tQ base okin σ h w h' v)
 lk:∀id args h v h',cl (.lk id) args h=some (v,h')->∀base okin σ w (dA:Array Value) l s,cK base okin σ h w->jZ σ h.a7 w->oC P G base okin Y σ h w->σ id=some (l,s)->dA.size=args.length->
    (∀i (ab:i<args.length) (bW:i<dA.size),bf w (bz base okin σ h) σ args[i] dA[i])->
    (∀g u,G g=some u->bf w (bz base okin σ h) σ (.eV u) (.pointer (some ⟨g,0,none⟩)))->(∀id,h.next<=id->σ id=none)->
    BX P l dA w (tQ base okin σ h w h' v)
structure fw (P:Program) (G:Nat->Option J) (Y:List cR) (ju:Option Nat) (bO:Nat) (base:Nat) (okin:Nat->Prop) (N:Nat) (c3:Nat) (cW:Nat->Option (Nat × Nat)) (cu:Nat->Prop) (σ:Nat->Option (Nat × Nat)) (s:aW) (a:Act) (w:World):Prop where
 aE:cK base okin σ s.h w
 kU:jZ σ s.h.a7 w
 jo:oC P G base okin Y σ s.h w
 bG:ka G (bz base okin σ s.h) σ w s.F a
 size:N<=a.tmps.size
 marks:Marks bO a.defers w
 rd:∀l,ju=some l->∃r,w.heap[l]? =some (.loop r)
 se:bO<=w.heap.size
 free:∀id,cu id->c3<=id/\id<s.h.next/\σ id=none
 low:c3<=s.h.next
 l0:∀id,id<c3->σ id=cW id
 fresh:∀id,s.h.next<=id->σ id=none
section
variable {P:Program} {G:Nat->Option J} {base:Nat} {okin:Nat->Prop} {N:Nat} {c3:Nat} {cW:Nat->Option (Nat × Nat)} {cu:Nat->Prop} {σ:Nat->Option (Nat × Nat)} {w:World} {a:Act}
theorem ka.mono {bp:Nat->Option (Nat × Nat)} {h h':af} {a5:World} {F:Nat->J} (bG:ka G (bz base okin σ h) σ w F a) (p:ds base okin σ h w bp h' a5):ka G (bz base okin bp h') bp a5 F a:=
 ⟨fun t=>p.rep (bG.slot t),fun g v ba=>p.rep (bG.mS g v ba)⟩
theorem ka.put {h:af} {F:Nat->J} (bG:ka G (bz base okin σ h) σ w F a) {d:Option Nat} (bk:d.all (fun d=>decide (d<N))=true) (iD:N<=a.tmps.size) {v:J} {cv:Value} (aF:bf w (bz base okin σ h) σ v cv):
 ka G (bz base okin σ h) σ w (cD F d v) (a.put d cv):=by
 refine⟨fun t=>?_,bG.mS⟩
 cases d with
 | none=>exact bG.slot t
 | some d=>
   have bF:d<a.tmps.size:=by
    have:d<N:=by simpa using bk
    omega
   simp only[cD,aw,Act.put]
   by_cases e:t=d
   · subst e
     rw[if_pos rfl]
     simpa[Array.getD,bF] using aF
   · rw[if_neg e]
     have:=bG.slot t
     have ax:(a.tmps.setIfInBounds d cv).getD t undef=a.tmps.getD t undef:=by
      simp only[Array.getD_eq_getD_getElem?]
      rw[Array.getElem?_setIfInBounds_ne (Ne.symm e)]
     rw[ax];exact this
theorem Qj (a:Act) (d:Option Nat) (v:Value):(a.put d v).tmps.size=a.tmps.size:=by
 cases d<;>simp[Act.put]
theorem put_defers (a:Act) (d:Option Nat) (v:Value):(a.put d v).defers=a.defers:=by
 cases d<;>rfl
theorem cK.grown {h:af} (H:cK base okin σ h w) {a5:World} (aa:Below w.heap.size w a5):cK base okin σ h a5/\Prog base okin σ h w σ h a5:=by
 have P:Prog base okin σ h w σ h a5:=⟨fun _ _ x=>x,fun b bF aL=>⟨aL,aa.block b bF⟩,aa.mono H.base,Pa aa⟩
 refine⟨⟨fun id b s ab=>⟨(H.val id b s ab).1,Nat.lt_of_lt_of_le (H.val id b s ab).2 aa.size⟩,fun id fZ iC=>?_,H.inj,Nat.le_trans H.base aa.size⟩,P⟩
 obtain⟨b,s,qI,ty,au,ax,a9⟩:=H.blk id fZ iC
 refine⟨b,s,qI,ty,au,by rw[aa.block b (H.val _ _ _ au).2];exact ax,fun i ab=>⟨(a9 i ab).1,fun j aO=>?_⟩⟩
 obtain⟨v,bT,cL⟩:=(a9 i ab).2 j aO
 exact ⟨v,bT,P.rep cL⟩
theorem vW {h:af} {x y:List Nat} (nj:∀i∈x,i∈y) (b:Nat) (aL:bz base okin σ (h.close x) b):bz base okin σ (h.close y) b:=by
 rcases aL with aL|⟨U,h2⟩
 · exact .inl aL
 · refine .inr ⟨U,fun id s aE aG=>?_⟩
   have:=h2 id s aE aG
   simp only[af.close,Bool.or_eq_true,List.contains_iff_mem] at this|-
   exact this.imp (fun q=>q) (nj id)
theorem Hj {h:af} (H:cK base okin σ h w) {v u:J} {cv:Value} {ids:List Nat} (aU:bf w (bz base okin σ h) σ v cv) (aL:dE h v=some (u,ids)):dy w (bz base okin σ (h.close ids)) u cv:=by
 cases v<;>simp only[dE] at aL<;>try(cases aL;done)
 case int k n=>cases aL;rw[aU.jF];exact .int k n
 case bool b=>cases aL;rw[aU.qB];exact .bool b
 case str s=>cases aL;rw[aU.vx];exact .str s
 case nilfn=>cases aL;rw[aU.O_];exact .nilfn
 case mp m=>
  cases aL
  have:=aU.Gc
  rw[sb]
  exact this
 case sl xs ex=>
  cases aL
  have:=aU.qC
  rw[sb]
  exact this
 case ref id off len cap=>
  split at aL<;>try(cases aL;done)
  rename_i blk aa
  split at aL<;>try(cases aL;done)
  rename_i aT
  obtain⟨dp,dr⟩:=aT
  cases aL
  obtain⟨A,c,b,sz,rfl,au,ax,a9,bX⟩:=aU.qD
  obtain⟨j9,fO,arr,ty,f1,f2,f3⟩:=H.blk id blk aa
  rw[au] at f1;cases f1
  have hlen:((blk.drop off).take len).length=len:=by simp;omega
  have kP:∀i (ab:i<len),((blk.drop off).take len)[i]'(by rw[hlen];exact ab)=blk[off+i]'(by omega):=by intro i ab;simp
  have j':bz base okin σ (h.close [id]) b:=by
   refine .inr ⟨(H.val _ _ _ au).1,fun gh s aE aG=>?_⟩
   have:gh=id:=H.inj gh id b s sz aG (by simp[aa]) aE au
   subst this
   simp[af.close]
  have R:=dy.sl (w:=w) (ok:=bz base okin σ (h.close [id])) ((blk.drop off).take len) false A c sz (fun i j=>(arr[(off+i)*sz+j]?).getD undef) (by rw[hlen];exact ax) (fun cS=>absurd cS (by simp))
   (fun i ab=>by rw[hlen] at ab;rw[kP i ab];exact (f3 _ _).1)
   (fun i j ab aO=>by
     rw[hlen] at ab
     obtain⟨rfl,_⟩:=bX (by omega)
     refine⟨_,rfl,j',?_⟩
     obtain⟨lG,bT,_⟩:=(f3 (off+i) (by omega)).2 j (by rw[(f3 (off+i) (by omega)).1];exact aO)
     rw[pt]
     simp only[World.cell?,f2,Option.isSome_none,Bool.false_eq_true,if_false]
     rw[show off*sz+(i*sz+j)=(off+i)*sz+j by rw[Nat.add_mul];omega,bT];rfl)
   (fun r8=>by
     rw[hlen] at r8
     obtain⟨rfl,_⟩:=bX (by omega)
     rfl)
   (fun i ab j aO=>by
     rw[hlen] at ab
     have he:=kP i ab
     simp only[he] at aO|-
     obtain⟨lG,bT,cL⟩:=(f3 (off+i) (by omega)).2 j aO
     show dy _ _ _ ((arr[(off+i)*sz+j]?).getD undef)
     rw[bT]
     have nO:(blk[off+i]'(by omega)).cells[j].dO=true:=List.all_eq_true.1 (List.all_eq_true.1 dr _ (List.getElem_mem _)) _ (List.getElem_mem aO)
     exact (dy.Gx cL nO).rV fun k ag j'=>by
      have:=vW (base:=base) (okin:=okin) (σ:=σ) (h:=h) (x:=[]) (y:=[id]) (by simp) k (by rw[sb];exact j')
      exact this)
  rw[hlen] at R
  exact R
theorem Hk {h:af} (H:cK base okin σ h w):∀ {vs us:List J} {ids:List Nat} (cs:Nat->Value),(∀i (ab:i<vs.length),bf w (bz base okin σ h) σ vs[i] (cs i))->ey h vs=some (us,ids)->
 us.length=vs.length/\∀i (ab:i<us.length),dy w (bz base okin σ (h.close ids)) us[i] (cs i)
 | [],us,ids,cs,_,aL=>by simp only[ey] at aL;cases aL;exact ⟨rfl,fun i ab=>absurd ab (by simp)⟩
 | v::vs,us,ids,cs,aU,aL=>by
   simp only[ey] at aL
   split at aL<;>try(cases aL;done)
   rename_i j_ x mu y U h2
   cases aL
   obtain⟨l,q⟩:=Hk H (fun i=>cs (i+1)) (fun i ab=>aU (i+1) (by simpa using ab)) h2
   refine⟨by simp[l],fun i ab=>?_⟩
   cases i with
   | zero=>exact (Hj H (aU 0 (by simp)) U).rV fun b _ aa=>vW (fun i ab=>by simp[ab]) b aa
   | succ i=>exact (q i (by simpa using ab)).rV fun b _ aa=>vW (fun i ab=>by simp[ab]) b aa
theorem Hl {h:af} (H:cK base okin σ h w) {v u:J} {cv:Value} {ids:List Nat} (aU:bf w (bz base okin σ h) σ v cv) (aL:iu h v=some (u,ids)):dy w (bz base okin σ (h.close ids)) u cv:=by
 by_cases aF:∃cs,v= .agg cs
 · obtain⟨cs,rfl⟩:=aF
   simp only[iu] at aL
   obtain⟨p,U,he⟩:=Option.map_eq_some_iff.1 aL
   obtain⟨us,Hm⟩:=p
   cases he
   obtain⟨vs,rfl,cp,bJ⟩:=aU.tz
   obtain⟨ea,dh⟩:=Hk H (fun i=>vs.getD i undef) (fun i ab=>by
    have bF:i<vs.size:=by omega
    have:=bJ i ab bF
    simpa[Array.getD,bF] using this) U
   refine .agg _ _ (by show vs.size=us.length;omega) (fun i ab bW=>?_)
   have:=dh i ab
   simpa[Array.getD,bW] using this
 · refine Hj H aU ?_
   cases v<;>first|exact aL|exact absurd ⟨_,rfl⟩ aF
theorem BY {h:af} (H:cK base okin σ h w):∀ {vs us:List J} {ids:List Nat} (cs:Nat->Value),(∀i (ab:i<vs.length),bf w (bz base okin σ h) σ vs[i] (cs i))->eh h vs=some (us,ids)->
 us.length=vs.length/\∀i (ab:i<us.length),dy w (bz base okin σ (h.close ids)) us[i] (cs i)
 | [],us,ids,cs,_,aL=>by simp only[eh] at aL;cases aL;exact ⟨rfl,fun i ab=>absurd ab (by simp)⟩
 | v::vs,us,ids,cs,aU,aL=>by
   simp only[eh] at aL
   split at aL<;>try(cases aL;done)
   rename_i j_ x mu y U h2
   cases aL
   obtain⟨l,q⟩:=BY H (fun i=>cs (i+1)) (fun i ab=>aU (i+1) (by simpa using ab)) h2
   refine⟨by simp[l],fun i ab=>?_⟩
   cases i with
   | zero=>exact (Hl H (aU 0 (by simp)) U).rV fun b _ aa=>vW (fun i ab=>by simp[ab]) b aa
   | succ i=>exact (q i (by simpa using ab)).rV fun b _ aa=>vW (fun i ab=>by simp[ab]) b aa
theorem Qk {h:af} (H:cK base okin σ h w) {v u:J} {cv:Value} {ids:List Nat} (aU:bf w (bz base okin σ h) σ v cv) (aL:jl h v=some (u,ids)):dy w (bz base okin σ (h.close ids)) u cv:=by
 by_cases aF:∃cs,v= .bD cs
 · obtain⟨cs,rfl⟩:=aF
   simp only[jl] at aL
   obtain⟨p,U,he⟩:=Option.map_eq_some_iff.1 aL
   obtain⟨us,Hm⟩:=p
   cases he
   obtain⟨vs,rfl,cp,bJ⟩:=aU.Ge
   obtain⟨ea,dh⟩:=BY H (fun i=>vs.getD i undef) (fun i ab=>by
    have bF:i<vs.size:=by omega
    have:=bJ i ab bF
    simpa[Array.getD,bF] using this) U
   refine .bD _ _ (by show vs.size=us.length;omega) (fun i ab bW=>?_)
   have:=dh i ab
   simpa[Array.getD,bW] using this
 · refine Hl H aU ?_
   cases v<;>first|exact aL|exact absurd ⟨_,rfl⟩ aF
end
end Go.Eng
namespace Go.Eng
open Go Go.RowKit
section
variable {P:Program} {G:Nat->Option J} {base:Nat} {okin:Nat->Prop} {N:Nat} {c3:Nat} {cW:Nat->Option (Nat × Nat)} {cu:Nat->Prop} {σ:Nat->Option (Nat × Nat)} {w:World} {a:Act}
 {tab:FuncId->Option (List J->Option J)} {cl:kO->List J->af->Option (J × af)} {Y:List cR} {ju:Option Nat} {bO:Nat} {c_:Fence} {dQ:Nat}
theorem BZ (x:Array Value) (i:Nat) (h:i<x.size):x.getD i undef=x[i]:=by simp[Array.getD,h]
theorem Hn {ops:Array Oper} {o:Oper} {e:a_} (h:pn P N ops o=some e):
 e.dst=o.dst/\fN P o.op=some e.op/\o.dst.all (fun d=>decide (d<N))=true/\
   ((o.guard=none/\e.guard=none)\/∃j t want,o.guard=some (j,want)/\(ops[j]?).bind (·.dst)=some t/\e.guard=some (t,want)):=by
 unfold pn at h
 split at h<;>try(cases h;done)
 rename_i bk
 split at h<;>try(cases h;done)
 rename_i op cM
 split at h
 · rename_i ba
   cases h
   exact ⟨rfl,cM,bk,.inl ⟨ba,rfl⟩⟩
 · rename_i j w ba
   split at h<;>try(cases h;done)
   rename_i t aY
   cases h
   exact ⟨rfl,cM,bk,.inr ⟨j,t,w,ba,aY,rfl⟩⟩
theorem Ql {o:Oper} {x:Operand} {args:Array Operand} {argTypes:Array TypeId} (cM:o.op= .call {callee:= .value x,args,argTypes}) {f:FuncId} {fb cv:Array Value} (ae:a.eval x= .func (.func f) fb cv):
 (execOp a.eval o).run P w=(callFunc f (fb++args.map a.eval++cv)).run P w:=by
 simp[execOp,cM,resolve,Deferred.ofValue,ae,invoke]
theorem Qm {o:Oper} {x:Operand} {args:Array Operand} {argTypes:Array TypeId} (cM:o.op= .call {callee:= .value x,args,argTypes}) {l:Nat} (ae:a.eval x= .func (.yield l) #[] #[]):
 (execOp a.eval o).run P w=(Instr.yield l (args.map a.eval)).run P w:=by
 simp[execOp,cM,resolve,Deferred.ofValue,ae,invoke]
theorem fw.step {bp:Nat->Option (Nat × Nat)} {s:aW} (S:fw P G Y ju bO base okin N c3 cW cu σ s a w) {d:Option Nat} (bk:d.all (fun d=>decide (d<N))=true) {v:J} {cv:Value} {h':af} {a5:World} {r:Nat}
 (p:ds base okin σ s.h w bp h' a5) (H:cK base okin bp h' a5) (L:jZ bp h'.a7 a5) (aU:bf a5 (bz base okin bp h') bp v cv) (az:s.h.next<=h'.next) (bw:∀id,cu id->id≠r->bp id=none) (Qn:∀id,h'.next<=id->bp id=none) (aL:∀id,id<c3->bp id=σ id):
 fw P G Y ju bO base okin N c3 cW (fun id=>cu id/\id≠r) bp ⟨cD s.F d v,h'⟩ (a.put d cv) a5:=
 ⟨H,L,S.jo.mono p,(S.bG.mono p).put bk S.size aU,by rw[Qj];exact S.size,by rw[put_defers];exact S.marks.mono p.nL,fun l aG=>by
   obtain⟨kR,U⟩:=S.rd l aG
   obtain⟨st,kk,h2⟩:=p.loop l kR U
   exact ⟨_,h2⟩,Nat.le_trans S.se p.below.size,fun id bC=>⟨(S.free id bC.1).1,Nat.lt_of_lt_of_le (S.free id bC.1).2.1 az,bw id bC.1 bC.2⟩,Nat.le_trans S.low az,fun id bC=>(aL id bC).trans (S.l0 id bC),Qn⟩
theorem Ho (bA:jK c_) {Q:Exit->Act->World->Prop} {K:Act->World->Prop} {o:Oper} {f:FuncId} {dA:Array Value} {R:Value->World->Prop} (bk:BW P f dA w R) (oD:∀c,o.op≠ .defer c) (cw:(execOp a.eval o).run P w=(callFunc f dA).run P w)
 (mA:∀cv a5,R cv a5->K (a.put o.dst cv) a5):o.wpIn c_ dQ P a w K Q:=by
 unfold Oper.wpIn
 refine⟨fun f _=>bA.fn f,?_⟩
 rw[Oper.semAt_eq _ _ _ oD,cw]
 rcases bk with⟨U,h2⟩|⟨cv,a5,U,h2⟩
 · rw[U,Oper.uponIn_enter]
   refine⟨bA.one dQ,bA.calls (h2.mono fun e a5 ⟨cv,he,eA⟩=>?_)⟩
   subst he
   exact mA cv a5 eA
 · rw[U]
   exact mA cv a5 h2
theorem Qo (bA:jK c_) {Q:Exit->Act->World->Prop} {K:Act->World->Prop} {o:Oper} {l:Nat} {dA:Array Value} {R:Value->World->Prop} (bk:BX P l dA w R) (oD:∀c,o.op≠ .defer c) (cw:(execOp a.eval o).run P w=(Instr.yield l dA).run P w)
 (mA:∀cv a5,R cv a5->K (a.put o.dst cv) a5):o.wpIn c_ dQ P a w K Q:=by
 unfold Oper.wpIn
 refine⟨fun f _=>bA.fn f,?_⟩
 rw[Oper.semAt_eq _ _ _ oD,cw]
 obtain⟨f,tmps,dK,body,U,h2⟩:=bk
 rw[U,Oper.uponIn_round]
 refine⟨bA.one dQ,(h2 c_ _ bA).mono fun e a5 ⟨cv,he,eA⟩=>?_⟩
 subst he
 exact mA cv a5 eA
theorem Hp (bA:jK c_) (js:tR P G Y cl) (k8:∀f T,tab f=some T->a3 P G f T) {ops:Array Oper} {o:Oper} {e:a_} (iD:pn P N ops o=some e) {bb r:Nat} {s aj:aW} {c:dV}
 (cw:c4 G tab cl bb r e s=some (aj,c)) (S:fw P G Y ju bO base okin N c3 cW cu σ s a w) (qP:cu r) {K:Act->World->Prop} {Q:Exit->Act->World->Prop}
 (mA:∀bp eE a5,fw P G Y ju bO base okin N c3 cW (fun id=>cu id/\id≠r) bp aj eE a5->ds base okin σ s.h w bp aj.h a5->K eE a5):o.wpIn c_ dQ P a w K Q:=by
 obtain⟨d1,d2,d3,_⟩:=Hn iD
 have bk:e.dst.all (fun d=>decide (d<N))=true:=by rw[d1];exact d3
 by_cases I:∃f args,e.op= .call f args
 · obtain⟨f,args,cM⟩:=I
   rw[cM] at d2
   have mx:∃x as eB,o.op= .call {callee:= .value x,args:=as,argTypes:=eB}/\ei x=some f/\pk as.toList=some args:=by
    cases aL:o.op<;>rw[aL] at d2<;>simp only[fN] at d2<;>try(first|(cases d2;done)|(split at d2<;>cases d2;done))
    case call BL=>
     obtain⟨callee,as,eB⟩:=BL
     cases callee with
     | value x=>
       simp only at d2
       split at d2<;>try(cases d2;done)
       rename_i U h2
       cases d2
       exact ⟨x,as,eB,rfl,U,h2⟩
     | invoke _ _=>simp only at d2;cases d2
     | builtin b=>
       exfalso
       cases b<;>simp only at d2<;>(repeat' split at d2)<;>first|(cases d2;done)|(obtain⟨_,_,d2⟩:=Option.map_eq_some_iff.1 d2;cases d2)
    all_goals
     exfalso
     first
      | (obtain⟨_,_,d2⟩:=Option.map_eq_some_iff.1 d2;cases d2;done)
      | ((repeat' split at d2)<;>first|contradiction|(cases d2;done)|(obtain⟨_,_,d2⟩:=Option.map_eq_some_iff.1 d2;cases d2;done))
   obtain⟨x,as,eB,aL,ae,has⟩:=mx
   unfold c4 at cw
   simp only[cM] at cw
   have oD:∀c,o.op≠ .defer c:=fun c I=>by rw[aL] at I;cases I
   split at cw<;>try(cases cw;done)
   rotate_left
   · rename_i id bw
     obtain⟨p,aS,cw⟩:=Option.map_eq_some_iff.1 cw
     obtain⟨v,h'⟩:=p
     cases cw
     have rx:=S.bG.dX ae
     rw[bw] at rx
     obtain⟨l,sl,ex,oE⟩:=rx.O'
     obtain⟨kc,oF⟩:=rZ S.bG has
     have az:=js.next _ _ _ _ _ aS
     refine Qo bA (js.lk _ _ _ _ _ aS base okin σ w (as.map a.eval) l sl S.aE S.kU S.jo oE (by simp at kc|-;omega) (fun i ab bW=>by
      have:=oF i (by simpa using ab) (by simpa using bW)
      simpa using this) S.bG.mS S.fresh) oD (Qm aL ex) (fun B0 a5 eA=>?_)
     obtain⟨bp,bL,cj,qQ,dd,my,kB⟩:=eA
     rw[<-d1]
     exact mA bp _ a5 (S.step bk bL cj qQ dd az (fun id bC _=>by rw[kB id (S.free id bC).2.1];exact (S.free id bC).2.2) my (fun id bC=>kB id (Nat.lt_of_lt_of_le bC S.low))) bL
   rename_i n first caps bw
   have rx:=S.bG.dX ae
   rw[bw] at rx
   obtain⟨fb,cv,ex,cp,ea,bJ,dh⟩:=rx.Gd
   obtain⟨kc,oF⟩:=rZ S.bG has
   have Hq:=Ql (P:=P) (w:=w) aL ex
   have df:(fb++as.map a.eval++cv).size=(first++args.map (a6.ev G s.F)++caps).length:=by simp at kc|-;omega
   have fF:∀i (ab:i<(first++args.map (a6.ev G s.F)++caps).length) (bW:i<(fb++as.map a.eval++cv).size),bf w (bz base okin σ s.h) σ (first++args.map (a6.ev G s.F)++caps)[i] (fb++as.map a.eval++cv)[i]:=by
    intro i ab bW
    by_cases U:i<first.length
    · have au:(first++args.map (a6.ev G s.F)++caps)[i]=first[i]:=by
       rw[List.getElem_append_left (by simp;omega),List.getElem_append_left U]
      have ax:(fb++as.map a.eval++cv)[i]=fb[i]'(by omega):=by
       rw[Array.getElem_append_left (by simp;omega),Array.getElem_append_left (by omega)]
      rw[au,ax];exact bJ i U (by omega)
    · by_cases h2:i<first.length+args.length
      · have au:(first++args.map (a6.ev G s.F)++caps)[i]=args[i - first.length].ev G s.F:=by
         rw[List.getElem_append_left (by simp;omega),List.getElem_append_right (by omega)];simp
        have ax:(fb++as.map a.eval++cv)[i]=a.eval (as.toList[i - first.length]'(by simp at kc|-;omega)):=by
         rw[Array.getElem_append_left (by simp at kc|-;omega),Array.getElem_append_right (by omega)]
         simp[cp]
        rw[au,ax];exact oF _ (by omega) (by simp at kc|-;omega)
      · have au:(first++args.map (a6.ev G s.F)++caps)[i]=caps[i -(first.length+args.length)]'(by simp at ab;omega):=by
         rw[List.getElem_append_right (by simp;omega)];simp
        have ax:(fb++as.map a.eval++cv)[i]=cv[i -(first.length+args.length)]'(by simp at ab;omega):=by
         rw[Array.getElem_append_right (by simp at kc|-;omega)]
         congr 1
         simp at kc|-;omega
        rw[au,ax];exact dh _ (by simp at ab;omega) (by simp at ab;omega)
   split at cw
   · rename_i T c6
     split at cw<;>try(cases cw;done)
     rename_i vs ids nE
     obtain⟨v,aF,cw⟩:=Option.map_eq_some_iff.1 cw
     cases cw
     obtain⟨Qp,Hr⟩:=S.aE.close ids
     obtain⟨dg,eI⟩:=BY S.aE (fun i=>(fb++as.map a.eval++cv).getD i undef) (fun i ab=>by
      have bF:i<(fb++as.map a.eval++cv).size:=by rw[df];exact ab
      have:=fF i ab bF
      rw[BZ _ _ bF];exact this) nE
     refine Ho bA (k8 n T c6 vs v aF (bz base okin σ (s.h.close ids)) w (fb++as.map a.eval++cv) (by rw[df,dg]) (fun i ab bW=>by
      have:=eI i ab
      rw[BZ _ _ bW] at this;exact this) (fun g u ba=>(Hr.rep (S.bG.mS g u ba)).Qg)) oD Hq (fun B0 a5 eA=>?_)
     obtain⟨dp,dr⟩:=eA
     obtain⟨B1,B2⟩:=Qp.grown dr
     have Hs:=Hr.trans B2
     have Ht:=ds.of S.aE Hs
     rw[<-d1]
     refine mA σ _ a5 (S.step bk Ht B1 (S.kU.of S.aE Hs rfl) (.val _ _ (dp.rV fun b _ aa=>?_)) (Nat.le_refl _) (fun id bC _=>(S.free id bC).2.2) S.fresh (fun _ _=>rfl)) Ht
     rcases aa with aa|aa
     · exact aa
     · exact .inr ⟨Nat.le_trans S.aE.base aa,fun id sz aE _=>by have:=(S.aE.val _ _ _ aE).2;omega⟩
   · rename_i c6
     obtain⟨p,aS,cw⟩:=Option.map_eq_some_iff.1 cw
     obtain⟨v,h'⟩:=p
     cases cw
     have az:=js.next _ _ _ _ _ aS
     refine Ho bA (js.fn _ _ _ _ _ aS base okin σ w _ S.aE S.kU S.jo df fF S.bG.mS S.fresh) oD Hq (fun B0 a5 eA=>?_)
     obtain⟨bp,bL,cj,qQ,dd,my,kB⟩:=eA
     rw[<-d1]
     exact mA bp _ a5 (S.step bk bL cj qQ dd az (fun id bC _=>by rw[kB id (S.free id bC).2.1];exact (S.free id bC).2.2) my (fun id bC=>kB id (Nat.lt_of_lt_of_le bC S.low))) bL
 · have r_:c4 G tab cl bb r e s=(evalOp bb r (a6.ev G s.F) s.h e.op).map fun(v,h',c)=>(⟨cD s.F e.dst v,h'⟩,c):=by
    unfold c4
    split
    · exact absurd ⟨_,_,‹_›⟩ I
    · rfl
   rw[r_] at cw
   obtain⟨p,aS,cw⟩:=Option.map_eq_some_iff.1 cw
   obtain⟨v,h',cY⟩:=p
   have ou:(⟨cD s.F e.dst v,h'⟩:aW)=aj:=congrArg Prod.fst cw
   subst ou
   have x7:h'.next=s.h.next:=congrArg Prod.fst (tL aS).1
   have Qq:h'.a7=s.h.a7:=congrArg Prod.snd (tL aS).1
   obtain⟨bp,cv,a5,au,ax,a9,bX,fc⟩:=PY S.aE S.bG (S.free r qP).2.2 o d2 aS
   have fin:fw P G Y ju bO base okin N c3 cW (fun id=>cu id/\id≠r) bp ⟨cD s.F e.dst v,h'⟩ (a.put e.dst cv) a5:=
    S.step bk (ds.of S.aE ax) a9 (S.kU.of S.aE ax Qq) bX (by rw[x7];exact Nat.le_refl _) (fun id bC bV=>by rw[fc id bV];exact (S.free id bC).2.2) (fun id bC=>by
      rw[x7] at bC
      have:id≠r:=by have:=(S.free r qP).2.1;omega
      rw[fc id this];exact S.fresh id bC) (fun id bC=>fc id (by have:=(S.free r qP).1;omega))
   have Hu:=mA bp _ a5 fin (ds.of S.aE ax)
   have oD:∀c,o.op≠ .defer c:=fun c I=>by rw[I] at d2;simp only[fN] at d2;cases d2
   unfold Oper.wpIn
   refine⟨fun f _=>bA.fn f,?_⟩
   rw[Oper.semAt_eq _ _ _ oD]
   rcases au with au|⟨au,rfl⟩
   · rw[au,Oper.uponIn_value,<-d1];exact Hu
   · rw[au,Oper.uponIn_skip,<-d1];exact Hu
theorem Hv (bA:jK c_) (js:tR P G Y cl) (k8:∀f T,tab f=some T->a3 P G f T) {ops:Array Oper} {i:Nat} {o:Oper} (ab:ops[i]? =some o) {e:a_} (iD:pn P N ops o=some e) {bb r:Nat} {s aj:aW} {c:dV}
 (cw:cE G tab cl bb r e s=some (aj,c)) (S:fw P G Y ju bO base okin N c3 cW cu σ s a w) (qP:cu r) {K:Act->World->Prop} {Q:Exit->Act->World->Prop}
 (mA:∀bp eE a5,fw P G Y ju bO base okin N c3 cW (fun id=>cu id/\id≠r) bp aj eE a5->ds base okin σ s.h w bp aj.h a5->K eE a5):wpOpIn c_ dQ P ops Q i K a w:=by
 obtain⟨d1,d2,d3,ba⟩:=Hn iD
 unfold wpOpIn
 rw[ab]
 simp only
 unfold cE at cw
 rcases ba with⟨bT,cL⟩|⟨j,t,want,bT,cL,fG⟩
 · rw[cL] at cw
   simp only[Region.wanted,bT,if_true]
   exact Hp bA js k8 iD cw S qP mA
 · rw[fG] at cw
   simp only at cw
   cases aa:s.F t<;>rw[aa] at cw<;>try(cases cw;done)
   · cases cw
     have aY:=S.bG.slot t
     rw[aa] at aY
     have oG:=aY.O9
     have a2:yielded ops a.tmps j=none:=by
      rw[Array.getD_eq_getD_getElem?] at oG
      cases aT:a.tmps[t]? with
      | none=>simp[yielded,cL,aT]
      | some v=>
        rw[aT] at oG
        simp only[Option.getD_some] at oG
        subst oG
        simp[yielded,cL,aT,Go.undef]
     simp only[Region.wanted,bT,a2]
     have bV:((none:Option Bool) == some want)=false:=rfl
     rw[bV]
     simp only[Bool.false_eq_true,if_false]
     have bk:e.dst.all (fun d=>decide (d<N))=true:=by rw[d1];exact d3
     refine⟨fun f _=>bA.fn f,?_⟩
     rw[<-d1]
     exact mA σ _ w (S.step bk (ds.refl ..) S.aE S.kU .kv (Nat.le_refl _) (fun id bC _=>(S.free id bC).2.2) S.fresh (fun _ _=>rfl)) (ds.refl ..)
   rename_i b
   have aY:=S.bG.slot t
   rw[aa] at aY
   have oG:=aY.qB
   have vX:a.tmps[t]? =some (.bool b):=by
    rw[Array.getD_eq_getD_getElem?] at oG
    cases aT:a.tmps[t]? with
    | none=>rw[aT] at oG;simp[undef] at oG
    | some v=>rw[aT] at oG;simpa using oG
   have a2:yielded ops a.tmps j=some b:=by
    simp[yielded,cL,vX]
   simp only[Region.wanted,bT,a2]
   by_cases nK:b=want
   · subst nK
     simp only[if_true] at cw
     simp only[BEq.rfl,if_true]
     exact Hp bA js k8 iD cw S qP mA
   · simp only[if_neg nK] at cw
     cases cw
     have bV:(some b == some want)=false:=by simpa using nK
     rw[bV]
     simp only[Bool.false_eq_true,if_false]
     have bk:e.dst.all (fun d=>decide (d<N))=true:=by rw[d1];exact d3
     refine⟨fun f _=>bA.fn f,?_⟩
     rw[<-d1]
     exact mA σ _ w (S.step bk (ds.refl ..) S.aE S.kU .kv (Nat.le_refl _) (fun id bC _=>(S.free id bC).2.2) S.fresh (fun _ _=>rfl)) (ds.refl ..)
end
end Go.Eng
namespace Go.Eng
open Go Go.RowKit
section
variable {P:Program} {G:Nat->Option J} {base:Nat} {okin:Nat->Prop} {N:Nat} {c3:Nat} {cW:Nat->Option (Nat × Nat)} {tab:FuncId->Option (List J->Option J)} {cl:kO->List J->af->Option (J × af)} {Y:List cR} {ju:Option Nat} {bO:Nat} {c_:Fence} {dQ:Nat}
theorem B3 {bb:Nat}:∀ {L:List (a_ × Nat)} {s aj:aW} {cs:List dV},c2 G tab cl bb L s=some (aj,cs)->cs.length=L.length
 | [],s,aj,cs,h=>by simp only[c2] at h;cases h;rfl
 | q::L,s,aj,cs,h=>by
   simp only[c2] at h
   split at h<;>try(cases h;done)
   obtain⟨p,h2,aN⟩:=Option.map_eq_some_iff.1 h
   cases aN
   simp[B3 h2]
theorem fw.weaken {cu tE:Nat->Prop} {σ:Nat->Option (Nat × Nat)} {s:aW} {a:Act} {w:World} (S:fw P G Y ju bO base okin N c3 cW cu σ s a w) (h:∀i,tE i->cu i):fw P G Y ju bO base okin N c3 cW tE σ s a w:=
 ⟨S.aE,S.kU,S.jo,S.bG,S.size,S.marks,S.rd,S.se,fun i ab=>S.free i (h i ab),S.low,S.l0,S.fresh⟩
theorem Hw (bA:jK c_) (js:tR P G Y cl) (k8:∀f T,tab f=some T->a3 P G f T) {ops:Array Oper} {bb:Nat} {aj:aW} {Q:Exit->Act->World->Prop}:∀(L:List (a_ × Nat)) (s:aW) (cs:List dV) (σ:Nat->Option (Nat × Nat)) (a:Act) (w:World),
 (∀p∈L,∃o,ops[p.2]? =some o/\pn P N ops o=some p.1)->L.Pairwise (fun p q=>p.2<q.2)->c2 G tab cl bb L s=some (aj,cs)->
 fw P G Y ju bO base okin N c3 cW (fun id=>∃p∈L,id=bb+p.2) σ s a w->
 (∀bp eE a5,fw P G Y ju bO base okin N c3 cW (fun _=>False) bp aj eE a5->ds base okin σ s.h w bp aj.h a5->Q .normal eE a5)->wpOpsIn c_ dQ P ops Q (L.map (·.2)) a w
 | [],s,cs,σ,a,w,_,_,cw,S,dM=>by
   simp only[c2] at cw;cases cw
   exact dM σ a w (S.weaken fun _ h=>h.elim) (ds.refl ..)
 | (e,i)::L,s,cs,σ,a,w,bq,bk,cw,S,dM=>by
   simp only[c2] at cw
   split at cw<;>try(cases cw;done)
   rename_i s1 c U
   obtain⟨p,h2,aN⟩:=Option.map_eq_some_iff.1 cw
   obtain⟨s2,Hx⟩:=p
   have B4:s2=aj:=congrArg Prod.fst aN
   subst B4
   obtain⟨o,aL,x8⟩:=bq (e,i) (by simp)
   rw[List.map_cons,wpOpsIn_cons]
   refine Hv bA js k8 aL x8 U S ⟨(e,i),by simp,rfl⟩ (fun bp eE a5 l3 aa=>?_)
   refine Hw bA js k8 L s1 Hx bp eE a5 (fun p aS=>bq p (by simp[aS])) (List.pairwise_cons.1 bk).2 h2 (l3.weaken ?_) (fun B5 B6 B7 B8 sf=>dM B5 B6 B7 B8 (aa.trans sf))
   rintro id ⟨p,aS,rfl⟩
   refine⟨⟨p,by simp[aS],rfl⟩,?_⟩
   have:=(List.pairwise_cons.1 bk).1 p aS
   simp only at this|-
   omega
theorem Qr {ops:Array Oper} {b:List Nat} (h:xK ops b=true) {i k:Nat} {o:Oper} (aL:ops[i]? =some o) (ag:k<i) (aa:(b.getD i 0).testBit k=true):
 ∃e∈o.after,Region.binds .any e=true/\(e.on=k\/(k<e.on/\(b.getD e.on 0).testBit k=true)):=by
 unfold xK at h
 have U:=List.all_eq_true.1 h (o,i) (by
  rw[List.mem_zipIdx_iff_getElem?]
  simpa using aL)
 have h2:=List.all_eq_true.1 U k (by simpa using ag)
 simp only[aa,Bool.not_true,Bool.false_or] at h2
 obtain⟨e,he,aN⟩:=Array.any_eq_true'.1 h2
 simp only[Bool.and_eq_true,Bool.or_eq_true,beq_iff_eq,decide_eq_true_eq] at aN
 exact ⟨e,he,aN.1,aN.2⟩
theorem Hy {ops:Array Oper} (h:xJ ops=true) {i:Nat} {o:Oper} (aL:ops[i]? =some o) {e:Edge} (he:e∈o.after) (aa:Region.binds .any e=true):e.on<i:=by
 unfold xJ at h
 have U:=List.all_eq_true.1 h (o,i) (by
  rw[List.mem_zipIdx_iff_getElem?]
  simpa using aL)
 have h2:=Array.all_eq_true'.1 U e he
 simpa[aa] using h2
structure Left (P:Program) (N:Nat) (ops:Array Oper) (b:List Nat) (L:List (a_ × Nat)) (cs:List dV) (listed:Array Bool):Prop where
 size:listed.size=ops.size
 mem:∀p∈L,∃o,ops[p.2]? =some o/\pn P N ops o=some p.1/\listed.getD p.2 true=false
 all:∀i,i<ops.size->listed.getD i true=false->∃e,(e,i)∈L
 x9:L.Pairwise (fun p q=>p.2<q.2)
 shut:∀i,i<ops.size->listed.getD i false=true->∀k,k<i->(b.getD i 0).testBit k=true->listed.getD k false=true
 Hz:∀p q (aS:p<q) (aT:q<L.length) (qJ:q<cs.length),(b.getD L[q].2 0).testBit L[p].2=true\/(L[p].1.apart L[q].1=true/\kx cs[p] cs[q]=true)
theorem Qs {listed:Array Bool} {n i:Nat} (aE:listed.size=n) (ab:i<n):listed.getD i true=false\/listed.getD i false=true:=by
 have:i<listed.size:=by omega
 simp only[Array.getD_eq_getD_getElem?,Array.getElem?_eq_getElem this,Option.getD_some]
 cases listed[i]<;>simp
theorem Qt (bA:jK c_) (js:tR P G Y cl) (k8:∀f T,tab f=some T->a3 P G f T) {ops:Array Oper} {b:List Nat} (Qu:xK ops b=true) (HA:xJ ops=true) {bb:Nat} {aj:aW} {Q:Exit->Act->World->Prop}:
 ∀(fuel:Nat) (L:List (a_ × Nat)) (s:aW) (cs:List dV) (listed:Array Bool) (σ:Nat->Option (Nat × Nat)) (a:Act) (w:World),L.length<=fuel->
 Left P N ops b L cs listed->c2 G tab cl bb L s=some (aj,cs)->
 fw P G Y ju bO base okin N c3 cW (fun id=>∃p∈L,id=bb+p.2) σ s a w->
 (∀bp eE a5,fw P G Y ju bO base okin N c3 cW (fun _=>False) bp aj eE a5->ds base okin σ s.h w bp aj.h a5->Q .normal eE a5)->wpAnyIn c_ dQ P .any ops Q fuel listed a w:=by
 have fin:∀(s:aW) (cs:List dV) (σ:Nat->Option (Nat × Nat)) (a:Act) (w:World),c2 G tab cl bb [] s=some (aj,cs)->
  fw P G Y ju bO base okin N c3 cW (fun id=>∃p∈([]:List (a_ × Nat)),id=bb+p.2) σ s a w->
  (∀bp eE a5,fw P G Y ju bO base okin N c3 cW (fun _=>False) bp aj eE a5->ds base okin σ s.h w bp aj.h a5->Q .normal eE a5)->Q .normal a w:=by
  intro s cs σ a w cw S dM
  simp only[c2] at cw;cases cw
  exact dM σ a w (S.weaken fun _ h=>h.elim) (ds.refl ..)
 have Qv:∀ {cs:List dV} {listed:Array Bool},Left P N ops b [] cs listed->Region.ready .any ops listed= []:=by
  intro cs listed bq
  apply List.eq_nil_iff_forall_not_mem.2
  intro i ab
  have aU:=mem_ready.1 ab
  obtain⟨aG,o,aL,_⟩:=aU
  obtain⟨e,he⟩:=bq.all i (Array.getElem?_eq_some_iff.1 aL).1 aG
  simp at he
 intro fuel
 induction fuel with
 | zero=>
   intro L s cs listed σ a w bw bq cw S dM
   have:L= []:=List.eq_nil_of_length_eq_zero (by omega)
   subst this
   exact ⟨Qv bq,fin s cs σ a w cw S dM⟩
 | succ fuel bj=>
   intro L s cs listed σ a w bw bq cw S dM
   refine⟨fun aU=>?_,fun i ab=>?_⟩
   · cases L with
     | nil=>exact fin s cs σ a w cw S dM
     | cons p L=>
       exfalso
       obtain⟨o,aL,x8,aG⟩:=bq.mem p (by simp)
       have:p.2∈Region.ready .any ops listed:=by
        refine mem_ready.2 ⟨aG,o,aL,fun e he aa=>?_⟩
        have bF:=Hy HA aL he aa
        have df:=(Array.getElem?_eq_some_iff.1 aL).1
        rcases Qs bq.size (show e.on<ops.size by omega) with U|U
        · obtain⟨q,aT⟩:=bq.all e.on (by omega) U
          rcases List.mem_cons.1 aT with aT|aT
          · rw[<-aT] at bF;simp at bF
          · have:=(List.pairwise_cons.1 bq.x9).1 _ aT
            simp at this;omega
        · exact U
       rw[aU] at this;simp at this
   · obtain⟨aG,o,aL,Qw⟩:=mem_ready.1 ab
     have tI:=(Array.getElem?_eq_some_iff.1 aL).1
     obtain⟨e,he⟩:=bq.all i tI aG
     obtain⟨fv,kT,rfl⟩:=List.append_of_mem he
     have xY:∀k,k<i->listed.getD k false=false->(b.getD i 0).testBit k=false:=by
      intro k ag tS
      cases aY:(b.getD i 0).testBit k with
      | false=>rfl
      | true=>
        exfalso
        obtain⟨HB,U,h2,aN⟩:=Qr Qu aL ag aY
        have HC:=Qw HB U h2
        rcases aN with rfl|⟨aN,a8⟩
        · rw[HC] at tS;cases tS
        · have bF:=Hy HA aL U h2
          have:=bq.shut HB.on (by omega) HC k aN a8
          rw[this] at tS;cases tS
     have hlen:=B3 cw
     have Qx:∀p∈fv++(e,i)::kT,listed.getD p.2 false=false:=by
      intro p aS
      obtain⟨o',nE,_,qF⟩:=bq.mem p aS
      have df:=(Array.getElem?_eq_some_iff.1 nE).1
      have kj:p.2<listed.size:=by rw[bq.size];exact df
      simp only[Array.getD_eq_getD_getElem?,Array.getElem?_eq_getElem kj,Option.getD_some] at qF|-
      exact qF
     obtain⟨s1,c,cn,cd,bL,cj,rfl,my⟩:=Hh cw (fun k ag jU qF=>by
      have px:(fv++(e,i)::kT)[k]'(by simp;omega)=fv[k]:=List.getElem_append_left ag
      have vE:(fv++(e,i)::kT)[fv.length]'(by simp)=(e,i):=by simp
      have aS:=bq.Hz k fv.length ag (by simp) qF
      rw[px,vE] at aS
      have bF:fv[k].2<i:=by
       have:=List.pairwise_append.1 bq.x9
       exact this.2.2 _ (List.getElem_mem ag) (e,i) (by simp)
      have bw:=xY fv[k].2 bF (Qx _ (by simp[List.getElem_mem ag]))
      rcases aS with aS|aS
      · rw[bw] at aS;cases aS
      · exact ⟨aS.1,aS.2,by omega⟩) js.frame (by
        have Qy:=S.free (bb+i) ⟨(e,i),by simp,rfl⟩
        cases aa:s.h.cells (bb+i) with
        | none=>rfl
        | some b=>
          obtain⟨_,_,_,_,U,_⟩:=S.aE.blk _ _ aa
          rw[Qy.2.2] at U;cases U) (S.free (bb+i) ⟨(e,i),by simp,rfl⟩).2.1
     obtain⟨o',nE,x8,_⟩:=bq.mem (e,i) (by simp)
     refine Hv bA js k8 nE x8 bL S ⟨(e,i),by simp,rfl⟩ (fun bp eE a5 l3 k6=>?_)
     have HD:∀p∈fv++kT,p.2≠i:=by
      intro p aS
      have aT:=List.pairwise_append.1 bq.x9
      rcases List.mem_append.1 aS with aS|aS
      · have:=aT.2.2 p aS (e,i) (by simp);simp at this;omega
      · have:=(List.pairwise_cons.1 aT.2.1).1 p aS;simp at this;omega
     have HE:∀p∈fv++kT,p∈fv++(e,i)::kT:=by
      intro p aS
      rcases List.mem_append.1 aS with aS|aS
      · simp[aS]
      · simp[aS]
     have mB:∀(j:Nat) (d:Bool),j≠i->(listed.setIfInBounds i true).getD j d=listed.getD j d:=fun j d aO=>by
      simp only[Array.getD_eq_getD_getElem?]
      rw[Array.getElem?_setIfInBounds_ne (Ne.symm aO)]
     have Qz:(listed.setIfInBounds i true).getD i false=true:=by
      have:i<listed.size:=by rw[bq.size];exact tI
      simp[Array.getD_eq_getD_getElem?,this]
     have QA:Left P N ops b (fv++kT) (cn++cd) (listed.setIfInBounds i true):=by
      refine⟨by simpa using bq.size,fun p aS=>?_,fun j aO rY=>?_,?_,fun j aO rY k ag aY=>?_,fun p q aS aT qJ=>?_⟩
      · obtain⟨jT,U,h2,aN⟩:=bq.mem p (HE p aS)
        exact ⟨jT,U,h2,by rw[mB _ _ (HD p aS)];exact aN⟩
      · by_cases tT:j=i
        · subst tT
          have:j<listed.size:=by rw[bq.size];exact tI
          simp[Array.getD_eq_getD_getElem?,this] at rY
        · rw[mB _ _ tT] at rY
          obtain⟨e',QB⟩:=bq.all j aO rY
          refine⟨e',?_⟩
          rcases List.mem_append.1 QB with h|h
          · simp[h]
          · rcases List.mem_cons.1 h with h|h
            · exact absurd (congrArg Prod.snd h) tT
            · simp[h]
      · have aT:=List.pairwise_append.1 bq.x9
        exact List.pairwise_append.2 ⟨aT.1,(List.pairwise_cons.1 aT.2.1).2,fun p aS q qJ=>aT.2.2 p aS q (by simp[qJ])⟩
      · by_cases HF:k=i
        · subst HF;exact Qz
        · rw[mB _ _ HF]
          by_cases tT:j=i
          · subst tT
            cases tS:listed.getD k false with
            | true=>rfl
            | false=>rw[xY k ag tS] at aY;cases aY
          · rw[mB _ _ tT] at rY
            exact bq.shut j aO rY k ag aY
      ·
       have HG:cn.length=fv.length:=my
       have pos:∀(r:Nat) (aU:r<(fv++kT).length) (nf:r<(cn++cd).length),∃jd,(jd=if r<fv.length then r else r+1)/\∃(U:jd<(fv++(e,i)::kT).length) (h2:jd<(cn++c::cd).length),(fv++kT)[r]=(fv++(e,i)::kT)[jd]/\(cn++cd)[r]=(cn++c::cd)[jd]:=by
        intro r aU nf
        simp only[List.length_append] at aU nf
        by_cases h:r<fv.length
        · refine⟨r,by rw[if_pos h],by simp;omega,by simp;omega,?_,?_⟩
          · rw[List.getElem_append_left h,List.getElem_append_left h]
          · rw[List.getElem_append_left (by omega),List.getElem_append_left (by omega)]
        · refine⟨r+1,by rw[if_neg h],by simp;omega,by simp;omega,?_,?_⟩
          · rw[List.getElem_append_right (by omega),List.getElem_append_right (by omega)]
            have:r+1 - fv.length=(r - fv.length)+1:=by omega
            simp[this]
          · rw[List.getElem_append_right (by omega),List.getElem_append_right (by omega)]
            have:r+1 - cn.length=(r - cn.length)+1:=by omega
            simp[this]
       obtain⟨l1,QC,bo,bB,bR,b'⟩:=pos p (by omega) (by omega)
       obtain⟨l2,QD,dp,dr,gi,jV⟩:=pos q aT qJ
       have:=bq.Hz l1 l2 (by subst QC;subst QD;split<;>split<;>omega) dp dr
       rw[bR,gi,b',jV]
       exact this
     refine bj (fv++kT) s1 (cn++cd) (listed.setIfInBounds i true) bp eE a5 (by simp at bw|-;omega) QA cj (l3.weaken ?_) (fun B5 B6 B7 B8 sf=>dM B5 B6 B7 B8 (k6.trans sf))
     rintro id ⟨p,aS,rfl⟩
     exact ⟨⟨p,HE p aS,rfl⟩,by have:=HD p aS;omega⟩
theorem HH {ops:Array Oper}:∀ {os:List Oper} {es:List a_},vw P N ops os=some es->es.length=os.length/\∀i (h:i<es.length) (h':i<os.length),pn P N ops os[i]=some es[i]
 | [],es,h=>by simp only[vw] at h;cases h;exact ⟨rfl,fun i h=>absurd h (by simp)⟩
 | o::os,es,h=>by
   simp only[vw] at h
   split at h<;>try(cases h;done)
   rename_i e qG U h2
   cases h
   obtain⟨l,q⟩:=HH h2
   refine⟨by simp[l],fun i ab bW=>?_⟩
   cases i with
   | zero=>exact U
   | succ i=>exact q i (by simpa using ab) (by simpa using bW)
end
end Go.Eng
namespace Go.Eng
open Go Go.RowKit
section
variable {P:Program} {G:Nat->Option J} {base:Nat} {okin:Nat->Prop} {σ:Nat->Option (Nat × Nat)} {h:af} {w:World}
theorem B9 {l:Nat} {o o':Obj} (aG:w.heap[l]? =some o) (az:∀arr ty e,o≠ .cells arr ty e) (oA:∀es c,o≠ .map es c) (ok:Nat->Prop):tx w (w.putObj l o') ok ok:=fun b x aa ag aL=>
 ⟨aL,World.putObj_heap_other (by
   rintro rfl
   rw[aG] at aa
   cases aa
   rcases ag with⟨_,_,_,rfl⟩|⟨_,_,rfl⟩
   · exact az _ _ _ rfl
   · exact oA _ _ rfl)⟩
theorem B_ {l:Nat} {o o':Obj} (aG:w.heap[l]? =some o) (az:∀arr ty e,o≠ .cells arr ty e) (b:Nat):iB w b<=iB (w.putObj l o') b:=by
 by_cases e:b=l
 · subst e
   have:iB w b=0:=by
    unfold iB
    rw[aG]
    cases o<;>first|rfl|exact absurd rfl (az _ _ _)
   omega
 · unfold iB
   rw[World.putObj_heap_other e];exact Nat.le_refl _
theorem cK.put (H:cK base okin σ h w) {l:Nat} {o:Obj} (o':Obj) (aG:w.heap[l]? =some o) (az:∀arr ty e,o≠ .cells arr ty e) (oA:∀es c,o≠ .map es c):cK base okin σ h (w.putObj l o'):=by
 refine⟨fun id b s ab=>⟨(H.val id b s ab).1,by simpa using (H.val id b s ab).2⟩,fun id fZ iC=>?_,H.inj,by simpa using H.base⟩
 obtain⟨b,s,qI,ty,au,ax,a9⟩:=H.blk id fZ iC
 refine⟨b,s,qI,ty,au,?_,fun i ab=>⟨(a9 i ab).1,fun j aO=>?_⟩⟩
 · rw[World.putObj_heap_other (by rintro rfl;rw[aG] at ax;exact az _ _ _ (Option.some.inj ax))];exact ax
 · obtain⟨v,bT,cL⟩:=(a9 i ab).2 j aO
   exact ⟨v,bT,cL.mono (B9 aG az oA _) (fun _ _ x=>x) (B_ aG az)⟩
theorem HI {l:Nat} (o':Obj) (aa:base<=l):Below base w (w.putObj l o'):=⟨rfl,rfl,rfl,by simp,fun k ag=>World.putObj_heap_other (by omega)⟩
theorem ds.B' {l:Nat} {r:Loop} (aG:w.heap[l]? =some (.loop r)) (aa:base<=l) (st:LoopState) (kk:Option Code) {h':af} (j':∀b,bz base okin σ h b->bz base okin σ h' b):
 ds base okin σ h w σ h' (w.putObj l (.loop {r with state:=st,pending:=kk})):=by
 have az:∀arr ty e,Obj.loop r≠ .cells arr ty e:=fun _ _ _ h=>by cases h
 have oA:∀es c,Obj.loop r≠ .map es c:=fun _ _ h=>by cases h
 refine⟨fun _ _ x=>x,fun b o U ag h2=>⟨j' b h2,(B9 aG az oA (fun _=>True) b o U ag trivial).2⟩,HI _ aa,B_ aG az,fun b r0 aQ=>?_,fun b aQ=>?_⟩
 · by_cases e:b=l
   · subst e
     rw[aG] at aQ;cases aQ
     exact ⟨st,kk,World.putObj_heap_same (pD aG)⟩
   · exact ⟨r0.state,r0.pending,by rw[World.putObj_heap_other e];exact aQ⟩
 · rw[World.putObj_heap_other (by rintro rfl;rw[aG] at aQ;cases aQ)];exact aQ
theorem jZ.set {a7:Nat->Option fr} (L:jZ σ a7 w) {id l s:Nat} {r:Loop} {bS:fr} (aS:a7 id=some bS) (oE:σ id=some (l,s)) (aG:w.heap[l]? =some (.loop r)) (p:fr):
 jZ σ (aw a7 id (some p)) (w.putObj l (.loop {r with state:=nM p,pending:=nN p})):=by
 refine⟨fun gh q aT=>?_,fun i iY q l2 a s1 s2 U h2 au ax=>?_⟩
 · by_cases e:gh=id
   · subst e
     simp only[aw,if_true] at aT
     cases aT
     exact ⟨l,s,_,oE,World.putObj_heap_same (pD aG),rfl,rfl⟩
   · simp only[aw,e,if_false] at aT
     obtain⟨lI,aj,jd,au,ax,a9,bX⟩:=L.look gh q aT
     refine⟨lI,aj,jd,au,?_,a9,bX⟩
     rw[World.putObj_heap_other]
     · exact ax
     · rintro rfl
       exact e (L.inj gh id q bS _ _ _ aT aS au oE)
 · have f:∀i q,aw a7 id (some p) i=some q->∃q,a7 i=some q:=by
    intro i q aT
    by_cases e:i=id
    · subst e;exact ⟨bS,aS⟩
    · exact ⟨q,by simpa[aw,e] using aT⟩
   obtain⟨dp,U⟩:=f i q U
   obtain⟨dr,h2⟩:=f iY l2 h2
   exact L.inj i iY dp dr a s1 s2 U h2 au ax
theorem jZ.del {a7:Nat->Option fr} (L:jZ σ a7 w) {id l s:Nat} {bS:fr} (aS:a7 id=some bS) (oE:σ id=some (l,s)) (o':Obj):jZ σ (aw a7 id none) (w.putObj l o'):=by
 have f:∀i q,aw a7 id none i=some q->i≠id/\a7 i=some q:=by
  intro i q aT
  by_cases e:i=id
  · simp[aw,e] at aT
  · exact ⟨e,by simpa[aw,e] using aT⟩
 refine⟨fun gh q aT=>?_,fun i iY q l2 a s1 s2 U h2 au ax=>L.inj i iY q l2 a s1 s2 (f i q U).2 (f iY l2 h2).2 au ax⟩
 obtain⟨e,aT⟩:=f gh q aT
 obtain⟨lI,aj,jd,au,ax,a9,bX⟩:=L.look gh q aT
 refine⟨lI,aj,jd,au,?_,a9,bX⟩
 rw[World.putObj_heap_other]
 · exact ax
 · rintro rfl
   exact e (L.inj gh id q bS _ _ _ aT aS au oE)
theorem jZ.add {a7:Nat->Option fr} (L:jZ σ a7 w) (lH:∀id b s,σ id=some (b,s)->b<w.heap.size) {id:Nat} (bC:σ id=none) {b3:World} (aa:Below w.heap.size w b3) {l:Nat} (bF:w.heap.size<=l) {r:Loop}
 (aG:b3.heap[l]? =some (.loop r)) (aE:r.state= .ready) (aS:r.pending=none):jZ (aw σ id (some (l,0))) (aw a7 id (some .ready)) b3:=by
 refine⟨fun gh q aT=>?_,fun i iY q l2 a s1 s2 U h2 au ax=>?_⟩
 · by_cases e:gh=id
   · subst e
     simp only[aw,if_true] at aT
     cases aT
     exact ⟨l,0,r,by simp[aw],aG,aE,aS⟩
   · simp only[aw,e,if_false] at aT
     obtain⟨lI,aj,jd,au,ax,a9,bX⟩:=L.look gh q aT
     exact ⟨lI,aj,jd,by simpa[aw,e] using au,by rw[aa.block lI (pD ax)];exact ax,a9,bX⟩
 · by_cases e:i=id<;>by_cases e':iY=id
   · rw[e,e']
   · exfalso
     simp only[aw,e,e',if_true,if_false] at au ax
     have:=lH _ _ _ ax
     cases au;omega
   · exfalso
     simp only[aw,e,e',if_true,if_false] at au ax
     have:=lH _ _ _ au
     cases ax;omega
   · simp only[aw,e,e',if_false] at U h2 au ax
     exact L.inj i iY q l2 a s1 s2 U h2 au ax
theorem cK.named (H:cK base okin σ h w) {id l:Nat} (bC:σ id=none) (aa:base<=l) (aG:l<w.heap.size):cK base okin (aw σ id (some (l,0))) h w/\Prog base okin σ h w (aw σ id (some (l,0))) h w:=by
 have I:=H.Bj bC
 have sub:∀i x,σ i=some x->aw σ id (some (l,0)) i=some x:=by
  intro i x ae
  unfold aw
  by_cases e:i=id
  · subst e;rw[bC] at ae;cases ae
  · rw[if_neg e];exact ae
 have ok:∀b,bz base okin σ h b->bz base okin (aw σ id (some (l,0))) h b:=by
  rintro b (aL|⟨U,h2⟩)
  · exact .inl aL
  · refine .inr ⟨U,fun i s aE Ca=>?_⟩
    by_cases e:i=id
    · subst e;rw[I] at Ca;simp at Ca
    · exact h2 i s (by simpa[aw,e] using aE) Ca
 have P:Prog base okin σ h w (aw σ id (some (l,0))) h w:=⟨sub,fun b _ aL=>⟨ok b aL,rfl⟩,Below.refl _ _,fun _=>Nat.le_refl _⟩
 refine⟨⟨fun i b s ab=>?_,fun i fZ iC=>?_,fun i iY b s aj U h2 au ax=>?_,H.base⟩,P⟩
 · by_cases e:i=id
   · simp only[aw,e,if_true] at ab;cases ab;exact ⟨aa,aG⟩
   · simp only[aw,e,if_false] at ab;exact H.val i b s ab
 · obtain⟨b,s,qI,ty,au,ax,a9⟩:=H.blk i fZ iC
   refine⟨b,s,qI,ty,sub _ _ au,ax,fun j aO=>⟨(a9 j aO).1,fun k ag=>?_⟩⟩
   obtain⟨v,bT,cL⟩:=(a9 j aO).2 k ag
   exact ⟨v,bT,P.rep cL⟩
 · have ll:i≠id:=by rintro rfl;rw[I] at U;simp at U
   have ln:iY≠id:=by rintro rfl;rw[I] at h2;simp at h2
   exact H.inj i iY b s aj U h2 (by simpa[aw,ll] using au) (by simpa[aw,ln] using ax)
inductive Drop (bO:Nat):World->World->Prop
 | refl (w:World):Drop bO w w
 | step {w cF:World} {D:Nat}:bO<=D->w.heap[D]? =some (.deferred (some []))->Drop bO (w.putObj D (.deferred none)) cF->Drop bO w cF
theorem Drop.keeps {bO:Nat} {w cF:World} (d:Drop bO w cF):∀ {sg:World} {cW:Nat->Option (Nat × Nat)} {aQ:af},bO=sg.heap.size->base<=bO->ds base okin cW aQ sg σ h w->cK base okin σ h w->jZ σ h.a7 w->
 ds base okin cW aQ sg σ h cF/\cK base okin σ h cF/\jZ σ h.a7 cF/\(∀v cv,bf w (bz base okin σ h) σ v cv->bf cF (bz base okin σ h) σ v cv):=by
 induction d with
 | refl w=>exact fun _ _ p H L=>⟨p,H,L,fun _ _ r=>r⟩
 | @step w cF D U h2 _ bj=>
   intro sg cW aQ he aa p H L
   have az:∀arr ty e,Obj.deferred (some [])≠ .cells arr ty e:=fun _ _ _ h=>by cases h
   have oA:∀es c,Obj.deferred (some [])≠ .map es c:=fun _ _ h=>by cases h
   have st:=B9 (o':= .deferred none) h2 az oA (bz base okin σ h)
   have HJ:=B_ (o':= .deferred none) h2 az
   have bB:ds base okin cW aQ sg σ h (w.putObj D (.deferred none)):=by
    refine⟨p.sub,fun b o bT HK cL=>?_,p.below.trans (HI _ (Nat.le_trans aa U)),fun b=>Nat.le_trans (p.grow b) (HJ b),fun b r g=>?_,fun b g=>?_⟩
    · obtain⟨jT,au⟩:=p.still b o bT HK cL
      obtain⟨d',ax⟩:=st b o (by rw[au];exact bT) HK jT
      exact ⟨d',ax.trans au⟩
    · obtain⟨s1,bo,au⟩:=p.loop b r g
      exact ⟨s1,bo,by rw[World.putObj_heap_other (by rintro rfl;rw[h2] at au;cases au)];exact au⟩
    · have:=pD g
      rw[World.putObj_heap_other (by omega)]
      exact p.nL b g
   have kT:jZ σ h.a7 (w.putObj D (.deferred none)):=⟨fun id q aT=>by
    obtain⟨l,s,r,au,ax,a9,bX⟩:=L.look id q aT
    exact ⟨l,s,r,au,by rw[World.putObj_heap_other (by rintro rfl;rw[h2] at ax;cases ax)];exact ax,a9,bX⟩,L.inj⟩
   obtain⟨dp,dr,gi,jV⟩:=bj he aa bB (H.put _ h2 az oA) kT
   exact ⟨dp,dr,gi,fun v cv r=>jV v cv (r.mono st (fun _ _ x=>x) HJ)⟩
theorem HL {Fn:Func} {tmps:Array Value} {R:Ending->World->Prop} {bO:Nat}:∀(c5:List Deferred) (w:World),Marks bO c5 w->(∀cF,Drop bO w cF->∃v,(results Fn tmps).run P cF= .ok v cF/\R (.returned v) cF)->
 LeavesInM Fence.wide 0 P Fn tmps R c5 .returning w
 | [],w,_,eA=>eA w (.refl w)
 | d::c5,w,M,eA=>by
   obtain⟨D,U,h2,aN⟩:=M.each d (by simp)
   refine⟨by simp,.inl ⟨D,w.putObj D (.deferred none),U,run_takeDeferred aN,HL c5 _ ⟨fun ph tU=>?_,(List.pairwise_cons.1 M.nodup).2⟩ (fun cF bk=>eA cF (.step h2 aN bk))⟩⟩
   obtain⟨HM,bT,cL,fG⟩:=M.each ph (by simp[tU])
   refine⟨HM,bT,cL,?_⟩
   rw[World.putObj_heap_other]
   · exact fG
   · rintro rfl
     exact (List.pairwise_cons.1 M.nodup).1 ph tU (by rw[U,bT])
end
end Go.Eng
namespace Go.Eng
open Go Go.RowKit
def x_:de->Exit
 | .normal=> .normal
 | .exit id=> .exit id
 | .ret=> .ret
section
variable {P:Program} {G:Nat->Option J} {base:Nat} {okin:Nat->Prop} {N:Nat} {c3:Nat} {cW:Nat->Option (Nat × Nat)} {tab:FuncId->Option (List J->Option J)} {Y:List cR} {ju:Option Nat} {bO:Nat}
theorem fw.bump {cu:Nat->Prop} {σ:Nat->Option (Nat × Nat)} {s:aW} {a:Act} {w:World} (S:fw P G Y ju bO base okin N c3 cW cu σ s a w) (m:Nat):
 fw P G Y ju bO base okin N c3 cW (fun id=>s.h.next<=id/\id<s.h.next+m) σ ⟨s.F,{s.h with next:=s.h.next+m}⟩ a w:=
 ⟨⟨S.aE.val,S.aE.blk,S.aE.inj,S.aE.base⟩,S.kU,S.jo,S.bG,S.size,S.marks,S.rd,S.se,fun id bC=>⟨Nat.le_trans S.low bC.1,bC.2,S.fresh id bC.1⟩,Nat.le_trans S.low (Nat.le_add_right _ _),S.l0,fun id bC=>S.fresh id (Nat.le_trans (Nat.le_add_right _ _) bC)⟩
theorem ds.next {σ bp:Nat->Option (Nat × Nat)} {h h':af} {w a5:World} {m:Nat} (p:ds base okin σ {h with next:=m} w bp h' a5):ds base okin σ h w bp h' a5:=⟨p.sub,p.still,p.below,p.grow,p.loop,p.nL⟩
theorem fw.drew {cu:Nat->Prop} {σ:Nat->Option (Nat × Nat)} {s:aW} {a:Act} {w:World} (S:fw P G Y ju bO base okin N c3 cW cu σ s a w):fw P G Y ju bO base okin N c3 cW cu σ s a w.drew:=by
 obtain⟨H,p⟩:=S.aE.drew
 have q:=ds.of S.aE p
 exact ⟨H,S.kU.of S.aE p rfl,S.jo.mono q,S.bG.mono q,S.size,S.marks.mono q.nL,fun l aG=>by
  obtain⟨r,U⟩:=S.rd l aG
  obtain⟨st,kk,h2⟩:=q.loop l r U
  exact ⟨_,h2⟩,Nat.le_trans S.se q.below.size,S.free,S.low,S.l0,S.fresh⟩
theorem QE (hm:P.follows .mixedOrders=true) {c_:Fence} {dQ:Nat} (bA:jK c_) {cl:kO->List J->af->Option (J × af)} (js:tR P G Y cl) (k8:∀f T,tab f=some T->a3 P G f T)
 {id:Nat} {ops:Array Oper} {draw:Bool} {es:List a_} {b:List Nat} {kl:Bool} (I:fY P N (.region id ops draw)=some (.region kl es b)) {s aj:aW} (cw:ez G tab cl kl es b s=some aj)
 {cu:Nat->Prop} {σ:Nat->Option (Nat × Nat)} {a:Act} {w:World} (S:fw P G Y ju bO base okin N c3 cW cu σ s a w) {Q:Exit->Act->World->Prop}
 (dM:∀bp eE a5,fw P G Y ju bO base okin N c3 cW (fun _=>False) bp aj eE a5->ds base okin σ s.h w bp aj.h a5->Q .normal eE a5):(Code.region id ops draw).wpIn c_ dQ P Q a w:=by
 simp only[fY] at I
 split at I<;>try(cases I;done)
 rename_i HN QF
 obtain⟨cp,dp⟩:=HH QF
 have df:HN.length=ops.size:=by simpa using cp
 unfold ez at cw
 split at cw<;>try(cases cw;done)
 rename_i s1 cs aU
 split at cw<;>try(cases cw;done)
 rename_i j'
 cases cw
 have oH:∀(es:List a_),es=HN->∀p∈es.zipIdx,∃o,ops[p.2]? =some o/\pn P N ops o=some p.1/\p.2<ops.size:=by
  rintro es rfl p aS
  obtain⟨e,i⟩:=p
  have U:=List.mem_zipIdx_iff_getElem?.1 aS
  simp only at U
  obtain⟨ab,rfl⟩:=List.getElem?_eq_some_iff.1 U
  have bW:i<ops.toList.length:=by simp;omega
  have:=dp i ab bW
  refine⟨ops[i]'(by simpa using bW),by simp[Array.getElem?_eq_getElem (show i<ops.size by simpa using bW)],by simpa using this,by simpa using bW⟩
 have HO:∀(es:List a_),es.zipIdx.Pairwise (fun p q=>p.2<q.2):=by
  intro es
  rw[List.pairwise_iff_getElem]
  intro i j ab aO QG
  simpa using QG
 cases draw with
 | false=>
   simp only[Bool.false_eq_true,if_false] at I
   cases I
   refine wpIn_region ?_
   have QH:es.zipIdx.map (·.2)=List.range ops.size:=by
    rw[<-df]
    apply List.ext_getElem
    · simp
    · intro i U h2;simp
   rw[<-QH]
   refine Hw bA js k8 _ _ cs σ a w (fun p aS=>by obtain⟨o,U,h2,_⟩:=oH es rfl p aS;exact ⟨o,U,h2⟩) (HO es) aU ((S.bump es.length).weaken ?_) (fun bp eE a5 l3 aa=>dM bp eE a5 l3 aa.next)
   rintro id ⟨p,aS,rfl⟩
   obtain⟨_,_,_,aN⟩:=oH es rfl p aS
   exact ⟨Nat.le_add_right _ _,by omega⟩
 | true=>
   simp only[if_true] at I
   split at I<;>try(cases I;done)
   rename_i HP
   cases I
   simp only[Bool.and_eq_true] at HP
   obtain⟨⟨⟨ll,ln⟩,Bp⟩,HQ⟩:=HP
   simp only[Bool.not_true,Bool.false_or] at j'
   refine wpIn_region_any hm ?_
   have hlen:=B3 aU
   refine Qt bA js k8 Bp ln ops.size es.zipIdx _ cs _ σ a _ (by simp;omega) ?_ aU (((S.drew).bump es.length).weaken ?_) (fun bp eE a5 l3 aa=>dM bp eE a5 l3 ?_)
   · refine⟨by simp,fun p aS=>?_,fun i ab _=>?_,HO es,fun i ab aG=>?_,fun p q aS aT qJ=>?_⟩
     · obtain⟨o,U,h2,aN⟩:=oH es rfl p aS
       exact ⟨o,U,h2,by simp[Array.getD_eq_getD_getElem?,aN]⟩
     · exact ⟨es[i]'(by omega),by rw[List.mem_zipIdx_iff_getElem?];simp[List.getElem?_eq_getElem (show i<es.length by omega)]⟩
     · simp[Array.getD_eq_getD_getElem?,ab] at aG
     · have qK:q<es.length:=by simpa using aT
       have vY:p<es.length:=by omega
       simp only[List.getElem_zipIdx,Nat.zero_add]
       have a1:=List.all_eq_true.1 ll (es[q],q) (by rw[List.mem_zipIdx_iff_getElem?];simp[List.getElem?_eq_getElem qK])
       have e2:=List.all_eq_true.1 a1 (es[p],p) (by rw[List.mem_zipIdx_iff_getElem?];simp[List.getElem?_eq_getElem vY])
       have b1:=List.all_eq_true.1 j' (cs[q],q) (by rw[List.mem_zipIdx_iff_getElem?];simp[List.getElem?_eq_getElem qJ])
       have ej:=List.all_eq_true.1 b1 (cs[p]'(by omega),p) (by rw[List.mem_zipIdx_iff_getElem?];simp[List.getElem?_eq_getElem (show p<cs.length by omega)])
       simp only[decide_eq_true aS,Bool.not_true,Bool.false_or,Bool.or_eq_true] at e2 ej
       rcases e2 with e2|e2
       · exact .inl e2
       · rcases ej with ej|ej
         · exact .inl ej
         · exact .inr ⟨e2,ej⟩
   · rintro id ⟨p,aS,rfl⟩
     obtain⟨_,_,_,aN⟩:=oH es rfl p aS
     exact ⟨Nat.le_add_right _ _,by simp;omega⟩
   · exact ds.trans (ds.of S.aE S.aE.drew.2) aa.next
def x' (tmps:Array Value):ResultVar->Sem Value
 | .tmp t=>pure (tmps.getD t undef)
 | .cell a t=>do loadVar t (<-asAddr (tmps.getD a undef))
theorem QI (fn:Func) (tmps:Array Value):results fn tmps=(do let vs <-fn.results.mapM (x' tmps);pure (if h:vs.size=1 then vs[0] else .tuple vs)):=by
 unfold results
 congr 1
theorem QJ {fn:Func} {rs:List mr} (Cb:rU P fn.results.toList=some rs) {σ:Nat->Option (Nat × Nat)} {s:aW} {a:Act} {w:World} (dB:cK base okin σ s.h w) (HR:ka G (bz base okin σ s.h) σ w s.F a) {v:J} (aF:d_ s.h s.F rs=some v):
 ∃cv,(results fn a.tmps).run P w= .ok cv w/\bf w (bz base okin σ s.h) σ v cv:=by
 have main:∀(gj:List ResultVar) (rs:List mr) (vs:List J),rU P gj=some rs->rs.mapM (e1 s.h s.F)=some vs->
  ∃i_:List Value,(gj.mapM (x' a.tmps)).run P w= .ok i_ w/\i_.length=vs.length/\∀i (h:i<vs.length) (h':i<i_.length),bf w (bz base okin σ s.h) σ vs[i] i_[i]:=by
  intro gj
  induction gj with
  | nil=>
    intro rs vs U h2
    simp only[rU] at U;cases U
    simp only[List.mapM_nil] at h2;cases h2
    exact ⟨[],by simp,rfl,fun i h=>absurd h (by simp)⟩
  | cons r gj bj=>
    intro rs vs U h2
    simp only[rU] at U
    split at U<;>try(cases U;done)
    rename_i x xs ae nI
    cases U
    rw[List.mapM_cons] at h2
    obtain⟨u,hu,h2⟩:=Option.bind_eq_some_iff.1 h2
    obtain⟨us,Br,h2⟩:=Option.bind_eq_some_iff.1 h2
    cases h2
    obtain⟨i_,au,ax,a9⟩:=bj xs us nI Br
    have one:∃ng,(x' a.tmps r).run P w= .ok ng w/\bf w (bz base okin σ s.h) σ u ng:=by
     cases r with
     | tmp t=>
       simp only[Bg] at ae;cases ae
       simp only[e1] at hu;cases hu
       exact ⟨_,rfl,HR.slot t⟩
     | cell eE t=>
       simp only[Bg] at ae
       split at ae<;>try(cases ae;done)
       rename_i bZ sz dG df
       split at ae<;>try(cases ae;done)
       rename_i a8
       cases ae
       simp only[e1] at hu
       split at hu<;>try(cases hu;done)
       rename_i id idx cQ bA
       obtain⟨blk,aa,hu⟩:=Option.bind_eq_some_iff.1 hu
       obtain⟨e,he,hu⟩:=Option.bind_eq_some_iff.1 hu
       obtain⟨cs,ox,aS⟩:=Option.bind_eq_some_iff.1 hu
       have rt:=HR.slot eE
       rw[bA] at rt
       obtain⟨G5,b_,ev,aE⟩:=rt.vy
       obtain⟨eo,bT,cL⟩:=dB.elem aa he aE ox
       obtain⟨cv,bL,cj⟩:=Bm (P:=P) (w:=w) (σ:=σ) (ok:=bz base okin σ s.h) dG df a8 _ eo bT (tA ox).2.1 cL aS
       exact ⟨cv,by simp[x',ev,asAddr,bL],cj⟩
    obtain⟨ng,cn,cd⟩:=one
    refine⟨ng::i_,?_,by simp[ax],fun i ab bW=>?_⟩
    · rw[List.mapM_cons]
      simp only[Sem.run_bind]
      rw[cn]
      simp only[Result.andThen_ok]
      rw[au]
      simp
    · cases i with
      | zero=>exact cd
      | succ i=>exact a9 i (by simpa using ab) (by simpa using bW)
 unfold d_ at aF
 obtain⟨vs,U,h2⟩:=Option.map_eq_some_iff.1 aF
 obtain⟨i_,au,ax,a9⟩:=main _ _ _ Cb U
 have cw:(results fn a.tmps).run P w= .ok (if h:i_.toArray.size=1 then i_.toArray[0] else .tuple i_.toArray) w:=by
  rw[QI,Array.mapM_eq_mapM_toList]
  simp only[Sem.run_bind,Sem.run_map]
  rw[au]
  simp
 refine⟨_,cw,?_⟩
 split at h2
 · rename_i v0
   subst h2
   have aG:i_.length=1:=by simpa using ax
   rw[dif_pos (by simpa using aG)]
   have:=a9 0 (by simp) (by omega)
   simpa using this
 · rename_i bV
   subst h2
   have aG:i_.length≠1:=by
    intro aG
    rw[ax] at aG
    obtain⟨v0,rfl⟩:=List.length_eq_one_iff.1 aG
    exact bV v0 rfl
   rw[dif_neg (by simpa using aG)]
   exact .bD _ _ (by simpa using ax) (fun i ab bW=>by simpa using a9 i ab (by simpa using bW))
theorem QK {fn:Func} {f:aZ} (h:Bh P fn=some f):∃c,fn.body=some c/\fY P fn.ntmps c=some f.body/\rU P fn.results.toList=some f.res/\fn.name≠ "runtime.NumGoroutine":=by
 unfold Bh at h
 split at h<;>try(cases h;done)
 rename_i az
 split at h<;>try(cases h;done)
 rename_i c aa
 split at h<;>try(cases h;done)
 rename_i b rs U h2
 cases h
 exact ⟨c,aa,U,h2,by simpa using az⟩
theorem Cc {f:FuncId} {fn:Func} (bw:P.funcs[f]? =some fn) {c:Code} (aa:fn.body=some c) (az:fn.name≠ "runtime.NumGoroutine") (args:Array Value) (w:World):(callFunc f args).run P w= .ok (.enter f args) w:=by
 simp[callFunc,bw,aa,az]
def km (G:Nat->Option J) (Φ:FuncId->Option aZ) (tab:FuncId->Option (List J->Option J)) (n:Nat) (Y:List cR) (f:FuncId) (args:List J) (h:af):Option (J × af):=
 match Φ f with
 | some fn=>match exec G Φ tab n Y fn.body ⟨dW args,h⟩ with
   | some (.normal,aj)|some (.ret,aj)=>(d_ aj.h aj.F fn.res).map fun v=>(v,aj.h)
   | _=>none
 | none=>none
def nP (G:Nat->Option J) (Φ:FuncId->Option aZ) (tab:FuncId->Option (List J->Option J)) (n:Nat) (Y:List cR) (id:Nat) (args:List J) (h:af):Option (J × af):=
 match oo id Y with
 | some (L,Y')=>if L.ps.length=args.length then
    match exec G Φ tab n Y' L.dK ⟨nd L.F L.ps args,h⟩ with
    | some (.normal,s1)=>match s1.h.a7 id with
      | some .ready=>match exec G Φ tab n Y' L.body ⟨s1.F,s1.h.set id (some .busy)⟩ with
        | some (e,aj)=>match aj.h.a7 id with
          | some .busy=>match e with
            | .normal=>some (.bool true,aj.h.set id (some .ready))
            | e=>some (.bool false,aj.h.set id (some (.done e)))
          | _=>none
        | none=>none
      | _=>none
    | _=>none
   else none
 | none=>none
def kC (G:Nat->Option J) (Φ:FuncId->Option aZ) (tab:FuncId->Option (List J->Option J)) (n:Nat) (Y:List cR) (t:kO) (args:List J) (h:af):Option (J × af):=
 match t with
 | .fn f=>km G Φ tab n Y f args h
 | .lk id=>nP G Φ tab n Y id args h
theorem qR {Φ:FuncId->Option aZ} {n:Nat} {f:FuncId} {args:List J} {h h':af} {v:J} (I:km G Φ tab n Y f args h=some (v,h')):
 ∃fn ex aj,Φ f=some fn/\exec G Φ tab n Y fn.body ⟨dW args,h⟩=some (ex,aj)/\(ex= .normal\/ex= .ret)/\d_ aj.h aj.F fn.res=some v/\aj.h=h':=by
 unfold km at I
 split at I<;>try(cases I;done)
 rename_i fn bw
 split at I
 · rename_i aj he
   obtain⟨u,hu,I⟩:=Option.map_eq_some_iff.1 I
   cases I
   exact ⟨fn,_,aj,bw,he,.inl rfl,hu,rfl⟩
 · rename_i aj he
   obtain⟨u,hu,I⟩:=Option.map_eq_some_iff.1 I
   cases I
   exact ⟨fn,_,aj,bw,he,.inr rfl,hu,rfl⟩
 · cases I
theorem tV {Φ:FuncId->Option aZ} {n:Nat} {id:Nat} {args:List J} {h h':af} {v:J} (I:nP G Φ tab n Y id args h=some (v,h')):
 ∃L Y' s1 ex aj,oo id Y=some (L,Y')/\L.ps.length=args.length/\exec G Φ tab n Y' L.dK ⟨nd L.F L.ps args,h⟩=some (.normal,s1)/\s1.h.a7 id=some .ready/\
  exec G Φ tab n Y' L.body ⟨s1.F,s1.h.set id (some .busy)⟩=some (ex,aj)/\aj.h.a7 id=some .busy/\((ex= .normal/\v= .bool true/\h'=aj.h.set id (some .ready))\/(ex≠ .normal/\v= .bool false/\h'=aj.h.set id (some (.done ex)))):=by
 unfold nP at I
 split at I<;>try(cases I;done)
 rename_i L Y' bq
 split at I<;>try(cases I;done)
 rename_i hlen
 split at I<;>try(cases I;done)
 rename_i s1 U
 split at I<;>try(cases I;done)
 rename_i aS
 split at I<;>try(cases I;done)
 rename_i e aj h2
 split at I<;>try(cases I;done)
 rename_i aa
 split at I
 · cases I
   exact ⟨L,Y',s1,_,aj,bq,hlen,U,aS,h2,aa,.inl ⟨rfl,rfl,rfl⟩⟩
 · rename_i bV
   cases I
   exact ⟨L,Y',s1,e,aj,bq,hlen,U,aS,h2,aa,.inr ⟨bV,rfl,rfl⟩⟩
theorem HS {id:Nat} {L:cR} {Y':List cR}:∀ {Y:List cR},oo id Y=some (L,Y')->L∈Y/\L.id=id/\∀X∈Y',X∈Y
 | [],h=>by cases h
 | X::Y,h=>by
   unfold oo at h
   split at h
   · rename_i bC
     cases h
     exact ⟨by simp,bC,fun Z Cd=>by simp[Cd]⟩
   · obtain⟨U,h2,aN⟩:=HS h
     exact ⟨by simp[U],h2,fun Z Cd=>by simp[aN Z Cd]⟩
def tW (P:Program) (G:Nat->Option J) (tab:FuncId->Option (List J->Option J)) (n:Nat):Prop:=
 ∀(N:Nat) (Y:List cR) (c:Code) (pE:dk) (s:aW) (ex:de) (aj:aW),fY P N c=some pE->exec G (aR P) tab n Y pE s=some (ex,aj)->
  ∀(c_:Fence) (dQ:Nat) (_:jK c_) (bO:Nat) (base:Nat) (okin:Nat->Prop) (c3:Nat) (cW:Nat->Option (Nat × Nat)) (σ:Nat->Option (Nat × Nat)) (a:Act) (w:World) (Q:Exit->Act->World->Prop),fw P G Y c_.round bO base okin N c3 cW (fun _=>False) σ s a w->
   (∀bp eE a5,fw P G Y c_.round bO base okin N c3 cW (fun _=>False) bp aj eE a5->ds base okin σ s.h w bp aj.h a5->Q (x_ ex) eE a5)->c.wpIn c_ dQ P Q a w
theorem Ce {n:Nat} (fP:tW P G tab n) {f:FuncId} {args:List J} {h h':af} {v:J} (I:km G (aR P) tab n Y f args h=some (v,h')):
 ∀base okin σ w (dA:Array Value),cK base okin σ h w->jZ σ h.a7 w->oC P G base okin Y σ h w->dA.size=args.length->
  (∀i (ab:i<args.length) (bW:i<dA.size),bf w (bz base okin σ h) σ args[i] dA[i])->
  (∀g u,G g=some u->bf w (bz base okin σ h) σ (.eV u) (.pointer (some ⟨g,0,none⟩)))->(∀id,h.next<=id->σ id=none)->
  (callFunc f dA).run P w= .ok (.enter f dA) w/\Calls P f dA w fun e a5=>∃cv,e= .returned cv/\tQ base okin σ h w h' v cv a5:=by
 obtain⟨fn,ex,aj,bw,he,hex,Cf,rfl⟩:=qR I
 obtain⟨Fn,bA,QL⟩:=Option.bind_eq_some_iff.1 bw
 obtain⟨c,aa,ni,Cb,Cg⟩:=QK QL
 have QM:=fP Fn.ntmps Y c fn.body ⟨dW args,h⟩ ex aj ni he
 refine fun base okin σ w dA H Ch ya df fF qS vZ=>⟨Cc bA aa Cg _ _,?_⟩
 refine(callsIn_wide (n:=0)).1 (callsIn_of_wp_marks bA aa trivial ?_)
 have S:fw P G Y Fence.wide.round w.heap.size base okin Fn.ntmps h.next σ (fun _=>False) σ ⟨dW args,h⟩ {tmps:=dA++Array.replicate (Fn.ntmps - dA.size) undef,defers:=[]} w:=by
  refine⟨H,Ch,ya,⟨fun t=>?_,qS⟩,by simp;omega,⟨fun d bk=>absurd bk (by simp),List.Pairwise.nil⟩,fun l aG=>(by cases aG),Nat.le_refl _,fun id bC=>bC.elim,Nat.le_refl _,fun _ _=>rfl,vZ⟩
  simp only[dW]
  by_cases aY:t<args.length
  · have bF:t<dA.size:=by omega
    have au:args.getD t .undef=args[t]:=by simp[List.getD,aY]
    have ax:(dA++Array.replicate (Fn.ntmps - dA.size) undef).getD t undef=dA[t]:=by
     rw[BZ _ _ (by simp;omega),Array.getElem_append_left bF]
    rw[au,ax]
    exact fF t aY bF
  · have au:args.getD t .undef= .undef:=by simp[List.getD,List.getElem?_eq_none (Nat.le_of_not_lt aY)]
    rw[au];exact .undef _
 refine QM Fence.wide 0 (.inl rfl) w.heap.size base okin h.next σ σ _ w _ S (fun bp eE a5 l3 p=>?_)
 have fin:LeavesInM Fence.wide 0 P Fn eE.tmps (fun e a5=>∃cv,e= .returned cv/\tQ base okin σ h w aj.h v cv a5) eE.defers .returning a5:=by
  refine HL _ _ l3.marks fun cF bk=>?_
  obtain⟨dp,dr,gi,jV⟩:=bk.keeps rfl H.base p l3.aE l3.kU
  obtain⟨cv,bL,cj⟩:=QJ Cb dr ⟨fun t=>jV _ _ (l3.bG.slot t),fun g u ba=>jV _ _ (l3.bG.mS g u ba)⟩ Cf
  exact ⟨cv,bL,cv,rfl,bp,dp,dr,gi,cj,l3.fresh,l3.l0⟩
 rcases hex with rfl|rfl
 · exact fin
 · exact fin
theorem QN {ps:List Nat}:∀ {vs:List J} {i_:List Value} {w:World} {ok:Nat->Prop} {σ:Nat->Option (Nat × Nat)} {F:Nat->J} {cZ:Array Value},vs.length=ps.length->i_.length=ps.length->(∀p∈ps,p<cZ.size)->
 (∀t,bf w ok σ (F t) (cZ.getD t undef))->(∀i (h:i<vs.length) (h':i<i_.length),bf w ok σ vs[i] i_[i])->
 ∀t,bf w ok σ (nd F ps vs t) (((ps.zip i_).foldl (fun tmps (t,a)=>tmps.setIfInBounds t a) cZ).getD t undef):=by
 induction ps with
 | nil=>intro vs i_ w ok σ F cZ U h2 aS bA aF t;simpa[nd] using bA t
 | cons p ps bj=>
   intro vs i_ w ok σ F cZ U h2 aS bA aF t
   cases vs with
   | nil=>simp at U
   | cons v vs=>
     cases i_ with
     | nil=>simp at h2
     | cons c i_=>
       simp only[nd,List.zip_cons_cons,List.foldl_cons]
       refine bj (by simpa using U) (by simpa using h2) (fun q aT=>by simpa using aS q (by simp[aT])) (fun t=>?_) (fun i ab bW=>by
        have:=aF (i+1) (by simpa using ab) (by simpa using bW)
        simpa using this) t
       have bF:=aS p (by simp)
       by_cases e:t=p
       · subst e
         have:=aF 0 (by simp) (by simp)
         simpa[aw,Array.getD,bF] using this
       · have ax:(cZ.setIfInBounds p c).getD t undef=cZ.getD t undef:=by
          simp only[Array.getD_eq_getD_getElem?]
          rw[Array.getElem?_setIfInBounds_ne (Ne.symm e)]
         rw[ax]
         simpa[aw,e] using bA t
theorem QO {ps:List Nat}:∀ {i_:List Value} {cZ:Array Value},((ps.zip i_).foldl (fun tmps (t,a)=>tmps.setIfInBounds t a) cZ).size=cZ.size:=by
 induction ps with
 | nil=>intro i_ cZ;simp
 | cons p ps bj=>
   intro i_ cZ
   cases i_ with
   | nil=>simp
   | cons c i_=>simp only[List.zip_cons_cons,List.foldl_cons];rw[bj];simp
theorem HT {cl:kO->List J->af->Option (J × af)} (js:∀t args h v h',cl t args h=some (v,h')->h.next<=h'.next) {bb:Nat}:∀ {L:List (a_ × Nat)} {s aj:aW} {cs:List dV},c2 G tab cl bb L s=some (aj,cs)->s.h.next<=aj.h.next
 | [],s,aj,cs,h=>by simp only[c2] at h;cases h;exact Nat.le_refl _
 | (e,i)::L,s,aj,cs,h=>by
   simp only[c2] at h
   split at h<;>try(cases h;done)
   rename_i s1 c U
   obtain⟨p,h2,aN⟩:=Option.map_eq_some_iff.1 h
   cases aN
   refine Nat.le_trans ?_ (HT js h2)
   have go:∀ {s1:aW} {c:dV},c4 G tab cl bb (bb+i) e s=some (s1,c)->s.h.next<=s1.h.next:=by
    intro s1 c ba
    unfold c4 at ba
    split at ba
    · split at ba<;>try(cases ba;done)
      · split at ba
        · split at ba<;>try(cases ba;done)
          obtain⟨v,_,ba⟩:=Option.map_eq_some_iff.1 ba
          cases ba
          exact Nat.le_refl _
        · obtain⟨q,aT,ba⟩:=Option.map_eq_some_iff.1 ba
          obtain⟨v,h'⟩:=q
          cases ba
          exact js _ _ _ _ _ aT
      · obtain⟨q,aT,ba⟩:=Option.map_eq_some_iff.1 ba
        obtain⟨v,h'⟩:=q
        cases ba
        exact js _ _ _ _ _ aT
    · obtain⟨q,aT,ba⟩:=Option.map_eq_some_iff.1 ba
      obtain⟨v,h',cY⟩:=q
      have ou:(⟨cD s.F e.dst v,h'⟩:aW)=s1:=congrArg Prod.fst ba
      subst ou
      exact Nat.le_of_eq (congrArg Prod.fst (tL aT).1).symm
   unfold cE at U
   split at U
   · exact go U
   · split at U<;>try(cases U;done)
     · split at U
       · exact go U
       · cases U;exact Nat.le_refl _
     · cases U;exact Nat.le_refl _
theorem iv (G:Nat->Option J) (Φ:FuncId->Option aZ) (tab:FuncId->Option (List J->Option J)) (n:Nat) (Y:List cR) (c:dk) (s:aW):exec G Φ tab (n+1) Y c s=match c with
 | .skip=>some (.normal,s)
 | .ret=>some (.ret,s)
 | .exit id=>some (.exit id,s)
 | .region draw ops eX=>(ez G tab (kC G Φ tab n Y) draw ops eX s).map fun aj=>(.normal,aj)
 | .seq a b=>match exec G Φ tab n Y a s with
   | some (.normal,aj)=>exec G Φ tab n Y b aj
   | r=>r
 | .cond x a b=>match x.ev G s.F with
   | .bool t=>if t then exec G Φ tab n Y a s else exec G Φ tab n Y b s
   | _=>none
 | .block id b=>match exec G Φ tab n Y b s with
   | some (.exit i,aj)=>if i=id then some (.normal,aj) else some (.exit i,aj)
   | r=>r
 | .loop b=>match exec G Φ tab n Y b s with
   | some (.normal,aj)=>exec G Φ tab n Y (.loop b) aj
   | r=>r
 | .k5 f ps dK body=>match f.ev G s.F with
   | .fn g first caps=>match Φ g with
     | some fn=>match exec G Φ tab n (⟨s.h.next,s.F,ps,dK,body⟩::Y) fn.body ⟨dW (first++ [.fX s.h.next]++caps),{s.h with next:=s.h.next+1,a7:=aw s.h.a7 s.h.next (some .ready)}⟩ with
       | some (.normal,aj)|some (.ret,aj)=>match d_ aj.h aj.F fn.res with
         | some _=>match aj.h.a7 s.h.next with
           | some .ready=>some (.normal,⟨s.F,aj.h.set s.h.next none⟩)
           | some (.done e)=>some (e,⟨s.F,aj.h.set s.h.next none⟩)
           | _=>none
         | none=>none
       | _=>none
     | none=>none
   | _=>none:=by
 cases c<;>rfl
theorem yb {Φ:FuncId->Option aZ} {n:Nat} {f:a6} {ps:List Nat} {dK body:dk} {s aj:aW} {ex:de} (he:exec G Φ tab (n+1) Y (.k5 f ps dK body) s=some (ex,aj)):
 ∃g first caps v h' p,f.ev G s.F= .fn g first caps/\
  km G Φ tab n (⟨s.h.next,s.F,ps,dK,body⟩::Y) g (first++ [.fX s.h.next]++caps) {s.h with next:=s.h.next+1,a7:=aw s.h.a7 s.h.next (some .ready)}=some (v,h')/\
  h'.a7 s.h.next=some p/\((p= .ready/\ex= .normal)\/p= .done ex)/\aj=⟨s.F,h'.set s.h.next none⟩:=by
 rw[iv] at he
 simp only at he
 split at he<;>try(cases he;done)
 rename_i g first caps bw
 split at he<;>try(cases he;done)
 rename_i fn mC
 have key:∀(s1:aW),(exec G Φ tab n (⟨s.h.next,s.F,ps,dK,body⟩::Y) fn.body ⟨dW (first++ [.fX s.h.next]++caps),{s.h with next:=s.h.next+1,a7:=aw s.h.a7 s.h.next (some .ready)}⟩=some (.normal,s1)\/
  exec G Φ tab n (⟨s.h.next,s.F,ps,dK,body⟩::Y) fn.body ⟨dW (first++ [.fX s.h.next]++caps),{s.h with next:=s.h.next+1,a7:=aw s.h.a7 s.h.next (some .ready)}⟩=some (.ret,s1))->
  (match d_ s1.h s1.F fn.res with
    | some _=>match s1.h.a7 s.h.next with
      | some .ready=>some (de.normal,(⟨s.F,s1.h.set s.h.next none⟩:aW))
      | some (.done e)=>some (e,⟨s.F,s1.h.set s.h.next none⟩)
      | _=>none
    | none=>none)=some (ex,aj)->
  ∃ek HU HV v h' p,J.fn g first caps= .fn ek HU HV/\
  km G Φ tab n (⟨s.h.next,s.F,ps,dK,body⟩::Y) ek (HU++ [.fX s.h.next]++HV) {s.h with next:=s.h.next+1,a7:=aw s.h.a7 s.h.next (some .ready)}=some (v,h')/\
  h'.a7 s.h.next=some p/\((p= .ready/\ex= .normal)\/p= .done ex)/\aj=⟨s.F,h'.set s.h.next none⟩:=by
  intro s1 U h2
  split at h2<;>try(cases h2;done)
  rename_i v aF
  refine⟨g,first,caps,v,s1.h,?_⟩
  have BA:km G Φ tab n (⟨s.h.next,s.F,ps,dK,body⟩::Y) g (first++ [.fX s.h.next]++caps) {s.h with next:=s.h.next+1,a7:=aw s.h.a7 s.h.next (some .ready)}=some (v,s1.h):=by
   unfold km
   rw[mC]
   rcases U with U|U<;>simp only[U,aF,Option.map_some]
  split at h2
  · rename_i aS
    cases h2
    exact ⟨_,rfl,BA,aS,.inl ⟨rfl,rfl⟩,rfl⟩
  · rename_i e aS
    cases h2
    exact ⟨_,rfl,BA,aS,.inr rfl,rfl⟩
  · cases h2
 rw[bw]
 split at he
 · rename_i s1 U
   exact key s1 (.inl U) he
 · rename_i s1 U
   exact key s1 (.inr U) he
 · cases he
theorem yc {Φ:FuncId->Option aZ}:∀(n:Nat) (Y:List cR) (c:dk) (s:aW) (ex:de) (aj:aW),exec G Φ tab n Y c s=some (ex,aj)->s.h.next<=aj.h.next:=by
 intro n
 induction n with
 | zero=>intro Y c s ex aj he;unfold exec at he;cases he
 | succ n bj=>
   have bt:∀ {Y:List cR} {f:FuncId} {args:List J} {h h':af} {v:J},km G Φ tab n Y f args h=some (v,h')->h.next<=h'.next:=by
    intro Y f args h h' v I
    obtain⟨fn,ex,aj,_,he,_,_,rfl⟩:=qR I
    exact bj _ _ _ _ _ he
   have mD:∀ {Y:List cR} {id:Nat} {args:List J} {h h':af} {v:J},nP G Φ tab n Y id args h=some (v,h')->h.next<=h'.next:=by
    intro Y id args h h' v I
    obtain⟨L,Y',s1,ex,aj,_,_,U,_,h2,_,aN⟩:=tV I
    have a1:=bj _ _ _ _ _ U
    have e2:=bj _ _ _ _ _ h2
    have:h'.next=aj.h.next:=by rcases aN with⟨_,_,rfl⟩|⟨_,_,rfl⟩<;>rfl
    rw[this]
    exact Nat.le_trans a1 e2
   intro Y c s ex aj he
   have yd:=he
   rw[iv] at he
   cases c with
   | skip=>cases he;exact Nat.le_refl _
   | ret=>cases he;exact Nat.le_refl _
   | exit id=>cases he;exact Nat.le_refl _
   | region draw ops eX=>
     simp only at he
     obtain⟨s1,U,he⟩:=Option.map_eq_some_iff.1 he
     cases he
     unfold ez at U
     split at U<;>try(cases U;done)
     rename_i s2 cs h2
     split at U<;>try(cases U;done)
     cases U
     refine Nat.le_trans (Nat.le_add_right _ _) (HT (fun t args h v h' I=>?_) h2)
     cases t with
     | fn f=>exact bt I
     | lk id=>exact mD I
   | seq a b=>
     simp only at he
     split at he
     · rename_i s1 U
       exact Nat.le_trans (bj _ _ _ _ _ U) (bj _ _ _ _ _ he)
     · exact bj _ _ _ _ _ he
   | cond x a b=>
     simp only at he
     split at he<;>try(cases he;done)
     split at he
     · exact bj _ _ _ _ _ he
     · exact bj _ _ _ _ _ he
   | block id b=>
     simp only at he
     split at he
     · rename_i i s1 U
       have:=bj _ _ _ _ _ U
       split at he<;>(cases he;exact this)
     · exact bj _ _ _ _ _ he
   | loop b=>
     simp only at he
     split at he
     · rename_i s1 U
       exact Nat.le_trans (bj _ _ _ _ _ U) (bj _ _ _ _ _ he)
     · exact bj _ _ _ _ _ he
   | k5 f ps dK body=>
     obtain⟨g,first,caps,v,h',p,_,I,_,_,rfl⟩:=yb yd
     have:=bt I
     simp only at this
     show s.h.next<=h'.next
     omega
theorem QP {Φ:FuncId->Option aZ} {n:Nat} {t:kO} {args:List J} {h h':af} {v:J} (I:kC G Φ tab n Y t args h=some (v,h')):h.next<=h'.next:=by
 cases t with
 | fn f=>
   obtain⟨fn,ex,aj,_,he,_,_,rfl⟩:=qR I
   exact yc _ _ _ _ _ _ he
 | lk id=>
   obtain⟨L,Y',s1,ex,aj,_,_,U,_,h2,_,aN⟩:=tV I
   have a1:=yc _ _ _ _ _ _ U
   have e2:=yc _ _ _ _ _ _ h2
   have:h'.next=aj.h.next:=by rcases aN with⟨_,_,rfl⟩|⟨_,_,rfl⟩<;>rfl
   rw[this]
   exact Nat.le_trans a1 e2
end
end Go.Eng
namespace Go.Eng
open Go Go.RowKit
section
variable {G:Nat->Option J} {Φ:FuncId->Option aZ} {tab:FuncId->Option (List J->Option J)}
theorem QQ {h:af} {F:Nat->J} {r:Nat} {blk:List J} (az:h.cells r=none):∀ {x:mr} {v:J},e1 h F x=some v->e1 (h.new r blk) F x=some v
 | .tmp t,v,aF=>aF
 | .cell t bZ sz,v,aF=>by
   simp only[e1] at aF|-
   split at aF<;>try(cases aF;done)
   rename_i id idx cQ bA
   obtain⟨b,aa,aF⟩:=Option.bind_eq_some_iff.1 aF
   try simp only[bA]
   have bV:id≠r:=by rintro rfl;rw[az] at aa;cases aa
   rw[oy _ _ bV,aa]
   exact aF
theorem HW {h:af} {F:Nat->J} {r:Nat} {blk:List J} (az:h.cells r=none):∀ {rs:List mr} {vs:List J},rs.mapM (e1 h F)=some vs->rs.mapM (e1 (h.new r blk) F)=some vs
 | [],vs,aF=>aF
 | x::rs,vs,aF=>by
   rw[List.mapM_cons] at aF|-
   simp only[Option.bind_eq_bind,Option.bind_eq_some_iff,Option.pure_def,Option.some.injEq] at aF|-
   obtain⟨a,aV,b,aa,e⟩:=aF
   exact ⟨a,QQ az aV,b,HW az aa,e⟩
theorem QR {h:af} {F:Nat->J} {r:Nat} {blk:List J} (az:h.cells r=none) {rs:List mr} {v:J} (aF:d_ h F rs=some v):d_ (h.new r blk) F rs=some v:=by
 unfold d_ at aF|-
 obtain⟨vs,U,h2⟩:=Option.map_eq_some_iff.1 aF
 rw[HW az U]
 exact congrArg some h2
theorem HX {cl:kO->List J->af->Option (J × af)} (bw:qM cl) {bb r:Nat} {blk:List J} (oI:r<bb):∀ {L:List (a_ × Nat)} {s aj:aW} {cs:List dV},c2 G tab cl bb L s=some (aj,cs)->s.h.cells r=none->r<s.h.next->
 c2 G tab cl bb L ⟨s.F,s.h.new r blk⟩=some (⟨aj.F,aj.h.new r blk⟩,cs)/\aj.h.cells r=none/\s.h.next<=aj.h.next
 | [],s,aj,cs,h,az,aU=>by
   simp only[c2] at h|-
   cases h
   exact ⟨rfl,az,Nat.le_refl _⟩
 | (e,i)::L,s,aj,cs,h,az,aU=>by
   simp only[c2] at h|-
   split at h<;>try(cases h;done)
   rename_i s1 c U
   obtain⟨p,h2,aN⟩:=Option.map_eq_some_iff.1 h
   obtain⟨s2,Hx⟩:=p
   cases aN
   obtain⟨bL,cj,dd⟩:=BQ (blk:=blk) bw U az aU (by omega)
   obtain⟨dp,dr,gi⟩:=HX (blk:=blk) bw oI h2 cj (by omega)
   exact ⟨by simp only[bL,dp,Option.map_some],dr,by show s.h.next<=s2.h.next;omega⟩
theorem Ci {n:Nat} (fP:∀(Y:List cR) (c:dk) (s:aW) (ex:de) (aj:aW),exec G Φ tab n Y c s=some (ex,aj)->∀r blk,s.h.cells r=none->r<s.h.next->exec G Φ tab n Y c ⟨s.F,s.h.new r blk⟩=some (ex,⟨aj.F,aj.h.new r blk⟩)/\aj.h.cells r=none/\s.h.next<=aj.h.next)
 (Y:List cR):qM (kC G Φ tab n Y):=by
 intro t args h v h' r blk I az aU
 cases t with
 | fn f=>
   obtain⟨fn,ex,aj,mC,he,hex,aF,rfl⟩:=qR I
   obtain⟨bL,cj,dd⟩:=fP _ _ _ _ _ he r blk az aU
   refine⟨?_,cj,dd⟩
   show km G Φ tab n Y f args (h.new r blk)=_
   unfold km
   simp only at bL
   rcases hex with rfl|rfl<;>simp only[mC,bL,QR cj aF,Option.map_some]
 | lk id=>
   obtain⟨L,Y',s1,ex,aj,bq,hlen,U,aS,h2,aa,aN⟩:=tV I
   obtain⟨bL,cj,dd⟩:=fP _ _ _ _ _ U r blk az aU
   obtain⟨dp,dr,gi⟩:=fP _ _ _ _ _ h2 r blk cj (show r<s1.h.next by simp only at dd;omega)
   simp only at bL dp
   have aG:h.next<=aj.h.next:=Nat.le_trans dd gi
   have HY:exec G Φ tab n Y' L.body ⟨s1.F,(s1.h.new r blk).set id (some .busy)⟩=some (ex,⟨aj.F,aj.h.new r blk⟩):=dp
   rcases aN with⟨rfl,rfl,rfl⟩|⟨bV,rfl,rfl⟩
   · refine⟨?_,dr,aG⟩
     show nP G Φ tab n Y id args (h.new r blk)=_
     unfold nP
     simp only[bq,if_pos hlen,bL,show (s1.h.new r blk).a7 id=some .ready from aS,HY,show (aj.h.new r blk).a7 id=some .busy from aa]
     rfl
   · refine⟨?_,dr,aG⟩
     show nP G Φ tab n Y id args (h.new r blk)=_
     unfold nP
     simp only[bq,if_pos hlen,bL,show (s1.h.new r blk).a7 id=some .ready from aS,HY,show (aj.h.new r blk).a7 id=some .busy from aa]
     cases ex with
     | normal=>exact absurd rfl bV
     | exit i=>rfl
     | ret=>rfl
theorem HZ:∀(n:Nat) (Y:List cR) (c:dk) (s:aW) (ex:de) (aj:aW),exec G Φ tab n Y c s=some (ex,aj)->∀r blk,s.h.cells r=none->r<s.h.next->
 exec G Φ tab n Y c ⟨s.F,s.h.new r blk⟩=some (ex,⟨aj.F,aj.h.new r blk⟩)/\aj.h.cells r=none/\s.h.next<=aj.h.next
 | 0,Y,c,s,ex,aj,he,r,blk,az,aU=>by unfold exec at he;cases he
 | n+1,Y,c,s,ex,aj,he,r,blk,az,aU=>by
   have fP:=HZ n
   have aQ:=he
   rw[iv] at he|-
   cases c with
   | skip=>cases he;exact ⟨rfl,az,Nat.le_refl _⟩
   | ret=>cases he;exact ⟨rfl,az,Nat.le_refl _⟩
   | exit id=>cases he;exact ⟨rfl,az,Nat.le_refl _⟩
   | region kl ops eX=>
     simp only at he|-
     obtain⟨s1,U,he⟩:=Option.map_eq_some_iff.1 he
     cases he
     unfold ez at U|-
     split at U<;>try(cases U;done)
     rename_i s2 cs cw
     split at U<;>try(cases U;done)
     rename_i j'
     cases U
     obtain⟨bL,cj,dd⟩:=HX (blk:=blk) (Ci fP Y) aU cw az (show r<s.h.next+ops.length by omega)
     simp only at bL dd
     refine⟨?_,cj,by omega⟩
     have QS:c2 G tab (kC G Φ tab n Y) (s.h.new r blk).next ops.zipIdx ⟨s.F,{(s.h.new r blk) with next:=(s.h.new r blk).next+ops.length}⟩=some (⟨aj.F,aj.h.new r blk⟩,cs):=bL
     rw[QS]
     simp only[if_pos j',Option.map_some]
   | seq a b=>
     simp only at he|-
     split at he
     · rename_i s1 U
       obtain⟨bL,cj,dd⟩:=fP _ _ _ _ _ U r blk az aU
       obtain⟨dp,dr,gi⟩:=fP _ _ _ _ _ he r blk cj (by omega)
       exact ⟨by simp only[bL];exact dp,dr,by omega⟩
     · rename_i bV
       obtain⟨bL,cj,dd⟩:=fP _ _ _ _ _ he r blk az aU
       refine⟨?_,cj,dd⟩
       rw[bL]
       cases ex with
       | normal=>exact absurd he (bV aj)
       | exit i=>rfl
       | ret=>rfl
   | cond x a b=>
     simp only at he|-
     split at he<;>try(cases he;done)
     rename_i t aY
     try simp only[aY]
     split at he
     · rename_i sh;simp only[if_pos sh];exact fP _ _ _ _ _ he r blk az aU
     · rename_i sh;simp only[if_neg sh];exact fP _ _ _ _ _ he r blk az aU
   | block id b=>
     simp only at he|-
     split at he
     · rename_i i s1 U
       obtain⟨bL,cj,dd⟩:=fP _ _ _ _ _ U r blk az aU
       rw[bL]
       simp only
       split at he<;>rename_i ab<;>cases he<;>simp only[ab,if_true,if_false]<;>exact ⟨by first|rfl|trivial,cj,dd⟩
     · rename_i bV
       obtain⟨bL,cj,dd⟩:=fP _ _ _ _ _ he r blk az aU
       refine⟨?_,cj,dd⟩
       rw[bL]
       cases ex with
       | normal=>rfl
       | exit i=>exact absurd he (bV i aj)
       | ret=>rfl
   | loop b=>
     simp only at he|-
     split at he
     · rename_i s1 U
       obtain⟨bL,cj,dd⟩:=fP _ _ _ _ _ U r blk az aU
       obtain⟨dp,dr,gi⟩:=fP _ _ _ _ _ he r blk cj (by omega)
       exact ⟨by simp only[bL];exact dp,dr,by omega⟩
     · rename_i bV
       obtain⟨bL,cj,dd⟩:=fP _ _ _ _ _ he r blk az aU
       refine⟨?_,cj,dd⟩
       rw[bL]
       cases ex with
       | normal=>exact absurd he (bV aj)
       | exit i=>rfl
       | ret=>rfl
   | k5 f ps dK body=>
     obtain⟨g,first,caps,v,h',p,bw,I,aS,nQ,rfl⟩:=yb aQ
     have Cj:kC G Φ tab n (⟨s.h.next,s.F,ps,dK,body⟩::Y) (.fn g) (first++ [.fX s.h.next]++caps) {s.h with next:=s.h.next+1,a7:=aw s.h.a7 s.h.next (some .ready)}=some (v,h'):=I
     obtain⟨bL,cj,dd⟩:=Ci fP _ _ _ _ _ _ r blk Cj az (show r<s.h.next+1 by omega)
     obtain⟨fn,e,s2,mC,si,hex,aF,cS⟩:=qR (show km G Φ tab n _ g _ _=some (v,h'.new r blk) from bL)
     refine⟨?_,cj,by simp only at dd;show s.h.next<=h'.next;omega⟩
     simp only[bw,mC]
     have Ck:exec G Φ tab n (⟨(s.h.new r blk).next,s.F,ps,dK,body⟩::Y) fn.body ⟨dW (first++ [.fX (s.h.new r blk).next]++caps),{(s.h.new r blk) with next:=(s.h.new r blk).next+1,a7:=aw (s.h.new r blk).a7 (s.h.new r blk).next (some .ready)}⟩=some (e,s2):=si
     have vY:s2.h.a7 (s.h.new r blk).next=some p:=by rw[cS];exact aS
     rw[Ck]
     rcases hex with rfl|rfl<;>simp only[aF,vY]<;>rcases nQ with⟨rfl,rfl⟩|rfl<;>simp only[cS]<;>rfl
theorem QT (n:Nat) (Y:List cR):qM (kC G Φ tab n Y):=Ci (HZ n) Y
end
end Go.Eng
namespace Go.Eng
open Go Go.RowKit
section
variable {P:Program} {G:Nat->Option J} {tab:FuncId->Option (List J->Option J)} {Y:List cR}
theorem QU {n:Nat} (fP:tW P G tab n) {id:Nat} {args:List J} {h h':af} {v:J} (I:nP G (aR P) tab n Y id args h=some (v,h')):
 ∀base okin σ w (dA:Array Value) l s,cK base okin σ h w->jZ σ h.a7 w->oC P G base okin Y σ h w->σ id=some (l,s)->dA.size=args.length->
  (∀i (ab:i<args.length) (bW:i<dA.size),bf w (bz base okin σ h) σ args[i] dA[i])->
  (∀g u,G g=some u->bf w (bz base okin σ h) σ (.eV u) (.pointer (some ⟨g,0,none⟩)))->(∀id,h.next<=id->σ id=none)->
  BX P l dA w (tQ base okin σ h w h' v):=by
 obtain⟨L,Y',s1,ex,aj,bq,hlen,QV,H0,si,QW,jv⟩:=tV I
 obtain⟨dg,eI,Bn⟩:=HS bq
 intro base okin σ w dA l s H Ch ya oE df fF qS vZ
 obtain⟨lI,lq,r,nm,cn,cd,dc,c7,v3,v5,iR,nR⟩:=ya L dg
 rw[eI,oE] at cn;cases cn
 have ye:r.params.size=L.ps.length:=by rw[c7];simp
 have pB:dA.size=r.params.size:=by omega
 have QX:oC P G base okin Y' σ h w:=fun X l4=>ya X (Bn X l4)
 have k6:base<=l:=(H.val _ _ _ oE).1
 refine⟨r.fn,_,r.assign,r.body,run_yield cd pB,fun F dQ bA=>?_⟩
 have QY:(r.params.zip dA).foldl (fun tmps (t,a)=>tmps.setIfInBounds t a) r.tmps=(L.ps.zip dA.toList).foldl (fun tmps (t,a)=>tmps.setIfInBounds t a) r.tmps:=by
  rw[c7,<-Array.foldl_toList,Array.toList_zip]
 rw[QY]
 have S:fw P G Y' (F.inRound l).round w.heap.size base okin nm h.next σ (fun _=>False) σ ⟨nd L.F L.ps args,h⟩ {tmps:=(L.ps.zip dA.toList).foldl (fun tmps (t,a)=>tmps.setIfInBounds t a) r.tmps,defers:=[]} w:=by
  refine⟨H,Ch,QX,⟨fun t=>?_,qS⟩,?_,⟨fun d bk=>absurd bk (by simp),List.Pairwise.nil⟩,fun ea jq=>?_,Nat.le_refl _,fun id bC=>bC.elim,Nat.le_refl _,fun _ _=>rfl,vZ⟩
  · exact QN (by omega) (by simp;omega) (fun p aS=>Nat.lt_of_lt_of_le (v3 p aS) dc) (fun t=>nR.slot t) (fun i ab bW=>by
     have:=fF i ab (by simpa using bW)
     simpa using this) t
  · show nm<=(Array.size _)
    rw[QO];exact dc
  · cases jq;exact ⟨r,cd⟩
 refine roundIn_of_wpIn (bA.fn _) ?_
 refine fP nm Y' r.assign L.dK _ _ s1 v5 QV (F.inRound l) dQ (bA.inRound l) w.heap.size base okin h.next σ σ _ w _ S (fun jn a1 b3 jg bo=>?_)
 obtain⟨cp,vT,bJ,d1,d2,d3,d4⟩:=jg.kU.look id _ H0
 have Cl:jn id=some (l,s):=bo.sub _ _ oE
 rw[Cl] at d1;cases d1
 refine⟨_,run_beginRound d2 d3,?_⟩
 have ax:({bJ with state:= .busy}:Loop)= {bJ with state:=nM .busy,pending:=nN .busy}:=by
  have:nN .busy=bJ.pending:=by rw[d4];rfl
  rw[this];rfl
 rw[ax]
 have az:∀arr ty e,Obj.loop bJ≠ .cells arr ty e:=fun _ _ _ h=>by cases h
 have bB:ds base okin jn s1.h b3 jn (s1.h.set id (some .busy)) (b3.putObj l (.loop {bJ with state:=nM .busy,pending:=nN .busy})):=ds.B' d2 k6 _ _ (fun b aa=>aa)
 have yf:=jg.aE.put (.loop {bJ with state:=nM .busy,pending:=nN .busy}) d2 az (fun _ _ h=>by cases h)
 have v7:fw P G Y' (F.inRound l).round w.heap.size base okin nm h.next σ (fun _=>False) jn ⟨s1.F,s1.h.set id (some .busy)⟩ a1 (b3.putObj l (.loop {bJ with state:=nM .busy,pending:=nN .busy})):=
  ⟨⟨yf.val,yf.blk,yf.inj,yf.base⟩,jg.kU.set H0 Cl d2 .busy,jg.jo.mono bB,jg.bG.mono bB,jg.size,jg.marks.mono bB.nL,fun ea jq=>by
    obtain⟨dh,bT⟩:=jg.rd ea jq
    obtain⟨x,y,cL⟩:=bB.loop ea dh bT
    exact ⟨_,cL⟩,Nat.le_trans jg.se bB.below.size,fun _ h=>h.elim,jg.low,jg.l0,jg.fresh⟩
 refine fP nm Y' r.body L.body _ ex aj iR si (F.inRound l) dQ (bA.inRound l) w.heap.size base okin h.next σ jn _ _ _ v7 (fun mX BS e5 yg bR=>?_)
 have yh:=bR.sub _ _ Cl
 obtain⟨QZ,Q0,f1⟩:=bR.loop l _ (World.putObj_heap_same (pD d2))
 generalize ad3:({bJ with state:=QZ,pending:=Q0}:Loop)=oF at f1
 have f2:e5.heap[l]? =some (.loop oF):=f1
 have sj:∀arr ty e,Obj.loop oF≠ .cells arr ty e:=fun _ _ _ h=>by cases h
 have fin:∀(p:fr) (cv:Value),h'=aj.h.set id (some p)->bf (e5.putObj l (.loop {oF with state:=nM p,pending:=nN p})) (bz base okin mX (aj.h.set id (some p))) mX v cv->
  tQ base okin σ h w h' v cv (e5.putObj l (.loop {oF with state:=nM p,pending:=nN p})):=by
  rintro p cv rfl aU
  have b':ds base okin mX aj.h e5 mX (aj.h.set id (some p)) (e5.putObj l (.loop {oF with state:=nM p,pending:=nN p})):=ds.B' f2 k6 _ _ (fun b aa=>aa)
  have pF:=yg.aE.put (.loop {oF with state:=nM p,pending:=nN p}) f2 sj (fun _ _ h=>by cases h)
  exact ⟨mX,((bo.trans bB).trans bR).trans b',⟨pF.val,pF.blk,pF.inj,pF.base⟩,yg.kU.set QW yh f2 p,aU,yg.fresh,yg.l0⟩
 rcases jv with⟨rfl,rfl,cS⟩|⟨bV,rfl,cS⟩
 · exact ⟨_,_,run_endRound none f2,.bool true,rfl,fin .ready _ cS (.val _ _ (.bool _))⟩
 · cases ex with
   | normal=>exact absurd rfl bV
   | ret=>exact ⟨_,_,run_endRound (some .ret) f2,.bool false,rfl,fin (.done .ret) _ cS (.val _ _ (.bool _))⟩
   | exit i=>exact ⟨_,_,run_endRound (some (.exit i)) f2,.bool false,rfl,fin (.done (.exit i)) _ cS (.val _ _ (.bool _))⟩
theorem Q1 {n:Nat} (fP:tW P G tab n):tR P G Y (kC G (aR P) tab n Y):=
 ⟨fun _ _ _ _ _ I=>QP I,QT n Y,fun _ _ _ _ _ I base okin σ w dA H L C U h2 aN a8=> .inl (Ce fP I base okin σ w dA H L C U h2 aN a8),
   fun _ _ _ _ _ I=>QU fP I⟩
theorem H2 {N:Nat} {c:Code} {pE:dk} (I:fY P N c=some pE):∀(m:Nat),(∀k,k<m->tW P G tab k)->∀(s:aW) (ex:de) (aj:aW),exec G (aR P) tab m Y (.loop pE) s=some (ex,aj)->
 ∀(c_:Fence) (dQ:Nat) (_:jK c_) (bO:Nat) (base:Nat) (okin:Nat->Prop) (c3:Nat) (cW σ:Nat->Option (Nat × Nat)) (a:Act) (w:World) (Q:Exit->Act->World->Prop),fw P G Y c_.round bO base okin N c3 cW (fun _=>False) σ s a w->
  (∀bp eE a5,fw P G Y c_.round bO base okin N c3 cW (fun _=>False) bp aj eE a5->ds base okin σ s.h w bp aj.h a5->Q (x_ ex) eE a5)->Code.roundsIn c_ dQ P c Q m a w
 | 0,_,s,ex,aj,he=>by unfold exec at he;cases he
 | m+1,fP,s,ex,aj,he=>by
   rw[iv] at he
   simp only at he
   split at he
   · rename_i s1 U
     have b3:=fP m (Nat.lt_succ_self m) N Y c pE s _ s1 I U
     have cF:=H2 I m (fun k ag=>fP k (Nat.lt_succ_of_lt ag)) s1 ex aj he
     refine fun c_ dQ bA bO base okin c3 cW σ a w Q S dM=>?_
     rw[roundsIn_succ]
     exact b3 c_ dQ bA bO base okin c3 cW σ a w _ S fun jn a1 mY jg bo=>cF c_ dQ bA bO base okin c3 cW jn a1 mY Q jg fun po e2 sk v7 bB=>dM po e2 sk v7 (bo.trans bB)
   · rename_i bV
     have b3:=fP m (Nat.lt_succ_self m) N Y c pE s ex aj I he
     refine fun c_ dQ bA bO base okin c3 cW σ a w Q S dM=>?_
     rw[roundsIn_succ]
     refine b3 c_ dQ bA bO base okin c3 cW σ a w _ S fun jn a1 mY jg bo=>?_
     have:=dM jn a1 mY jg bo
     cases ex with
     | normal=>exact absurd he (bV aj)
     | exit id=>exact this
     | ret=>exact this
theorem Q2 {n N:Nat} (fP:tW P G tab n) {x:Operand} {ps:Array Tmp} {dK body:Code} {f:a6} {v8 v9:dk} (ae:ei x=some f) (aV:fY P N dK=some v8) (aa:fY P N body=some v9) (ye:ps.toList.all (fun p=>decide (p<N))=true)
 {s aj:aW} {ex:de} (he:exec G (aR P) tab (n+1) Y (.k5 f ps.toList v8 v9) s=some (ex,aj))
 (c_:Fence) (dQ:Nat) (bA:jK c_) (bO:Nat) (base:Nat) (okin:Nat->Prop) (c3:Nat) (cW σ:Nat->Option (Nat × Nat)) (a:Act) (w:World) (Q:Exit->Act->World->Prop) (S:fw P G Y c_.round bO base okin N c3 cW (fun _=>False) σ s a w)
 (dM:∀bp eE a5,fw P G Y c_.round bO base okin N c3 cW (fun _=>False) bp aj eE a5->ds base okin σ s.h w bp aj.h a5->Q (x_ ex) eE a5):(Code.rangeFunc x ps dK body).wpIn c_ dQ P Q a w:=by
 obtain⟨g,first,caps,v,h',p,bw,js,aS,nQ,rfl⟩:=yb he
 have rx:=S.bG.dX ae
 rw[bw] at rx
 obtain⟨fb,cv,Q3,cp,ea,bJ,dh⟩:=rx.Gd
 have bC:σ s.h.next=none:=S.fresh _ (Nat.le_refl _)
 have enter:∀fn,∃(l:Nat) (mark:List Deferred) (b3:World) (r:Loop),(Instr.enterLoop fn a.tmps ps dK body c_.round).run P w= .ok (l,mark) b3/\Below w.heap.size w b3/\w.heap.size<=l/\b3.heap[l]? =some (.loop r)/\
  r.state= .ready/\r.pending=none/\r.tmps=a.tmps/\r.params=ps/\r.assign=dK/\r.body=body/\Marks w.heap.size mark b3:=by
  intro fn
  cases Cm:c_.round with
  | none=>
    refine⟨_,_,_,{state:= .ready,pending:=none,fn,tmps:=a.tmps,params:=ps,assign:=dK,body,defers:=w.heap.size},run_enterLoop_outer fn a.tmps ps dK body,((Below.refl _ _).alloc (Nat.le_refl _) _).alloc (by simp) _,Nat.le_succ _,?_,rfl,rfl,rfl,rfl,rfl,rfl,⟨fun d bk=>?_,?_⟩⟩
    · have:=World.alloc_heap_new (w.alloc (.deferred (some []))) (.loop {state:= .ready,pending:=none,fn,tmps:=a.tmps,params:=ps,assign:=dK,body,defers:=w.heap.size})
      rwa [World.size_alloc] at this
    · simp at bk
      subst bk
      refine⟨w.heap.size,rfl,Nat.le_refl _,?_⟩
      rw[Below.heap_alloc _ _ _ (by simp)]
      exact World.alloc_heap_new w _
    · simp
  | some tX=>
    obtain⟨r0,aQ⟩:=S.rd tX Cm
    refine⟨_,_,_,{state:= .ready,pending:=none,fn,tmps:=a.tmps,params:=ps,assign:=dK,body,defers:=r0.defers},run_enterLoop_inner aQ fn a.tmps ps dK body,(Below.refl _ _).alloc (Nat.le_refl _) _,Nat.le_refl _,World.alloc_heap_new w _,rfl,rfl,rfl,rfl,rfl,rfl,⟨fun d bk=>absurd bk (by simp),List.Pairwise.nil⟩⟩
 refine wpIn_rangeFunc fun fn mC=>?_
 obtain⟨l,mark,b3,r,au,k6,hle,ax,a9,bX,fc,k7,BV,qO,H3⟩:=enter fn
 have bF:=pD ax
 have vV:=Nat.le_trans S.aE.base hle
 obtain⟨B1,B2⟩:=S.aE.grown k6
 obtain⟨yi,pG⟩:=B1.named bC vV bF
 have bo:ds base okin σ s.h w (aw σ s.h.next (some (l,0))) s.h b3:=ds.of S.aE (B2.trans pG)
 have fv:=S.kU.add (fun id b s aE=>(S.aE.val id b s aE).2) bC k6 hle ax a9 bX
 have v_:ds base okin σ s.h w (aw σ s.h.next (some (l,0))) {s.h with next:=s.h.next+1,a7:=aw s.h.a7 s.h.next (some .ready)} b3:=⟨bo.sub,bo.still,bo.below,bo.grow,bo.loop,bo.nL⟩
 have H1:cK base okin (aw σ s.h.next (some (l,0))) {s.h with next:=s.h.next+1,a7:=aw s.h.a7 s.h.next (some .ready)} b3:=⟨yi.val,yi.blk,yi.inj,yi.base⟩
 have Cn:=S.bG.mono v_
 have Q4:oC P G base okin (⟨s.h.next,s.F,ps.toList,v8,v9⟩::Y) (aw σ s.h.next (some (l,0))) {s.h with next:=s.h.next+1,a7:=aw s.h.a7 s.h.next (some .ready)} b3:=by
  intro L bq
  rcases List.mem_cons.1 bq with rfl|bq
  · refine⟨l,0,r,N,by simp[aw],ax,by rw[fc];exact S.size,by rw[k7],fun q aT=>by simpa using List.all_eq_true.1 ye q aT,by rw[BV];exact aV,by rw[qO];exact aa,⟨fun t=>?_,Cn.mS⟩⟩
    rw[fc];exact Cn.slot t
  · exact S.jo.mono v_ L bq
 have fF:∀i (ab:i<(first++ [J.fX s.h.next]++caps).length) (bW:i<(fb++ #[Value.func (.yield l) #[] #[]]++cv).size),bf b3 (bz base okin (aw σ s.h.next (some (l,0))) {s.h with next:=s.h.next+1,a7:=aw s.h.a7 s.h.next (some .ready)}) (aw σ s.h.next (some (l,0))) (first++ [J.fX s.h.next]++caps)[i] (fb++ #[Value.func (.yield l) #[] #[]]++cv)[i]:=by
  intro i ab bW
  by_cases U:i<first.length
  · have dp:(first++ [J.fX s.h.next]++caps)[i]=first[i]:=by
     rw[List.getElem_append_left (by simp;omega),List.getElem_append_left U]
    have dr:(fb++ #[Value.func (.yield l) #[] #[]]++cv)[i]=fb[i]'(by omega):=by
     rw[Array.getElem_append_left (by simp;omega),Array.getElem_append_left (by omega)]
    rw[dp,dr];exact v_.rep (bJ i U (by omega))
  · by_cases h2:i=first.length
    · have dp:(first++ [J.fX s.h.next]++caps)[i]=J.fX s.h.next:=by
       rw[List.getElem_append_left (by simp;omega),List.getElem_append_right (by omega)];simp
      have dr:(fb++ #[Value.func (.yield l) #[] #[]]++cv)[i]=Value.func (.yield l) #[] #[]:=by
       rw[Array.getElem_append_left (by simp;omega),Array.getElem_append_right (by omega)];simp
      rw[dp,dr]
      exact .fX _ l 0 (by simp[aw])
    · have dp:(first++ [J.fX s.h.next]++caps)[i]=caps[i -(first.length+1)]'(by simp at ab;omega):=by
       rw[List.getElem_append_right (by simp;omega)];simp
      have dr:(fb++ #[Value.func (.yield l) #[] #[]]++cv)[i]=cv[i -(first.length+1)]'(by simp at bW;omega):=by
       rw[Array.getElem_append_right (by simp;omega)]
       congr 1
       simp;omega
      rw[dp,dr];exact v_.rep (dh _ (by simp at ab;omega) (by simp at bW;omega))
 have df:(fb++ #[Value.func (.yield l) #[] #[]]++cv).size=(first++ [J.fX s.h.next]++caps).length:=by simp;omega
 have vZ:∀id,s.h.next+1<=id->aw σ s.h.next (some (l,0)) id=none:=fun id bC=>by
  have:id≠s.h.next:=by omega
  simp only[aw,this,if_false]
  exact S.fresh id (by omega)
 obtain⟨cn,cd⟩:=Ce fP js base okin _ b3 _ H1 fv Q4 df fF Cn.mS vZ
 refine⟨l,mark,b3,{target:= .fn (.func g) cv,args:=fb++ #[Value.func (.yield l) #[] #[]]},b3,g,fb++ #[Value.func (.yield l) #[] #[]]++cv,b3,au,?_,fun pr _=>bA.fn pr,?_,bA.one dQ,bA.calls (cd.mono ?_)⟩
 · simp[resolve,Deferred.ofValue,Q3]
   rfl
 · simpa[invoke] using cn
 rintro e e5 ⟨B0,rfl,mX,bR,Q5,H4,_,f3,nJ⟩
 obtain⟨lI,aj,jd,d1,d2,d3,d4⟩:=H4.look _ p aS
 have yh:mX s.h.next=some (l,0):=bR.sub _ _ (by simp[aw])
 rw[yh] at d1;cases d1
 have v':jd.state≠ .busy:=by
  rw[d3]
  rcases nQ with⟨rfl,_⟩|rfl<;>simp[nM]
 have sj:∀arr ty e,Obj.loop jd≠ .cells arr ty e:=fun _ _ _ h=>by cases h
 have b':ds base okin mX h' e5 mX (h'.set s.h.next none) (e5.putObj l (.loop {jd with state:= .exhausted})):=ds.B' d2 vV .exhausted jd.pending (fun b aa=>aa)
 have pF:=Q5.put (.loop {jd with state:= .exhausted}) d2 sj (fun _ _ h=>by cases h)
 have Q6:jZ mX (aw h'.a7 s.h.next none) (e5.putObj l (.loop {jd with state:= .exhausted})):=H4.del aS yh _
 have sm:ds base okin σ s.h w mX (h'.set s.h.next none) (e5.putObj l (.loop {jd with state:= .exhausted})):=(v_.trans bR).trans b'
 have x7:=(yc (G:=G) (tab:=tab) (Φ:=aR P) (n+1) Y (.k5 f ps.toList v8 v9) s ex _ he)
 have Q7:fw P G Y c_.round bO base okin N c3 cW (fun _=>False) mX ⟨s.F,h'.set s.h.next none⟩ {a with defers:=mark++a.defers} (e5.putObj l (.loop {jd with state:= .exhausted})):=by
  refine⟨⟨pF.val,pF.blk,pF.inj,pF.base⟩,Q6,S.jo.mono sm,⟨fun t=>sm.rep (S.bG.slot t),fun g v ba=>sm.rep (S.bG.mS g v ba)⟩,S.size,?_,fun ea jq=>?_,Nat.le_trans S.se sm.below.size,fun _ h=>h.elim,Nat.le_trans S.low x7,fun id bC=>?_,f3⟩
  · have dg:=H3.mono (fun b aa=>b'.nL b (bR.nL b aa))
    have eI:=S.marks.mono sm.nL
    refine⟨fun d bk=>?_,List.pairwise_append.2 ⟨dg.nodup,eI.nodup,fun d bk ph tU=>?_⟩⟩
    · rcases List.mem_append.1 bk with bk|bk
      · obtain⟨D,bT,cL,fG⟩:=dg.each d bk
        exact ⟨D,bT,Nat.le_trans S.se cL,fG⟩
      · exact eI.each d bk
    · obtain⟨D,bT,cL,_⟩:=H3.each d bk
      obtain⟨HM,Q8,_,Q9⟩:=S.marks.each ph tU
      have:=pD Q9
      rw[bT,Q8]
      intro cS
      cases cS
      omega
  · obtain⟨dh,bT⟩:=S.rd ea jq
    obtain⟨x1,x2,cL⟩:=sm.loop ea dh bT
    exact ⟨_,cL⟩
  · have:id≠s.h.next:=by have:=S.low;omega
    rw[nJ id (by have:=S.low;show id<s.h.next+1;omega)]
    simp only[aw,this,if_false]
    exact S.l0 id bC
 have aT:=dM mX _ _ Q7 sm
 refine⟨_,_,run_endLoop d2 v',?_⟩
 rw[d4] at aT|-
 rcases nQ with⟨rfl,rfl⟩|rfl
 · exact aT
 · cases ex with
   | normal=>exact aT
   | ret=>exact wpIn_ret aT
   | exit i=>exact wpIn_exit aT
theorem tY {P:Program} {b:Frame} {a:Act} {k:List Item} {cs:List Frame} {w:World} {c:Code}:step P (lone (b.atR a (.code (.scope c)::k)) cs w)= .next (lone (b.atR a (.code c:: .inScope c::k)) cs w):=
 step_lone_go (by simp[stepG,stepG.exec,Frame.atR])
theorem Q_ {P:Program} {b:Frame} {a:Act} {k:List Item} {cs:List Frame} {w:World} {c:Code}:step P (lone (b.atR a (.inScope c::k)) cs w)= .next (lone (b.atR a k) cs w):=
 step_lone_go (by simp[stepG,stepG.exec,Frame.atR])
theorem Q' {F:Fence} {n:Nat} {P:Program} {c:Code} {Q:Exit->Act->World->Prop} {a:Act} {w:World} (h:c.wpIn F n P (Exit.noGoto Q) a w):(Code.scope c).wpIn F n P Q a w:=by
 intro b k cs Cm aa aU
 have aQ:(lone (b.atR a (.code (.scope c)::k)) cs w).fenced P F:=fenced_calm aa aU rfl
 obtain⟨e,wa,wb,aT,tZ⟩:=h b (.inScope c::k) cs Cm aa aU
 cases e with
 | normal=>exact ⟨.normal,wa,wb,aT,.head aQ tY (StepsIn.trans tZ (.one (fenced_calm aa aU rfl) Q_))⟩
 | exit id=>
   have ae:exitTo id (.inScope c::k)=exitTo id k:=by simp[exitTo]
   exact ⟨_,wa,wb,aT,fun k' ag=> .head aQ tY (tZ.1 k' (by rw[ae];exact ag)),fun nf ag=>let ⟨k₁,U,h2⟩:=tZ.2 nf (by rw[ae];exact ag);⟨k₁,U,.head aQ tY h2⟩⟩
 | goto l=>exact aT.elim
 | ret=>exact ⟨_,wa,wb,aT,.of_steps (.one aQ tY) tZ⟩
 | panic ad4=>exact ⟨_,wa,wb,aT,.of_steps (.one aQ tY) tZ⟩
 | outgrown=>exact ⟨_,wa,wb,aT,.of_steps (.one aQ tY) tZ⟩
theorem Ra (hm:P.follows .mixedOrders=true) (k8:∀f T,tab f=some T->a3 P G f T):∀n,tW P G tab n:=by
 intro n
 induction n using Nat.strongRecOn with
 | _ n fP=>
 intro N Y c pE s ex aj I he
 cases n with
 | zero=>unfold exec at he;cases he
 | succ n=>
 have bj:=fP n (Nat.lt_succ_self n)
 have yd:=he
 rw[iv] at he
 cases c with
 | skip=>
   simp only[fY] at I;cases I
   cases he
   exact fun c_ dQ bA bO base okin c3 cW σ a w Q S dM=>wpIn_skip (dM σ a w S (ds.refl ..))
 | ret=>
   simp only[fY] at I;cases I
   cases he
   exact fun c_ dQ bA bO base okin c3 cW σ a w Q S dM=>wpIn_ret (dM σ a w S (ds.refl ..))
 | exit id=>
   simp only[fY] at I;cases I
   cases he
   exact fun c_ dQ bA bO base okin c3 cW σ a w Q S dM=>wpIn_exit (dM σ a w S (ds.refl ..))
 | region id ops draw=>
   have jf:=I
   have Rb:∃kl es b,pE= .region kl es b:=by
    simp only[fY] at I
    split at I<;>try(cases I;done)
    split at I
    · split at I<;>try(cases I;done)
      cases I;exact ⟨_,_,_,rfl⟩
    · cases I;exact ⟨_,_,_,rfl⟩
   obtain⟨kl,es,b,rfl⟩:=Rb
   simp only at he
   obtain⟨s1,U,he⟩:=Option.map_eq_some_iff.1 he
   cases he
   exact fun c_ dQ bA bO base okin c3 cW σ a w Q S dM=>QE hm bA (Q1 bj) k8 jf U S dM
 | seq x y=>
   simp only[fY] at I
   split at I<;>try(cases I;done)
   rename_i pH Co ae a2
   cases I
   simp only at he
   split at he
   · rename_i s1 U
     have b3:=bj N Y x pH s _ s1 ae U
     have cF:=bj N Y y Co s1 ex aj a2 he
     refine fun c_ dQ bA bO base okin c3 cW σ a w Q S dM=>wpIn_seq ?_
     exact b3 c_ dQ bA bO base okin c3 cW σ a w _ S fun jn a1 mY jg bo=>cF c_ dQ bA bO base okin c3 cW jn a1 mY Q jg fun po e2 sk v7 bB=>dM po e2 sk v7 (bo.trans bB)
   · rename_i bV
     have b3:=bj N Y x pH s ex aj ae he
     refine fun c_ dQ bA bO base okin c3 cW σ a w Q S dM=>wpIn_seq ?_
     refine b3 c_ dQ bA bO base okin c3 cW σ a w _ S fun jn a1 mY jg bo=>?_
     have:=dM jn a1 mY jg bo
     cases ex with
     | normal=>exact absurd he (bV aj)
     | exit id=>exact this
     | ret=>exact this
 | cond x y z=>
   simp only[fY] at I
   split at I<;>try(cases I;done)
   rename_i pH Co Rc ae a2 ay
   cases I
   simp only at he
   split at he<;>try(cases he;done)
   rename_i t aY
   cases t with
   | true=>
     simp only[if_true] at he
     have b3:=bj N Y y Co s ex aj a2 he
     refine fun c_ dQ bA bO base okin c3 cW σ a w Q S dM=>?_
     have r:=S.bG.dX ae
     rw[aY] at r
     exact wpIn_cond_true r.qB (b3 c_ dQ bA bO base okin c3 cW σ a w Q S dM)
   | false=>
     simp only[Bool.false_eq_true,if_false] at he
     have b3:=bj N Y z Rc s ex aj ay he
     refine fun c_ dQ bA bO base okin c3 cW σ a w Q S dM=>?_
     have r:=S.bG.dX ae
     rw[aY] at r
     exact wpIn_cond_false r.qB (b3 c_ dQ bA bO base okin c3 cW σ a w Q S dM)
 | block id x=>
   simp only[fY] at I
   obtain⟨pH,ae,rfl⟩:=Option.map_eq_some_iff.1 I
   simp only at he
   split at he
   · rename_i i s1 U
     have b3:=bj N Y x pH s _ s1 ae U
     have aE:s1=aj:=by split at he<;>(cases he;rfl)
     subst aE
     refine fun c_ dQ bA bO base okin c3 cW σ a w Q S dM=>wpIn_block ?_
     refine b3 c_ dQ bA bO base okin c3 cW σ a w _ S fun jn a1 mY jg bo=>?_
     have:=dM jn a1 mY jg bo
     simp only[x_,Exit.inBlock]
     split at he
     · rename_i bC
       cases he
       rw[if_pos bC];exact this
     · rename_i bC
       cases he
       rw[if_neg bC];exact this
   · rename_i bV
     have b3:=bj N Y x pH s ex aj ae he
     refine fun c_ dQ bA bO base okin c3 cW σ a w Q S dM=>wpIn_block ?_
     refine b3 c_ dQ bA bO base okin c3 cW σ a w _ S fun jn a1 mY jg bo=>?_
     have:=dM jn a1 mY jg bo
     cases ex with
     | normal=>exact this
     | exit i=>exact absurd he (bV i aj)
     | ret=>exact this
 | loop x=>
   simp only[fY] at I
   obtain⟨pH,ae,rfl⟩:=Option.map_eq_some_iff.1 I
   have b3:=H2 ae (n+1) fP s ex aj yd
   exact fun c_ dQ bA bO base okin c3 cW σ a w Q S dM=>wpIn_loop_rounds (n+1) (b3 c_ dQ bA bO base okin c3 cW σ a w Q S dM)
 | rangeFunc x ps dK body=>
   simp only[fY] at I
   split at I<;>try(cases I;done)
   rename_i f v8 v9 ae aV aa
   split at I<;>try(cases I;done)
   rename_i ye
   cases I
   exact fun c_ dQ bA bO base okin c3 cW σ a w Q S dM=>Q2 bj ae aV aa ye yd c_ dQ bA bO base okin c3 cW σ a w Q S dM
 | scope x=>
   simp only[fY] at I
   obtain⟨pH,ae,rfl⟩:=Option.map_eq_some_iff.1 I
   simp only at he
   cases n with
   | zero=>
     have aQ:exec G (aR P) tab 0 Y .skip s=none:=by unfold exec;rfl
     rw[aQ] at he;cases he
   | succ n=>
     have aQ:exec G (aR P) tab (n+1) Y .skip s=some (.normal,s):=by rw[iv]
     rw[aQ] at he
     simp only at he
     have b3:=bj N Y x pH s ex aj ae he
     refine fun c_ dQ bA bO base okin c3 cW σ a w Q S dM=>Q' ?_
     refine b3 c_ dQ bA bO base okin c3 cW σ a w _ S fun jn a1 mY jg bo=>?_
     have:=dM jn a1 mY jg bo
     cases ex<;>exact this
 | label _=>
   simp only[fY] at I;cases I
   cases he
   exact fun c_ dQ bA bO base okin c3 cW σ a w Q S dM=>wpIn_label (dM σ a w S (ds.refl ..))
 | goto _=>simp only[fY] at I;cases I
 | refuse _=>simp only[fY] at I;cases I
theorem Cp (n:Nat) (f:FuncId) (args:List J) (h:af):xE G (aR P) tab n Y f args h=km G (aR P) tab n Y f args h:=rfl
theorem yj (hm:P.follows .mixedOrders=true) (k8:∀f T,tab f=some T->a3 P G f T) {f:FuncId} {T:List J->Option J}
 (c6:∀args v,T args=some v->∃n,mw G (aR P) tab n f args=some v):a3 P G f T:=by
 intro args v aF ok w dA df fF qS
 obtain⟨n,az⟩:=c6 args v aF
 unfold mw at az
 obtain⟨p,U,h2⟩:=Option.bind_eq_some_iff.1 az
 obtain⟨u,h'⟩:=p
 obtain⟨q,aN,a8⟩:=Option.map_eq_some_iff.1 h2
 obtain⟨j_,ids⟩:=q
 cases a8
 rw[Cp] at U
 have H:cK w.heap.size ok (fun _=>none) aQ w:=⟨fun id b sz h=>(by cases h),fun id blk h=>(by cases h),fun id gh b sz fO h=>(by cases h),Nat.le_refl _⟩
 have j':∀b,b<w.heap.size->ok b->bz w.heap.size ok (fun _=>none) aQ b:=fun b aa aL=> .inl ⟨aa,aL⟩
 have st:tx w w ok (bz w.heap.size ok (fun _=>none) aQ):=fun b o aa _ aL=>⟨j' b (pD aa) aL,rfl⟩
 obtain⟨d1,d2⟩:=Ce (Ra hm k8 n) U w.heap.size ok (fun _=>none) w dA H ⟨fun id p h=>(by cases h),fun id gh p l1 l s aj h=>(by cases h)⟩ (fun L bq=>absurd bq (by simp)) df (fun i ab bW=> .val _ _ ((fF i ab bW).mono st))
  (fun g u ba=>(qS g u ba).mono st (fun _ _ h=>h) (fun _=>Nat.le_refl _)) (fun _ _=>rfl)
 refine .inl ⟨d1,d2.mono fun e a5 eA=>?_⟩
 obtain⟨cv,he,bp,p,Rd,_,r,_,_⟩:=eA
 refine⟨cv,he,(Qk Rd r aN).rV fun b _ aa=>?_,p.below⟩
 rcases aa with aa|aa
 · exact .inl aa.2
 · exact .inr aa.1
end
#print axioms yj
end Go.Eng
