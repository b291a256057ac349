import Derived.Test.YtemiagcencajeaaGreatDoorCtE2
import Derived.RangeFuncRecord
import Derived.OrdersIn
import Derived.RangeFuncLeaves
import Derived.RangeFuncBox
import Derived.LoopNIn
import Derived.RangeFuncNested
import Derived.Scope
set_option linter.unusedSimpArgs false
set_option linter.unusedVariables false
set_option linter.unusedSectionVars false
namespace Go.Eng
open Go Go.RowKit
section
variable {G:Nat->Option J}
theorem bf.eF {F F':Nat->J} {x:bf} (h:∀t∈x.rd,F t=F' t):x.ev G F=x.ev G F':=by
 cases x with
 | t n=>exact h n (by simp[bf.rd])
 | _=>rfl
theorem uA {F F':Nat->J} {xs:List bf} (h:∀t∈xs.flatMap bf.rd,F t=F' t):xs.map (bf.ev G F)=xs.map (bf.ev G F'):=by
 apply List.map_congr_left
 intro x ak
 exact bf.eF fun t a7=>h t (List.mem_flatMap.2 ⟨x,ak,a7⟩)
theorem CY {F F':Nat->J}:∀ {ps:List (Nat × Nat × bf)} {cs:List J},(∀t∈ps.flatMap (fun p=>p.2.2.rd),F t=F' t)->fy cs (bf.ev G F) ps=fy cs (bf.ev G F') ps
 | [],cs,_=>rfl
 | (off,sz,x)::ps,cs,h=>by
   have ak:x.ev G F=x.ev G F':=bf.eF fun t a7=>h t (by simp[a7])
   simp only[fy,ak]
   rw[CY (ps:=ps) fun t a7=>h t (by simp only[List.flatMap_cons,List.mem_append];exact .inr a7)]
theorem CZ {F F':Nat->J} {sz:Nat}:∀ {ps:List (Nat × bf)} {es:List J},(∀t∈ps.flatMap (fun p=>p.2.rd),F t=F' t)->fz sz es (bf.ev G F) ps=fz sz es (bf.ev G F') ps
 | [],es,_=>rfl
 | (i,x)::ps,es,h=>by
   have ak:x.ev G F=x.ev G F':=bf.eF fun t a7=>h t (by simp[a7])
   simp only[fz,ak]
   rw[CZ (ps:=ps) fun t a7=>h t (by simp only[List.flatMap_cons,List.mem_append];exact .inr a7)]
theorem yJ {F F':Nat->J} {d:Nat} {x:Option bf} (h:∀t∈bf.vC x,F t=F' t):bound d (bf.ev G F) x=bound d (bf.ev G F') x:=by
 cases x with
 | none=>rfl
 | some x=>simp only[bound];rw[bf.eF (G:=G) (F:=F) (F':=F') (x:=x) h]
theorem Ky {F F':Nat->J} {bs r:Nat} {h:aA} {op:hx} (bQ:∀t∈op.reads,F t=F' t):evalOp bs r (bf.ev G F) h op=evalOp bs r (bf.ev G F') h op:=by
 cases op<;>simp only[evalOp,hx.reads,List.mem_append] at bQ|-
 case mv x=>rw[bf.eF bQ]
 case pick c a b=>
  rw[bf.eF (x:=c) fun t a7=>bQ t (.inl (.inl a7)),bf.eF (x:=a) fun t a7=>bQ t (.inl (.inr a7)),bf.eF (x:=b) fun t a7=>bQ t (.inr a7)]
 case box x=>rw[bf.eF bQ]
 case build z ps=>rw[CY bQ]
 case bsl sz z n ps=>rw[CZ bQ]
 case load b' sz x=>rw[bf.eF bQ]
 case store sz x y=>rw[bf.eF (x:=x) fun t a7=>bQ t (.inl a7),bf.eF (x:=y) fun t a7=>bQ t (.inr a7)]
 case bin ty op x y=>rw[bf.eF (x:=x) fun t a7=>bQ t (.inl a7),bf.eF (x:=y) fun t a7=>bQ t (.inr a7)]
 case eqA r' n x y=>rw[bf.eF (x:=x) fun t a7=>bQ t (.inl a7),bf.eF (x:=y) fun t a7=>bQ t (.inr a7)]
 case un op x=>rw[bf.eF bQ]
 case conv k x=>rw[bf.eF bQ]
 case mkfn f a b=>rw[uA (xs:=a) fun t a7=>bQ t (.inl a7),uA (xs:=b) fun t a7=>bQ t (.inr a7)]
 case mksl z sz sa x y=>rw[bf.eF (x:=x) fun t a7=>bQ t (.inl a7),bf.eF (x:=y) fun t a7=>bQ t (.inr a7)]
 case slice sz x cH ag hy=>
  rw[bf.eF (x:=x) fun t a7=>bQ t (.inl (.inl (.inl a7)))]
  simp only[yJ (x:=cH) fun t a7=>bQ t (.inl (.inl (.inr a7))),yJ (x:=ag) fun t a7=>bQ t (.inl (.inr a7)),yJ (x:=hy) fun t a7=>bQ t (.inr a7)]
 case faddr b' off sz x=>rw[bf.eF bQ]
 case field b' off sz x=>rw[bf.eF bQ]
 case iaddrS sz x y=>rw[bf.eF (x:=x) fun t a7=>bQ t (.inl a7),bf.eF (x:=y) fun t a7=>bQ t (.inr a7)]
 case iaddrA b' n sz x y=>rw[bf.eF (x:=x) fun t a7=>bQ t (.inl a7),bf.eF (x:=y) fun t a7=>bQ t (.inr a7)]
 case idxA b' n sz x y=>rw[bf.eF (x:=x) fun t a7=>bQ t (.inl a7),bf.eF (x:=y) fun t a7=>bQ t (.inr a7)]
 case idxS x y=>rw[bf.eF (x:=x) fun t a7=>bQ t (.inl a7),bf.eF (x:=y) fun t a7=>bQ t (.inr a7)]
 case extract x i=>rw[bf.eF bQ]
 case len s x=>rw[bf.eF bQ]
 case mlook x y=>rw[bf.eF (x:=x) fun t a7=>bQ t (.inl a7),bf.eF (x:=y) fun t a7=>bQ t (.inr a7)]
 case isnil r' x=>rw[bf.eF bQ]
 case app sz sa x y=>rw[bf.eF (x:=x) fun t a7=>bQ t (.inl a7),bf.eF (x:=y) fun t a7=>bQ t (.inr a7)]
 case min xs=>rw[uA bQ]
 case max xs=>rw[uA bQ]
def yK (bs r:Nat) (bw:bf->J) (h:aA) (op:hx) (v:J) (av:aA):dL->Prop
 | .pure=>av=h/\∀h2,evalOp bs r bw h2 op=some (v,h2,.pure)
 | .gE=>∃blk,av=h.new r blk/\∀h2,evalOp bs r bw h2 op=some (v,h2.new r blk,.gE)
 | .rd=>av=h/\∀h2:aA,(∀id,id<bs->h2.cells id=h.cells id)->evalOp bs r bw h2 op=some (v,h2,.rd)
 | .wr=>True
 | .lo id=>av=h/\id<bs/\∀h2:aA,h2.cells id=h.cells id->evalOp bs r bw h2 op=some (v,h2,.lo id)
 | .k5 _=>False
theorem fS {bs r:Nat} {bw:bf->J} {h av:aA} {op:hx} {v:J} {c:dL} (X:Option J) (cT:∀h2,evalOp bs r bw h2 op=X.map fun v=>(v,h2,.pure))
 (he:evalOp bs r bw h op=some (v,av,c)):(av.next,av.bm)=(h.next,h.bm)/\yK bs r bw h op v av c:=by
 rw[cT] at he
 obtain⟨u,hu,he⟩:=Option.map_eq_some_iff.1 he
 cases he
 exact⟨rfl,rfl,fun h2=>by rw[cT,hu];rfl⟩
theorem yL {bs r:Nat} {bw:bf->J} {h av:aA} {op:hx} {v:J} {c:dL} (X:Option (J × List J)) (cT:∀h2,evalOp bs r bw h2 op=X.map fun p=>(p.1,aA.new h2 r p.2,.gE))
 (he:evalOp bs r bw h op=some (v,av,c)):(av.next,av.bm)=(h.next,h.bm)/\yK bs r bw h op v av c:=by
 rw[cT] at he
 obtain⟨u,hu,he⟩:=Option.map_eq_some_iff.1 he
 cases he
 exact⟨rfl,u.2,rfl,fun h2=>by rw[cT,hu];rfl⟩
theorem sb {bs r:Nat} {bw:bf->J} {h av:aA} {op:hx} {v:J} {c:dL} (he:evalOp bs r bw h op=some (v,av,c)):
 (av.next,av.bm)=(h.next,h.bm)/\yK bs r bw h op v av c:=by
 cases op
 case mv x=>exact fS (some (bw x)) (fun h2=>rfl) he
 case pick c a b=>
  cases I:bw c<;>first
   | (simp only[evalOp,I] at he;cases he;done)
   | (rename_i t;exact fS (some (if t then bw a else bw b)) (fun h2=>by simp only[evalOp,I];rfl) he)
 case alloc z=>exact yL (some (.ptr r 0 0,[z])) (fun h2=>rfl) he
 case box x=>
  by_cases aG:(bw x).cells.all J.c0=true
  · exact yL (some (.ptr r 0 0,[bw x])) (fun h2=>by simp only[evalOp,if_pos aG];rfl) he
  · simp only[evalOp,if_neg aG] at he;cases he
 case build z ps=>exact fS ((fy z bw ps).map J.agg) (fun h2=>by simp only[evalOp,Option.map_map];rfl) he
 case bsl sz z n ps=>
  by_cases aG:z.cells.length=sz/\0<sz/\z.eA=true
  · exact fS ((fz sz (List.replicate n z) bw ps).map fun es=> .sl es true) (fun h2=>by simp only[evalOp,if_pos aG,Option.map_map];rfl) he
  · simp only[evalOp,if_neg aG] at he;cases he
 case load b' sz x=>
  cases ak:bw x<;>first
   | (simp only[evalOp,ak] at he;cases he;done)
   | skip
  · rename_i id idx cV
    simp only[evalOp,ak] at he
    obtain⟨blk,ab,he⟩:=Option.bind_eq_some_iff.1 he
    obtain⟨e,h2,he⟩:=Option.bind_eq_some_iff.1 he
    obtain⟨cs,aX,he⟩:=Option.bind_eq_some_iff.1 he
    obtain⟨u,aW,he⟩:=Option.map_eq_some_iff.1 he
    cases he
    refine⟨rfl,?_⟩
    by_cases bS:id<bs
    · rw[if_pos bS]
      refine⟨rfl,bS,fun cY dx=>?_⟩
      simp only[evalOp,ak,dx,ab,Option.bind_some,h2,aX,aW,if_pos bS];rfl
    · rw[if_neg bS];trivial
  · rename_i u
    exact fS ((cut u.cells 0 sz).bind (partOf b')) (fun h2=>by
     simp only[evalOp,ak]
     cases cut u.cells 0 sz<;>simp) he
 case store sz a w=>
  simp only[evalOp] at he
  split at he
  · split at he<;>try(cases he;done)
    obtain⟨blk,ab,he⟩:=Option.bind_eq_some_iff.1 he
    obtain⟨e,h2,he⟩:=Option.bind_eq_some_iff.1 he
    split at he<;>try(cases he;done)
    split at he
    · cases he;exact⟨rfl,trivial⟩
    · split at he
      · cases he;exact⟨rfl,trivial⟩
      · cases he
  · cases he
 case bin ty op x y=>exact fS (gm ty op (bw x) (bw y)) (fun h2=>rfl) he
 case mlook x y=>
  cases ak:bw x<;>first
   | (simp only[evalOp,ak] at he;cases he;done)
   | skip
  rename_i m
  cases bd:bw y<;>first
   | (simp only[evalOp,ak,bd] at he;cases he;done)
   | skip
  rename_i k n
  cases k<;>first
   | (simp only[evalOp,ak,bd] at he;cases he;done)
   | (exact fS (some (.ch [match m.lookup n with
       | some f=> .fn f [] []
       | none=> .nilfn,.bool (m.lookup n).isSome])) (fun h2=>by simp only[evalOp,ak,bd];rfl) he)
 case isnil r' x=>
  cases ak:bw x<;>first
   | (simp only[evalOp,ak] at he;cases he;done)
   | skip
  · rename_i xs ex
    exact fS (if 0<xs.length then some (.bool r') else none) (fun h2=>by simp only[evalOp,ak];split<;>rfl) he
  · rename_i id off len cap
    exact fS (if 0<len\/0<cap then some (.bool r') else none) (fun h2=>by simp only[evalOp,ak];split<;>rfl) he
 case eqA r' n x y=>
  cases ak:bw x<;>first
   | (simp only[evalOp,ak] at he;cases he;done)
   | skip
  cases bd:bw y<;>first
   | (simp only[evalOp,ak,bd] at he;cases he;done)
   | skip
  rename_i xs ys
  by_cases ar:xs.length=n
  · exact fS ((fx xs ys).map fun b=> .bool (b != r')) (fun h2=>by simp only[evalOp,ak,bd,if_pos ar,Option.map_map];rfl) he
  · simp only[evalOp,ak,bd,if_neg ar] at he;cases he
 case un op x=>exact fS (gn op (bw x)) (fun h2=>rfl) he
 case conv k x=>
  cases ak:bw x<;>first
   | (simp only[evalOp,ak] at he;cases he;done)
   | (rename_i k' n;exact fS (some (.int k (k.wrap n))) (fun h2=>by simp only[evalOp,ak];rfl) he)
 case mkfn f a b=>exact fS (some (.fn f (a.map bw) (b.map bw))) (fun h2=>rfl) he
 case mksl z sz bytes l c=>
  cases ak:bw l<;>first
   | (simp only[evalOp,ak] at he;cases he;done)
   | skip
  cases bd:bw c<;>first
   | (simp only[evalOp,ak,bd] at he;cases he;done)
   | skip
  rename_i k a k' b
  by_cases ar:0<=a/\a<=b/\b*bytes<=140737488355328/\0<bytes/\z.cells.length=sz/\0<sz/\(z.cells.all J.c0)=true
  · exact yL (some (.ref r 0 a.toNat b.toNat,List.replicate b.toNat z)) (fun h2=>by simp only[evalOp,ak,bd,if_pos ar];rfl) he
  · simp only[evalOp,ak,bd,if_neg ar] at he;cases he
 case slice sz x cH ag hy=>
  cases ak:bw x<;>first
   | (simp only[evalOp,ak] at he;cases he;done)
   | skip
  · rename_i xs ex
    refine fS (match bound 0 bw cH,bound xs.length bw ag,bound xs.length bw hy with
     | some l,some u,some m=>if l<=u/\u<=m/\m<=xs.length/\(l=0\/(xs.all fun e=>e.cells.length == sz)=true) then some (.sl ((xs.drop l).take (u - l)) ((hy.isSome||ex)&&m == u)) else none
     | _,_,_=>none) (fun h2=>?_) he
    simp only[evalOp,ak]
    cases bound 0 bw cH<;>cases bound xs.length bw ag<;>cases bound xs.length bw hy<;>simp only[Option.map_none]
    split<;>rfl
  · rename_i id off len cap
    simp only[evalOp,ak] at he
    split at he<;>try(cases he;done)
    rename_i l u m b1 da eD
    split at he<;>try(cases he;done)
    rename_i bc
    cases he
    refine⟨rfl,?_⟩
    by_cases bS:id<bs
    · rw[if_pos bS]
      refine⟨rfl,fun cY dx=>?_⟩
      simp only[evalOp,ak,b1,da,eD,dx id bS,if_pos bc,if_pos bS]
    · rw[if_neg bS];trivial
 case faddr b' off sz x=>
  cases ak:bw x<;>first
   | (simp only[evalOp,ak] at he;cases he;done)
   | skip
  · rename_i id idx cV
    exact fS (some (.ptr id idx (cV+off))) (fun h2=>by simp only[evalOp,ak];rfl) he
  · rename_i u
    exact fS (((cut u.cells off sz).bind (partOf b')).map J.eu) (fun h2=>by
     simp only[evalOp,ak]
     cases cut u.cells off sz<;>simp[Function.comp_def]) he
 case field b' off sz x=>
  cases ak:bw x<;>first
   | (simp only[evalOp,ak] at he;cases he;done)
   | skip
  rename_i cs
  exact fS ((cut cs off sz).bind (partOf b')) (fun h2=>by
   simp only[evalOp,ak]
   cases cut cs off sz<;>simp) he
 case iaddrS sz x i=>
  cases ak:bw x<;>first
   | (simp only[evalOp,ak] at he;cases he;done)
   | skip
  · cases bd:bw i<;>first
     | (simp only[evalOp,ak,bd] at he;cases he;done)
     | skip
    rename_i xs ex k n
    refine fS (if 0<=n then (xs[n.toNat]?).bind fun e=>if e.cells.length=sz then some (.eu e) else none else none) (fun h2=>?_) he
    simp only[evalOp,ak,bd]
    split
    · cases xs[n.toNat]? with
      | none=>rfl
      | some e=>simp only[Option.bind_some];split<;>rfl
    · rfl
  · cases bd:bw i<;>first
     | (simp only[evalOp,ak,bd] at he;cases he;done)
     | skip
    rename_i id off len cap k n
    simp only[evalOp,ak,bd] at he
    split at he<;>try(cases he;done)
    rename_i bc
    cases he
    refine⟨rfl,?_⟩
    by_cases bS:id<bs
    · rw[if_pos bS]
      refine⟨rfl,fun cY dx=>?_⟩
      simp only[evalOp,ak,bd,dx id bS,if_pos bc,if_pos bS]
    · rw[if_neg bS];trivial
 case iaddrA b' n sz x i=>
  cases ak:bw x<;>first
   | (simp only[evalOp,ak] at he;cases he;done)
   | skip
  · cases bd:bw i<;>first
     | (simp only[evalOp,ak,bd] at he;cases he;done)
     | skip
    rename_i id idx cV k j
    refine fS (if 0<=j/\j<n then some (.ptr id idx (cV+j.toNat*sz)) else none) (fun h2=>?_) he
    simp only[evalOp,ak,bd]
    split<;>rfl
  · cases bd:bw i<;>first
     | (simp only[evalOp,ak,bd] at he;cases he;done)
     | skip
    rename_i u k j
    refine fS (if 0<=j/\j<n then ((cut u.cells (j.toNat*sz) sz).bind (partOf b')).map J.eu else none) (fun h2=>?_) he
    simp only[evalOp,ak,bd]
    split
    · cases cut u.cells (j.toNat*sz) sz<;>simp[Function.comp_def]
    · rfl
 case idxA b' n sz x i=>
  cases ak:bw x<;>first
   | (simp only[evalOp,ak] at he;cases he;done)
   | skip
  cases bd:bw i<;>first
   | (simp only[evalOp,ak,bd] at he;cases he;done)
   | skip
  rename_i cs k j
  refine fS (if 0<=j/\j<n then (cut cs (j.toNat*sz) sz).bind (partOf b') else none) (fun h2=>?_) he
  simp only[evalOp,ak,bd]
  split
  · cases cut cs (j.toNat*sz) sz<;>simp
  · rfl
 case idxS x i=>
  cases ak:bw x<;>first
   | (simp only[evalOp,ak] at he;cases he;done)
   | skip
  cases bd:bw i<;>first
   | (simp only[evalOp,ak,bd] at he;cases he;done)
   | skip
  rename_i s k j
  refine fS (if 0<=j then (s[j.toNat]?).map fun b=> .int .u8 b.toNat else none) (fun h2=>?_) he
  simp only[evalOp,ak,bd]
  split
  · simp[Option.map_map,Function.comp_def]
  · rfl
 case extract x i=>
  cases ak:bw x<;>first
   | (simp only[evalOp,ak] at he;cases he;done)
   | skip
  rename_i vs
  exact fS (vs[i]?) (fun h2=>by simp only[evalOp,ak]) he
 case call f as=>simp only[evalOp] at he;cases he
 case len s x=>
  cases ak:bw x<;>first
   | (simp only[evalOp,ak] at he;cases he;done)
   | skip
  · rename_i st
    refine fS (if s=true then some (.int .i64 st.size) else none) (fun h2=>?_) he
    simp only[evalOp,ak];split<;>rfl
  · rename_i xs ex
    refine fS (if s=false then some (.int .i64 xs.length) else none) (fun h2=>?_) he
    simp only[evalOp,ak];split<;>rfl
  · rename_i id off len cap
    refine fS (if s=false then some (.int .i64 len) else none) (fun h2=>?_) he
    simp only[evalOp,ak];split<;>rfl
 case app sz bytes x y=>
  simp only[evalOp] at he
  obtain⟨ys,ab,he⟩:=Option.bind_eq_some_iff.1 he
  split at he<;>try(cases he;done)
  rename_i bc
  split at he
  · rename_i xs ex ak
    split at he
    · rename_i jU
      cases he
      refine⟨rfl,?_⟩
      cases bd:bw y<;>simp only[kd]<;>try trivial
      refine⟨rfl,fun h2=>?_⟩
      rw[bd] at ab
      simp only[elems] at ab
      cases ab
      simp only[evalOp,bd,elems,Option.bind_some,if_pos bc,ak,if_pos jU,kd,if_true]
    rename_i jU
    split at he<;>try(cases he;done)
    rename_i pI
    cases he
    refine⟨rfl,?_⟩
    cases bd:bw y<;>simp only[kd]<;>try trivial
    refine⟨_,rfl,fun h2=>?_⟩
    rw[bd] at ab
    simp only[elems] at ab
    cases ab
    simp only[evalOp,bd,elems,Option.bind_some,if_pos bc,ak,if_neg jU,if_pos pI,kd,if_true]
  · rename_i id off len cap ak
    split at he
    · rename_i jU
      cases he
      refine⟨rfl,?_⟩
      cases bd:bw y<;>simp only[kd]<;>try trivial
      refine⟨rfl,fun h2=>?_⟩
      rw[bd] at ab
      simp only[elems] at ab
      cases ab
      simp only[evalOp,bd,elems,Option.bind_some,if_pos bc,ak,if_pos jU,kd,if_true]
    split at he<;>try(cases he;done)
    obtain⟨blk,h2,he⟩:=Option.bind_eq_some_iff.1 he
    split at he<;>try(cases he;done)
    split at he
    · split at he<;>try(cases he;done)
      cases he;exact⟨rfl,trivial⟩
    · split at he<;>try(cases he;done)
      cases he;exact⟨rfl,trivial⟩
  · cases he
 case min xs=>exact fS (g' (fun a b=>if b<a then b else a) (xs.map bw)) (fun h2=>rfl) he
 case max xs=>exact fS (g' (fun a b=>if a<b then b else a) (xs.map bw)) (fun h2=>rfl) he
end
end Go.Eng
namespace Go.Eng
open Go Go.RowKit
theorem C0 {h h2:aA} {v u:J} {ids:List Nat} (aK:dG h v=some (u,ids)) (I:∀id∈ids,h2.cells id=h.cells id):dG h2 v=some (u,ids):=by
 cases v<;>simp only[dG] at aK|- <;>try(first|exact aK|cases aK)
 rename_i id off len cap
 split at aK<;>try(cases aK;done)
 rename_i blk aj
 split at aK<;>try(cases aK;done)
 rename_i bc
 cases aK
 rw[I id (by simp),aj]
 simp only[if_pos bc]
theorem C1 {h h2:aA}:∀ {vs us:List J} {ids:List Nat},eP h vs=some (us,ids)->(∀id∈ids,h2.cells id=h.cells id)->eP h2 vs=some (us,ids)
 | [],us,ids,aK,_=>by simp only[eP] at aK|-;exact aK
 | v::vs,us,ids,aK,I=>by
   simp only[eP] at aK|-
   split at aK<;>try(cases aK;done)
   rename_i hB a lY b ab qD
   cases aK
   rw[C0 ab fun id bS=>I id (by simp[bS]),C1 qD fun id bS=>I id (by simp[bS])]
theorem Kz {h h2:aA} {v u:J} {ids:List Nat} (aK:fZ h v=some (u,ids)) (I:∀id∈ids,h2.cells id=h.cells id):fZ h2 v=some (u,ids):=by
 cases v<;>simp only[fZ] at aK|- <;>try(exact C0 aK I)
 obtain⟨p,ab,he⟩:=Option.map_eq_some_iff.1 aK
 cases he
 rw[C1 ab I];rfl
theorem v_ {h h2:aA}:∀ {vs us:List J} {ids:List Nat},eJ h vs=some (us,ids)->(∀id∈ids,h2.cells id=h.cells id)->eJ h2 vs=some (us,ids)
 | [],us,ids,aK,_=>by simp only[eJ] at aK|-;exact aK
 | v::vs,us,ids,aK,I=>by
   simp only[eJ] at aK|-
   split at aK<;>try(cases aK;done)
   rename_i hB a lY b ab qD
   cases aK
   rw[Kz ab fun id bS=>I id (by simp[bS]),v_ qD fun id bS=>I id (by simp[bS])]
theorem sc (h:aA) {b5 dY:Nat} (b1 da:List J) (bP:b5≠dY):(h.new b5 b1).new dY da=(h.new dY da).new b5 b1:=by
 simp only[aA.new,aA.mk.injEq,and_true]
 funext t
 simp only[aF]
 by_cases ab:t=b5<;>by_cases h2:t=dY<;>simp_all
theorem n6 (h:aA) {r id:Nat} (b:List J) (bP:id≠r):(h.new r b).cells id=h.cells id:=by
 simp only[aA.new,aF,if_neg bP]
theorem KA {bs q:Nat} {bw:bf->J} {h av:aA} {op:hx} {v:J} {c:dL} {r:Nat} {blk:List J} (he:evalOp bs q bw h op=some (v,av,c)) (ar:h.cells r=none) (n7:r≠q):
 evalOp bs q bw (h.new r blk) op=some (v,av.new r blk,c)/\av.cells r=none:=by
 have bP:∀ {id b},h.cells id=some b->id≠r:=by rintro id b aj rfl;rw[ar] at aj;cases aj
 have oR:∀ {id b},h.cells id=some b->(h.new r blk).cells id=some b:=fun aj=>by rw[n6 _ _ (bP aj)];exact aj
 have cy:∀ {sz id},sizedB sz (h.cells id)=true->sizedB sz ((h.new r blk).cells id)=true:=fun {sz id} aG=>by
  cases aj:h.cells id with
  | none=>rw[aj] at aG;cases aG
  | some b=>rw[oR aj,<-aj];exact aG
 have kx:∀ {y ys},elems h y=some ys->elems (h.new r blk) y=some ys:=fun {y ys} bd=>by
  cases y<;>simp only[elems] at bd|- <;>try(first|exact bd|cases bd)
  split at bd<;>try(cases bd;done)
  rename_i b aj
  rw[oR aj];exact bd
 obtain⟨_,E⟩:=sb he
 have pu:c= .pure->evalOp bs q bw (h.new r blk) op=some (v,av.new r blk,c)/\av.cells r=none:=by
  rintro rfl
  obtain⟨rfl,aB⟩:=E
  exact⟨aB _,ar⟩
 have gE:c= .gE->evalOp bs q bw (h.new r blk) op=some (v,av.new r blk,c)/\av.cells r=none:=by
  rintro rfl
  obtain⟨da,rfl,aB⟩:=E
  exact⟨by rw[aB,sc _ _ _ n7],by rw[n6 _ _ n7];exact ar⟩
 clear E
 cases op
 case load b' sz x=>
  cases ak:bw x<;>(try(simp only[evalOp,ak] at he;cases he;done))
  · rename_i id idx cV
    simp only[evalOp,ak] at he|-
    obtain⟨b,aj,he⟩:=Option.bind_eq_some_iff.1 he
    obtain⟨e,ab,he⟩:=Option.bind_eq_some_iff.1 he
    obtain⟨cs,h2,he⟩:=Option.bind_eq_some_iff.1 he
    obtain⟨u,aX,he⟩:=Option.map_eq_some_iff.1 he
    cases he
    exact⟨by simp only[oR aj,Option.bind_some,ab,h2,aX,Option.map_some],ar⟩
  · refine pu ?_
    simp only[evalOp,ak] at he
    obtain⟨cs,h2,he⟩:=Option.bind_eq_some_iff.1 he
    obtain⟨u,aX,he⟩:=Option.map_eq_some_iff.1 he
    cases he;rfl
 case store sz a x=>
  cases ak:bw a<;>(try(simp only[evalOp,ak] at he;cases he;done))
  rename_i id idx cV
  simp only[evalOp,ak] at he|-
  split at he<;>try(cases he;done)
  rename_i aG
  obtain⟨b,aj,he⟩:=Option.bind_eq_some_iff.1 he
  obtain⟨e,ab,he⟩:=Option.bind_eq_some_iff.1 he
  have pJ:=bP aj
  split at he<;>try(cases he;done)
  rename_i bc
  rw[if_neg (show ¬(h.new r blk).shut id=true from aG),oR aj]
  simp only[Option.bind_some,ab,if_pos bc]
  split at he
  · cases he
    exact⟨by rw[sc _ _ _ (Ne.symm pJ)],by rw[n6 _ _ (Ne.symm pJ)];exact ar⟩
  · split at he<;>try(cases he;done)
    cases he
    exact⟨by rw[sc _ _ _ (Ne.symm pJ)],by rw[n6 _ _ (Ne.symm pJ)];exact ar⟩
 case slice sz x cH ag hy=>
  cases ak:bw x<;>(try(simp only[evalOp,ak] at he;cases he;done))
  · refine pu ?_
    simp only[evalOp,ak] at he
    split at he<;>try(cases he;done)
    split at he<;>try(cases he;done)
    cases he;rfl
  · rename_i id off len cap
    simp only[evalOp,ak] at he|-
    split at he<;>try(cases he;done)
    split at he<;>try(cases he;done)
    rename_i bc
    cases he
    rw[if_pos ⟨bc.1,bc.2.1,bc.2.2.1,bc.2.2.2.imp (fun h=>h) cy⟩]
    exact⟨rfl,ar⟩
 case iaddrS sz x i=>
  cases ak:bw x<;>(try(simp only[evalOp,ak] at he;cases he;done))
  · refine pu ?_
    cases ag:bw i<;>(try(simp only[evalOp,ak,ag] at he;cases he;done))
    simp only[evalOp,ak,ag] at he
    split at he<;>try(cases he;done)
    obtain⟨e,ab,he⟩:=Option.bind_eq_some_iff.1 he
    split at he<;>try(cases he;done)
    cases he;rfl
  · rename_i id off len cap
    cases ag:bw i<;>(try(simp only[evalOp,ak,ag] at he;cases he;done))
    simp only[evalOp,ak,ag] at he|-
    split at he<;>try(cases he;done)
    rename_i bc
    cases he
    rw[if_pos ⟨bc.1,bc.2.1,cy bc.2.2⟩]
    exact⟨rfl,ar⟩
 case app sz bytes x y=>
  simp only[evalOp] at he|-
  obtain⟨ys,bd,he⟩:=Option.bind_eq_some_iff.1 he
  simp only[kx bd,Option.bind_some]
  split at he<;>try(cases he;done)
  rename_i bc
  rw[if_pos bc]
  cases ak:bw x<;>(try(simp only[ak] at he;cases he;done))
  · simp only[ak] at he|-
    split at he
    · rename_i aJ
      cases he
      rw[if_pos aJ];exact⟨rfl,ar⟩
    · rename_i aJ
      split at he<;>try(cases he;done)
      rename_i ab
      cases he
      rw[if_neg aJ,if_pos ab]
      exact⟨by rw[sc _ _ _ n7],by rw[n6 _ _ n7];exact ar⟩
  · rename_i id off len cap
    simp only[ak] at he|-
    split at he
    · rename_i aJ
      cases he
      rw[if_pos aJ];exact⟨rfl,ar⟩
    · rename_i aJ
      split at he<;>try(cases he;done)
      rename_i aG
      obtain⟨b,aj,he⟩:=Option.bind_eq_some_iff.1 he
      have pJ:=bP aj
      rw[if_neg aJ,if_neg (show ¬(h.new r blk).shut id=true from aG),oR aj]
      simp only[Option.bind_some]
      split at he<;>try(cases he;done)
      rename_i ab
      rw[if_pos ab]
      split at he
      · rename_i h2
        rw[if_pos h2]
        split at he<;>try(cases he;done)
        rename_i aX
        cases he
        rw[if_pos aX]
        exact⟨by rw[sc _ _ _ (Ne.symm pJ)],by rw[n6 _ _ (Ne.symm pJ)];exact ar⟩
      · rename_i h2
        rw[if_neg h2]
        split at he<;>try(cases he;done)
        rename_i aX
        cases he
        rw[if_pos aX]
        refine⟨?_,by simp only[aF];rw[if_neg n7,if_neg (Ne.symm pJ)];exact ar⟩
        simp only[aA.new,Option.some.injEq,Prod.mk.injEq,aA.mk.injEq,and_true,true_and]
        funext t
        simp only[aF]
        by_cases t1:t=r<;>by_cases t2:t=id<;>by_cases t3:t=q<;>simp_all
 all_goals
  cases c with
  | pure=>exact pu rfl
  | gE=>exact gE rfl
  | _=>
    exfalso
    simp only[evalOp] at he
    repeat' split at he
    all_goals first
     | (cases he;done)
     | (obtain⟨_,_,he⟩:=Option.map_eq_some_iff.1 he;cases he;done)
     | (obtain⟨_,_,he⟩:=Option.bind_eq_some_iff.1 he;obtain⟨_,_,he⟩:=Option.map_eq_some_iff.1 he;cases he;done)
     | (obtain⟨_,_,he⟩:=Option.bind_eq_some_iff.1 he;split at he<;>cases he;done)
theorem C2 {h:aA} {v u:J} {ids:List Nat} (aK:dG h v=some (u,ids)):∀id∈ids,∃b,h.cells id=some b:=by
 cases v<;>simp only[dG] at aK<;>try(first|(cases aK;done)|(cases aK;intro id bS;cases bS;done))
 split at aK<;>try(cases aK;done)
 rename_i b aj
 split at aK<;>try(cases aK;done)
 cases aK
 intro id bS
 rw[List.mem_singleton] at bS
 subst bS
 exact⟨b,aj⟩
theorem C3 {h:aA}:∀ {vs us:List J} {ids:List Nat},eP h vs=some (us,ids)->∀id∈ids,∃b,h.cells id=some b
 | [],us,ids,aK=>by simp only[eP] at aK;cases aK;intro id bS;cases bS
 | v::vs,us,ids,aK=>by
   simp only[eP] at aK
   split at aK<;>try(cases aK;done)
   rename_i hB a lY b ab qD
   cases aK
   intro id bS
   rcases List.mem_append.1 bS with bS|bS
   · exact C2 ab id bS
   · exact C3 qD id bS
theorem KB {h:aA} {v u:J} {ids:List Nat} (aK:fZ h v=some (u,ids)):∀id∈ids,∃b,h.cells id=some b:=by
 cases v<;>simp only[fZ] at aK<;>try(exact C2 aK)
 obtain⟨p,ab,he⟩:=Option.map_eq_some_iff.1 aK
 cases he
 exact C3 ab
theorem C4 {h:aA}:∀ {vs us:List J} {ids:List Nat},eJ h vs=some (us,ids)->∀id∈ids,∃b,h.cells id=some b
 | [],us,ids,aK=>by simp only[eJ] at aK;cases aK;intro id bS;cases bS
 | v::vs,us,ids,aK=>by
   simp only[eJ] at aK
   split at aK<;>try(cases aK;done)
   rename_i hB a lY b ab qD
   cases aK
   intro id bS
   rcases List.mem_append.1 bS with bS|bS
   · exact KB ab id bS
   · exact C4 qD id bS
theorem KC {h:aA} {vs us:List J} {ids:List Nat} {r:Nat} {blk:List J} (aK:eJ h vs=some (us,ids)) (ar:h.cells r=none):eJ (h.new r blk) vs=some (us,ids):=
 v_ aK fun id bS=>n6 _ _ (by
  rintro rfl
  obtain⟨b,aj⟩:=C4 aK _ bS
  rw[ar] at aj;cases aj)
def pK (cC:kv->List J->aA->Option (J × aA)):Prop:=
 ∀t args h v av r blk,cC t args h=some (v,av)->h.cells r=none->r<h.next->cC t args (h.new r blk)=some (v,av.new r blk)/\av.cells r=none/\h.next<=av.next
theorem KD {bs:Nat} {h av:aA} {r:Nat} {blk:List J} (ar:h.cells r=none) (n8:av.cells r=none):pw bs (h.new r blk) (av.new r blk)=pw bs h av:=by
 funext id
 simp only[pw]
 by_cases e:id=r
 · subst e
   simp only[aA.new,aF,if_true,ar,n8,vE]
 · rw[n6 _ _ e,n6 _ _ e]
theorem C5 {G:Nat->Option J} {tab:FuncId->Option (List J->Option J)} {cC:kv->List J->aA->Option (J × aA)} (bI:pK cC) {bs q:Nat} {e:bx} {s ax:a'} {c:dL} {r:Nat} {blk:List J}
 (he:dj G tab cC bs q e s=some (ax,c)) (ar:s.h.cells r=none) (ba:r<s.h.next) (n7:r≠q):
 dj G tab cC bs q e ⟨s.F,s.h.new r blk⟩=some (⟨ax.F,ax.h.new r blk⟩,c)/\ax.h.cells r=none/\s.h.next<=ax.h.next:=by
 unfold dj at he|-
 split at he
 · split at he
   · split at he
     · split at he<;>try(cases he;done)
       rename_i vs ids aK
       obtain⟨v,aR,he⟩:=Option.map_eq_some_iff.1 he
       cases he
       simp_all only
       refine⟨?_,ar,Nat.le_refl _⟩
       simp only[KC aK ar,aR,Option.map_some]
       rfl
     · obtain⟨p,aR,he⟩:=Option.map_eq_some_iff.1 he
       obtain⟨v,av⟩:=p
       cases he
       obtain⟨aa,af,al⟩:=bI _ _ _ _ _ r blk aR ar ba
       simp_all only
       refine⟨?_,by first|exact af|trivial,by first|exact al|trivial⟩
       simp only[aa,Option.map_some,KD ar af]
   · obtain⟨p,aR,he⟩:=Option.map_eq_some_iff.1 he
     obtain⟨v,av⟩:=p
     cases he
     obtain⟨aa,af,al⟩:=bI _ _ _ _ _ r blk aR ar ba
     simp_all only
     exact⟨by simp only[aa,Option.map_some],by first|exact af|trivial,by first|exact al|trivial⟩
   · cases he
 · obtain⟨p,aR,he⟩:=Option.map_eq_some_iff.1 he
   obtain⟨v,av,c'⟩:=p
   cases he
   obtain⟨aa,af⟩:=KA (blk:=blk) aR ar n7
   have al:=(sb aR).1
   simp only[Prod.mk.injEq] at al
   exact⟨by simp only[aa,Option.map_some],af,by simp only[al.1];exact Nat.le_refl _⟩
theorem yM {G:Nat->Option J} {tab:FuncId->Option (List J->Option J)} {cC:kv->List J->aA->Option (J × aA)} (bI:pK cC) {bs q:Nat} {e:bx} {s ax:a'} {c:dL} {r:Nat} {blk:List J}
 (he:c7 G tab cC bs q e s=some (ax,c)) (ar:s.h.cells r=none) (ba:r<s.h.next) (n7:r≠q):
 c7 G tab cC bs q e ⟨s.F,s.h.new r blk⟩=some (⟨ax.F,ax.h.new r blk⟩,c)/\ax.h.cells r=none/\s.h.next<=ax.h.next:=by
 unfold c7 at he|-
 split at he
 · exact C5 bI he ar ba n7
 · split at he
   · rename_i b aj
     split at he
     · rename_i hw
       simp only[aj,if_pos hw]
       exact C5 bI he ar ba n7
     · rename_i hw
       cases he
       simp only[aj,if_neg hw]
       exact⟨by first|rfl|trivial,ar,Nat.le_refl _⟩
   · rename_i aj
     cases he
     simp only[aj]
     exact⟨by first|rfl|trivial,ar,Nat.le_refl _⟩
   · cases he
theorem qE (h:aA):h.close []=h:=by
 cases h;simp[aA.close]
section
variable {G:Nat->Option J} {tab:FuncId->Option (List J->Option J)} {cC:kv->List J->aA->Option (J × aA)}
def C6 (G:Nat->Option J) (tab:FuncId->Option (List J->Option J)) (cC:kv->List J->aA->Option (J × aA)) (bs r:Nat) (e:bx) (s:a') (v:J) (av:aA):dL->Prop
 | .pure=>av=s.h/\∀cQ h2,(∀t∈e.reads,cQ t=s.F t)->c7 G tab cC bs r e ⟨cQ,h2⟩=some (⟨c6 cQ e.dst v,h2⟩,.pure)
 | .gE=>∃blk,av=s.h.new r blk/\∀cQ h2,(∀t∈e.reads,cQ t=s.F t)->c7 G tab cC bs r e ⟨cQ,h2⟩=some (⟨c6 cQ e.dst v,h2.new r blk⟩,.gE)
 | .rd=>∃ids,av=s.h.close ids/\∀cQ (h2:aA),(∀t∈e.reads,cQ t=s.F t)->(∀id,id<bs->h2.cells id=s.h.cells id)->c7 G tab cC bs r e ⟨cQ,h2⟩=some (⟨c6 cQ e.dst v,h2.close ids⟩,.rd)
 | .wr=>∀cQ,(∀t∈e.reads,cQ t=s.F t)->c7 G tab cC bs r e ⟨cQ,s.h⟩=some (⟨c6 cQ e.dst v,av⟩,.wr)
 | .lo id=>av=s.h/\id<bs/\∀cQ (h2:aA),(∀t∈e.reads,cQ t=s.F t)->h2.cells id=s.h.cells id->c7 G tab cC bs r e ⟨cQ,h2⟩=some (⟨c6 cQ e.dst v,h2⟩,.lo id)
 | .k5 pv=>(∀id,pv id=true->av.cells id=s.h.cells id)/\∀cQ,(∀t∈e.reads,cQ t=s.F t)->c7 G tab cC bs r e ⟨cQ,s.h⟩=some (⟨c6 cQ e.dst v,av⟩,.k5 pv)
theorem C7 {bs r:Nat} {e:bx} {s ax:a'} {c:dL} (bp:dj G tab cC bs r e s=some (ax,c))
 (cI:∀cQ h2,(∀t∈e.reads,cQ t=s.F t)->c7 G tab cC bs r e ⟨cQ,h2⟩=dj G tab cC bs r e ⟨cQ,h2⟩):
 ∃v av,ax=⟨c6 s.F e.dst v,av⟩/\C6 G tab cC bs r e s v av c:=by
 have C8:∀t∈e.op.reads,t∈e.reads:=fun t a7=>by simp only[bx.reads,List.mem_append];exact .inr a7
 by_cases gI:∃f args,e.op= .call f args
 · obtain⟨f,args,cT⟩:=gI
   have uB:∀cQ,(∀t∈e.reads,cQ t=s.F t)->f.ev G cQ=f.ev G s.F/\args.map (bf.ev G cQ)=args.map (bf.ev G s.F):=by
    intro cQ h2
    have aX:∀t∈e.op.reads,cQ t=s.F t:=fun t a7=>h2 t (C8 t a7)
    rw[cT] at aX
    simp only[hx.reads,List.mem_append] at aX
    exact⟨bf.eF fun t a7=>aX t (.inl a7),uA fun t a7=>aX t (.inr a7)⟩
   unfold dj at bp
   simp only[cT] at bp
   split at bp<;>try(cases bp;done)
   rotate_left
   · rename_i id bI
     obtain⟨p,aR,bp⟩:=Option.map_eq_some_iff.1 bp
     cases bp
     refine⟨p.1,p.2,rfl,fun cQ dx=>?_⟩
     rw[cI cQ s.h dx]
     obtain⟨aq,aB⟩:=uB cQ dx
     unfold dj
     simp only[cT,aq,bI,aB,aR,Option.map_some]
   rename_i n first caps bI
   split at bp
   · rename_i T cJ
     split at bp<;>try(cases bp;done)
     rename_i vs ids aK
     obtain⟨v,aR,bp⟩:=Option.map_eq_some_iff.1 bp
     cases bp
     refine⟨v,_,rfl,?_⟩
     by_cases ag:ids.isEmpty=true
     · rw[if_pos ag]
       have KE:ids= []:=by simpa using ag
       subst KE
       refine⟨qE _,fun cQ h2 dx=>?_⟩
       rw[cI cQ h2 dx]
       obtain⟨aq,aB⟩:=uB cQ dx
       unfold dj
       simp only[cT,aq,bI,cJ,aB,v_ aK (h2:=h2) (fun id bS=>absurd bS (by simp)),aR,Option.map_some,qE]
       rfl
     · rw[if_neg ag]
       by_cases ar:ids.all (fun i=>decide (i<bs))=true
       · rw[if_pos ar]
         refine⟨ids,rfl,fun cQ h2 dx I=>?_⟩
         rw[cI cQ h2 dx]
         obtain⟨aq,aB⟩:=uB cQ dx
         unfold dj
         simp only[cT,aq,bI,cJ,aB,v_ aK (h2:=h2) (fun id bS=>I id (by simpa using List.all_eq_true.1 ar id bS)),aR,Option.map_some,if_neg ag,if_pos ar]
       · rw[if_neg ar]
         intro cQ dx
         rw[cI cQ s.h dx]
         obtain⟨aq,aB⟩:=uB cQ dx
         unfold dj
         simp only[cT,aq,bI,cJ,aB,aK,aR,Option.map_some,if_neg ag,if_neg ar]
   · rename_i cJ
     obtain⟨p,aR,bp⟩:=Option.map_eq_some_iff.1 bp
     cases bp
     refine⟨p.1,p.2,rfl,fun id aE=>?_,fun cQ dx=>?_⟩
     · simp only[pw,Bool.and_eq_true] at aE
       exact(JA aE.2).symm
     rw[cI cQ s.h dx]
     obtain⟨aq,aB⟩:=uB cQ dx
     unfold dj
     simp only[cT,aq,bI,cJ,aB,aR,Option.map_some]
 · have qC:∀k8,dj G tab cC bs r e k8=(evalOp bs r (bf.ev G k8.F) k8.h e.op).map fun(v,av,c)=>(⟨c6 k8.F e.dst v,av⟩,c):=by
    intro k8
    unfold dj
    split
    · exact absurd ⟨_,_,‹_›⟩ gI
    · rfl
   rw[qC] at bp
   obtain⟨p,a4,bp⟩:=Option.map_eq_some_iff.1 bp
   obtain⟨v,av,dc⟩:=p
   have yN:(⟨c6 s.F e.dst v,av⟩:a')=ax:=congrArg Prod.fst bp
   have KF:dc=c:=congrArg Prod.snd bp
   subst yN;subst KF
   refine⟨v,av,rfl,?_⟩
   obtain⟨_,E⟩:=sb a4
   have key:∀cQ h2,(∀t∈e.reads,cQ t=s.F t)->c7 G tab cC bs r e ⟨cQ,h2⟩=(evalOp bs r (bf.ev G s.F) h2 e.op).map fun(v,av,c)=>(⟨c6 cQ e.dst v,av⟩,c):=by
    intro cQ h2 dx
    rw[cI cQ h2 dx,qC]
    simp only
    rw[Ky (F:=cQ) (F':=s.F) fun t a7=>dx t (C8 t a7)]
   cases dc with
   | pure=>
     obtain⟨aq,aB⟩:=E
     exact⟨aq,fun cQ h2 dx=>by rw[key cQ h2 dx,aB h2];rfl⟩
   | gE=>
     obtain⟨blk,aq,aB⟩:=E
     exact⟨blk,aq,fun cQ h2 dx=>by rw[key cQ h2 dx,aB h2];rfl⟩
   | rd=>
     obtain⟨aq,aB⟩:=E
     refine⟨[],by rw[qE];exact aq,fun cQ h2 dx I=>?_⟩
     rw[key cQ h2 dx,aB h2 I,qE];rfl
   | wr=>exact fun cQ dx=>by rw[key cQ s.h dx,a4];rfl
   | lo id=>
     obtain⟨aq,bg,aB⟩:=E
     exact⟨aq,bg,fun cQ h2 dx I=>by rw[key cQ h2 dx,aB h2 I];rfl⟩
   | k5 k=>exact E.elim
theorem C9 {bs r:Nat} {e:bx} {s ax:a'} {c:dL} (bp:c7 G tab cC bs r e s=some (ax,c)):
 ∃v av,ax=⟨c6 s.F e.dst v,av⟩/\C6 G tab cC bs r e s v av c:=by
 cases pL:e.guard with
 | none=>
   have ba:∀k8,c7 G tab cC bs r e k8=dj G tab cC bs r e k8:=fun k8=>by unfold c7;rw[pL]
   rw[ba] at bp
   exact C7 bp fun cQ h2 _=>ba _
 | some g=>
   obtain⟨t,want⟩:=g
   have a7:t∈e.reads:=by simp[bx.reads,pL]
   cases aj:s.F t<;>first
    | (unfold c7 at bp;simp only[pL,aj] at bp;cases bp;done)
    | skip
   · unfold c7 at bp
     simp only[pL,aj] at bp
     cases bp
     refine⟨.kc,s.h,rfl,rfl,fun cQ h2 dx=>?_⟩
     unfold c7;simp only[pL,dx t a7,aj]
   rename_i b
   by_cases nB:b=want
   · have ba:∀cQ h2,(∀t∈e.reads,cQ t=s.F t)->c7 G tab cC bs r e ⟨cQ,h2⟩=dj G tab cC bs r e ⟨cQ,h2⟩:=fun cQ h2 dx=>by
      unfold c7;simp only[pL,dx t a7,aj,if_pos nB]
     have aJ:=ba s.F s.h (fun _ _=>rfl)
     have:c7 G tab cC bs r e s=dj G tab cC bs r e s:=aJ
     rw[this] at bp
     exact C7 bp ba
   · unfold c7 at bp
     simp only[pL,aj,if_neg nB] at bp
     cases bp
     refine⟨.kc,s.h,rfl,rfl,fun cQ h2 dx=>?_⟩
     unfold c7;simp only[pL,dx t a7,aj,if_neg nB]
theorem KG {F:Nat->J} {d e:Option Nat} {u v:J} (h:∀x,d=some x->e≠some x):c6 (c6 F d u) e v=c6 (c6 F e v) d u:=by
 cases d with
 | none=>rfl
 | some x=>
   cases e with
   | none=>rfl
   | some y=>
     have bP:x≠y:=fun q=>h x rfl (by rw[q])
     funext t
     simp only[c6,aF]
     by_cases ab:t=x<;>by_cases h2:t=y<;>simp_all
theorem C_ {F:Nat->J} {d:Option Nat} {v:J} {t:Nat} (h:∀x,d=some x->t≠x):c6 F d v t=F t:=by
 cases d with
 | none=>rfl
 | some x=>simp[c6,aF,h x rfl]
theorem apart_spec {e f:bx} (h:e.apart f=true):(∀x,e.dst=some x->x ∉ f.reads)/\(∀x,e.dst=some x->f.dst≠some x)/\(∀x,f.dst=some x->x ∉ e.reads):=by
 refine⟨fun d bA=>?_,fun d bA=>?_,fun d bA=>?_⟩<;>simp[bx.apart,bA] at h
 · exact h.1.1
 · exact h.1.2
 · exact h.2
theorem KH (h:aA) (a b:List Nat):(h.close a).close b=(h.close b).close a:=by
 simp only[aA.close,aA.mk.injEq,true_and,and_true]
 funext t
 cases h.shut t<;>cases a.contains t<;>cases b.contains t<;>rfl
theorem KI {bs n4 gU:Nat} {qF qG:bx} {s s1 s2:a'} {ci oS:dL} (ab:c7 G tab cC bs n4 qF s=some (s1,ci)) (h2:c7 G tab cC bs gU qG s1=some (s2,oS))
 (C':qF.apart qG=true) (I:ke ci oS=true) (ba:n4≠gU) (ag:bs<=n4) (aZ:bs<=gU) (uC:pK cC) (KJ:s.h.cells gU=none) (KK:gU<s.h.next):
 ∃uD,c7 G tab cC bs gU qG s=some (uD,oS)/\c7 G tab cC bs n4 qF uD=some (s2,ci):=by
 obtain⟨a1,eC,yO⟩:=apart_spec C'
 obtain⟨yP,b_,rfl,n9⟩:=C9 ab
 obtain⟨gJ,jT,rfl,gV⟩:=C9 h2
 have hc:∀t∈qG.reads,s.F t=(c6 s.F qF.dst yP) t:=fun t a7=>(C_ fun x ak=>by rintro rfl;exact a1 _ ak a7).symm
 have hd:∀v t,t∈qF.reads->(c6 s.F qG.dst v) t=s.F t:=fun v t a7=>C_ fun x ak=>by rintro rfl;exact yO _ ak a7
 have gW:c6 (c6 s.F qG.dst gJ) qF.dst yP=c6 (c6 s.F qF.dst yP) qG.dst gJ:=(KG fun x ak=>eC x ak).symm
 cases ci with
 | pure=>
   obtain⟨aq,aB⟩:=n9
   subst aq
   cases oS with
   | pure=>
     obtain⟨bg,bT⟩:=gV
     subst bg
     exact⟨_,bT s.F s.h hc,by rw[aB _ _ (hd gJ),gW]⟩
   | gE=>
     obtain⟨blk,bg,bT⟩:=gV
     subst bg
     exact⟨_,bT s.F s.h hc,by rw[aB _ _ (hd gJ),gW]⟩
   | rd=>
     obtain⟨ids,bg,bT⟩:=gV
     subst bg
     exact⟨_,bT s.F s.h hc (fun _ _=>rfl),by rw[aB _ _ (hd gJ),gW]⟩
   | wr=>exact⟨_,gV s.F hc,by rw[aB _ _ (hd gJ),gW]⟩
   | lo id=>
     obtain⟨bg,dv,bT⟩:=gV
     subst bg
     exact⟨_,bT s.F s.h hc rfl,by rw[aB _ _ (hd gJ),gW]⟩
   | k5 k=>exact⟨_,gV.2 s.F hc,by rw[aB _ _ (hd gJ),gW]⟩
 | gE=>
   obtain⟨blk,aq,aB⟩:=n9
   subst aq
   cases oS with
   | pure=>
     obtain⟨bg,bT⟩:=gV
     subst bg
     exact⟨_,bT s.F s.h hc,by rw[aB _ _ (hd gJ),gW]⟩
   | gE=>
     obtain⟨sd,bg,bT⟩:=gV
     subst bg
     exact⟨_,bT s.F s.h hc,by rw[aB _ _ (hd gJ),gW,sc _ _ _ ba]⟩
   | rd=>
     obtain⟨ids,bg,bT⟩:=gV
     subst bg
     have bc:∀id,id<bs->s.h.cells id=(s.h.new n4 blk).cells id:=fun id bS=>by
      simp only[aA.new,aF];rw[if_neg (by omega)]
     exact⟨_,bT s.F s.h hc bc,by rw[aB _ _ (hd gJ),gW];rfl⟩
   | wr=>simp[ke] at I
   | lo id=>
     obtain⟨bg,dv,bT⟩:=gV
     subst bg
     have bc:s.h.cells id=(s.h.new n4 blk).cells id:=by
      simp only[aA.new,aF];rw[if_neg (by omega)]
     exact⟨_,bT s.F s.h hc bc,by rw[aB _ _ (hd gJ),gW]⟩
   | k5 k=>simp[ke] at I
 | rd=>
   obtain⟨ids,aq,aB⟩:=n9
   subst aq
   cases oS with
   | pure=>
     obtain⟨bg,bT⟩:=gV
     subst bg
     exact⟨_,bT s.F s.h hc,by rw[aB _ _ (hd gJ) (fun _ _=>rfl),gW]⟩
   | gE=>
     obtain⟨sd,bg,bT⟩:=gV
     subst bg
     have bc:∀id,id<bs->(s.h.new gU sd).cells id=s.h.cells id:=fun id bS=>by
      simp only[aA.new,aF];rw[if_neg (by omega)]
     exact⟨_,bT s.F s.h hc,by rw[aB _ _ (hd gJ) bc,gW];rfl⟩
   | rd=>
     obtain⟨yQ,bg,bT⟩:=gV
     subst bg
     exact⟨_,bT s.F s.h hc (fun _ _=>rfl),by rw[aB _ (s.h.close yQ) (hd gJ) (fun _ _=>rfl),gW,KH]⟩
   | wr=>simp[ke] at I
   | lo id=>
     obtain⟨bg,dv,bT⟩:=gV
     subst bg
     exact⟨_,bT s.F s.h hc rfl,by rw[aB _ s.h (hd gJ) (fun _ _=>rfl),gW]⟩
   | k5 k=>simp[ke] at I
 | lo id=>
   obtain⟨aq,dv,aB⟩:=n9
   subst aq
   cases oS with
   | pure=>
     obtain⟨bg,bT⟩:=gV
     subst bg
     exact⟨_,bT s.F s.h hc,by rw[aB _ _ (hd gJ) rfl,gW]⟩
   | gE=>
     obtain⟨sd,bg,bT⟩:=gV
     subst bg
     have bc:(s.h.new gU sd).cells id=s.h.cells id:=by
      simp only[aA.new,aF];rw[if_neg (by omega)]
     exact⟨_,bT s.F s.h hc,by rw[aB _ _ (hd gJ) bc,gW]⟩
   | rd=>
     obtain⟨yQ,bg,bT⟩:=gV
     subst bg
     exact⟨_,bT s.F s.h hc (fun _ _=>rfl),by rw[aB _ (s.h.close yQ) (hd gJ) rfl,gW]⟩
   | wr=>simp[ke] at I
   | lo VX=>
     obtain⟨bg,e8,bT⟩:=gV
     subst bg
     exact⟨_,bT s.F s.h hc rfl,by rw[aB _ _ (hd gJ) rfl,gW]⟩
   | k5 k=>
     exact⟨_,gV.2 s.F hc,by rw[aB _ _ (hd gJ) (gV.1 id I),gW]⟩
 | k5 k=>
   obtain⟨nC,n9⟩:=n9
   cases oS with
   | pure=>
     obtain⟨bg,bT⟩:=gV
     subst bg
     exact⟨_,bT s.F s.h hc,by rw[n9 _ (hd gJ),gW]⟩
   | gE=>
     obtain⟨sd,bg,bT⟩:=gV
     subst bg
     have dv:=(yM (blk:=sd) uC (n9 _ (hd gJ)) KJ KK (Ne.symm ba)).1
     exact⟨_,bT s.F s.h hc,by rw[gW] at dv;exact dv⟩
   | rd=>simp[ke] at I
   | wr=>simp[ke] at I
   | lo id=>
     obtain⟨bg,dv,bT⟩:=gV
     subst bg
     exact⟨_,bT s.F s.h hc (nC id I).symm,by rw[n9 _ (hd gJ),gW]⟩
   | k5 k=>simp[ke] at I
 | wr=>
   cases oS with
   | pure=>
     obtain⟨bg,bT⟩:=gV
     subst bg
     exact⟨_,bT s.F s.h hc,by rw[n9 _ (hd gJ),gW]⟩
   | gE=>simp[ke] at I
   | rd=>simp[ke] at I
   | wr=>simp[ke] at I
   | lo id=>simp[ke] at I
   | k5 k=>simp[ke] at I
theorem Da {bs:Nat} {e:bx} {i:Nat}:∀ {eX kB:List (bx × Nat)} {s ax:a'} {cs:List dL},df G tab cC bs (eX++(e,i)::kB) s=some (ax,cs)->
 (∀k (aE:k<eX.length) (ha:k<cs.length) (aV:eX.length<cs.length),eX[k].1.apart e=true/\ke cs[k] cs[eX.length]=true/\eX[k].2≠i)->pK cC->s.h.cells (bs+i)=none->bs+i<s.h.next->
 ∃s1 c cz cq,c7 G tab cC bs (bs+i) e s=some (s1,c)/\df G tab cC bs (eX++kB) s1=some (ax,cz++cq)/\cs=cz++c::cq/\cz.length=eX.length
 | [],kB,s,ax,cs,h,_,_,_,_=>by
   simp only[List.nil_append,df] at h
   split at h<;>try(cases h;done)
   rename_i s1 c ab
   obtain⟨p,h2,aX⟩:=Option.map_eq_some_iff.1 h
   cases aX
   exact⟨s1,c,[],p.2,ab,h2,rfl,rfl⟩
 | (bV,i0)::eX,kB,s,ax,cs,h,bc,uC,Db,Dc=>by
   simp only[List.cons_append,df] at h
   split at h<;>try(cases h;done)
   rename_i se dc ab
   obtain⟨p,h2,aX⟩:=Option.map_eq_some_iff.1 h
   obtain⟨x_,gQ⟩:=p
   cases aX
   have hlen:∀ {L:List (bx × Nat)} {s ax:a'} {cs:List dL},df G tab cC bs L s=some (ax,cs)->cs.length=L.length:=by
    intro L
    induction L with
    | nil=>intro s ax cs h;simp only[df] at h;cases h;rfl
    | cons q L bC=>
      intro s ax cs h
      simp only[df] at h
      split at h<;>try(cases h;done)
      obtain⟨p,h2,aX⟩:=Option.map_eq_some_iff.1 h
      cases aX
      simp[bC h2]
   have fN:=hlen h2
   have KL:=(bc 0 (by simp) (by simp) (by simp[fN])).2.2
   simp only[List.getElem_cons_zero] at KL
   obtain⟨-,fD,hf⟩:=yM (blk:=[]) uC ab Db Dc (by omega)
   obtain⟨sf,c,cz,cq,bz,bR,rfl,hE⟩:=Da h2 (fun k aE ha aV=>by
    have:=bc (k+1) (by simp;omega) (by simp;omega) (by simp;omega)
    simpa using this) uC fD (by omega)
   have aJ:=bc 0 (by simp) (by simp) (by simp[hE])
   simp only[List.getElem_cons_zero,List.length_cons,List.getElem_cons_succ] at aJ
   have m3:(cz++c::cq)[eX.length]'(by simp[hE])=c:=by simp[<-hE]
   rw[m3] at aJ
   obtain⟨uD,aa,af⟩:=KI ab bz aJ.1 aJ.2.1 (by have:=aJ.2.2;simp at this;omega) (by omega) (by omega) uC Db Dc
   refine⟨uD,c,dc::cz,cq,aa,?_,rfl,by simp[hE]⟩
   simp only[List.cons_append,df,af,bR,Option.map_some]
end
end Go.Eng
namespace Go.Eng
open Go Go.RowKit
theorem bu.KM {w:World} {ok:Nat->Prop} {σ bE:Nat->Option (Nat × Nat)} {v:J} {cv:Value} (h:bu w ok σ (.eu v) cv):bu w ok bE (.eu v) cv:=by
 obtain⟨cO,eb,rfl,ab,h2⟩:=h.vM
 exact .eu v cO eb ab h2
def gX (F:Fence):Prop:=F=Fence.wide\/∃l,F=Fence.wide.inRound l
theorem gX.fn {F:Fence} (h:gX F) (f:FuncId):F.fn f:=by
 rcases h with rfl|⟨l,rfl⟩<;>trivial
theorem gX.depth {F:Fence} (h:gX F):F.depth=none:=by
 rcases h with rfl|⟨l,rfl⟩<;>rfl
theorem gX.room {F:Fence} (h:gX F) (n:Nat):F.room n:=fun d bA=>by rw[h.depth] at bA;cases bA
theorem gX.one {F:Fence} (h:gX F) (n:Nat):F.depth.isSome=true->1<=n:=fun bA=>by rw[h.depth] at bA;cases bA
theorem gX.inRound {F:Fence} (h:gX F) (l:Nat):gX (F.inRound l):=by
 rcases h with rfl|⟨k,rfl⟩
 · exact .inr ⟨l,rfl⟩
 · exact .inr ⟨l,rfl⟩
theorem gX.calls {F:Fence} (h:gX F) {n:Nat} {P:Program} {f:FuncId} {args:Array Value} {w:World} {R:Ending->World->Prop} (I:Calls P f args w R):CallsIn F n P f args w R:=by
 rcases h with rfl|⟨l,rfl⟩
 · exact callsIn_wide.2 I
 · exact(callsIn_wide (n:=n)).2 I
structure dk (base:Nat) (okin:Nat->Prop) (σ:Nat->Option (Nat × Nat)) (h:aA) (w:World) (bE:Nat->Option (Nat × Nat)) (av:aA) (a_:World):Prop where
 sub:∀id x,σ id=some x->bE id=some x
 still:rZ w a_ (bN base okin σ h) (bN base okin bE av)
 below:Below base w a_
 grow:∀b,fM w b<=fM a_ b
 loop:∀(b:Nat) (r:Loop),w.heap[b]? =some (.loop r)->∃st gY,a_.heap[b]? =some (.loop {r with state:=st,pending:=gY})
 nD:∀b:Nat,w.heap[b]? =some (.deferred (some []))->a_.heap[b]? =some (.deferred (some []))
theorem dk.refl (base:Nat) (okin:Nat->Prop) (σ:Nat->Option (Nat × Nat)) (h:aA) (w:World):dk base okin σ h w σ h w:=
 ⟨fun _ _ h=>h,fun _ _ _ _ h=>⟨h,rfl⟩,Below.refl _ _,fun _=>Nat.le_refl _,fun _ r h=>⟨r.state,r.pending,h⟩,fun _ h=>h⟩
theorem dk.trans {base:Nat} {okin:Nat->Prop} {σ gF oJ:Nat->Option (Nat × Nat)} {h ab h2:aA} {w b4 dd:World}
 (p:dk base okin σ h w gF ab b4) (q:dk base okin gF ab b4 oJ h2 dd):dk base okin σ h w oJ h2 dd:=
 ⟨fun id x ak=>q.sub id x (p.sub id x ak),fun b o aj aE aK=>by
   obtain⟨dQ,aq⟩:=p.still b o aj aE aK
   obtain⟨c8,aB⟩:=q.still b o (by rw[aq];exact aj) aE dQ
   exact⟨c8,aB.trans aq⟩,p.below.trans q.below,fun b=>Nat.le_trans (p.grow b) (q.grow b),fun b r aj=>by
   obtain⟨s1,dS,aq⟩:=p.loop b r aj
   obtain⟨s2,fC,aB⟩:=q.loop b _ aq
   exact⟨s2,fC,aB⟩,fun b aj=>q.nD b (p.nD b aj)⟩
theorem dk.rep {base:Nat} {okin:Nat->Prop} {σ bE:Nat->Option (Nat × Nat)} {h av:aA} {w a_:World} (p:dk base okin σ h w bE av a_)
 {v:J} {cv:Value} (r:bu w (bN base okin σ h) σ v cv):bu a_ (bN base okin bE av) bE v cv:=r.mono p.still p.sub p.grow
theorem oT {w:World} {b:Nat} {o:Obj} (h:w.heap[b]? =some o):b<w.heap.size:=(Array.getElem?_eq_some_iff.1 h).1
theorem cS.other {base:Nat} {okin:Nat->Prop} {σ bE:Nat->Option (Nat × Nat)} {h av:aA} {w a_:World} (H:cS base okin σ h w) (p:Prog base okin σ h w bE av a_) {b:Nat} {o:Obj} (aj:w.heap[b]? =some o)
 (ar:∀arr ty e,o≠ .cells arr ty e):a_.heap[b]? =some o:=by
 have bO:=oT aj
 by_cases uE:b<base
 · rw[p.below.block b uE];exact aj
 · have:=(p.pv b bO (.inr ⟨Nat.le_of_not_lt uE,fun id s aG aV=>by
    obtain⟨blk,nx⟩:=Option.isSome_iff_exists.1 aV
    obtain⟨hA,ax,arr,ty,aq,aB,_⟩:=H.blk id blk nx
    rw[aG] at aq;cases aq
    rw[aj] at aB
    exact absurd (Option.some.inj aB) (ar _ _ _)⟩)).2
   rw[this];exact aj
theorem dk.of {base:Nat} {okin:Nat->Prop} {σ bE:Nat->Option (Nat × Nat)} {h av:aA} {w a_:World} (H:cS base okin σ h w) (p:Prog base okin σ h w bE av a_):dk base okin σ h w bE av a_:=
 ⟨p.sub,p.still,p.below,p.grow,fun b r aj=>⟨r.state,r.pending,H.other p aj (fun _ _ _ h=>by cases h)⟩,fun b aj=>H.other p aj (fun _ _ _ h=>by cases h)⟩
def nE:fw->LoopState
 | .ready=> .ready
 | .busy=> .busy
 | .done _=> .done
def KN:de->Option Code
 | .normal=>none
 | .exit id=>some (.exit id)
 | .ret=>some .ret
def nF:fw->Option Code
 | .ready=>none
 | .busy=>none
 | .done e=>KN e
structure hg (σ:Nat->Option (Nat × Nat)) (bm:Nat->Option fw) (w:World):Prop where
 look:∀id p,bm id=some p->∃(l s:Nat) (r:Loop),σ id=some (l,s)/\w.heap[l]? =some (.loop r)/\r.state=nE p/\r.pending=nF p
 inj:∀id fB p m7 l s ax,bm id=some p->bm fB=some m7->σ id=some (l,s)->σ fB=some (l,ax)->id=fB
theorem hg.of {base:Nat} {okin:Nat->Prop} {σ bE:Nat->Option (Nat × Nat)} {h av:aA} {w a_:World} (L:hg σ h.bm w) (H:cS base okin σ h w) (p:Prog base okin σ h w bE av a_) (a4:av.bm=h.bm):hg bE av.bm a_:=by
 rw[a4]
 refine⟨fun id q bc=>?_,fun id fB q mj l s ax ab h2 aq aB=>?_⟩
 · obtain⟨l,s,r,aq,aB,bg,bT⟩:=L.look id q bc
   exact⟨l,s,r,p.sub _ _ aq,H.other p aB (fun _ _ _ h=>by cases h),bg,bT⟩
 · obtain⟨cP,s1,b5,a1,_⟩:=L.look id q ab
   obtain⟨dR,s2,dY,eC,_⟩:=L.look fB mj h2
   have b1:=p.sub _ _ a1;rw[aq] at b1
   have da:=p.sub _ _ eC;rw[aB] at da
   cases b1;cases da
   exact L.inj id fB q mj l s ax ab h2 a1 eC
def n_ (P:Program) (G:Nat->Option J) (base:Nat) (okin:Nat->Prop) (Y:List c4) (σ:Nat->Option (Nat × Nat)) (h:aA) (w:World):Prop:=
 ∀L∈Y,∃(l s:Nat) (r:Loop) (m8:Nat),σ L.id=some (l,s)/\w.heap[l]? =some (.loop r)/\m8<=r.tmps.size/\L.ps=r.params.toList/\(∀p∈L.ps,p<m8)/\
  fm P m8 r.assign=some L.dA/\fm P m8 r.body=some L.body/\hD G (bN base okin σ h) σ w L.F {tmps:=r.tmps,defers:=[]}
theorem n_.mono {P:Program} {G:Nat->Option J} {base:Nat} {okin:Nat->Prop} {Y:List c4} {σ bE:Nat->Option (Nat × Nat)} {h av:aA} {w a_:World} (C:n_ P G base okin Y σ h w) (p:dk base okin σ h w bE av a_):n_ P G base okin Y bE av a_:=by
 intro L a8
 obtain⟨l,s,r,m8,aq,aB,bg,bT,dv,e8,yR,pM⟩:=C L a8
 obtain⟨st,gY,KO⟩:=p.loop l r aB
 exact⟨l,s,_,m8,p.sub _ _ aq,KO,bg,bT,dv,e8,yR,⟨fun t=>p.rep (pM.slot t),fun g v bp=>p.rep (pM.mf g v bp)⟩⟩
structure Marks (bV:Nat) (c3:List Deferred) (w:World):Prop where
 each:∀d∈c3,∃D,d.target= .collected D/\bV<=D/\w.heap[D]? =some (.deferred (some []))
 nodup:c3.Pairwise fun d oF=>d.target≠oF.target
theorem Marks.mono {bV:Nat} {c3:List Deferred} {w a_:World} (M:Marks bV c3 w) (bA:∀b:Nat,w.heap[b]? =some (.deferred (some []))->a_.heap[b]? =some (.deferred (some []))):Marks bV c3 a_:=
 ⟨fun d h=>by
   obtain⟨D,ab,h2,aX⟩:=M.each d h
   exact⟨D,ab,h2,bA D aX⟩,M.nodup⟩
def yS (P:Program) (f:FuncId) (args:Array Value) (w:World) (R:Value->World->Prop):Prop:=
 ((callFunc f args).run P w= .ok (.enter f args) w/\Calls P f args w fun e a_=>∃cv,e= .returned cv/\R cv a_)\/
 ∃cv a_,(callFunc f args).run P w= .ok (.value cv) a_/\R cv a_
def yT (P:Program) (l:Nat) (args:Array Value) (w:World) (R:Value->World->Prop):Prop:=
 ∃f tmps dA body,(Instr.yield l args).run P w= .ok (.round l f tmps dA body) w/\∀F n,gX F->RoundIn F n P l f tmps dA body w fun e a_=>∃cv,e= .returned cv/\R cv a_
def br (P:Program) (G:Nat->Option J) (f:FuncId) (T:List J->Option J):Prop:=
 ∀args v,T args=some v->∀(ok:Nat->Prop) (w:World) (dt:Array Value),dt.size=args.length->
  (∀i (h:i<args.length) (av:i<dt.size),dq w ok args[i] dt[i])->
  (∀g u,G g=some u->bu w ok (fun _=>none) (.eu u) (.pointer (some ⟨g,0,none⟩)))->
  yS P f dt w fun cv a_=>dq a_ (fun b=>ok b\/w.heap.size<=b) v cv/\Below w.heap.size w a_
def sg (base:Nat) (okin:Nat->Prop) (σ:Nat->Option (Nat × Nat)) (h:aA) (w:World) (av:aA) (v:J) (cv:Value) (a_:World):Prop:=
 ∃bE,dk base okin σ h w bE av a_/\cS base okin bE av a_/\hg bE av.bm a_/\bu a_ (bN base okin bE av) bE v cv/\(∀id,av.next<=id->bE id=none)/\∀id,id<h.next->bE id=σ id
structure sh (P:Program) (G:Nat->Option J) (Y:List c4) (cC:kv->List J->aA->Option (J × aA)):Prop where
 next:∀t args h v av,cC t args h=some (v,av)->h.next<=av.next
 frame:pK cC
 fn:∀f args h v av,cC (.fn f) args h=some (v,av)->∀base okin σ w (dt:Array Value),cS base okin σ h w->hg σ h.bm w->n_ P G base okin Y σ h w->dt.size=args.length->
    (∀i (ag:i<args.length) (b_:i<dt.size),bu w (bN base okin σ h) σ args[i] dt[i])->
    (∀g u,G g=some u->bu w (bN base okin σ h) σ (.eu u) (.pointer (some ⟨g,0,none⟩)))->(∀id,h.next<=id->σ id=none)->
    yS P f dt w (sg base okin σ h w av v)
 kI:∀id args h v av,cC (.kI id) args h=some (v,av)->∀base okin σ w (dt:Array Value) l s,cS base okin σ h w->hg σ h.bm w->n_ P G base okin Y σ h w->σ id=some (l,s)->dt.size=args.length->
    (∀i (ag:i<args.length) (b_:i<dt.size),bu w (bN base okin σ h) σ args[i] dt[i])->
    (∀g u,G g=some u->bu w (bN base okin σ h) σ (.eu u) (.pointer (some ⟨g,0,none⟩)))->(∀id,h.next<=id->σ id=none)->
    yT P l dt w (sg base okin σ h w av v)
structure eY (P:Program) (G:Nat->Option J) (Y:List c4) (gK:Option Nat) (bV:Nat) (base:Nat) (okin:Nat->Prop) (N:Nat) (cW:Nat) (cX:Nat->Option (Nat × Nat)) (cH:Nat->Prop) (σ:Nat->Option (Nat × Nat)) (s:a') (a:Act) (w:World):Prop where
 aG:cS base okin σ s.h w
 k9:hg σ s.h.bm w
 gG:n_ P G base okin Y σ s.h w
 bX:hD G (bN base okin σ s.h) σ w s.F a
 size:N<=a.tmps.size
 marks:Marks bV a.defers w
 rd:∀l,gK=some l->∃r,w.heap[l]? =some (.loop r)
 qH:bV<=w.heap.size
 free:∀id,cH id->cW<=id/\id<s.h.next/\σ id=none
 low:cW<=s.h.next
 lJ:∀id,id<cW->σ id=cX id
 fresh:∀id,s.h.next<=id->σ id=none
section
variable {P:Program} {G:Nat->Option J} {base:Nat} {okin:Nat->Prop} {N:Nat} {cW:Nat} {cX:Nat->Option (Nat × Nat)} {cH:Nat->Prop} {σ:Nat->Option (Nat × Nat)} {w:World} {a:Act}
theorem hD.mono {bE:Nat->Option (Nat × Nat)} {h av:aA} {a_:World} {F:Nat->J} (bX:hD G (bN base okin σ h) σ w F a) (p:dk base okin σ h w bE av a_):hD G (bN base okin bE av) bE a_ F a:=
 ⟨fun t=>p.rep (bX.slot t),fun g v bp=>p.rep (bX.mf g v bp)⟩
theorem hD.put {h:aA} {F:Nat->J} (bX:hD G (bN base okin σ h) σ w F a) {d:Option Nat} (bA:d.all (fun d=>decide (d<N))=true) (eN:N<=a.tmps.size) {v:J} {cv:Value} (aR:bu w (bN base okin σ h) σ v cv):
 hD G (bN base okin σ h) σ w (c6 F d v) (a.put d cv):=by
 refine⟨fun t=>?_,bX.mf⟩
 cases d with
 | none=>exact bX.slot t
 | some d=>
   have bO:d<a.tmps.size:=by
    have:d<N:=by simpa using bA
    omega
   simp only[c6,aF,Act.put]
   by_cases e:t=d
   · subst e
     rw[if_pos rfl]
     simpa[Array.getD,bO] using aR
   · rw[if_neg e]
     have:=bX.slot t
     have aB:(a.tmps.setIfInBounds d cv).getD t undef=a.tmps.getD t undef:=by
      simp only[Array.getD_eq_getD_getElem?]
      rw[Array.getElem?_setIfInBounds_ne (Ne.symm e)]
     rw[aB];exact this
theorem KP (a:Act) (d:Option Nat) (v:Value):(a.put d v).tmps.size=a.tmps.size:=by
 cases d<;>simp[Act.put]
theorem put_defers (a:Act) (d:Option Nat) (v:Value):(a.put d v).defers=a.defers:=by
 cases d<;>rfl
theorem cS.grown {h:aA} (H:cS base okin σ h w) {a_:World} (aj:Below w.heap.size w a_):cS base okin σ h a_/\Prog base okin σ h w σ h a_:=by
 have P:Prog base okin σ h w σ h a_:=⟨fun _ _ x=>x,fun b bO aK=>⟨aK,aj.block b bO⟩,aj.mono H.base,JH aj⟩
 refine⟨⟨fun id b s ag=>⟨(H.val id b s ag).1,Nat.lt_of_lt_of_le (H.val id b s ag).2 aj.size⟩,fun id fp f_=>?_,H.inj,Nat.le_trans H.base aj.size⟩,P⟩
 obtain⟨b,s,pG,ty,aq,aB,bg⟩:=H.blk id fp f_
 refine⟨b,s,pG,ty,aq,by rw[aj.block b (H.val _ _ _ aq).2];exact aB,fun i ag=>⟨(bg i ag).1,fun j aZ=>?_⟩⟩
 obtain⟨v,bz,bR⟩:=(bg i ag).2 j aZ
 exact⟨v,bz,P.rep bR⟩
theorem uF {h:aA} {x y:List Nat} (l0:∀i∈x,i∈y) (b:Nat) (aK:bN base okin σ (h.close x) b):bN base okin σ (h.close y) b:=by
 rcases aK with aK|⟨ab,h2⟩
 · exact .inl aK
 · refine .inr ⟨ab,fun id s aG aV=>?_⟩
   have:=h2 id s aG aV
   simp only[aA.close,Bool.or_eq_true,List.contains_iff_mem] at this|-
   exact this.imp (fun q=>q) (l0 id)
theorem Dd {h:aA} (H:cS base okin σ h w) {v u:J} {cv:Value} {ids:List Nat} (ba:bu w (bN base okin σ h) σ v cv) (aK:dG h v=some (u,ids)):dq w (bN base okin σ (h.close ids)) u cv:=by
 cases v<;>simp only[dG] at aK<;>try(cases aK;done)
 case int k n=>cases aK;rw[ba.gS];exact .int k n
 case bool b=>cases aK;rw[ba.pA];exact .bool b
 case str s=>cases aK;rw[ba.ud];exact .str s
 case nilfn=>cases aK;rw[ba.JF];exact .nilfn
 case mp m=>
  cases aK
  have:=ba.B6
  rw[qE]
  exact this
 case sl xs ex=>
  cases aK
  have:=ba.pB
  rw[qE]
  exact this
 case ref id off len cap=>
  split at aK<;>try(cases aK;done)
  rename_i blk aj
  split at aK<;>try(cases aK;done)
  rename_i bc
  obtain⟨dy,dB⟩:=bc
  cases aK
  obtain⟨A,c,b,sz,rfl,aq,aB,bg,bT⟩:=ba.pC
  obtain⟨hA,fg,arr,ty,f1,f2,f3⟩:=H.blk id blk aj
  rw[aq] at f1;cases f1
  have hlen:((blk.drop off).take len).length=len:=by simp;omega
  have kx:∀i (ag:i<len),((blk.drop off).take len)[i]'(by rw[hlen];exact ag)=blk[off+i]'(by omega):=by intro i ag;simp
  have hC:bN base okin σ (h.close [id]) b:=by
   refine .inr ⟨(H.val _ _ _ aq).1,fun fB s aG aV=>?_⟩
   have:fB=id:=H.inj fB id b s sz aV (by simp[aj]) aG aq
   subst this
   simp[aA.close]
  have R:=dq.sl (w:=w) (ok:=bN base okin σ (h.close [id])) ((blk.drop off).take len) false A c sz (fun i j=>(arr[(off+i)*sz+j]?).getD undef) (by rw[hlen];exact aB) (fun cY=>absurd cY (by simp))
   (fun i ag=>by rw[hlen] at ag;rw[kx i ag];exact(f3 _ _).1)
   (fun i j ag aZ=>by
     rw[hlen] at ag
     obtain⟨rfl,_⟩:=bT (by omega)
     refine⟨_,rfl,hC,?_⟩
     obtain⟨lp,bz,_⟩:=(f3 (off+i) (by omega)).2 j (by rw[(f3 (off+i) (by omega)).1];exact aZ)
     rw[oL]
     simp only[World.cell?,f2,Option.isSome_none,Bool.false_eq_true,if_false]
     rw[show off*sz+(i*sz+j)=(off+i)*sz+j by rw[Nat.add_mul];omega,bz];rfl)
   (fun qB=>by
     rw[hlen] at qB
     obtain⟨rfl,_⟩:=bT (by omega)
     rfl)
   (fun i ag j aZ=>by
     rw[hlen] at ag
     have he:=kx i ag
     simp only[he] at aZ|-
     obtain⟨lp,bz,bR⟩:=(f3 (off+i) (by omega)).2 j aZ
     show dq _ _ _ ((arr[(off+i)*sz+j]?).getD undef)
     rw[bz]
     have fO:(blk[off+i]'(by omega)).cells[j].ew=true:=List.all_eq_true.1 (List.all_eq_true.1 dB _ (List.getElem_mem _)) _ (List.getElem_mem aZ)
     exact(dq.Co bR fO).qp fun k aE hC=>by
      have:=uF (base:=base) (okin:=okin) (σ:=σ) (h:=h) (x:=[]) (y:=[id]) (by simp) k (by rw[qE];exact hC)
      exact this)
  rw[hlen] at R
  exact R
theorem De {h:aA} (H:cS base okin σ h w):∀ {vs us:List J} {ids:List Nat} (cs:Nat->Value),(∀i (ag:i<vs.length),bu w (bN base okin σ h) σ vs[i] (cs i))->eP h vs=some (us,ids)->
 us.length=vs.length/\∀i (ag:i<us.length),dq w (bN base okin σ (h.close ids)) us[i] (cs i)
 | [],us,ids,cs,_,aK=>by simp only[eP] at aK;cases aK;exact⟨rfl,fun i ag=>absurd ag (by simp)⟩
 | v::vs,us,ids,cs,ba,aK=>by
   simp only[eP] at aK
   split at aK<;>try(cases aK;done)
   rename_i hB x lY y ab h2
   cases aK
   obtain⟨l,q⟩:=De H (fun i=>cs (i+1)) (fun i ag=>ba (i+1) (by simpa using ag)) h2
   refine⟨by simp[l],fun i ag=>?_⟩
   cases i with
   | zero=>exact(Dd H (ba 0 (by simp)) ab).qp fun b _ aj=>uF (fun i ag=>by simp[ag]) b aj
   | succ i=>exact(q i (by simpa using ag)).qp fun b _ aj=>uF (fun i ag=>by simp[ag]) b aj
theorem Df {h:aA} (H:cS base okin σ h w) {v u:J} {cv:Value} {ids:List Nat} (ba:bu w (bN base okin σ h) σ v cv) (aK:fZ h v=some (u,ids)):dq w (bN base okin σ (h.close ids)) u cv:=by
 by_cases aR:∃cs,v= .agg cs
 · obtain⟨cs,rfl⟩:=aR
   simp only[fZ] at aK
   obtain⟨p,ab,he⟩:=Option.map_eq_some_iff.1 aK
   obtain⟨us,KQ⟩:=p
   cases he
   obtain⟨vs,rfl,cP,b5⟩:=ba.r1
   obtain⟨dR,dY⟩:=De H (fun i=>vs.getD i undef) (fun i ag=>by
    have bO:i<vs.size:=by omega
    have:=b5 i ag bO
    simpa[Array.getD,bO] using this) ab
   refine .agg _ _ (by show vs.size=us.length;omega) (fun i ag b_=>?_)
   have:=dY i ag
   simpa[Array.getD,b_] using this
 · refine Dd H ba ?_
   cases v<;>first|exact aK|exact absurd ⟨_,rfl⟩ aR
theorem yU {h:aA} (H:cS base okin σ h w):∀ {vs us:List J} {ids:List Nat} (cs:Nat->Value),(∀i (ag:i<vs.length),bu w (bN base okin σ h) σ vs[i] (cs i))->eJ h vs=some (us,ids)->
 us.length=vs.length/\∀i (ag:i<us.length),dq w (bN base okin σ (h.close ids)) us[i] (cs i)
 | [],us,ids,cs,_,aK=>by simp only[eJ] at aK;cases aK;exact⟨rfl,fun i ag=>absurd ag (by simp)⟩
 | v::vs,us,ids,cs,ba,aK=>by
   simp only[eJ] at aK
   split at aK<;>try(cases aK;done)
   rename_i hB x lY y ab h2
   cases aK
   obtain⟨l,q⟩:=yU H (fun i=>cs (i+1)) (fun i ag=>ba (i+1) (by simpa using ag)) h2
   refine⟨by simp[l],fun i ag=>?_⟩
   cases i with
   | zero=>exact(Df H (ba 0 (by simp)) ab).qp fun b _ aj=>uF (fun i ag=>by simp[ag]) b aj
   | succ i=>exact(q i (by simpa using ag)).qp fun b _ aj=>uF (fun i ag=>by simp[ag]) b aj
theorem KR {h:aA} (H:cS base okin σ h w) {v u:J} {cv:Value} {ids:List Nat} (ba:bu w (bN base okin σ h) σ v cv) (aK:gR h v=some (u,ids)):dq w (bN base okin σ (h.close ids)) u cv:=by
 by_cases aR:∃cs,v= .ch cs
 · obtain⟨cs,rfl⟩:=aR
   simp only[gR] at aK
   obtain⟨p,ab,he⟩:=Option.map_eq_some_iff.1 aK
   obtain⟨us,KQ⟩:=p
   cases he
   obtain⟨vs,rfl,cP,b5⟩:=ba.B8
   obtain⟨dR,dY⟩:=yU H (fun i=>vs.getD i undef) (fun i ag=>by
    have bO:i<vs.size:=by omega
    have:=b5 i ag bO
    simpa[Array.getD,bO] using this) ab
   refine .ch _ _ (by show vs.size=us.length;omega) (fun i ag b_=>?_)
   have:=dY i ag
   simpa[Array.getD,b_] using this
 · refine Df H ba ?_
   cases v<;>first|exact aK|exact absurd ⟨_,rfl⟩ aR
end
end Go.Eng
namespace Go.Eng
open Go Go.RowKit
section
variable {P:Program} {G:Nat->Option J} {base:Nat} {okin:Nat->Prop} {N:Nat} {cW:Nat} {cX:Nat->Option (Nat × Nat)} {cH:Nat->Prop} {σ:Nat->Option (Nat × Nat)} {w:World} {a:Act}
 {tab:FuncId->Option (List J->Option J)} {cC:kv->List J->aA->Option (J × aA)} {Y:List c4} {gK:Option Nat} {bV:Nat} {c9:Fence} {dH:Nat}
theorem yV (x:Array Value) (i:Nat) (h:i<x.size):x.getD i undef=x[i]:=by simp[Array.getD,h]
theorem Dg {ops:Array Oper} {o:Oper} {e:bx} (h:oH P N ops o=some e):
 e.dst=o.dst/\ff P o.op=some e.op/\o.dst.all (fun d=>decide (d<N))=true/\
   ((o.guard=none/\e.guard=none)\/∃j t want,o.guard=some (j,want)/\(ops[j]?).bind (·.dst)=some t/\e.guard=some (t,want)):=by
 unfold oH at h
 split at h<;>try(cases h;done)
 rename_i bA
 split at h<;>try(cases h;done)
 rename_i op cT
 split at h
 · rename_i bp
   cases h
   exact⟨rfl,cT,bA,.inl ⟨bp,rfl⟩⟩
 · rename_i j w bp
   split at h<;>try(cases h;done)
   rename_i t a7
   cases h
   exact⟨rfl,cT,bA,.inr ⟨j,t,w,bp,a7,rfl⟩⟩
theorem KS {o:Oper} {x:Operand} {args:Array Operand} {argTypes:Array TypeId} (cT:o.op= .call {callee:= .value x,args,argTypes}) {f:FuncId} {eK cv:Array Value} (ak:a.eval x= .func (.func f) eK cv):
 (execOp a.eval o).run P w=(callFunc f (eK++args.map a.eval++cv)).run P w:=by
 simp[execOp,cT,resolve,Deferred.ofValue,ak,invoke]
theorem KT {o:Oper} {x:Operand} {args:Array Operand} {argTypes:Array TypeId} (cT:o.op= .call {callee:= .value x,args,argTypes}) {l:Nat} (ak:a.eval x= .func (.yield l) #[] #[]):
 (execOp a.eval o).run P w=(Instr.yield l (args.map a.eval)).run P w:=by
 simp[execOp,cT,resolve,Deferred.ofValue,ak,invoke]
theorem eY.step {bE:Nat->Option (Nat × Nat)} {s:a'} (S:eY P G Y gK bV base okin N cW cX cH σ s a w) {d:Option Nat} (bA:d.all (fun d=>decide (d<N))=true) {v:J} {cv:Value} {av:aA} {a_:World} {r:Nat}
 (p:dk base okin σ s.h w bE av a_) (H:cS base okin bE av a_) (L:hg bE av.bm a_) (ba:bu a_ (bN base okin bE av) bE v cv) (ar:s.h.next<=av.next) (bI:∀id,cH id->id≠r->bE id=none) (KU:∀id,av.next<=id->bE id=none) (aK:∀id,id<cW->bE id=σ id):
 eY P G Y gK bV base okin N cW cX (fun id=>cH id/\id≠r) bE ⟨c6 s.F d v,av⟩ (a.put d cv) a_:=
 ⟨H,L,S.gG.mono p,(S.bX.mono p).put bA S.size ba,by rw[KP];exact S.size,by rw[put_defers];exact S.marks.mono p.nD,fun l aV=>by
   obtain⟨CS,ab⟩:=S.rd l aV
   obtain⟨st,gY,h2⟩:=p.loop l CS ab
   exact⟨_,h2⟩,Nat.le_trans S.qH p.below.size,fun id bS=>⟨(S.free id bS.1).1,Nat.lt_of_lt_of_le (S.free id bS.1).2.1 ar,bI id bS.1 bS.2⟩,Nat.le_trans S.low ar,fun id bS=>(aK id bS).trans (S.lJ id bS),KU⟩
theorem Dh (bQ:gX c9) {Q:Exit->Act->World->Prop} {K:Act->World->Prop} {o:Oper} {f:FuncId} {dt:Array Value} {R:Value->World->Prop} (bA:yS P f dt w R) (n':∀c,o.op≠ .defer c) (cI:(execOp a.eval o).run P w=(callFunc f dt).run P w)
 (l1:∀cv a_,R cv a_->K (a.put o.dst cv) a_):o.wpIn c9 dH P a w K Q:=by
 unfold Oper.wpIn
 refine⟨fun f _=>bQ.fn f,?_⟩
 rw[Oper.semAt_eq _ _ _ n',cI]
 rcases bA with⟨ab,h2⟩|⟨cv,a_,ab,h2⟩
 · rw[ab,Oper.uponIn_enter]
   refine⟨bQ.one dH,bQ.calls (h2.mono fun e a_ ⟨cv,he,dI⟩=>?_)⟩
   subst he
   exact l1 cv a_ dI
 · rw[ab]
   exact l1 cv a_ h2
theorem KV (bQ:gX c9) {Q:Exit->Act->World->Prop} {K:Act->World->Prop} {o:Oper} {l:Nat} {dt:Array Value} {R:Value->World->Prop} (bA:yT P l dt w R) (n':∀c,o.op≠ .defer c) (cI:(execOp a.eval o).run P w=(Instr.yield l dt).run P w)
 (l1:∀cv a_,R cv a_->K (a.put o.dst cv) a_):o.wpIn c9 dH P a w K Q:=by
 unfold Oper.wpIn
 refine⟨fun f _=>bQ.fn f,?_⟩
 rw[Oper.semAt_eq _ _ _ n',cI]
 obtain⟨f,tmps,dA,body,ab,h2⟩:=bA
 rw[ab,Oper.uponIn_round]
 refine⟨bQ.one dH,(h2 c9 _ bQ).mono fun e a_ ⟨cv,he,dI⟩=>?_⟩
 subst he
 exact l1 cv a_ dI
theorem Di (bQ:gX c9) (gI:sh P G Y cC) (kK:∀f T,tab f=some T->br P G f T) {ops:Array Oper} {o:Oper} {e:bx} (eN:oH P N ops o=some e) {bs r:Nat} {s ax:a'} {c:dL}
 (cI:dj G tab cC bs r e s=some (ax,c)) (S:eY P G Y gK bV base okin N cW cX cH σ s a w) (pN:cH r) {K:Act->World->Prop} {Q:Exit->Act->World->Prop}
 (l1:∀bE eh a_,eY P G Y gK bV base okin N cW cX (fun id=>cH id/\id≠r) bE ax eh a_->dk base okin σ s.h w bE ax.h a_->K eh a_):o.wpIn c9 dH P a w K Q:=by
 obtain⟨d1,d2,d3,_⟩:=Dg eN
 have bA:e.dst.all (fun d=>decide (d<N))=true:=by rw[d1];exact d3
 by_cases I:∃f args,e.op= .call f args
 · obtain⟨f,args,cT⟩:=I
   rw[cT] at d2
   have m1:∃x as b7,o.op= .call {callee:= .value x,args:=as,argTypes:=b7}/\dW x=some f/\oG as.toList=some args:=by
    cases aK:o.op<;>rw[aK] at d2<;>simp only[ff] at d2<;>try(first|(cases d2;done)|(split at d2<;>cases d2;done))
    case call yH=>
     obtain⟨callee,as,b7⟩:=yH
     cases callee with
     | value x=>
       simp only at d2
       split at d2<;>try(cases d2;done)
       rename_i ab h2
       cases d2
       exact⟨x,as,b7,rfl,ab,h2⟩
     | invoke _ _=>simp only at d2;cases d2
     | builtin b=>
       exfalso
       cases b<;>simp only at d2<;>(repeat' split at d2)<;>first|(cases d2;done)|(obtain⟨_,_,d2⟩:=Option.map_eq_some_iff.1 d2;cases d2)
    all_goals
     exfalso
     first
      | (obtain⟨_,_,d2⟩:=Option.map_eq_some_iff.1 d2;cases d2;done)
      | ((repeat' split at d2)<;>first|contradiction|(cases d2;done)|(obtain⟨_,_,d2⟩:=Option.map_eq_some_iff.1 d2;cases d2;done))
   obtain⟨x,as,b7,aK,ak,has⟩:=m1
   unfold dj at cI
   simp only[cT] at cI
   have n':∀c,o.op≠ .defer c:=fun c I=>by rw[aK] at I;cases I
   split at cI<;>try(cases cI;done)
   rotate_left
   · rename_i id bI
     obtain⟨p,a4,cI⟩:=Option.map_eq_some_iff.1 cI
     obtain⟨v,av⟩:=p
     cases cI
     have rx:=S.bX.dM ak
     rw[bI] at rx
     obtain⟨l,sl,ex,oa⟩:=rx.JG
     obtain⟨kC,ob⟩:=qu S.bX has
     have ar:=gI.next _ _ _ _ _ a4
     refine KV bQ (gI.kI _ _ _ _ _ a4 base okin σ w (as.map a.eval) l sl S.aG S.k9 S.gG oa (by simp at kC|-;omega) (fun i ag b_=>by
      have:=ob i (by simpa using ag) (by simpa using b_)
      simpa using this) S.bX.mf S.fresh) n' (KT aK ex) (fun yW a_ dI=>?_)
     obtain⟨bE,aa,af,si,al,ad,ae⟩:=dI
     rw[<-d1]
     exact l1 bE _ a_ (S.step bA aa af si al ar (fun id bS _=>by rw[ae id (S.free id bS).2.1];exact(S.free id bS).2.2) ad (fun id bS=>ae id (Nat.lt_of_lt_of_le bS S.low))) aa
   rename_i n first caps bI
   have rx:=S.bX.dM ak
   rw[bI] at rx
   obtain⟨eK,cv,ex,cP,dR,b5,dY⟩:=rx.B7
   obtain⟨kC,ob⟩:=qu S.bX has
   have Dj:=KS (P:=P) (w:=w) aK ex
   have cy:(eK++as.map a.eval++cv).size=(first++args.map (bf.ev G s.F)++caps).length:=by simp at kC|-;omega
   have e5:∀i (ag:i<(first++args.map (bf.ev G s.F)++caps).length) (b_:i<(eK++as.map a.eval++cv).size),bu w (bN base okin σ s.h) σ (first++args.map (bf.ev G s.F)++caps)[i] (eK++as.map a.eval++cv)[i]:=by
    intro i ag b_
    by_cases ab:i<first.length
    · have aq:(first++args.map (bf.ev G s.F)++caps)[i]=first[i]:=by
       rw[List.getElem_append_left (by simp;omega),List.getElem_append_left ab]
      have aB:(eK++as.map a.eval++cv)[i]=eK[i]'(by omega):=by
       rw[Array.getElem_append_left (by simp;omega),Array.getElem_append_left (by omega)]
      rw[aq,aB];exact b5 i ab (by omega)
    · by_cases h2:i<first.length+args.length
      · have aq:(first++args.map (bf.ev G s.F)++caps)[i]=args[i - first.length].ev G s.F:=by
         rw[List.getElem_append_left (by simp;omega),List.getElem_append_right (by omega)];simp
        have aB:(eK++as.map a.eval++cv)[i]=a.eval (as.toList[i - first.length]'(by simp at kC|-;omega)):=by
         rw[Array.getElem_append_left (by simp at kC|-;omega),Array.getElem_append_right (by omega)]
         simp[cP]
        rw[aq,aB];exact ob _ (by omega) (by simp at kC|-;omega)
      · have aq:(first++args.map (bf.ev G s.F)++caps)[i]=caps[i -(first.length+args.length)]'(by simp at ag;omega):=by
         rw[List.getElem_append_right (by simp;omega)];simp
        have aB:(eK++as.map a.eval++cv)[i]=cv[i -(first.length+args.length)]'(by simp at ag;omega):=by
         rw[Array.getElem_append_right (by simp at kC|-;omega)]
         congr 1
         simp at kC|-;omega
        rw[aq,aB];exact dY _ (by simp at ag;omega) (by simp at ag;omega)
   split at cI
   · rename_i T cJ
     split at cI<;>try(cases cI;done)
     rename_i vs ids oI
     obtain⟨v,aR,cI⟩:=Option.map_eq_some_iff.1 cI
     cases cI
     obtain⟨KW,Dk⟩:=S.aG.close ids
     obtain⟨bJ,ca⟩:=yU S.aG (fun i=>(eK++as.map a.eval++cv).getD i undef) (fun i ag=>by
      have bO:i<(eK++as.map a.eval++cv).size:=by rw[cy];exact ag
      have:=e5 i ag bO
      rw[yV _ _ bO];exact this) oI
     refine Dh bQ (kK n T cJ vs v aR (bN base okin σ (s.h.close ids)) w (eK++as.map a.eval++cv) (by rw[cy,bJ]) (fun i ag b_=>by
      have:=ca i ag
      rw[yV _ _ b_] at this;exact this) (fun g u bp=>(Dk.rep (S.bX.mf g u bp)).KM)) n' Dj (fun yW a_ dI=>?_)
     obtain⟨dy,dB⟩:=dI
     obtain⟨yX,yY⟩:=KW.grown dB
     have Dl:=Dk.trans yY
     have Dm:=dk.of S.aG Dl
     rw[<-d1]
     refine l1 σ _ a_ (S.step bA Dm yX (S.k9.of S.aG Dl rfl) (.val _ _ (dy.qp fun b _ aj=>?_)) (Nat.le_refl _) (fun id bS _=>(S.free id bS).2.2) S.fresh (fun _ _=>rfl)) Dm
     rcases aj with aj|aj
     · exact aj
     · exact .inr ⟨Nat.le_trans S.aG.base aj,fun id sz aG _=>by have:=(S.aG.val _ _ _ aG).2;omega⟩
   · rename_i cJ
     obtain⟨p,a4,cI⟩:=Option.map_eq_some_iff.1 cI
     obtain⟨v,av⟩:=p
     cases cI
     have ar:=gI.next _ _ _ _ _ a4
     refine Dh bQ (gI.fn _ _ _ _ _ a4 base okin σ w _ S.aG S.k9 S.gG cy e5 S.bX.mf S.fresh) n' Dj (fun yW a_ dI=>?_)
     obtain⟨bE,aa,af,si,al,ad,ae⟩:=dI
     rw[<-d1]
     exact l1 bE _ a_ (S.step bA aa af si al ar (fun id bS _=>by rw[ae id (S.free id bS).2.1];exact(S.free id bS).2.2) ad (fun id bS=>ae id (Nat.lt_of_lt_of_le bS S.low))) aa
 · have qC:dj G tab cC bs r e s=(evalOp bs r (bf.ev G s.F) s.h e.op).map fun(v,av,c)=>(⟨c6 s.F e.dst v,av⟩,c):=by
    unfold dj
    split
    · exact absurd ⟨_,_,‹_›⟩ I
    · rfl
   rw[qC] at cI
   obtain⟨p,a4,cI⟩:=Option.map_eq_some_iff.1 cI
   obtain⟨v,av,dc⟩:=p
   have lG:(⟨c6 s.F e.dst v,av⟩:a')=ax:=congrArg Prod.fst cI
   subst lG
   have v':av.next=s.h.next:=congrArg Prod.fst (sb a4).1
   have KX:av.bm=s.h.bm:=congrArg Prod.snd (sb a4).1
   obtain⟨bE,cv,a_,aq,aB,bg,bT,dv⟩:=Kr S.aG S.bX (S.free r pN).2.2 o d2 a4
   have fin:eY P G Y gK bV base okin N cW cX (fun id=>cH id/\id≠r) bE ⟨c6 s.F e.dst v,av⟩ (a.put e.dst cv) a_:=
    S.step bA (dk.of S.aG aB) bg (S.k9.of S.aG aB KX) bT (by rw[v'];exact Nat.le_refl _) (fun id bS bP=>by rw[dv id bP];exact(S.free id bS).2.2) (fun id bS=>by
      rw[v'] at bS
      have:id≠r:=by have:=(S.free r pN).2.1;omega
      rw[dv id this];exact S.fresh id bS) (fun id bS=>dv id (by have:=(S.free r pN).1;omega))
   have Dn:=l1 bE _ a_ fin (dk.of S.aG aB)
   have n':∀c,o.op≠ .defer c:=fun c I=>by rw[I] at d2;simp only[ff] at d2;cases d2
   unfold Oper.wpIn
   refine⟨fun f _=>bQ.fn f,?_⟩
   rw[Oper.semAt_eq _ _ _ n']
   rcases aq with aq|⟨aq,rfl⟩
   · rw[aq,Oper.uponIn_value,<-d1];exact Dn
   · rw[aq,Oper.uponIn_skip,<-d1];exact Dn
theorem Dp (bQ:gX c9) (gI:sh P G Y cC) (kK:∀f T,tab f=some T->br P G f T) {ops:Array Oper} {i:Nat} {o:Oper} (ag:ops[i]? =some o) {e:bx} (eN:oH P N ops o=some e) {bs r:Nat} {s ax:a'} {c:dL}
 (cI:c7 G tab cC bs r e s=some (ax,c)) (S:eY P G Y gK bV base okin N cW cX cH σ s a w) (pN:cH r) {K:Act->World->Prop} {Q:Exit->Act->World->Prop}
 (l1:∀bE eh a_,eY P G Y gK bV base okin N cW cX (fun id=>cH id/\id≠r) bE ax eh a_->dk base okin σ s.h w bE ax.h a_->K eh a_):wpOpIn c9 dH P ops Q i K a w:=by
 obtain⟨d1,d2,d3,bp⟩:=Dg eN
 unfold wpOpIn
 rw[ag]
 simp only
 unfold c7 at cI
 rcases bp with⟨bz,bR⟩|⟨j,t,want,bz,bR,e6⟩
 · rw[bR] at cI
   simp only[Region.wanted,bz,if_true]
   exact Di bQ gI kK eN cI S pN l1
 · rw[e6] at cI
   simp only at cI
   cases aj:s.F t<;>rw[aj] at cI<;>try(cases cI;done)
   · cases cI
     have a7:=S.bX.slot t
     rw[aj] at a7
     have oc:=a7.JE
     have bd:yielded ops a.tmps j=none:=by
      rw[Array.getD_eq_getD_getElem?] at oc
      cases bc:a.tmps[t]? with
      | none=>simp[yielded,bR,bc]
      | some v=>
        rw[bc] at oc
        simp only[Option.getD_some] at oc
        subst oc
        simp[yielded,bR,bc,Go.undef]
     simp only[Region.wanted,bz,bd]
     have bP:((none:Option Bool) == some want)=false:=rfl
     rw[bP]
     simp only[Bool.false_eq_true,if_false]
     have bA:e.dst.all (fun d=>decide (d<N))=true:=by rw[d1];exact d3
     refine⟨fun f _=>bQ.fn f,?_⟩
     rw[<-d1]
     exact l1 σ _ w (S.step bA (dk.refl ..) S.aG S.k9 .kc (Nat.le_refl _) (fun id bS _=>(S.free id bS).2.2) S.fresh (fun _ _=>rfl)) (dk.refl ..)
   rename_i b
   have a7:=S.bX.slot t
   rw[aj] at a7
   have oc:=a7.pA
   have uG:a.tmps[t]? =some (.bool b):=by
    rw[Array.getD_eq_getD_getElem?] at oc
    cases bc:a.tmps[t]? with
    | none=>rw[bc] at oc;simp[undef] at oc
    | some v=>rw[bc] at oc;simpa using oc
   have bd:yielded ops a.tmps j=some b:=by
    simp[yielded,bR,uG]
   simp only[Region.wanted,bz,bd]
   by_cases nB:b=want
   · subst nB
     simp only[if_true] at cI
     simp only[BEq.rfl,if_true]
     exact Di bQ gI kK eN cI S pN l1
   · simp only[if_neg nB] at cI
     cases cI
     have bP:(some b == some want)=false:=by simpa using nB
     rw[bP]
     simp only[Bool.false_eq_true,if_false]
     have bA:e.dst.all (fun d=>decide (d<N))=true:=by rw[d1];exact d3
     refine⟨fun f _=>bQ.fn f,?_⟩
     rw[<-d1]
     exact l1 σ _ w (S.step bA (dk.refl ..) S.aG S.k9 .kc (Nat.le_refl _) (fun id bS _=>(S.free id bS).2.2) S.fresh (fun _ _=>rfl)) (dk.refl ..)
end
end Go.Eng
namespace Go.Eng
open Go Go.RowKit
section
variable {P:Program} {G:Nat->Option J} {base:Nat} {okin:Nat->Prop} {N:Nat} {cW:Nat} {cX:Nat->Option (Nat × Nat)} {tab:FuncId->Option (List J->Option J)} {cC:kv->List J->aA->Option (J × aA)} {Y:List c4} {gK:Option Nat} {bV:Nat} {c9:Fence} {dH:Nat}
theorem yZ {bs:Nat}:∀ {L:List (bx × Nat)} {s ax:a'} {cs:List dL},df G tab cC bs L s=some (ax,cs)->cs.length=L.length
 | [],s,ax,cs,h=>by simp only[df] at h;cases h;rfl
 | q::L,s,ax,cs,h=>by
   simp only[df] at h
   split at h<;>try(cases h;done)
   obtain⟨p,h2,aX⟩:=Option.map_eq_some_iff.1 h
   cases aX
   simp[yZ h2]
theorem eY.weaken {cH r6:Nat->Prop} {σ:Nat->Option (Nat × Nat)} {s:a'} {a:Act} {w:World} (S:eY P G Y gK bV base okin N cW cX cH σ s a w) (h:∀i,r6 i->cH i):eY P G Y gK bV base okin N cW cX r6 σ s a w:=
 ⟨S.aG,S.k9,S.gG,S.bX,S.size,S.marks,S.rd,S.qH,fun i ag=>S.free i (h i ag),S.low,S.lJ,S.fresh⟩
theorem Dq (bQ:gX c9) (gI:sh P G Y cC) (kK:∀f T,tab f=some T->br P G f T) {ops:Array Oper} {bs:Nat} {ax:a'} {Q:Exit->Act->World->Prop}:∀(L:List (bx × Nat)) (s:a') (cs:List dL) (σ:Nat->Option (Nat × Nat)) (a:Act) (w:World),
 (∀p∈L,∃o,ops[p.2]? =some o/\oH P N ops o=some p.1)->L.Pairwise (fun p q=>p.2<q.2)->df G tab cC bs L s=some (ax,cs)->
 eY P G Y gK bV base okin N cW cX (fun id=>∃p∈L,id=bs+p.2) σ s a w->
 (∀bE eh a_,eY P G Y gK bV base okin N cW cX (fun _=>False) bE ax eh a_->dk base okin σ s.h w bE ax.h a_->Q .normal eh a_)->wpOpsIn c9 dH P ops Q (L.map (·.2)) a w
 | [],s,cs,σ,a,w,_,_,cI,S,dN=>by
   simp only[df] at cI;cases cI
   exact dN σ a w (S.weaken fun _ h=>h.elim) (dk.refl ..)
 | (e,i)::L,s,cs,σ,a,w,a8,bA,cI,S,dN=>by
   simp only[df] at cI
   split at cI<;>try(cases cI;done)
   rename_i s1 c ab
   obtain⟨p,h2,aX⟩:=Option.map_eq_some_iff.1 cI
   obtain⟨s2,Dr⟩:=p
   have pO:s2=ax:=congrArg Prod.fst aX
   subst pO
   obtain⟨o,aK,wa⟩:=a8 (e,i) (by simp)
   rw[List.map_cons,wpOpsIn_cons]
   refine Dp bQ gI kK aK wa ab S ⟨(e,i),by simp,rfl⟩ (fun bE eh a_ lK aj=>?_)
   refine Dq bQ gI kK L s1 Dr bE eh a_ (fun p a4=>a8 p (by simp[a4])) (List.pairwise_cons.1 bA).2 h2 (lK.weaken ?_) (fun y2 y3 y4 y5 qI=>dN y2 y3 y4 y5 (aj.trans qI))
   rintro id ⟨p,a4,rfl⟩
   refine⟨⟨p,by simp[a4],rfl⟩,?_⟩
   have:=(List.pairwise_cons.1 bA).1 p a4
   simp only at this|-
   omega
theorem KY {ops:Array Oper} {b:List Nat} (h:vL ops b=true) {i k:Nat} {o:Oper} (aK:ops[i]? =some o) (aE:k<i) (aj:(b.getD i 0).testBit k=true):
 ∃e∈o.after,Region.binds .any e=true/\(e.on=k\/(k<e.on/\(b.getD e.on 0).testBit k=true)):=by
 unfold vL at h
 have ab:=List.all_eq_true.1 h (o,i) (by
  rw[List.mem_zipIdx_iff_getElem?]
  simpa using aK)
 have h2:=List.all_eq_true.1 ab k (by simpa using aE)
 simp only[aj,Bool.not_true,Bool.false_or] at h2
 obtain⟨e,he,aX⟩:=Array.any_eq_true'.1 h2
 simp only[Bool.and_eq_true,Bool.or_eq_true,beq_iff_eq,decide_eq_true_eq] at aX
 exact⟨e,he,aX.1,aX.2⟩
theorem Ds {ops:Array Oper} (h:vK ops=true) {i:Nat} {o:Oper} (aK:ops[i]? =some o) {e:Edge} (he:e∈o.after) (aj:Region.binds .any e=true):e.on<i:=by
 unfold vK at h
 have ab:=List.all_eq_true.1 h (o,i) (by
  rw[List.mem_zipIdx_iff_getElem?]
  simpa using aK)
 have h2:=Array.all_eq_true'.1 ab e he
 simpa[aj] using h2
structure Left (P:Program) (N:Nat) (ops:Array Oper) (b:List Nat) (L:List (bx × Nat)) (cs:List dL) (listed:Array Bool):Prop where
 size:listed.size=ops.size
 mem:∀p∈L,∃o,ops[p.2]? =some o/\oH P N ops o=some p.1/\listed.getD p.2 true=false
 all:∀i,i<ops.size->listed.getD i true=false->∃e,(e,i)∈L
 wb:L.Pairwise (fun p q=>p.2<q.2)
 shut:∀i,i<ops.size->listed.getD i false=true->∀k,k<i->(b.getD i 0).testBit k=true->listed.getD k false=true
 Dt:∀p q (a4:p<q) (bc:q<L.length) (pH:q<cs.length),(b.getD L[q].2 0).testBit L[p].2=true\/(L[p].1.apart L[q].1=true/\ke cs[p] cs[q]=true)
theorem KZ {listed:Array Bool} {n i:Nat} (aG:listed.size=n) (ag:i<n):listed.getD i true=false\/listed.getD i false=true:=by
 have:i<listed.size:=by omega
 simp only[Array.getD_eq_getD_getElem?,Array.getElem?_eq_getElem this,Option.getD_some]
 cases listed[i]<;>simp
theorem K0 (bQ:gX c9) (gI:sh P G Y cC) (kK:∀f T,tab f=some T->br P G f T) {ops:Array Oper} {b:List Nat} (K1:vL ops b=true) (Du:vK ops=true) {bs:Nat} {ax:a'} {Q:Exit->Act->World->Prop}:
 ∀(fuel:Nat) (L:List (bx × Nat)) (s:a') (cs:List dL) (listed:Array Bool) (σ:Nat->Option (Nat × Nat)) (a:Act) (w:World),L.length<=fuel->
 Left P N ops b L cs listed->df G tab cC bs L s=some (ax,cs)->
 eY P G Y gK bV base okin N cW cX (fun id=>∃p∈L,id=bs+p.2) σ s a w->
 (∀bE eh a_,eY P G Y gK bV base okin N cW cX (fun _=>False) bE ax eh a_->dk base okin σ s.h w bE ax.h a_->Q .normal eh a_)->wpAnyIn c9 dH P .any ops Q fuel listed a w:=by
 have fin:∀(s:a') (cs:List dL) (σ:Nat->Option (Nat × Nat)) (a:Act) (w:World),df G tab cC bs [] s=some (ax,cs)->
  eY P G Y gK bV base okin N cW cX (fun id=>∃p∈([]:List (bx × Nat)),id=bs+p.2) σ s a w->
  (∀bE eh a_,eY P G Y gK bV base okin N cW cX (fun _=>False) bE ax eh a_->dk base okin σ s.h w bE ax.h a_->Q .normal eh a_)->Q .normal a w:=by
  intro s cs σ a w cI S dN
  simp only[df] at cI;cases cI
  exact dN σ a w (S.weaken fun _ h=>h.elim) (dk.refl ..)
 have K2:∀ {cs:List dL} {listed:Array Bool},Left P N ops b [] cs listed->Region.ready .any ops listed= []:=by
  intro cs listed a8
  apply List.eq_nil_iff_forall_not_mem.2
  intro i ag
  have ba:=mem_ready.1 ag
  obtain⟨aV,o,aK,_⟩:=ba
  obtain⟨e,he⟩:=a8.all i (Array.getElem?_eq_some_iff.1 aK).1 aV
  simp at he
 intro fuel
 induction fuel with
 | zero=>
   intro L s cs listed σ a w bI a8 cI S dN
   have:L= []:=List.eq_nil_of_length_eq_zero (by omega)
   subst this
   exact⟨K2 a8,fin s cs σ a w cI S dN⟩
 | succ fuel bC=>
   intro L s cs listed σ a w bI a8 cI S dN
   refine⟨fun ba=>?_,fun i ag=>?_⟩
   · cases L with
     | nil=>exact fin s cs σ a w cI S dN
     | cons p L=>
       exfalso
       obtain⟨o,aK,wa,aV⟩:=a8.mem p (by simp)
       have:p.2∈Region.ready .any ops listed:=by
        refine mem_ready.2 ⟨aV,o,aK,fun e he aj=>?_⟩
        have bO:=Ds Du aK he aj
        have cy:=(Array.getElem?_eq_some_iff.1 aK).1
        rcases KZ a8.size (show e.on<ops.size by omega) with ab|ab
        · obtain⟨q,bc⟩:=a8.all e.on (by omega) ab
          rcases List.mem_cons.1 bc with bc|bc
          · rw[<-bc] at bO;simp at bO
          · have:=(List.pairwise_cons.1 a8.wb).1 _ bc
            simp at this;omega
        · exact ab
       rw[ba] at this;simp at this
   · obtain⟨aV,o,aK,K3⟩:=mem_ready.1 ag
     have r_:=(Array.getElem?_eq_some_iff.1 aK).1
     obtain⟨e,he⟩:=a8.all i r_ aV
     obtain⟨eX,kB,rfl⟩:=List.append_of_mem he
     have v5:∀k,k<i->listed.getD k false=false->(b.getD i 0).testBit k=false:=by
      intro k aE sj
      cases a7:(b.getD i 0).testBit k with
      | false=>rfl
      | true=>
        exfalso
        obtain⟨Dv,ab,h2,aX⟩:=KY K1 aK aE a7
        have Dw:=K3 Dv ab h2
        rcases aX with rfl|⟨aX,aW⟩
        · rw[Dw] at sj;cases sj
        · have bO:=Ds Du aK ab h2
          have:=a8.shut Dv.on (by omega) Dw k aX aW
          rw[this] at sj;cases sj
     have hlen:=yZ cI
     have K4:∀p∈eX++(e,i)::kB,listed.getD p.2 false=false:=by
      intro p a4
      obtain⟨o',oI,_,pE⟩:=a8.mem p a4
      have cy:=(Array.getElem?_eq_some_iff.1 oI).1
      have jV:p.2<listed.size:=by rw[a8.size];exact cy
      simp only[Array.getD_eq_getD_getElem?,Array.getElem?_eq_getElem jV,Option.getD_some] at pE|-
      exact pE
     obtain⟨s1,c,cz,cq,aa,af,rfl,ad⟩:=Da cI (fun k aE ha pE=>by
      have oO:(eX++(e,i)::kB)[k]'(by simp;omega)=eX[k]:=List.getElem_append_left aE
      have uk:(eX++(e,i)::kB)[eX.length]'(by simp)=(e,i):=by simp
      have a4:=a8.Dt k eX.length aE (by simp) pE
      rw[oO,uk] at a4
      have bO:eX[k].2<i:=by
       have:=List.pairwise_append.1 a8.wb
       exact this.2.2 _ (List.getElem_mem aE) (e,i) (by simp)
      have bI:=v5 eX[k].2 bO (K4 _ (by simp[List.getElem_mem aE]))
      rcases a4 with a4|a4
      · rw[bI] at a4;cases a4
      · exact⟨a4.1,a4.2,by omega⟩) gI.frame (by
        have K5:=S.free (bs+i) ⟨(e,i),by simp,rfl⟩
        cases aj:s.h.cells (bs+i) with
        | none=>rfl
        | some b=>
          obtain⟨_,_,_,_,ab,_⟩:=S.aG.blk _ _ aj
          rw[K5.2.2] at ab;cases ab) (S.free (bs+i) ⟨(e,i),by simp,rfl⟩).2.1
     obtain⟨o',oI,wa,_⟩:=a8.mem (e,i) (by simp)
     refine Dp bQ gI kK oI wa aa S ⟨(e,i),by simp,rfl⟩ (fun bE eh a_ lK fR=>?_)
     have Dx:∀p∈eX++kB,p.2≠i:=by
      intro p a4
      have bc:=List.pairwise_append.1 a8.wb
      rcases List.mem_append.1 a4 with a4|a4
      · have:=bc.2.2 p a4 (e,i) (by simp);simp at this;omega
      · have:=(List.pairwise_cons.1 bc.2.1).1 p a4;simp at this;omega
     have Dy:∀p∈eX++kB,p∈eX++(e,i)::kB:=by
      intro p a4
      rcases List.mem_append.1 a4 with a4|a4
      · simp[a4]
      · simp[a4]
     have sk:∀(j:Nat) (d:Bool),j≠i->(listed.setIfInBounds i true).getD j d=listed.getD j d:=fun j d aZ=>by
      simp only[Array.getD_eq_getD_getElem?]
      rw[Array.getElem?_setIfInBounds_ne (Ne.symm aZ)]
     have K6:(listed.setIfInBounds i true).getD i false=true:=by
      have:i<listed.size:=by rw[a8.size];exact r_
      simp[Array.getD_eq_getD_getElem?,this]
     have K7:Left P N ops b (eX++kB) (cz++cq) (listed.setIfInBounds i true):=by
      refine⟨by simpa using a8.size,fun p a4=>?_,fun j aZ qt=>?_,?_,fun j aZ qt k aE a7=>?_,fun p q a4 bc pH=>?_⟩
      · obtain⟨dQ,ab,h2,aX⟩:=a8.mem p (Dy p a4)
        exact⟨dQ,ab,h2,by rw[sk _ _ (Dx p a4)];exact aX⟩
      · by_cases pP:j=i
        · subst pP
          have:j<listed.size:=by rw[a8.size];exact r_
          simp[Array.getD_eq_getD_getElem?,this] at qt
        · rw[sk _ _ pP] at qt
          obtain⟨e',K8⟩:=a8.all j aZ qt
          refine⟨e',?_⟩
          rcases List.mem_append.1 K8 with h|h
          · simp[h]
          · rcases List.mem_cons.1 h with h|h
            · exact absurd (congrArg Prod.snd h) pP
            · simp[h]
      · have bc:=List.pairwise_append.1 a8.wb
        exact List.pairwise_append.2 ⟨bc.1,(List.pairwise_cons.1 bc.2.1).2,fun p a4 q pH=>bc.2.2 p a4 q (by simp[pH])⟩
      · by_cases Dz:k=i
        · subst Dz;exact K6
        · rw[sk _ _ Dz]
          by_cases pP:j=i
          · subst pP
            cases sj:listed.getD k false with
            | true=>rfl
            | false=>rw[v5 k aE sj] at a7;cases a7
          · rw[sk _ _ pP] at qt
            exact a8.shut j aZ qt k aE a7
      ·
       have qJ:cz.length=eX.length:=ad
       have pos:∀(r:Nat) (ba:r<(eX++kB).length) (m2:r<(cz++cq).length),∃gq,(gq=if r<eX.length then r else r+1)/\∃(ab:gq<(eX++(e,i)::kB).length) (h2:gq<(cz++c::cq).length),(eX++kB)[r]=(eX++(e,i)::kB)[gq]/\(cz++cq)[r]=(cz++c::cq)[gq]:=by
        intro r ba m2
        simp only[List.length_append] at ba m2
        by_cases h:r<eX.length
        · refine⟨r,by rw[if_pos h],by simp;omega,by simp;omega,?_,?_⟩
          · rw[List.getElem_append_left h,List.getElem_append_left h]
          · rw[List.getElem_append_left (by omega),List.getElem_append_left (by omega)]
        · refine⟨r+1,by rw[if_neg h],by simp;omega,by simp;omega,?_,?_⟩
          · rw[List.getElem_append_right (by omega),List.getElem_append_right (by omega)]
            have:r+1 - eX.length=(r - eX.length)+1:=by omega
            simp[this]
          · rw[List.getElem_append_right (by omega),List.getElem_append_right (by omega)]
            have:r+1 - cz.length=(r - cz.length)+1:=by omega
            simp[this]
       obtain⟨m7,K9,dS,fC,kJ,sm⟩:=pos p (by omega) (by omega)
       obtain⟨mj,K_,dy,dB,ga,ky⟩:=pos q bc pH
       have:=a8.Dt m7 mj (by subst K9;subst K_;split<;>split<;>omega) dy dB
       rw[kJ,ga,sm,ky]
       exact this
     refine bC (eX++kB) s1 (cz++cq) (listed.setIfInBounds i true) bE eh a_ (by simp at bI|-;omega) K7 af (lK.weaken ?_) (fun y2 y3 y4 y5 qI=>dN y2 y3 y4 y5 (fR.trans qI))
     rintro id ⟨p,a4,rfl⟩
     exact⟨⟨p,Dy p a4,rfl⟩,by have:=Dx p a4;omega⟩
theorem DA {ops:Array Oper}:∀ {os:List Oper} {es:List bx},uc P N ops os=some es->es.length=os.length/\∀i (h:i<es.length) (av:i<os.length),oH P N ops os[i]=some es[i]
 | [],es,h=>by simp only[uc] at h;cases h;exact⟨rfl,fun i h=>absurd h (by simp)⟩
 | o::os,es,h=>by
   simp only[uc] at h
   split at h<;>try(cases h;done)
   rename_i e pF ab h2
   cases h
   obtain⟨l,q⟩:=DA h2
   refine⟨by simp[l],fun i ag b_=>?_⟩
   cases i with
   | zero=>exact ab
   | succ i=>exact q i (by simpa using ag) (by simpa using b_)
end
end Go.Eng
namespace Go.Eng
open Go Go.RowKit
section
variable {P:Program} {G:Nat->Option J} {base:Nat} {okin:Nat->Prop} {σ:Nat->Option (Nat × Nat)} {h:aA} {w:World}
theorem y6 {l:Nat} {o o':Obj} (aV:w.heap[l]? =some o) (ar:∀arr ty e,o≠ .cells arr ty e) (n8:∀es c,o≠ .map es c) (ok:Nat->Prop):rZ w (w.putObj l o') ok ok:=fun b x aj aE aK=>
 ⟨aK,World.putObj_heap_other (by
   rintro rfl
   rw[aV] at aj
   cases aj
   rcases aE with⟨_,_,_,rfl⟩|⟨_,_,rfl⟩
   · exact ar _ _ _ rfl
   · exact n8 _ _ rfl)⟩
theorem y7 {l:Nat} {o o':Obj} (aV:w.heap[l]? =some o) (ar:∀arr ty e,o≠ .cells arr ty e) (b:Nat):fM w b<=fM (w.putObj l o') b:=by
 by_cases e:b=l
 · subst e
   have:fM w b=0:=by
    unfold fM
    rw[aV]
    cases o<;>first|rfl|exact absurd rfl (ar _ _ _)
   omega
 · unfold fM
   rw[World.putObj_heap_other e];exact Nat.le_refl _
theorem cS.put (H:cS base okin σ h w) {l:Nat} {o:Obj} (o':Obj) (aV:w.heap[l]? =some o) (ar:∀arr ty e,o≠ .cells arr ty e) (n8:∀es c,o≠ .map es c):cS base okin σ h (w.putObj l o'):=by
 refine⟨fun id b s ag=>⟨(H.val id b s ag).1,by simpa using (H.val id b s ag).2⟩,fun id fp f_=>?_,H.inj,by simpa using H.base⟩
 obtain⟨b,s,pG,ty,aq,aB,bg⟩:=H.blk id fp f_
 refine⟨b,s,pG,ty,aq,?_,fun i ag=>⟨(bg i ag).1,fun j aZ=>?_⟩⟩
 · rw[World.putObj_heap_other (by rintro rfl;rw[aV] at aB;exact ar _ _ _ (Option.some.inj aB))];exact aB
 · obtain⟨v,bz,bR⟩:=(bg i ag).2 j aZ
   exact⟨v,bz,bR.mono (y6 aV ar n8 _) (fun _ _ x=>x) (y7 aV ar)⟩
theorem DB {l:Nat} (o':Obj) (aj:base<=l):Below base w (w.putObj l o'):=⟨rfl,rfl,rfl,by simp,fun k aE=>World.putObj_heap_other (by omega)⟩
theorem dk.y8 {l:Nat} {r:Loop} (aV:w.heap[l]? =some (.loop r)) (aj:base<=l) (st:LoopState) (gY:Option Code) {av:aA} (hC:∀b,bN base okin σ h b->bN base okin σ av b):
 dk base okin σ h w σ av (w.putObj l (.loop {r with state:=st,pending:=gY})):=by
 have ar:∀arr ty e,Obj.loop r≠ .cells arr ty e:=fun _ _ _ h=>by cases h
 have n8:∀es c,Obj.loop r≠ .map es c:=fun _ _ h=>by cases h
 refine⟨fun _ _ x=>x,fun b o ab aE h2=>⟨hC b h2,(y6 aV ar n8 (fun _=>True) b o ab aE trivial).2⟩,DB _ aj,y7 aV ar,fun b r0 aJ=>?_,fun b aJ=>?_⟩
 · by_cases e:b=l
   · subst e
     rw[aV] at aJ;cases aJ
     exact⟨st,gY,World.putObj_heap_same (oT aV)⟩
   · exact⟨r0.state,r0.pending,by rw[World.putObj_heap_other e];exact aJ⟩
 · rw[World.putObj_heap_other (by rintro rfl;rw[aV] at aJ;cases aJ)];exact aJ
theorem hg.set {bm:Nat->Option fw} (L:hg σ bm w) {id l s:Nat} {r:Loop} {k_:fw} (a4:bm id=some k_) (oa:σ id=some (l,s)) (aV:w.heap[l]? =some (.loop r)) (p:fw):
 hg σ (aF bm id (some p)) (w.putObj l (.loop {r with state:=nE p,pending:=nF p})):=by
 refine⟨fun fB q bc=>?_,fun i f' q mj a s1 s2 ab h2 aq aB=>?_⟩
 · by_cases e:fB=id
   · subst e
     simp only[aF,if_true] at bc
     cases bc
     exact⟨l,s,_,oa,World.putObj_heap_same (oT aV),rfl,rfl⟩
   · simp only[aF,e,if_false] at bc
     obtain⟨lr,ax,gq,aq,aB,bg,bT⟩:=L.look fB q bc
     refine⟨lr,ax,gq,aq,?_,bg,bT⟩
     rw[World.putObj_heap_other]
     · exact aB
     · rintro rfl
       exact e (L.inj fB id q k_ _ _ _ bc a4 aq oa)
 · have f:∀i q,aF bm id (some p) i=some q->∃q,bm i=some q:=by
    intro i q bc
    by_cases e:i=id
    · subst e;exact⟨k_,a4⟩
    · exact⟨q,by simpa[aF,e] using bc⟩
   obtain⟨dy,ab⟩:=f i q ab
   obtain⟨dB,h2⟩:=f f' mj h2
   exact L.inj i f' dy dB a s1 s2 ab h2 aq aB
theorem hg.del {bm:Nat->Option fw} (L:hg σ bm w) {id l s:Nat} {k_:fw} (a4:bm id=some k_) (oa:σ id=some (l,s)) (o':Obj):hg σ (aF bm id none) (w.putObj l o'):=by
 have f:∀i q,aF bm id none i=some q->i≠id/\bm i=some q:=by
  intro i q bc
  by_cases e:i=id
  · simp[aF,e] at bc
  · exact⟨e,by simpa[aF,e] using bc⟩
 refine⟨fun fB q bc=>?_,fun i f' q mj a s1 s2 ab h2 aq aB=>L.inj i f' q mj a s1 s2 (f i q ab).2 (f f' mj h2).2 aq aB⟩
 obtain⟨e,bc⟩:=f fB q bc
 obtain⟨lr,ax,gq,aq,aB,bg,bT⟩:=L.look fB q bc
 refine⟨lr,ax,gq,aq,?_,bg,bT⟩
 rw[World.putObj_heap_other]
 · exact aB
 · rintro rfl
   exact e (L.inj fB id q k_ _ _ _ bc a4 aq oa)
theorem hg.add {bm:Nat->Option fw} (L:hg σ bm w) (lq:∀id b s,σ id=some (b,s)->b<w.heap.size) {id:Nat} (bS:σ id=none) {b4:World} (aj:Below w.heap.size w b4) {l:Nat} (bO:w.heap.size<=l) {r:Loop}
 (aV:b4.heap[l]? =some (.loop r)) (aG:r.state= .ready) (a4:r.pending=none):hg (aF σ id (some (l,0))) (aF bm id (some .ready)) b4:=by
 refine⟨fun fB q bc=>?_,fun i f' q mj a s1 s2 ab h2 aq aB=>?_⟩
 · by_cases e:fB=id
   · subst e
     simp only[aF,if_true] at bc
     cases bc
     exact⟨l,0,r,by simp[aF],aV,aG,a4⟩
   · simp only[aF,e,if_false] at bc
     obtain⟨lr,ax,gq,aq,aB,bg,bT⟩:=L.look fB q bc
     exact⟨lr,ax,gq,by simpa[aF,e] using aq,by rw[aj.block lr (oT aB)];exact aB,bg,bT⟩
 · by_cases e:i=id<;>by_cases e':f'=id
   · rw[e,e']
   · exfalso
     simp only[aF,e,e',if_true,if_false] at aq aB
     have:=lq _ _ _ aB
     cases aq;omega
   · exfalso
     simp only[aF,e,e',if_true,if_false] at aq aB
     have:=lq _ _ _ aq
     cases aB;omega
   · simp only[aF,e,e',if_false] at ab h2 aq aB
     exact L.inj i f' q mj a s1 s2 ab h2 aq aB
theorem cS.named (H:cS base okin σ h w) {id l:Nat} (bS:σ id=none) (aj:base<=l) (aV:l<w.heap.size):cS base okin (aF σ id (some (l,0))) h w/\Prog base okin σ h w (aF σ id (some (l,0))) h w:=by
 have I:=H.ye bS
 have sub:∀i x,σ i=some x->aF σ id (some (l,0)) i=some x:=by
  intro i x ak
  unfold aF
  by_cases e:i=id
  · subst e;rw[bS] at ak;cases ak
  · rw[if_neg e];exact ak
 have ok:∀b,bN base okin σ h b->bN base okin (aF σ id (some (l,0))) h b:=by
  rintro b (aK|⟨ab,h2⟩)
  · exact .inl aK
  · refine .inr ⟨ab,fun i s aG y9=>?_⟩
    by_cases e:i=id
    · subst e;rw[I] at y9;simp at y9
    · exact h2 i s (by simpa[aF,e] using aG) y9
 have P:Prog base okin σ h w (aF σ id (some (l,0))) h w:=⟨sub,fun b _ aK=>⟨ok b aK,rfl⟩,Below.refl _ _,fun _=>Nat.le_refl _⟩
 refine⟨⟨fun i b s ag=>?_,fun i fp f_=>?_,fun i f' b s ax ab h2 aq aB=>?_,H.base⟩,P⟩
 · by_cases e:i=id
   · simp only[aF,e,if_true] at ag;cases ag;exact⟨aj,aV⟩
   · simp only[aF,e,if_false] at ag;exact H.val i b s ag
 · obtain⟨b,s,pG,ty,aq,aB,bg⟩:=H.blk i fp f_
   refine⟨b,s,pG,ty,sub _ _ aq,aB,fun j aZ=>⟨(bg j aZ).1,fun k aE=>?_⟩⟩
   obtain⟨v,bz,bR⟩:=(bg j aZ).2 k aE
   exact⟨v,bz,P.rep bR⟩
 · have k6:i≠id:=by rintro rfl;rw[I] at ab;simp at ab
   have lF:f'≠id:=by rintro rfl;rw[I] at h2;simp at h2
   exact H.inj i f' b s ax ab h2 (by simpa[aF,k6] using aq) (by simpa[aF,lF] using aB)
inductive Drop (bV:Nat):World->World->Prop
 | refl (w:World):Drop bV w w
 | step {w dd:World} {D:Nat}:bV<=D->w.heap[D]? =some (.deferred (some []))->Drop bV (w.putObj D (.deferred none)) dd->Drop bV w dd
theorem Drop.keeps {bV:Nat} {w dd:World} (d:Drop bV w dd):∀ {uH:World} {cX:Nat->Option (Nat × Nat)} {aJ:aA},bV=uH.heap.size->base<=bV->dk base okin cX aJ uH σ h w->cS base okin σ h w->hg σ h.bm w->
 dk base okin cX aJ uH σ h dd/\cS base okin σ h dd/\hg σ h.bm dd/\(∀v cv,bu w (bN base okin σ h) σ v cv->bu dd (bN base okin σ h) σ v cv):=by
 induction d with
 | refl w=>exact fun _ _ p H L=>⟨p,H,L,fun _ _ r=>r⟩
 | @step w dd D ab h2 _ bC=>
   intro uH cX aJ he aj p H L
   have ar:∀arr ty e,Obj.deferred (some [])≠ .cells arr ty e:=fun _ _ _ h=>by cases h
   have n8:∀es c,Obj.deferred (some [])≠ .map es c:=fun _ _ h=>by cases h
   have st:=y6 (o':= .deferred none) h2 ar n8 (bN base okin σ h)
   have DC:=y7 (o':= .deferred none) h2 ar
   have fC:dk base okin cX aJ uH σ h (w.putObj D (.deferred none)):=by
    refine⟨p.sub,fun b o bz DD bR=>?_,p.below.trans (DB _ (Nat.le_trans aj ab)),fun b=>Nat.le_trans (p.grow b) (DC b),fun b r g=>?_,fun b g=>?_⟩
    · obtain⟨dQ,aq⟩:=p.still b o bz DD bR
      obtain⟨c8,aB⟩:=st b o (by rw[aq];exact bz) DD dQ
      exact⟨c8,aB.trans aq⟩
    · obtain⟨s1,dS,aq⟩:=p.loop b r g
      exact⟨s1,dS,by rw[World.putObj_heap_other (by rintro rfl;rw[h2] at aq;cases aq)];exact aq⟩
    · have:=oT g
      rw[World.putObj_heap_other (by omega)]
      exact p.nD b g
   have kB:hg σ h.bm (w.putObj D (.deferred none)):=⟨fun id q bc=>by
    obtain⟨l,s,r,aq,aB,bg,bT⟩:=L.look id q bc
    exact⟨l,s,r,aq,by rw[World.putObj_heap_other (by rintro rfl;rw[h2] at aB;cases aB)];exact aB,bg,bT⟩,L.inj⟩
   obtain⟨dy,dB,ga,ky⟩:=bC he aj fC (H.put _ h2 ar n8) kB
   exact⟨dy,dB,ga,fun v cv r=>ky v cv (r.mono st (fun _ _ x=>x) DC)⟩
theorem DE {Fn:Func} {tmps:Array Value} {R:Ending->World->Prop} {bV:Nat}:∀(c3:List Deferred) (w:World),Marks bV c3 w->(∀dd,Drop bV w dd->∃v,(results Fn tmps).run P dd= .ok v dd/\R (.returned v) dd)->
 LeavesInM Fence.wide 0 P Fn tmps R c3 .returning w
 | [],w,_,dI=>dI w (.refl w)
 | d::c3,w,M,dI=>by
   obtain⟨D,ab,h2,aX⟩:=M.each d (by simp)
   refine⟨by simp,.inl ⟨D,w.putObj D (.deferred none),ab,run_takeDeferred aX,DE c3 _ ⟨fun oF sn=>?_,(List.pairwise_cons.1 M.nodup).2⟩ (fun dd bA=>dI dd (.step h2 aX bA))⟩⟩
   obtain⟨DF,bz,bR,e6⟩:=M.each oF (by simp[sn])
   refine⟨DF,bz,bR,?_⟩
   rw[World.putObj_heap_other]
   · exact e6
   · rintro rfl
     exact(List.pairwise_cons.1 M.nodup).1 oF sn (by rw[ab,bz])
end
end Go.Eng
namespace Go.Eng
open Go Go.RowKit
def wc:de->Exit
 | .normal=> .normal
 | .exit id=> .exit id
 | .ret=> .ret
section
variable {P:Program} {G:Nat->Option J} {base:Nat} {okin:Nat->Prop} {N:Nat} {cW:Nat} {cX:Nat->Option (Nat × Nat)} {tab:FuncId->Option (List J->Option J)} {Y:List c4} {gK:Option Nat} {bV:Nat}
theorem eY.bump {cH:Nat->Prop} {σ:Nat->Option (Nat × Nat)} {s:a'} {a:Act} {w:World} (S:eY P G Y gK bV base okin N cW cX cH σ s a w) (m:Nat):
 eY P G Y gK bV base okin N cW cX (fun id=>s.h.next<=id/\id<s.h.next+m) σ ⟨s.F,{s.h with next:=s.h.next+m}⟩ a w:=
 ⟨⟨S.aG.val,S.aG.blk,S.aG.inj,S.aG.base⟩,S.k9,S.gG,S.bX,S.size,S.marks,S.rd,S.qH,fun id bS=>⟨Nat.le_trans S.low bS.1,bS.2,S.fresh id bS.1⟩,Nat.le_trans S.low (Nat.le_add_right _ _),S.lJ,fun id bS=>S.fresh id (Nat.le_trans (Nat.le_add_right _ _) bS)⟩
theorem dk.next {σ bE:Nat->Option (Nat × Nat)} {h av:aA} {w a_:World} {m:Nat} (p:dk base okin σ {h with next:=m} w bE av a_):dk base okin σ h w bE av a_:=⟨p.sub,p.still,p.below,p.grow,p.loop,p.nD⟩
theorem eY.drew {cH:Nat->Prop} {σ:Nat->Option (Nat × Nat)} {s:a'} {a:Act} {w:World} (S:eY P G Y gK bV base okin N cW cX cH σ s a w):eY P G Y gK bV base okin N cW cX cH σ s a w.drew:=by
 obtain⟨H,p⟩:=S.aG.drew
 have q:=dk.of S.aG p
 exact⟨H,S.k9.of S.aG p rfl,S.gG.mono q,S.bX.mono q,S.size,S.marks.mono q.nD,fun l aV=>by
  obtain⟨r,ab⟩:=S.rd l aV
  obtain⟨st,gY,h2⟩:=q.loop l r ab
  exact⟨_,h2⟩,Nat.le_trans S.qH q.below.size,S.free,S.low,S.lJ,S.fresh⟩
theorem K' (hm:P.follows .mixedOrders=true) {c9:Fence} {dH:Nat} (bQ:gX c9) {cC:kv->List J->aA->Option (J × aA)} (gI:sh P G Y cC) (kK:∀f T,tab f=some T->br P G f T)
 {id:Nat} {ops:Array Oper} {draw:Bool} {es:List bx} {b:List Nat} {jW:Bool} (I:fm P N (.region id ops draw)=some (.region jW es b)) {s ax:a'} (cI:eQ G tab cC jW es b s=some ax)
 {cH:Nat->Prop} {σ:Nat->Option (Nat × Nat)} {a:Act} {w:World} (S:eY P G Y gK bV base okin N cW cX cH σ s a w) {Q:Exit->Act->World->Prop}
 (dN:∀bE eh a_,eY P G Y gK bV base okin N cW cX (fun _=>False) bE ax eh a_->dk base okin σ s.h w bE ax.h a_->Q .normal eh a_):(Code.region id ops draw).wpIn c9 dH P Q a w:=by
 simp only[fm] at I
 split at I<;>try(cases I;done)
 rename_i DG La
 obtain⟨cP,dy⟩:=DA La
 have cy:DG.length=ops.size:=by simpa using cP
 unfold eQ at cI
 split at cI<;>try(cases cI;done)
 rename_i s1 cs ba
 split at cI<;>try(cases cI;done)
 rename_i hC
 cases cI
 have we:∀(es:List bx),es=DG->∀p∈es.zipIdx,∃o,ops[p.2]? =some o/\oH P N ops o=some p.1/\p.2<ops.size:=by
  rintro es rfl p a4
  obtain⟨e,i⟩:=p
  have ab:=List.mem_zipIdx_iff_getElem?.1 a4
  simp only at ab
  obtain⟨ag,rfl⟩:=List.getElem?_eq_some_iff.1 ab
  have b_:i<ops.toList.length:=by simp;omega
  have:=dy i ag b_
  refine⟨ops[i]'(by simpa using b_),by simp[Array.getElem?_eq_getElem (show i<ops.size by simpa using b_)],by simpa using this,by simpa using b_⟩
 have DH:∀(es:List bx),es.zipIdx.Pairwise (fun p q=>p.2<q.2):=by
  intro es
  rw[List.pairwise_iff_getElem]
  intro i j ag aZ Lb
  simpa using Lb
 cases draw with
 | false=>
   simp only[Bool.false_eq_true,if_false] at I
   cases I
   refine wpIn_region ?_
   have Lc:es.zipIdx.map (·.2)=List.range ops.size:=by
    rw[<-cy]
    apply List.ext_getElem
    · simp
    · intro i ab h2;simp
   rw[<-Lc]
   refine Dq bQ gI kK _ _ cs σ a w (fun p a4=>by obtain⟨o,ab,h2,_⟩:=we es rfl p a4;exact⟨o,ab,h2⟩) (DH es) ba ((S.bump es.length).weaken ?_) (fun bE eh a_ lK aj=>dN bE eh a_ lK aj.next)
   rintro id ⟨p,a4,rfl⟩
   obtain⟨_,_,_,aX⟩:=we es rfl p a4
   exact⟨Nat.le_add_right _ _,by omega⟩
 | true=>
   simp only[if_true] at I
   split at I<;>try(cases I;done)
   rename_i DI
   cases I
   simp only[Bool.and_eq_true] at DI
   obtain⟨⟨⟨k6,lF⟩,yk⟩,VY⟩:=DI
   simp only[Bool.not_true,Bool.false_or] at hC
   refine wpIn_region_any hm ?_
   have hlen:=yZ ba
   refine K0 bQ gI kK yk lF ops.size es.zipIdx _ cs _ σ a _ (by simp;omega) ?_ ba (((S.drew).bump es.length).weaken ?_) (fun bE eh a_ lK aj=>dN bE eh a_ lK ?_)
   · refine⟨by simp,fun p a4=>?_,fun i ag _=>?_,DH es,fun i ag aV=>?_,fun p q a4 bc pH=>?_⟩
     · obtain⟨o,ab,h2,aX⟩:=we es rfl p a4
       exact⟨o,ab,h2,by simp[Array.getD_eq_getD_getElem?,aX]⟩
     · exact⟨es[i]'(by omega),by rw[List.mem_zipIdx_iff_getElem?];simp[List.getElem?_eq_getElem (show i<es.length by omega)]⟩
     · simp[Array.getD_eq_getD_getElem?,ag] at aV
     · have pI:q<es.length:=by simpa using bc
       have od:p<es.length:=by omega
       simp only[List.getElem_zipIdx,Nat.zero_add]
       have a1:=List.all_eq_true.1 k6 (es[q],q) (by rw[List.mem_zipIdx_iff_getElem?];simp[List.getElem?_eq_getElem pI])
       have eC:=List.all_eq_true.1 a1 (es[p],p) (by rw[List.mem_zipIdx_iff_getElem?];simp[List.getElem?_eq_getElem od])
       have b1:=List.all_eq_true.1 hC (cs[q],q) (by rw[List.mem_zipIdx_iff_getElem?];simp[List.getElem?_eq_getElem pH])
       have da:=List.all_eq_true.1 b1 (cs[p]'(by omega),p) (by rw[List.mem_zipIdx_iff_getElem?];simp[List.getElem?_eq_getElem (show p<cs.length by omega)])
       simp only[decide_eq_true a4,Bool.not_true,Bool.false_or,Bool.or_eq_true] at eC da
       rcases eC with eC|eC
       · exact .inl eC
       · rcases da with da|da
         · exact .inl da
         · exact .inr ⟨eC,da⟩
   · rintro id ⟨p,a4,rfl⟩
     obtain⟨_,_,_,aX⟩:=we es rfl p a4
     exact⟨Nat.le_add_right _ _,by simp;omega⟩
   · exact dk.trans (dk.of S.aG S.aG.drew.2) aj.next
def wg (tmps:Array Value):ResultVar->Sem Value
 | .tmp t=>pure (tmps.getD t undef)
 | .cell a t=>do loadVar t (<-asAddr (tmps.getD a undef))
theorem Ld (fn:Func) (tmps:Array Value):results fn tmps=(do let vs <-fn.results.mapM (wg tmps);pure (if h:vs.size=1 then vs[0] else .tuple vs)):=by
 unfold results
 congr 1
theorem Le {fn:Func} {rs:List lX} (y_:qo P fn.results.toList=some rs) {σ:Nat->Option (Nat × Nat)} {s:a'} {a:Act} {w:World} (du:cS base okin σ s.h w) (DJ:hD G (bN base okin σ s.h) σ w s.F a) {v:J} (aR:eB s.h s.F rs=some v):
 ∃cv,(results fn a.tmps).run P w= .ok cv w/\bu w (bN base okin σ s.h) σ v cv:=by
 have main:∀(nv:List ResultVar) (rs:List lX) (vs:List J),qo P nv=some rs->rs.mapM (fA s.h s.F)=some vs->
  ∃gb:List Value,(nv.mapM (wg a.tmps)).run P w= .ok gb w/\gb.length=vs.length/\∀i (h:i<vs.length) (av:i<gb.length),bu w (bN base okin σ s.h) σ vs[i] gb[i]:=by
  intro nv
  induction nv with
  | nil=>
    intro rs vs ab h2
    simp only[qo] at ab;cases ab
    simp only[List.mapM_nil] at h2;cases h2
    exact⟨[],by simp,rfl,fun i h=>absurd h (by simp)⟩
  | cons r nv bC=>
    intro rs vs ab h2
    simp only[qo] at ab
    split at ab<;>try(cases ab;done)
    rename_i x xs ak ny
    cases ab
    rw[List.mapM_cons] at h2
    obtain⟨u,hu,h2⟩:=Option.bind_eq_some_iff.1 h2
    obtain⟨us,ym,h2⟩:=Option.bind_eq_some_iff.1 h2
    cases h2
    obtain⟨gb,aq,aB,bg⟩:=bC xs us ny ym
    have one:∃nu,(wg a.tmps r).run P w= .ok nu w/\bu w (bN base okin σ s.h) σ u nu:=by
     cases r with
     | tmp t=>
       simp only[yb] at ak;cases ak
       simp only[fA] at hu;cases hu
       exact⟨_,rfl,DJ.slot t⟩
     | cell eh t=>
       simp only[yb] at ak
       split at ak<;>try(cases ak;done)
       rename_i b' sz dx cy
       split at ak<;>try(cases ak;done)
       rename_i aW
       cases ak
       simp only[fA] at hu
       split at hu<;>try(cases hu;done)
       rename_i id idx cV bQ
       obtain⟨blk,aj,hu⟩:=Option.bind_eq_some_iff.1 hu
       obtain⟨e,he,hu⟩:=Option.bind_eq_some_iff.1 hu
       obtain⟨cs,n5,a4⟩:=Option.bind_eq_some_iff.1 hu
       have rt:=DJ.slot eh
       rw[bQ] at rt
       obtain⟨CX,cf,ev,aG⟩:=rt.ue
       obtain⟨eb,bz,bR⟩:=du.elem aj he aG n5
       obtain⟨cv,aa,af⟩:=yh (P:=P) (w:=w) (σ:=σ) (ok:=bN base okin σ s.h) dx cy aW _ eb bz (r2 n5).2.1 bR a4
       exact⟨cv,by simp[wg,ev,asAddr,aa],af⟩
    obtain⟨nu,cz,cq⟩:=one
    refine⟨nu::gb,?_,by simp[aB],fun i ag b_=>?_⟩
    · rw[List.mapM_cons]
      simp only[Sem.run_bind]
      rw[cz]
      simp only[Result.andThen_ok]
      rw[aq]
      simp
    · cases i with
      | zero=>exact cq
      | succ i=>exact bg i (by simpa using ag) (by simpa using b_)
 unfold eB at aR
 obtain⟨vs,ab,h2⟩:=Option.map_eq_some_iff.1 aR
 obtain⟨gb,aq,aB,bg⟩:=main _ _ _ y_ ab
 have cI:(results fn a.tmps).run P w= .ok (if h:gb.toArray.size=1 then gb.toArray[0] else .tuple gb.toArray) w:=by
  rw[Ld,Array.mapM_eq_mapM_toList]
  simp only[Sem.run_bind,Sem.run_map]
  rw[aq]
  simp
 refine⟨_,cI,?_⟩
 split at h2
 · rename_i v0
   subst h2
   have aV:gb.length=1:=by simpa using aB
   rw[dif_pos (by simpa using aV)]
   have:=bg 0 (by simp) (by omega)
   simpa using this
 · rename_i bP
   subst h2
   have aV:gb.length≠1:=by
    intro aV
    rw[aB] at aV
    obtain⟨v0,rfl⟩:=List.length_eq_one_iff.1 aV
    exact bP v0 rfl
   rw[dif_neg (by simpa using aV)]
   exact .ch _ _ (by simpa using aB) (fun i ag b_=>by simpa using bg i ag (by simpa using b_))
theorem Lf {fn:Func} {f:bn} (h:yc P fn=some f):∃c,fn.body=some c/\fm P fn.ntmps c=some f.body/\qo P fn.results.toList=some f.res/\fn.name≠ "runtime.NumGoroutine":=by
 unfold yc at h
 split at h<;>try(cases h;done)
 rename_i ar
 split at h<;>try(cases h;done)
 rename_i c aj
 split at h<;>try(cases h;done)
 rename_i b rs ab h2
 cases h
 exact⟨c,aj,ab,h2,by simpa using ar⟩
theorem y' {f:FuncId} {fn:Func} (bI:P.funcs[f]? =some fn) {c:Code} (aj:fn.body=some c) (ar:fn.name≠ "runtime.NumGoroutine") (args:Array Value) (w:World):(callFunc f args).run P w= .ok (.enter f args) w:=by
 simp[callFunc,bI,aj,ar]
def jX (G:Nat->Option J) (Φ:FuncId->Option bn) (tab:FuncId->Option (List J->Option J)) (n:Nat) (Y:List c4) (f:FuncId) (args:List J) (h:aA):Option (J × aA):=
 match Φ f with
 | some fn=>match exec G Φ tab n Y fn.body ⟨bj args,h⟩ with
   | some (.normal,ax)|some (.ret,ax)=>(eB ax.h ax.F fn.res).map fun v=>(v,ax.h)
   | _=>none
 | none=>none
def nG (G:Nat->Option J) (Φ:FuncId->Option bn) (tab:FuncId->Option (List J->Option J)) (n:Nat) (Y:List c4) (id:Nat) (args:List J) (h:aA):Option (J × aA):=
 match ns id Y with
 | some (L,Y')=>if L.ps.length=args.length then
    match exec G Φ tab n Y' L.dA ⟨md L.F L.ps args,h⟩ with
    | some (.normal,s1)=>match s1.h.bm id with
      | some .ready=>match exec G Φ tab n Y' L.body ⟨s1.F,s1.h.set id (some .busy)⟩ with
        | some (e,ax)=>match ax.h.bm id with
          | some .busy=>match e with
            | .normal=>some (.bool true,ax.h.set id (some .ready))
            | e=>some (.bool false,ax.h.set id (some (.done e)))
          | _=>none
        | none=>none
      | _=>none
    | _=>none
   else none
 | none=>none
def kh (G:Nat->Option J) (Φ:FuncId->Option bn) (tab:FuncId->Option (List J->Option J)) (n:Nat) (Y:List c4) (t:kv) (args:List J) (h:aA):Option (J × aA):=
 match t with
 | .fn f=>jX G Φ tab n Y f args h
 | .kI id=>nG G Φ tab n Y id args h
theorem pQ {Φ:FuncId->Option bn} {n:Nat} {f:FuncId} {args:List J} {h av:aA} {v:J} (I:jX G Φ tab n Y f args h=some (v,av)):
 ∃fn ex ax,Φ f=some fn/\exec G Φ tab n Y fn.body ⟨bj args,h⟩=some (ex,ax)/\(ex= .normal\/ex= .ret)/\eB ax.h ax.F fn.res=some v/\ax.h=av:=by
 unfold jX at I
 split at I<;>try(cases I;done)
 rename_i fn bI
 split at I
 · rename_i ax he
   obtain⟨u,hu,I⟩:=Option.map_eq_some_iff.1 I
   cases I
   exact⟨fn,_,ax,bI,he,.inl rfl,hu,rfl⟩
 · rename_i ax he
   obtain⟨u,hu,I⟩:=Option.map_eq_some_iff.1 I
   cases I
   exact⟨fn,_,ax,bI,he,.inr rfl,hu,rfl⟩
 · cases I
theorem so {Φ:FuncId->Option bn} {n:Nat} {id:Nat} {args:List J} {h av:aA} {v:J} (I:nG G Φ tab n Y id args h=some (v,av)):
 ∃L Y' s1 ex ax,ns id Y=some (L,Y')/\L.ps.length=args.length/\exec G Φ tab n Y' L.dA ⟨md L.F L.ps args,h⟩=some (.normal,s1)/\s1.h.bm id=some .ready/\
  exec G Φ tab n Y' L.body ⟨s1.F,s1.h.set id (some .busy)⟩=some (ex,ax)/\ax.h.bm id=some .busy/\((ex= .normal/\v= .bool true/\av=ax.h.set id (some .ready))\/(ex≠ .normal/\v= .bool false/\av=ax.h.set id (some (.done ex)))):=by
 unfold nG at I
 split at I<;>try(cases I;done)
 rename_i L Y' a8
 split at I<;>try(cases I;done)
 rename_i hlen
 split at I<;>try(cases I;done)
 rename_i s1 ab
 split at I<;>try(cases I;done)
 rename_i a4
 split at I<;>try(cases I;done)
 rename_i e ax h2
 split at I<;>try(cases I;done)
 rename_i aj
 split at I
 · cases I
   exact⟨L,Y',s1,_,ax,a8,hlen,ab,a4,h2,aj,.inl ⟨rfl,rfl,rfl⟩⟩
 · rename_i bP
   cases I
   exact⟨L,Y',s1,e,ax,a8,hlen,ab,a4,h2,aj,.inr ⟨bP,rfl,rfl⟩⟩
theorem DK {id:Nat} {L:c4} {Y':List c4}:∀ {Y:List c4},ns id Y=some (L,Y')->L∈Y/\L.id=id/\∀X∈Y',X∈Y
 | [],h=>by cases h
 | X::Y,h=>by
   unfold ns at h
   split at h
   · rename_i bS
     cases h
     exact⟨by simp,bS,fun Z za=>by simp[za]⟩
   · obtain⟨ab,h2,aX⟩:=DK h
     exact⟨by simp[ab],h2,fun Z za=>by simp[aX Z za]⟩
def sq (P:Program) (G:Nat->Option J) (tab:FuncId->Option (List J->Option J)) (n:Nat):Prop:=
 ∀(N:Nat) (Y:List c4) (c:Code) (oU:dw) (s:a') (ex:de) (ax:a'),fm P N c=some oU->exec G (bb P) tab n Y oU s=some (ex,ax)->
  ∀(c9:Fence) (dH:Nat) (_:gX c9) (bV:Nat) (base:Nat) (okin:Nat->Prop) (cW:Nat) (cX:Nat->Option (Nat × Nat)) (σ:Nat->Option (Nat × Nat)) (a:Act) (w:World) (Q:Exit->Act->World->Prop),eY P G Y c9.round bV base okin N cW cX (fun _=>False) σ s a w->
   (∀bE eh a_,eY P G Y c9.round bV base okin N cW cX (fun _=>False) bE ax eh a_->dk base okin σ s.h w bE ax.h a_->Q (wc ex) eh a_)->c.wpIn c9 dH P Q a w
theorem zb {n:Nat} (fh:sq P G tab n) {f:FuncId} {args:List J} {h av:aA} {v:J} (I:jX G (bb P) tab n Y f args h=some (v,av)):
 ∀base okin σ w (dt:Array Value),cS base okin σ h w->hg σ h.bm w->n_ P G base okin Y σ h w->dt.size=args.length->
  (∀i (ag:i<args.length) (b_:i<dt.size),bu w (bN base okin σ h) σ args[i] dt[i])->
  (∀g u,G g=some u->bu w (bN base okin σ h) σ (.eu u) (.pointer (some ⟨g,0,none⟩)))->(∀id,h.next<=id->σ id=none)->
  (callFunc f dt).run P w= .ok (.enter f dt) w/\Calls P f dt w fun e a_=>∃cv,e= .returned cv/\sg base okin σ h w av v cv a_:=by
 obtain⟨fn,ex,ax,bI,he,hex,zc,rfl⟩:=pQ I
 obtain⟨Fn,bQ,Lg⟩:=Option.bind_eq_some_iff.1 bI
 obtain⟨c,aj,m3,y_,zd⟩:=Lf Lg
 have Lh:=fh Fn.ntmps Y c fn.body ⟨bj args,h⟩ ex ax m3 he
 refine fun base okin σ w dt H ze wh cy e5 pR uI=>⟨y' bQ aj zd _ _,?_⟩
 refine(callsIn_wide (n:=0)).1 (callsIn_of_wp_marks bQ aj trivial ?_)
 have S:eY P G Y Fence.wide.round w.heap.size base okin Fn.ntmps h.next σ (fun _=>False) σ ⟨bj args,h⟩ {tmps:=dt++Array.replicate (Fn.ntmps - dt.size) undef,defers:=[]} w:=by
  refine⟨H,ze,wh,⟨fun t=>?_,pR⟩,by simp;omega,⟨fun d bA=>absurd bA (by simp),List.Pairwise.nil⟩,fun l aV=>(by cases aV),Nat.le_refl _,fun id bS=>bS.elim,Nat.le_refl _,fun _ _=>rfl,uI⟩
  simp only[bj]
  by_cases a7:t<args.length
  · have bO:t<dt.size:=by omega
    have aq:args.getD t .undef=args[t]:=by simp[List.getD,a7]
    have aB:(dt++Array.replicate (Fn.ntmps - dt.size) undef).getD t undef=dt[t]:=by
     rw[yV _ _ (by simp;omega),Array.getElem_append_left bO]
    rw[aq,aB]
    exact e5 t a7 bO
  · have aq:args.getD t .undef= .undef:=by simp[List.getD,List.getElem?_eq_none (Nat.le_of_not_lt a7)]
    rw[aq];exact .undef _
 refine Lh Fence.wide 0 (.inl rfl) w.heap.size base okin h.next σ σ _ w _ S (fun bE eh a_ lK p=>?_)
 have fin:LeavesInM Fence.wide 0 P Fn eh.tmps (fun e a_=>∃cv,e= .returned cv/\sg base okin σ h w ax.h v cv a_) eh.defers .returning a_:=by
  refine DE _ _ lK.marks fun dd bA=>?_
  obtain⟨dy,dB,ga,ky⟩:=bA.keeps rfl H.base p lK.aG lK.k9
  obtain⟨cv,aa,af⟩:=Le y_ dB ⟨fun t=>ky _ _ (lK.bX.slot t),fun g u bp=>ky _ _ (lK.bX.mf g u bp)⟩ zc
  exact⟨cv,aa,cv,rfl,bE,dy,dB,ga,af,lK.fresh,lK.lJ⟩
 rcases hex with rfl|rfl
 · exact fin
 · exact fin
theorem Li {ps:List Nat}:∀ {vs:List J} {gb:List Value} {w:World} {ok:Nat->Prop} {σ:Nat->Option (Nat × Nat)} {F:Nat->J} {bW:Array Value},vs.length=ps.length->gb.length=ps.length->(∀p∈ps,p<bW.size)->
 (∀t,bu w ok σ (F t) (bW.getD t undef))->(∀i (h:i<vs.length) (av:i<gb.length),bu w ok σ vs[i] gb[i])->
 ∀t,bu w ok σ (md F ps vs t) (((ps.zip gb).foldl (fun tmps (t,a)=>tmps.setIfInBounds t a) bW).getD t undef):=by
 induction ps with
 | nil=>intro vs gb w ok σ F bW ab h2 a4 bQ aR t;simpa[md] using bQ t
 | cons p ps bC=>
   intro vs gb w ok σ F bW ab h2 a4 bQ aR t
   cases vs with
   | nil=>simp at ab
   | cons v vs=>
     cases gb with
     | nil=>simp at h2
     | cons c gb=>
       simp only[md,List.zip_cons_cons,List.foldl_cons]
       refine bC (by simpa using ab) (by simpa using h2) (fun q bc=>by simpa using a4 q (by simp[bc])) (fun t=>?_) (fun i ag b_=>by
        have:=aR (i+1) (by simpa using ag) (by simpa using b_)
        simpa using this) t
       have bO:=a4 p (by simp)
       by_cases e:t=p
       · subst e
         have:=aR 0 (by simp) (by simp)
         simpa[aF,Array.getD,bO] using this
       · have aB:(bW.setIfInBounds p c).getD t undef=bW.getD t undef:=by
          simp only[Array.getD_eq_getD_getElem?]
          rw[Array.getElem?_setIfInBounds_ne (Ne.symm e)]
         rw[aB]
         simpa[aF,e] using bQ t
theorem Lj {ps:List Nat}:∀ {gb:List Value} {bW:Array Value},((ps.zip gb).foldl (fun tmps (t,a)=>tmps.setIfInBounds t a) bW).size=bW.size:=by
 induction ps with
 | nil=>intro gb bW;simp
 | cons p ps bC=>
   intro gb bW
   cases gb with
   | nil=>simp
   | cons c gb=>simp only[List.zip_cons_cons,List.foldl_cons];rw[bC];simp
theorem DL {cC:kv->List J->aA->Option (J × aA)} (gI:∀t args h v av,cC t args h=some (v,av)->h.next<=av.next) {bs:Nat}:∀ {L:List (bx × Nat)} {s ax:a'} {cs:List dL},df G tab cC bs L s=some (ax,cs)->s.h.next<=ax.h.next
 | [],s,ax,cs,h=>by simp only[df] at h;cases h;exact Nat.le_refl _
 | (e,i)::L,s,ax,cs,h=>by
   simp only[df] at h
   split at h<;>try(cases h;done)
   rename_i s1 c ab
   obtain⟨p,h2,aX⟩:=Option.map_eq_some_iff.1 h
   cases aX
   refine Nat.le_trans ?_ (DL gI h2)
   have go:∀ {s1:a'} {c:dL},dj G tab cC bs (bs+i) e s=some (s1,c)->s.h.next<=s1.h.next:=by
    intro s1 c bp
    unfold dj at bp
    split at bp
    · split at bp<;>try(cases bp;done)
      · split at bp
        · split at bp<;>try(cases bp;done)
          obtain⟨v,_,bp⟩:=Option.map_eq_some_iff.1 bp
          cases bp
          exact Nat.le_refl _
        · obtain⟨q,bc,bp⟩:=Option.map_eq_some_iff.1 bp
          obtain⟨v,av⟩:=q
          cases bp
          exact gI _ _ _ _ _ bc
      · obtain⟨q,bc,bp⟩:=Option.map_eq_some_iff.1 bp
        obtain⟨v,av⟩:=q
        cases bp
        exact gI _ _ _ _ _ bc
    · obtain⟨q,bc,bp⟩:=Option.map_eq_some_iff.1 bp
      obtain⟨v,av,dc⟩:=q
      have lG:(⟨c6 s.F e.dst v,av⟩:a')=s1:=congrArg Prod.fst bp
      subst lG
      exact Nat.le_of_eq (congrArg Prod.fst (sb bc).1).symm
   unfold c7 at ab
   split at ab
   · exact go ab
   · split at ab<;>try(cases ab;done)
     · split at ab
       · exact go ab
       · cases ab;exact Nat.le_refl _
     · cases ab;exact Nat.le_refl _
theorem fI (G:Nat->Option J) (Φ:FuncId->Option bn) (tab:FuncId->Option (List J->Option J)) (n:Nat) (Y:List c4) (c:dw) (s:a'):exec G Φ tab (n+1) Y c s=match c with
 | .skip=>some (.normal,s)
 | .ret=>some (.ret,s)
 | .exit id=>some (.exit id,s)
 | .region draw ops hz=>(eQ G tab (kh G Φ tab n Y) draw ops hz s).map fun ax=>(.normal,ax)
 | .seq a b=>match exec G Φ tab n Y a s with
   | some (.normal,ax)=>exec G Φ tab n Y b ax
   | r=>r
 | .cond x a b=>match x.ev G s.F with
   | .bool t=>if t then exec G Φ tab n Y a s else exec G Φ tab n Y b s
   | _=>none
 | .block id b=>match exec G Φ tab n Y b s with
   | some (.exit i,ax)=>if i=id then some (.normal,ax) else some (.exit i,ax)
   | r=>r
 | .loop b=>match exec G Φ tab n Y b s with
   | some (.normal,ax)=>exec G Φ tab n Y (.loop b) ax
   | r=>r
 | .k4 f ps dA body=>match f.ev G s.F with
   | .fn g first caps=>match Φ g with
     | some fn=>match exec G Φ tab n (⟨s.h.next,s.F,ps,dA,body⟩::Y) fn.body ⟨bj (first++ [.fl s.h.next]++caps),{s.h with next:=s.h.next+1,bm:=aF s.h.bm s.h.next (some .ready)}⟩ with
       | some (.normal,ax)|some (.ret,ax)=>match eB ax.h ax.F fn.res with
         | some _=>match ax.h.bm s.h.next with
           | some .ready=>some (.normal,⟨s.F,ax.h.set s.h.next none⟩)
           | some (.done e)=>some (e,⟨s.F,ax.h.set s.h.next none⟩)
           | _=>none
         | none=>none
       | _=>none
     | none=>none
   | _=>none:=by
 cases c<;>rfl
theorem wi {Φ:FuncId->Option bn} {n:Nat} {f:bf} {ps:List Nat} {dA body:dw} {s ax:a'} {ex:de} (he:exec G Φ tab (n+1) Y (.k4 f ps dA body) s=some (ex,ax)):
 ∃g first caps v av p,f.ev G s.F= .fn g first caps/\
  jX G Φ tab n (⟨s.h.next,s.F,ps,dA,body⟩::Y) g (first++ [.fl s.h.next]++caps) {s.h with next:=s.h.next+1,bm:=aF s.h.bm s.h.next (some .ready)}=some (v,av)/\
  av.bm s.h.next=some p/\((p= .ready/\ex= .normal)\/p= .done ex)/\ax=⟨s.F,av.set s.h.next none⟩:=by
 rw[fI] at he
 simp only at he
 split at he<;>try(cases he;done)
 rename_i g first caps bI
 split at he<;>try(cases he;done)
 rename_i fn l2
 have key:∀(s1:a'),(exec G Φ tab n (⟨s.h.next,s.F,ps,dA,body⟩::Y) fn.body ⟨bj (first++ [.fl s.h.next]++caps),{s.h with next:=s.h.next+1,bm:=aF s.h.bm s.h.next (some .ready)}⟩=some (.normal,s1)\/
  exec G Φ tab n (⟨s.h.next,s.F,ps,dA,body⟩::Y) fn.body ⟨bj (first++ [.fl s.h.next]++caps),{s.h with next:=s.h.next+1,bm:=aF s.h.bm s.h.next (some .ready)}⟩=some (.ret,s1))->
  (match eB s1.h s1.F fn.res with
    | some _=>match s1.h.bm s.h.next with
      | some .ready=>some (de.normal,(⟨s.F,s1.h.set s.h.next none⟩:a'))
      | some (.done e)=>some (e,⟨s.F,s1.h.set s.h.next none⟩)
      | _=>none
    | none=>none)=some (ex,ax)->
  ∃e9 DM DN v av p,J.fn g first caps= .fn e9 DM DN/\
  jX G Φ tab n (⟨s.h.next,s.F,ps,dA,body⟩::Y) e9 (DM++ [.fl s.h.next]++DN) {s.h with next:=s.h.next+1,bm:=aF s.h.bm s.h.next (some .ready)}=some (v,av)/\
  av.bm s.h.next=some p/\((p= .ready/\ex= .normal)\/p= .done ex)/\ax=⟨s.F,av.set s.h.next none⟩:=by
  intro s1 ab h2
  split at h2<;>try(cases h2;done)
  rename_i v aR
  refine⟨g,first,caps,v,s1.h,?_⟩
  have yw:jX G Φ tab n (⟨s.h.next,s.F,ps,dA,body⟩::Y) g (first++ [.fl s.h.next]++caps) {s.h with next:=s.h.next+1,bm:=aF s.h.bm s.h.next (some .ready)}=some (v,s1.h):=by
   unfold jX
   rw[l2]
   rcases ab with ab|ab<;>simp only[ab,aR,Option.map_some]
  split at h2
  · rename_i a4
    cases h2
    exact⟨_,rfl,yw,a4,.inl ⟨rfl,rfl⟩,rfl⟩
  · rename_i e a4
    cases h2
    exact⟨_,rfl,yw,a4,.inr rfl,rfl⟩
  · cases h2
 rw[bI]
 split at he
 · rename_i s1 ab
   exact key s1 (.inl ab) he
 · rename_i s1 ab
   exact key s1 (.inr ab) he
 · cases he
theorem wj {Φ:FuncId->Option bn}:∀(n:Nat) (Y:List c4) (c:dw) (s:a') (ex:de) (ax:a'),exec G Φ tab n Y c s=some (ex,ax)->s.h.next<=ax.h.next:=by
 intro n
 induction n with
 | zero=>intro Y c s ex ax he;unfold exec at he;cases he
 | succ n bC=>
   have a6:∀ {Y:List c4} {f:FuncId} {args:List J} {h av:aA} {v:J},jX G Φ tab n Y f args h=some (v,av)->h.next<=av.next:=by
    intro Y f args h av v I
    obtain⟨fn,ex,ax,_,he,_,_,rfl⟩:=pQ I
    exact bC _ _ _ _ _ he
   have l3:∀ {Y:List c4} {id:Nat} {args:List J} {h av:aA} {v:J},nG G Φ tab n Y id args h=some (v,av)->h.next<=av.next:=by
    intro Y id args h av v I
    obtain⟨L,Y',s1,ex,ax,_,_,ab,_,h2,_,aX⟩:=so I
    have a1:=bC _ _ _ _ _ ab
    have eC:=bC _ _ _ _ _ h2
    have:av.next=ax.h.next:=by rcases aX with⟨_,_,rfl⟩|⟨_,_,rfl⟩<;>rfl
    rw[this]
    exact Nat.le_trans a1 eC
   intro Y c s ex ax he
   have wk:=he
   rw[fI] at he
   cases c with
   | skip=>cases he;exact Nat.le_refl _
   | ret=>cases he;exact Nat.le_refl _
   | exit id=>cases he;exact Nat.le_refl _
   | region draw ops hz=>
     simp only at he
     obtain⟨s1,ab,he⟩:=Option.map_eq_some_iff.1 he
     cases he
     unfold eQ at ab
     split at ab<;>try(cases ab;done)
     rename_i s2 cs h2
     split at ab<;>try(cases ab;done)
     cases ab
     refine Nat.le_trans (Nat.le_add_right _ _) (DL (fun t args h v av I=>?_) h2)
     cases t with
     | fn f=>exact a6 I
     | kI id=>exact l3 I
   | seq a b=>
     simp only at he
     split at he
     · rename_i s1 ab
       exact Nat.le_trans (bC _ _ _ _ _ ab) (bC _ _ _ _ _ he)
     · exact bC _ _ _ _ _ he
   | cond x a b=>
     simp only at he
     split at he<;>try(cases he;done)
     split at he
     · exact bC _ _ _ _ _ he
     · exact bC _ _ _ _ _ he
   | block id b=>
     simp only at he
     split at he
     · rename_i i s1 ab
       have:=bC _ _ _ _ _ ab
       split at he<;>(cases he;exact this)
     · exact bC _ _ _ _ _ he
   | loop b=>
     simp only at he
     split at he
     · rename_i s1 ab
       exact Nat.le_trans (bC _ _ _ _ _ ab) (bC _ _ _ _ _ he)
     · exact bC _ _ _ _ _ he
   | k4 f ps dA body=>
     obtain⟨g,first,caps,v,av,p,_,I,_,_,rfl⟩:=wi wk
     have:=a6 I
     simp only at this
     show s.h.next<=av.next
     omega
theorem Lk {Φ:FuncId->Option bn} {n:Nat} {t:kv} {args:List J} {h av:aA} {v:J} (I:kh G Φ tab n Y t args h=some (v,av)):h.next<=av.next:=by
 cases t with
 | fn f=>
   obtain⟨fn,ex,ax,_,he,_,_,rfl⟩:=pQ I
   exact wj _ _ _ _ _ _ he
 | kI id=>
   obtain⟨L,Y',s1,ex,ax,_,_,ab,_,h2,_,aX⟩:=so I
   have a1:=wj _ _ _ _ _ _ ab
   have eC:=wj _ _ _ _ _ _ h2
   have:av.next=ax.h.next:=by rcases aX with⟨_,_,rfl⟩|⟨_,_,rfl⟩<;>rfl
   rw[this]
   exact Nat.le_trans a1 eC
end
end Go.Eng
namespace Go.Eng
open Go Go.RowKit
section
variable {G:Nat->Option J} {Φ:FuncId->Option bn} {tab:FuncId->Option (List J->Option J)}
theorem Ll {h:aA} {F:Nat->J} {r:Nat} {blk:List J} (ar:h.cells r=none):∀ {x:lX} {v:J},fA h F x=some v->fA (h.new r blk) F x=some v
 | .tmp t,v,aR=>aR
 | .cell t b' sz,v,aR=>by
   simp only[fA] at aR|-
   split at aR<;>try(cases aR;done)
   rename_i id idx cV bQ
   obtain⟨b,aj,aR⟩:=Option.bind_eq_some_iff.1 aR
   try simp only[bQ]
   have bP:id≠r:=by rintro rfl;rw[ar] at aj;cases aj
   rw[n6 _ _ bP,aj]
   exact aR
theorem DO {h:aA} {F:Nat->J} {r:Nat} {blk:List J} (ar:h.cells r=none):∀ {rs:List lX} {vs:List J},rs.mapM (fA h F)=some vs->rs.mapM (fA (h.new r blk) F)=some vs
 | [],vs,aR=>aR
 | x::rs,vs,aR=>by
   rw[List.mapM_cons] at aR|-
   simp only[Option.bind_eq_bind,Option.bind_eq_some_iff,Option.pure_def,Option.some.injEq] at aR|-
   obtain⟨a,bh,b,aj,e⟩:=aR
   exact⟨a,Ll ar bh,b,DO ar aj,e⟩
theorem Lm {h:aA} {F:Nat->J} {r:Nat} {blk:List J} (ar:h.cells r=none) {rs:List lX} {v:J} (aR:eB h F rs=some v):eB (h.new r blk) F rs=some v:=by
 unfold eB at aR|-
 obtain⟨vs,ab,h2⟩:=Option.map_eq_some_iff.1 aR
 rw[DO ar ab]
 exact congrArg some h2
theorem DP {cC:kv->List J->aA->Option (J × aA)} (bI:pK cC) {bs r:Nat} {blk:List J} (pS:r<bs):∀ {L:List (bx × Nat)} {s ax:a'} {cs:List dL},df G tab cC bs L s=some (ax,cs)->s.h.cells r=none->r<s.h.next->
 df G tab cC bs L ⟨s.F,s.h.new r blk⟩=some (⟨ax.F,ax.h.new r blk⟩,cs)/\ax.h.cells r=none/\s.h.next<=ax.h.next
 | [],s,ax,cs,h,ar,ba=>by
   simp only[df] at h|-
   cases h
   exact⟨rfl,ar,Nat.le_refl _⟩
 | (e,i)::L,s,ax,cs,h,ar,ba=>by
   simp only[df] at h|-
   split at h<;>try(cases h;done)
   rename_i s1 c ab
   obtain⟨p,h2,aX⟩:=Option.map_eq_some_iff.1 h
   obtain⟨s2,Dr⟩:=p
   cases aX
   obtain⟨aa,af,al⟩:=yM (blk:=blk) bI ab ar ba (by omega)
   obtain⟨dy,dB,ga⟩:=DP (blk:=blk) bI pS h2 af (by omega)
   exact⟨by simp only[aa,dy,Option.map_some],dB,by show s.h.next<=s2.h.next;omega⟩
theorem zf {n:Nat} (fh:∀(Y:List c4) (c:dw) (s:a') (ex:de) (ax:a'),exec G Φ tab n Y c s=some (ex,ax)->∀r blk,s.h.cells r=none->r<s.h.next->exec G Φ tab n Y c ⟨s.F,s.h.new r blk⟩=some (ex,⟨ax.F,ax.h.new r blk⟩)/\ax.h.cells r=none/\s.h.next<=ax.h.next)
 (Y:List c4):pK (kh G Φ tab n Y):=by
 intro t args h v av r blk I ar ba
 cases t with
 | fn f=>
   obtain⟨fn,ex,ax,l2,he,hex,aR,rfl⟩:=pQ I
   obtain⟨aa,af,al⟩:=fh _ _ _ _ _ he r blk ar ba
   refine⟨?_,af,al⟩
   show jX G Φ tab n Y f args (h.new r blk)=_
   unfold jX
   simp only at aa
   rcases hex with rfl|rfl<;>simp only[l2,aa,Lm af aR,Option.map_some]
 | kI id=>
   obtain⟨L,Y',s1,ex,ax,a8,hlen,ab,a4,h2,aj,aX⟩:=so I
   obtain⟨aa,af,al⟩:=fh _ _ _ _ _ ab r blk ar ba
   obtain⟨dy,dB,ga⟩:=fh _ _ _ _ _ h2 r blk af (show r<s1.h.next by simp only at al;omega)
   simp only at aa dy
   have aV:h.next<=ax.h.next:=Nat.le_trans al ga
   have DQ:exec G Φ tab n Y' L.body ⟨s1.F,(s1.h.new r blk).set id (some .busy)⟩=some (ex,⟨ax.F,ax.h.new r blk⟩):=dy
   rcases aX with⟨rfl,rfl,rfl⟩|⟨bP,rfl,rfl⟩
   · refine⟨?_,dB,aV⟩
     show nG G Φ tab n Y id args (h.new r blk)=_
     unfold nG
     simp only[a8,if_pos hlen,aa,show (s1.h.new r blk).bm id=some .ready from a4,DQ,show (ax.h.new r blk).bm id=some .busy from aj]
     rfl
   · refine⟨?_,dB,aV⟩
     show nG G Φ tab n Y id args (h.new r blk)=_
     unfold nG
     simp only[a8,if_pos hlen,aa,show (s1.h.new r blk).bm id=some .ready from a4,DQ,show (ax.h.new r blk).bm id=some .busy from aj]
     cases ex with
     | normal=>exact absurd rfl bP
     | exit i=>rfl
     | ret=>rfl
theorem DR:∀(n:Nat) (Y:List c4) (c:dw) (s:a') (ex:de) (ax:a'),exec G Φ tab n Y c s=some (ex,ax)->∀r blk,s.h.cells r=none->r<s.h.next->
 exec G Φ tab n Y c ⟨s.F,s.h.new r blk⟩=some (ex,⟨ax.F,ax.h.new r blk⟩)/\ax.h.cells r=none/\s.h.next<=ax.h.next
 | 0,Y,c,s,ex,ax,he,r,blk,ar,ba=>by unfold exec at he;cases he
 | n+1,Y,c,s,ex,ax,he,r,blk,ar,ba=>by
   have fh:=DR n
   have aJ:=he
   rw[fI] at he|-
   cases c with
   | skip=>cases he;exact⟨rfl,ar,Nat.le_refl _⟩
   | ret=>cases he;exact⟨rfl,ar,Nat.le_refl _⟩
   | exit id=>cases he;exact⟨rfl,ar,Nat.le_refl _⟩
   | region jW ops hz=>
     simp only at he|-
     obtain⟨s1,ab,he⟩:=Option.map_eq_some_iff.1 he
     cases he
     unfold eQ at ab|-
     split at ab<;>try(cases ab;done)
     rename_i s2 cs cI
     split at ab<;>try(cases ab;done)
     rename_i hC
     cases ab
     obtain⟨aa,af,al⟩:=DP (blk:=blk) (zf fh Y) ba cI ar (show r<s.h.next+ops.length by omega)
     simp only at aa al
     refine⟨?_,af,by omega⟩
     have Ln:df G tab (kh G Φ tab n Y) (s.h.new r blk).next ops.zipIdx ⟨s.F,{(s.h.new r blk) with next:=(s.h.new r blk).next+ops.length}⟩=some (⟨ax.F,ax.h.new r blk⟩,cs):=aa
     rw[Ln]
     simp only[if_pos hC,Option.map_some]
   | seq a b=>
     simp only at he|-
     split at he
     · rename_i s1 ab
       obtain⟨aa,af,al⟩:=fh _ _ _ _ _ ab r blk ar ba
       obtain⟨dy,dB,ga⟩:=fh _ _ _ _ _ he r blk af (by omega)
       exact⟨by simp only[aa];exact dy,dB,by omega⟩
     · rename_i bP
       obtain⟨aa,af,al⟩:=fh _ _ _ _ _ he r blk ar ba
       refine⟨?_,af,al⟩
       rw[aa]
       cases ex with
       | normal=>exact absurd he (bP ax)
       | exit i=>rfl
       | ret=>rfl
   | cond x a b=>
     simp only at he|-
     split at he<;>try(cases he;done)
     rename_i t a7
     try simp only[a7]
     split at he
     · rename_i qK;simp only[if_pos qK];exact fh _ _ _ _ _ he r blk ar ba
     · rename_i qK;simp only[if_neg qK];exact fh _ _ _ _ _ he r blk ar ba
   | block id b=>
     simp only at he|-
     split at he
     · rename_i i s1 ab
       obtain⟨aa,af,al⟩:=fh _ _ _ _ _ ab r blk ar ba
       rw[aa]
       simp only
       split at he<;>rename_i ag<;>cases he<;>simp only[ag,if_true,if_false]<;>exact⟨by first|rfl|trivial,af,al⟩
     · rename_i bP
       obtain⟨aa,af,al⟩:=fh _ _ _ _ _ he r blk ar ba
       refine⟨?_,af,al⟩
       rw[aa]
       cases ex with
       | normal=>rfl
       | exit i=>exact absurd he (bP i ax)
       | ret=>rfl
   | loop b=>
     simp only at he|-
     split at he
     · rename_i s1 ab
       obtain⟨aa,af,al⟩:=fh _ _ _ _ _ ab r blk ar ba
       obtain⟨dy,dB,ga⟩:=fh _ _ _ _ _ he r blk af (by omega)
       exact⟨by simp only[aa];exact dy,dB,by omega⟩
     · rename_i bP
       obtain⟨aa,af,al⟩:=fh _ _ _ _ _ he r blk ar ba
       refine⟨?_,af,al⟩
       rw[aa]
       cases ex with
       | normal=>exact absurd he (bP ax)
       | exit i=>rfl
       | ret=>rfl
   | k4 f ps dA body=>
     obtain⟨g,first,caps,v,av,p,bI,I,a4,lv,rfl⟩:=wi aJ
     have zg:kh G Φ tab n (⟨s.h.next,s.F,ps,dA,body⟩::Y) (.fn g) (first++ [.fl s.h.next]++caps) {s.h with next:=s.h.next+1,bm:=aF s.h.bm s.h.next (some .ready)}=some (v,av):=I
     obtain⟨aa,af,al⟩:=zf fh _ _ _ _ _ _ r blk zg ar (show r<s.h.next+1 by omega)
     obtain⟨fn,e,s2,l2,nH,hex,aR,cY⟩:=pQ (show jX G Φ tab n _ g _ _=some (v,av.new r blk) from aa)
     refine⟨?_,af,by simp only at al;show s.h.next<=av.next;omega⟩
     simp only[bI,l2]
     have uJ:exec G Φ tab n (⟨(s.h.new r blk).next,s.F,ps,dA,body⟩::Y) fn.body ⟨bj (first++ [.fl (s.h.new r blk).next]++caps),{(s.h.new r blk) with next:=(s.h.new r blk).next+1,bm:=aF (s.h.new r blk).bm (s.h.new r blk).next (some .ready)}⟩=some (e,s2):=nH
     have od:s2.h.bm (s.h.new r blk).next=some p:=by rw[cY];exact a4
     rw[uJ]
     rcases hex with rfl|rfl<;>simp only[aR,od]<;>rcases lv with⟨rfl,rfl⟩|rfl<;>simp only[cY]<;>rfl
theorem Lo (n:Nat) (Y:List c4):pK (kh G Φ tab n Y):=zf (DR n) Y
end
end Go.Eng
namespace Go.Eng
open Go Go.RowKit
section
variable {P:Program} {G:Nat->Option J} {tab:FuncId->Option (List J->Option J)} {Y:List c4}
theorem Lp {n:Nat} (fh:sq P G tab n) {id:Nat} {args:List J} {h av:aA} {v:J} (I:nG G (bb P) tab n Y id args h=some (v,av)):
 ∀base okin σ w (dt:Array Value) l s,cS base okin σ h w->hg σ h.bm w->n_ P G base okin Y σ h w->σ id=some (l,s)->dt.size=args.length->
  (∀i (ag:i<args.length) (b_:i<dt.size),bu w (bN base okin σ h) σ args[i] dt[i])->
  (∀g u,G g=some u->bu w (bN base okin σ h) σ (.eu u) (.pointer (some ⟨g,0,none⟩)))->(∀id,h.next<=id->σ id=none)->
  yT P l dt w (sg base okin σ h w av v):=by
 obtain⟨L,Y',s1,ex,ax,a8,hlen,Lq,DS,nH,Lr,hh⟩:=so I
 obtain⟨bJ,ca,yi⟩:=DK a8
 intro base okin σ w dt l s H ze wh oa cy e5 pR uI
 obtain⟨lr,k8,r,m8,cz,cq,db,dg,gL,hi,gr,lx⟩:=wh L bJ
 rw[ca,oa] at cz;cases cz
 have wm:r.params.size=L.ps.length:=by rw[dg];simp
 have oR:dt.size=r.params.size:=by omega
 have Ls:n_ P G base okin Y' σ h w:=fun X lL=>wh X (yi X lL)
 have fR:base<=l:=(H.val _ _ _ oa).1
 refine⟨r.fn,_,r.assign,r.body,run_yield cq oR,fun F dH bQ=>?_⟩
 have Lt:(r.params.zip dt).foldl (fun tmps (t,a)=>tmps.setIfInBounds t a) r.tmps=(L.ps.zip dt.toList).foldl (fun tmps (t,a)=>tmps.setIfInBounds t a) r.tmps:=by
  rw[dg,<-Array.foldl_toList,Array.toList_zip]
 rw[Lt]
 have S:eY P G Y' (F.inRound l).round w.heap.size base okin m8 h.next σ (fun _=>False) σ ⟨md L.F L.ps args,h⟩ {tmps:=(L.ps.zip dt.toList).foldl (fun tmps (t,a)=>tmps.setIfInBounds t a) r.tmps,defers:=[]} w:=by
  refine⟨H,ze,Ls,⟨fun t=>?_,pR⟩,?_,⟨fun d bA=>absurd bA (by simp),List.Pairwise.nil⟩,fun dR fN=>?_,Nat.le_refl _,fun id bS=>bS.elim,Nat.le_refl _,fun _ _=>rfl,uI⟩
  · exact Li (by omega) (by simp;omega) (fun p a4=>Nat.lt_of_lt_of_le (gL p a4) db) (fun t=>lx.slot t) (fun i ag b_=>by
     have:=e5 i ag (by simpa using b_)
     simpa using this) t
  · show m8<=(Array.size _)
    rw[Lj];exact db
  · cases fN;exact⟨r,cq⟩
 refine roundIn_of_wpIn (bQ.fn _) ?_
 refine fh m8 Y' r.assign L.dA _ _ s1 hi Lq (F.inRound l) dH (bQ.inRound l) w.heap.size base okin h.next σ σ _ w _ S (fun gF a1 b4 gu dS=>?_)
 obtain⟨cP,uD,b5,d1,d2,d3,d4⟩:=gu.k9.look id _ DS
 have zh:gF id=some (l,s):=dS.sub _ _ oa
 rw[zh] at d1;cases d1
 refine⟨_,run_beginRound d2 d3,?_⟩
 have aB:({b5 with state:= .busy}:Loop)= {b5 with state:=nE .busy,pending:=nF .busy}:=by
  have:nF .busy=b5.pending:=by rw[d4];rfl
  rw[this];rfl
 rw[aB]
 have ar:∀arr ty e,Obj.loop b5≠ .cells arr ty e:=fun _ _ _ h=>by cases h
 have fC:dk base okin gF s1.h b4 gF (s1.h.set id (some .busy)) (b4.putObj l (.loop {b5 with state:=nE .busy,pending:=nF .busy})):=dk.y8 d2 fR _ _ (fun b aj=>aj)
 have wo:=gu.aG.put (.loop {b5 with state:=nE .busy,pending:=nF .busy}) d2 ar (fun _ _ h=>by cases h)
 have uK:eY P G Y' (F.inRound l).round w.heap.size base okin m8 h.next σ (fun _=>False) gF ⟨s1.F,s1.h.set id (some .busy)⟩ a1 (b4.putObj l (.loop {b5 with state:=nE .busy,pending:=nF .busy})):=
  ⟨⟨wo.val,wo.blk,wo.inj,wo.base⟩,gu.k9.set DS zh d2 .busy,gu.gG.mono fC,gu.bX.mono fC,gu.size,gu.marks.mono fC.nD,fun dR fN=>by
    obtain⟨dY,bz⟩:=gu.rd dR fN
    obtain⟨x,y,bR⟩:=fC.loop dR dY bz
    exact⟨_,bR⟩,Nat.le_trans gu.qH fC.below.size,fun _ h=>h.elim,gu.low,gu.lJ,gu.fresh⟩
 refine fh m8 Y' r.body L.body _ ex ax gr nH (F.inRound l) dH (bQ.inRound l) w.heap.size base okin h.next σ gF _ _ _ uK (fun ml yO dz wq kJ=>?_)
 have wu:=kJ.sub _ _ zh
 obtain⟨Lu,Lv,f1⟩:=kJ.loop l _ (World.putObj_heap_same (oT d2))
 generalize VZ:({b5 with state:=Lu,pending:=Lv}:Loop)=ob at f1
 have f2:dz.heap[l]? =some (.loop ob):=f1
 have qL:∀arr ty e,Obj.loop ob≠ .cells arr ty e:=fun _ _ _ h=>by cases h
 have fin:∀(p:fw) (cv:Value),av=ax.h.set id (some p)->bu (dz.putObj l (.loop {ob with state:=nE p,pending:=nF p})) (bN base okin ml (ax.h.set id (some p))) ml v cv->
  sg base okin σ h w av v cv (dz.putObj l (.loop {ob with state:=nE p,pending:=nF p})):=by
  rintro p cv rfl ba
  have sm:dk base okin ml ax.h dz ml (ax.h.set id (some p)) (dz.putObj l (.loop {ob with state:=nE p,pending:=nF p})):=dk.y8 f2 fR _ _ (fun b aj=>aj)
  have oV:=wq.aG.put (.loop {ob with state:=nE p,pending:=nF p}) f2 qL (fun _ _ h=>by cases h)
  exact⟨ml,((dS.trans fC).trans kJ).trans sm,⟨oV.val,oV.blk,oV.inj,oV.base⟩,wq.k9.set Lr wu f2 p,ba,wq.fresh,wq.lJ⟩
 rcases hh with⟨rfl,rfl,cY⟩|⟨bP,rfl,cY⟩
 · exact⟨_,_,run_endRound none f2,.bool true,rfl,fin .ready _ cY (.val _ _ (.bool _))⟩
 · cases ex with
   | normal=>exact absurd rfl bP
   | ret=>exact⟨_,_,run_endRound (some .ret) f2,.bool false,rfl,fin (.done .ret) _ cY (.val _ _ (.bool _))⟩
   | exit i=>exact⟨_,_,run_endRound (some (.exit i)) f2,.bool false,rfl,fin (.done (.exit i)) _ cY (.val _ _ (.bool _))⟩
theorem Lw {n:Nat} (fh:sq P G tab n):sh P G Y (kh G (bb P) tab n Y):=
 ⟨fun _ _ _ _ _ I=>Lk I,Lo n Y,fun _ _ _ _ _ I base okin σ w dt H L C ab h2 aX aW=> .inl (zb fh I base okin σ w dt H L C ab h2 aX aW),
   fun _ _ _ _ _ I=>Lp fh I⟩
theorem DT {N:Nat} {c:Code} {oU:dw} (I:fm P N c=some oU):∀(m:Nat),(∀k,k<m->sq P G tab k)->∀(s:a') (ex:de) (ax:a'),exec G (bb P) tab m Y (.loop oU) s=some (ex,ax)->
 ∀(c9:Fence) (dH:Nat) (_:gX c9) (bV:Nat) (base:Nat) (okin:Nat->Prop) (cW:Nat) (cX σ:Nat->Option (Nat × Nat)) (a:Act) (w:World) (Q:Exit->Act->World->Prop),eY P G Y c9.round bV base okin N cW cX (fun _=>False) σ s a w->
  (∀bE eh a_,eY P G Y c9.round bV base okin N cW cX (fun _=>False) bE ax eh a_->dk base okin σ s.h w bE ax.h a_->Q (wc ex) eh a_)->Code.roundsIn c9 dH P c Q m a w
 | 0,_,s,ex,ax,he=>by unfold exec at he;cases he
 | m+1,fh,s,ex,ax,he=>by
   rw[fI] at he
   simp only at he
   split at he
   · rename_i s1 ab
     have b4:=fh m (Nat.lt_succ_self m) N Y c oU s _ s1 I ab
     have dd:=DT I m (fun k aE=>fh k (Nat.lt_succ_of_lt aE)) s1 ex ax he
     refine fun c9 dH bQ bV base okin cW cX σ a w Q S dN=>?_
     rw[roundsIn_succ]
     exact b4 c9 dH bQ bV base okin cW cX σ a w _ S fun gF a1 mm gu dS=>dd c9 dH bQ bV base okin cW cX gF a1 mm Q gu fun oJ eC zi uK fC=>dN oJ eC zi uK (dS.trans fC)
   · rename_i bP
     have b4:=fh m (Nat.lt_succ_self m) N Y c oU s ex ax I he
     refine fun c9 dH bQ bV base okin cW cX σ a w Q S dN=>?_
     rw[roundsIn_succ]
     refine b4 c9 dH bQ bV base okin cW cX σ a w _ S fun gF a1 mm gu dS=>?_
     have:=dN gF a1 mm gu dS
     cases ex with
     | normal=>exact absurd he (bP ax)
     | exit id=>exact this
     | ret=>exact this
theorem Lx {n N:Nat} (fh:sq P G tab n) {x:Operand} {ps:Array Tmp} {dA body:Code} {f:bf} {uL uM:dw} (ak:dW x=some f) (bh:fm P N dA=some uL) (aj:fm P N body=some uM) (wm:ps.toList.all (fun p=>decide (p<N))=true)
 {s ax:a'} {ex:de} (he:exec G (bb P) tab (n+1) Y (.k4 f ps.toList uL uM) s=some (ex,ax))
 (c9:Fence) (dH:Nat) (bQ:gX c9) (bV:Nat) (base:Nat) (okin:Nat->Prop) (cW:Nat) (cX σ:Nat->Option (Nat × Nat)) (a:Act) (w:World) (Q:Exit->Act->World->Prop) (S:eY P G Y c9.round bV base okin N cW cX (fun _=>False) σ s a w)
 (dN:∀bE eh a_,eY P G Y c9.round bV base okin N cW cX (fun _=>False) bE ax eh a_->dk base okin σ s.h w bE ax.h a_->Q (wc ex) eh a_):(Code.rangeFunc x ps dA body).wpIn c9 dH P Q a w:=by
 obtain⟨g,first,caps,v,av,p,bI,gI,a4,lv,rfl⟩:=wi he
 have rx:=S.bX.dM ak
 rw[bI] at rx
 obtain⟨eK,cv,Ly,cP,dR,b5,dY⟩:=rx.B7
 have bS:σ s.h.next=none:=S.fresh _ (Nat.le_refl _)
 have enter:∀fn,∃(l:Nat) (mark:List Deferred) (b4:World) (r:Loop),(Instr.enterLoop fn a.tmps ps dA body c9.round).run P w= .ok (l,mark) b4/\Below w.heap.size w b4/\w.heap.size<=l/\b4.heap[l]? =some (.loop r)/\
  r.state= .ready/\r.pending=none/\r.tmps=a.tmps/\r.params=ps/\r.assign=dA/\r.body=body/\Marks w.heap.size mark b4:=by
  intro fn
  cases zj:c9.round with
  | none=>
    refine⟨_,_,_,{state:= .ready,pending:=none,fn,tmps:=a.tmps,params:=ps,assign:=dA,body,defers:=w.heap.size},run_enterLoop_outer fn a.tmps ps dA body,((Below.refl _ _).alloc (Nat.le_refl _) _).alloc (by simp) _,Nat.le_succ _,?_,rfl,rfl,rfl,rfl,rfl,rfl,⟨fun d bA=>?_,?_⟩⟩
    · have:=World.alloc_heap_new (w.alloc (.deferred (some []))) (.loop {state:= .ready,pending:=none,fn,tmps:=a.tmps,params:=ps,assign:=dA,body,defers:=w.heap.size})
      rwa [World.size_alloc] at this
    · simp at bA
      subst bA
      refine⟨w.heap.size,rfl,Nat.le_refl _,?_⟩
      rw[Below.heap_alloc _ _ _ (by simp)]
      exact World.alloc_heap_new w _
    · simp
  | some sr=>
    obtain⟨r0,aJ⟩:=S.rd sr zj
    refine⟨_,_,_,{state:= .ready,pending:=none,fn,tmps:=a.tmps,params:=ps,assign:=dA,body,defers:=r0.defers},run_enterLoop_inner aJ fn a.tmps ps dA body,(Below.refl _ _).alloc (Nat.le_refl _) _,Nat.le_refl _,World.alloc_heap_new w _,rfl,rfl,rfl,rfl,rfl,rfl,⟨fun d bA=>absurd bA (by simp),List.Pairwise.nil⟩⟩
 refine wpIn_rangeFunc fun fn l2=>?_
 obtain⟨l,mark,b4,r,aq,fR,hle,aB,bg,bT,dv,e8,yR,pM,DU⟩:=enter fn
 have bO:=oT aB
 have uE:=Nat.le_trans S.aG.base hle
 obtain⟨yX,yY⟩:=S.aG.grown fR
 obtain⟨wv,oW⟩:=yX.named bS uE bO
 have dS:dk base okin σ s.h w (aF σ s.h.next (some (l,0))) s.h b4:=dk.of S.aG (yY.trans oW)
 have eX:=S.k9.add (fun id b s aG=>(S.aG.val id b s aG).2) bS fR hle aB bg bT
 have uN:dk base okin σ s.h w (aF σ s.h.next (some (l,0))) {s.h with next:=s.h.next+1,bm:=aF s.h.bm s.h.next (some .ready)} b4:=⟨dS.sub,dS.still,dS.below,dS.grow,dS.loop,dS.nD⟩
 have H1:cS base okin (aF σ s.h.next (some (l,0))) {s.h with next:=s.h.next+1,bm:=aF s.h.bm s.h.next (some .ready)} b4:=⟨wv.val,wv.blk,wv.inj,wv.base⟩
 have zk:=S.bX.mono uN
 have Lz:n_ P G base okin (⟨s.h.next,s.F,ps.toList,uL,uM⟩::Y) (aF σ s.h.next (some (l,0))) {s.h with next:=s.h.next+1,bm:=aF s.h.bm s.h.next (some .ready)} b4:=by
  intro L a8
  rcases List.mem_cons.1 a8 with rfl|a8
  · refine⟨l,0,r,N,by simp[aF],aB,by rw[dv];exact S.size,by rw[e8],fun q bc=>by simpa using List.all_eq_true.1 wm q bc,by rw[yR];exact bh,by rw[pM];exact aj,⟨fun t=>?_,zk.mf⟩⟩
    rw[dv];exact zk.slot t
  · exact S.gG.mono uN L a8
 have e5:∀i (ag:i<(first++ [J.fl s.h.next]++caps).length) (b_:i<(eK++ #[Value.func (.yield l) #[] #[]]++cv).size),bu b4 (bN base okin (aF σ s.h.next (some (l,0))) {s.h with next:=s.h.next+1,bm:=aF s.h.bm s.h.next (some .ready)}) (aF σ s.h.next (some (l,0))) (first++ [J.fl s.h.next]++caps)[i] (eK++ #[Value.func (.yield l) #[] #[]]++cv)[i]:=by
  intro i ag b_
  by_cases ab:i<first.length
  · have dy:(first++ [J.fl s.h.next]++caps)[i]=first[i]:=by
     rw[List.getElem_append_left (by simp;omega),List.getElem_append_left ab]
    have dB:(eK++ #[Value.func (.yield l) #[] #[]]++cv)[i]=eK[i]'(by omega):=by
     rw[Array.getElem_append_left (by simp;omega),Array.getElem_append_left (by omega)]
    rw[dy,dB];exact uN.rep (b5 i ab (by omega))
  · by_cases h2:i=first.length
    · have dy:(first++ [J.fl s.h.next]++caps)[i]=J.fl s.h.next:=by
       rw[List.getElem_append_left (by simp;omega),List.getElem_append_right (by omega)];simp
      have dB:(eK++ #[Value.func (.yield l) #[] #[]]++cv)[i]=Value.func (.yield l) #[] #[]:=by
       rw[Array.getElem_append_left (by simp;omega),Array.getElem_append_right (by omega)];simp
      rw[dy,dB]
      exact .fl _ l 0 (by simp[aF])
    · have dy:(first++ [J.fl s.h.next]++caps)[i]=caps[i -(first.length+1)]'(by simp at ag;omega):=by
       rw[List.getElem_append_right (by simp;omega)];simp
      have dB:(eK++ #[Value.func (.yield l) #[] #[]]++cv)[i]=cv[i -(first.length+1)]'(by simp at b_;omega):=by
       rw[Array.getElem_append_right (by simp;omega)]
       congr 1
       simp;omega
      rw[dy,dB];exact uN.rep (dY _ (by simp at ag;omega) (by simp at b_;omega))
 have cy:(eK++ #[Value.func (.yield l) #[] #[]]++cv).size=(first++ [J.fl s.h.next]++caps).length:=by simp;omega
 have uI:∀id,s.h.next+1<=id->aF σ s.h.next (some (l,0)) id=none:=fun id bS=>by
  have:id≠s.h.next:=by omega
  simp only[aF,this,if_false]
  exact S.fresh id (by omega)
 obtain⟨cz,cq⟩:=zb fh gI base okin _ b4 _ H1 eX Lz cy e5 zk.mf uI
 refine⟨l,mark,b4,{target:= .fn (.func g) cv,args:=eK++ #[Value.func (.yield l) #[] #[]]},b4,g,eK++ #[Value.func (.yield l) #[] #[]]++cv,b4,aq,?_,fun vO _=>bQ.fn vO,?_,bQ.one dH,bQ.calls (cq.mono ?_)⟩
 · simp[resolve,Deferred.ofValue,Ly]
   rfl
 · simpa[invoke] using cz
 rintro e dz ⟨yW,rfl,ml,kJ,LA,DV,_,f3,nz⟩
 obtain⟨lr,ax,gq,d1,d2,d3,d4⟩:=DV.look _ p a4
 have wu:ml s.h.next=some (l,0):=kJ.sub _ _ (by simp[aF])
 rw[wu] at d1;cases d1
 have eG:gq.state≠ .busy:=by
  rw[d3]
  rcases lv with⟨rfl,_⟩|rfl<;>simp[nE]
 have qL:∀arr ty e,Obj.loop gq≠ .cells arr ty e:=fun _ _ _ h=>by cases h
 have sm:dk base okin ml av dz ml (av.set s.h.next none) (dz.putObj l (.loop {gq with state:= .exhausted})):=dk.y8 d2 uE .exhausted gq.pending (fun b aj=>aj)
 have oV:=LA.put (.loop {gq with state:= .exhausted}) d2 qL (fun _ _ h=>by cases h)
 have LB:hg ml (aF av.bm s.h.next none) (dz.putObj l (.loop {gq with state:= .exhausted})):=DV.del a4 wu _
 have qM:dk base okin σ s.h w ml (av.set s.h.next none) (dz.putObj l (.loop {gq with state:= .exhausted})):=(uN.trans kJ).trans sm
 have v':=(wj (G:=G) (tab:=tab) (Φ:=bb P) (n+1) Y (.k4 f ps.toList uL uM) s ex _ he)
 have LC:eY P G Y c9.round bV base okin N cW cX (fun _=>False) ml ⟨s.F,av.set s.h.next none⟩ {a with defers:=mark++a.defers} (dz.putObj l (.loop {gq with state:= .exhausted})):=by
  refine⟨⟨oV.val,oV.blk,oV.inj,oV.base⟩,LB,S.gG.mono qM,⟨fun t=>qM.rep (S.bX.slot t),fun g v bp=>qM.rep (S.bX.mf g v bp)⟩,S.size,?_,fun dR fN=>?_,Nat.le_trans S.qH qM.below.size,fun _ h=>h.elim,Nat.le_trans S.low v',fun id bS=>?_,f3⟩
  · have bJ:=DU.mono (fun b aj=>sm.nD b (kJ.nD b aj))
    have ca:=S.marks.mono qM.nD
    refine⟨fun d bA=>?_,List.pairwise_append.2 ⟨bJ.nodup,ca.nodup,fun d bA oF sn=>?_⟩⟩
    · rcases List.mem_append.1 bA with bA|bA
      · obtain⟨D,bz,bR,e6⟩:=bJ.each d bA
        exact⟨D,bz,Nat.le_trans S.qH bR,e6⟩
      · exact ca.each d bA
    · obtain⟨D,bz,bR,_⟩:=DU.each d bA
      obtain⟨DF,LD,_,LF⟩:=S.marks.each oF sn
      have:=oT LF
      rw[bz,LD]
      intro cY
      cases cY
      omega
  · obtain⟨dY,bz⟩:=S.rd dR fN
    obtain⟨x1,x2,bR⟩:=qM.loop dR dY bz
    exact⟨_,bR⟩
  · have:id≠s.h.next:=by have:=S.low;omega
    rw[nz id (by have:=S.low;show id<s.h.next+1;omega)]
    simp only[aF,this,if_false]
    exact S.lJ id bS
 have bc:=dN ml _ _ LC qM
 refine⟨_,_,run_endLoop d2 eG,?_⟩
 rw[d4] at bc|-
 rcases lv with⟨rfl,rfl⟩|rfl
 · exact bc
 · cases ex with
   | normal=>exact bc
   | ret=>exact wpIn_ret bc
   | exit i=>exact wpIn_exit bc
theorem su {P:Program} {b:Frame} {a:Act} {k:List Item} {cs:List Frame} {w:World} {c:Code}:step P (lone (b.atR a (.code (.scope c)::k)) cs w)= .next (lone (b.atR a (.code c:: .inScope c::k)) cs w):=
 step_lone_go (by simp[stepG,stepG.exec,Frame.atR])
theorem LG {P:Program} {b:Frame} {a:Act} {k:List Item} {cs:List Frame} {w:World} {c:Code}:step P (lone (b.atR a (.inScope c::k)) cs w)= .next (lone (b.atR a k) cs w):=
 step_lone_go (by simp[stepG,stepG.exec,Frame.atR])
theorem LH {F:Fence} {n:Nat} {P:Program} {c:Code} {Q:Exit->Act->World->Prop} {a:Act} {w:World} (h:c.wpIn F n P (Exit.noGoto Q) a w):(Code.scope c).wpIn F n P Q a w:=by
 intro b k cs zj aj ba
 have aJ:(lone (b.atR a (.code (.scope c)::k)) cs w).fenced P F:=fenced_calm aj ba rfl
 obtain⟨e,uO,uP,bc,sv⟩:=h b (.inScope c::k) cs zj aj ba
 cases e with
 | normal=>exact⟨.normal,uO,uP,bc,.head aJ su (StepsIn.trans sv (.one (fenced_calm aj ba rfl) LG))⟩
 | exit id=>
   have ak:exitTo id (.inScope c::k)=exitTo id k:=by simp[exitTo]
   exact⟨_,uO,uP,bc,fun k' aE=> .head aJ su (sv.1 k' (by rw[ak];exact aE)),fun m2 aE=>let ⟨k₁,ab,h2⟩:=sv.2 m2 (by rw[ak];exact aE);⟨k₁,ab,.head aJ su h2⟩⟩
 | goto l=>exact bc.elim
 | ret=>exact⟨_,uO,uP,bc,.of_steps (.one aJ su) sv⟩
 | panic V0=>exact⟨_,uO,uP,bc,.of_steps (.one aJ su) sv⟩
 | outgrown=>exact⟨_,uO,uP,bc,.of_steps (.one aJ su) sv⟩
theorem LI (hm:P.follows .mixedOrders=true) (kK:∀f T,tab f=some T->br P G f T):∀n,sq P G tab n:=by
 intro n
 induction n using Nat.strongRecOn with
 | _ n fh=>
 intro N Y c oU s ex ax I he
 cases n with
 | zero=>unfold exec at he;cases he
 | succ n=>
 have bC:=fh n (Nat.lt_succ_self n)
 have wk:=he
 rw[fI] at he
 cases c with
 | skip=>
   simp only[fm] at I;cases I
   cases he
   exact fun c9 dH bQ bV base okin cW cX σ a w Q S dN=>wpIn_skip (dN σ a w S (dk.refl ..))
 | ret=>
   simp only[fm] at I;cases I
   cases he
   exact fun c9 dH bQ bV base okin cW cX σ a w Q S dN=>wpIn_ret (dN σ a w S (dk.refl ..))
 | exit id=>
   simp only[fm] at I;cases I
   cases he
   exact fun c9 dH bQ bV base okin cW cX σ a w Q S dN=>wpIn_exit (dN σ a w S (dk.refl ..))
 | region id ops draw=>
   have hb:=I
   have LJ:∃jW es b,oU= .region jW es b:=by
    simp only[fm] at I
    split at I<;>try(cases I;done)
    split at I
    · split at I<;>try(cases I;done)
      cases I;exact⟨_,_,_,rfl⟩
    · cases I;exact⟨_,_,_,rfl⟩
   obtain⟨jW,es,b,rfl⟩:=LJ
   simp only at he
   obtain⟨s1,ab,he⟩:=Option.map_eq_some_iff.1 he
   cases he
   exact fun c9 dH bQ bV base okin cW cX σ a w Q S dN=>K' hm bQ (Lw bC) kK hb ab S dN
 | seq x y=>
   simp only[fm] at I
   split at I<;>try(cases I;done)
   rename_i oX zl ak bd
   cases I
   simp only at he
   split at he
   · rename_i s1 ab
     have b4:=bC N Y x oX s _ s1 ak ab
     have dd:=bC N Y y zl s1 ex ax bd he
     refine fun c9 dH bQ bV base okin cW cX σ a w Q S dN=>wpIn_seq ?_
     exact b4 c9 dH bQ bV base okin cW cX σ a w _ S fun gF a1 mm gu dS=>dd c9 dH bQ bV base okin cW cX gF a1 mm Q gu fun oJ eC zi uK fC=>dN oJ eC zi uK (dS.trans fC)
   · rename_i bP
     have b4:=bC N Y x oX s ex ax ak he
     refine fun c9 dH bQ bV base okin cW cX σ a w Q S dN=>wpIn_seq ?_
     refine b4 c9 dH bQ bV base okin cW cX σ a w _ S fun gF a1 mm gu dS=>?_
     have:=dN gF a1 mm gu dS
     cases ex with
     | normal=>exact absurd he (bP ax)
     | exit id=>exact this
     | ret=>exact this
 | cond x y z=>
   simp only[fm] at I
   split at I<;>try(cases I;done)
   rename_i oX zl LK ak bd aP
   cases I
   simp only at he
   split at he<;>try(cases he;done)
   rename_i t a7
   cases t with
   | true=>
     simp only[if_true] at he
     have b4:=bC N Y y zl s ex ax bd he
     refine fun c9 dH bQ bV base okin cW cX σ a w Q S dN=>?_
     have r:=S.bX.dM ak
     rw[a7] at r
     exact wpIn_cond_true r.pA (b4 c9 dH bQ bV base okin cW cX σ a w Q S dN)
   | false=>
     simp only[Bool.false_eq_true,if_false] at he
     have b4:=bC N Y z LK s ex ax aP he
     refine fun c9 dH bQ bV base okin cW cX σ a w Q S dN=>?_
     have r:=S.bX.dM ak
     rw[a7] at r
     exact wpIn_cond_false r.pA (b4 c9 dH bQ bV base okin cW cX σ a w Q S dN)
 | block id x=>
   simp only[fm] at I
   obtain⟨oX,ak,rfl⟩:=Option.map_eq_some_iff.1 I
   simp only at he
   split at he
   · rename_i i s1 ab
     have b4:=bC N Y x oX s _ s1 ak ab
     have aG:s1=ax:=by split at he<;>(cases he;rfl)
     subst aG
     refine fun c9 dH bQ bV base okin cW cX σ a w Q S dN=>wpIn_block ?_
     refine b4 c9 dH bQ bV base okin cW cX σ a w _ S fun gF a1 mm gu dS=>?_
     have:=dN gF a1 mm gu dS
     simp only[wc,Exit.inBlock]
     split at he
     · rename_i bS
       cases he
       rw[if_pos bS];exact this
     · rename_i bS
       cases he
       rw[if_neg bS];exact this
   · rename_i bP
     have b4:=bC N Y x oX s ex ax ak he
     refine fun c9 dH bQ bV base okin cW cX σ a w Q S dN=>wpIn_block ?_
     refine b4 c9 dH bQ bV base okin cW cX σ a w _ S fun gF a1 mm gu dS=>?_
     have:=dN gF a1 mm gu dS
     cases ex with
     | normal=>exact this
     | exit i=>exact absurd he (bP i ax)
     | ret=>exact this
 | loop x=>
   simp only[fm] at I
   obtain⟨oX,ak,rfl⟩:=Option.map_eq_some_iff.1 I
   have b4:=DT ak (n+1) fh s ex ax wk
   exact fun c9 dH bQ bV base okin cW cX σ a w Q S dN=>wpIn_loop_rounds (n+1) (b4 c9 dH bQ bV base okin cW cX σ a w Q S dN)
 | rangeFunc x ps dA body=>
   simp only[fm] at I
   split at I<;>try(cases I;done)
   rename_i f uL uM ak bh aj
   split at I<;>try(cases I;done)
   rename_i wm
   cases I
   exact fun c9 dH bQ bV base okin cW cX σ a w Q S dN=>Lx bC ak bh aj wm wk c9 dH bQ bV base okin cW cX σ a w Q S dN
 | scope x=>
   simp only[fm] at I
   obtain⟨oX,ak,rfl⟩:=Option.map_eq_some_iff.1 I
   simp only at he
   cases n with
   | zero=>
     have aJ:exec G (bb P) tab 0 Y .skip s=none:=by unfold exec;rfl
     rw[aJ] at he;cases he
   | succ n=>
     have aJ:exec G (bb P) tab (n+1) Y .skip s=some (.normal,s):=by rw[fI]
     rw[aJ] at he
     simp only at he
     have b4:=bC N Y x oX s ex ax ak he
     refine fun c9 dH bQ bV base okin cW cX σ a w Q S dN=>LH ?_
     refine b4 c9 dH bQ bV base okin cW cX σ a w _ S fun gF a1 mm gu dS=>?_
     have:=dN gF a1 mm gu dS
     cases ex<;>exact this
 | label _=>
   simp only[fm] at I;cases I
   cases he
   exact fun c9 dH bQ bV base okin cW cX σ a w Q S dN=>wpIn_label (dN σ a w S (dk.refl ..))
 | goto _=>simp only[fm] at I;cases I
 | refuse _=>simp only[fm] at I;cases I
theorem zm (n:Nat) (f:FuncId) (args:List J) (h:aA):vF G (bb P) tab n Y f args h=jX G (bb P) tab n Y f args h:=rfl
theorem wx (hm:P.follows .mixedOrders=true) (kK:∀f T,tab f=some T->br P G f T) {f:FuncId} {T:List J->Option J}
 (cJ:∀args v,T args=some v->∃n,lZ G (bb P) tab n f args=some v):br P G f T:=by
 intro args v aR ok w dt cy e5 pR
 obtain⟨n,ar⟩:=cJ args v aR
 unfold lZ at ar
 obtain⟨p,ab,h2⟩:=Option.bind_eq_some_iff.1 ar
 obtain⟨u,av⟩:=p
 obtain⟨q,aX,aW⟩:=Option.map_eq_some_iff.1 h2
 obtain⟨hB,ids⟩:=q
 cases aW
 rw[zm] at ab
 have H:cS w.heap.size ok (fun _=>none) aJ w:=⟨fun id b sz h=>(by cases h),fun id blk h=>(by cases h),fun id fB b sz fg h=>(by cases h),Nat.le_refl _⟩
 have hC:∀b,b<w.heap.size->ok b->bN w.heap.size ok (fun _=>none) aJ b:=fun b aj aK=> .inl ⟨aj,aK⟩
 have st:rZ w w ok (bN w.heap.size ok (fun _=>none) aJ):=fun b o aj _ aK=>⟨hC b (oT aj) aK,rfl⟩
 obtain⟨d1,d2⟩:=zb (LI hm kK n) ab w.heap.size ok (fun _=>none) w dt H ⟨fun id p h=>(by cases h),fun id fB p m7 l s ax h=>(by cases h)⟩ (fun L a8=>absurd a8 (by simp)) cy (fun i ag b_=> .val _ _ ((e5 i ag b_).mono st))
  (fun g u bp=>(pR g u bp).mono st (fun _ _ h=>h) (fun _=>Nat.le_refl _)) (fun _ _=>rfl)
 refine .inl ⟨d1,d2.mono fun e a_ dI=>?_⟩
 obtain⟨cv,he,bE,p,LL,_,r,_,_⟩:=dI
 refine⟨cv,he,(KR LL r aX).qp fun b _ aj=>?_,p.below⟩
 rcases aj with aj|aj
 · exact .inl aj.2
 · exact .inr aj.1
end
#print axioms wx
end Go.Eng
