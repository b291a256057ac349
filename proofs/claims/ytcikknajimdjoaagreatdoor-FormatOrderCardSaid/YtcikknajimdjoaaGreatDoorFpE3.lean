import Derived.Test.YtcikknajimdjoaaGreatDoorFpE2
import Derived.RangeFuncRecord
import Derived.OrdersIn
import Derived.RangeFuncLeaves
import Derived.RangeFuncBox
import Derived.LoopNIn
import Derived.RangeFuncNested
import Derived.Scope
set_option linter.unusedSimpArgs false
set_option linter.unusedVariables false
set_option linter.unusedSectionVars false
namespace Go.Eng
open Go Go.RowKit
section
variable {G:Nat->Option J}
theorem bn.e_ {F F':Nat->J} {x:bn} (h:∀t∈x.rd,F t=F' t):x.cu G F=x.cu G F':=by
 cases x with
 | t n=>exact h n (by simp[bn.rd])
 | _=>rfl
theorem we {F F':Nat->J} {xs:List bn} (h:∀t∈xs.flatMap bn.rd,F t=F' t):xs.map (bn.cu G F)=xs.map (bn.cu G F'):=by
 apply List.map_congr_left
 intro x av
 exact bn.e_ fun t a'=>h t (List.mem_flatMap.2 ⟨x,av,a'⟩)
theorem Ez {F F':Nat->J}:∀ {ps:List (Nat × Nat × bn)} {cs:List J},(∀t∈ps.flatMap (fun p=>p.2.2.rd),F t=F' t)->gg cs (bn.cu G F) ps=gg cs (bn.cu G F') ps
 | [],cs,_=>rfl
 | (off,sz,x)::ps,cs,h=>by
   have av:x.cu G F=x.cu G F':=bn.e_ fun t a'=>h t (by simp[a'])
   simp only[gg,av]
   rw[Ez (ps:=ps) fun t a'=>h t (by simp only[List.flatMap_cons,List.mem_append];exact .inr a')]
theorem EA {F F':Nat->J} {sz:Nat}:∀ {ps:List (Nat × bn)} {es:List J},(∀t∈ps.flatMap (fun p=>p.2.rd),F t=F' t)->gh sz es (bn.cu G F) ps=gh sz es (bn.cu G F') ps
 | [],es,_=>rfl
 | (i,x)::ps,es,h=>by
   have av:x.cu G F=x.cu G F':=bn.e_ fun t a'=>h t (by simp[a'])
   simp only[gh,av]
   rw[EA (ps:=ps) fun t a'=>h t (by simp only[List.flatMap_cons,List.mem_append];exact .inr a')]
theorem AE {F F':Nat->J} {d:Nat} {x:Option bn} (h:∀t∈bn.xE x,F t=F' t):bound d (bn.cu G F) x=bound d (bn.cu G F') x:=by
 cases x with
 | none=>rfl
 | some x=>simp only[bound];rw[bn.e_ (G:=G) (F:=F) (F':=F') (x:=x) h]
theorem M3 {F F':Nat->J} {bm r:Nat} {h:aF} {op:kx} (bR:∀t∈op.reads,F t=F' t):evalOp bm r (bn.cu G F) h op=evalOp bm r (bn.cu G F') h op:=by
 cases op<;>simp only[evalOp,kx.reads,List.mem_append] at bR|-
 case mv x=>rw[bn.e_ bR]
 case pick c a b=>
  rw[bn.e_ (x:=c) fun t a'=>bR t (.inl (.inl a')),bn.e_ (x:=a) fun t a'=>bR t (.inl (.inr a')),bn.e_ (x:=b) fun t a'=>bR t (.inr a')]
 case box x=>rw[bn.e_ bR]
 case build z ps=>rw[Ez bR]
 case bsl sz z n ps=>rw[EA bR]
 case load cq sz x=>rw[bn.e_ bR]
 case store sz x y=>rw[bn.e_ (x:=x) fun t a'=>bR t (.inl a'),bn.e_ (x:=y) fun t a'=>bR t (.inr a')]
 case bin ty op x y=>rw[bn.e_ (x:=x) fun t a'=>bR t (.inl a'),bn.e_ (x:=y) fun t a'=>bR t (.inr a')]
 case eqA tQ n x y=>rw[bn.e_ (x:=x) fun t a'=>bR t (.inl a'),bn.e_ (x:=y) fun t a'=>bR t (.inr a')]
 case un op x=>rw[bn.e_ bR]
 case conv k x=>rw[bn.e_ bR]
 case mkfn f a b=>rw[we (xs:=a) fun t a'=>bR t (.inl a'),we (xs:=b) fun t a'=>bR t (.inr a')]
 case mksl z sz tR x y=>rw[bn.e_ (x:=x) fun t a'=>bR t (.inl a'),bn.e_ (x:=y) fun t a'=>bR t (.inr a')]
 case slice sz x bd an ky=>
  rw[bn.e_ (x:=x) fun t a'=>bR t (.inl (.inl (.inl a')))]
  simp only[AE (x:=bd) fun t a'=>bR t (.inl (.inl (.inr a'))),AE (x:=an) fun t a'=>bR t (.inl (.inr a')),AE (x:=ky) fun t a'=>bR t (.inr a')]
 case faddr cq off sz x=>rw[bn.e_ bR]
 case field cq off sz x=>rw[bn.e_ bR]
 case iaddrS sz x y=>rw[bn.e_ (x:=x) fun t a'=>bR t (.inl a'),bn.e_ (x:=y) fun t a'=>bR t (.inr a')]
 case iaddrA cq n sz x y=>rw[bn.e_ (x:=x) fun t a'=>bR t (.inl a'),bn.e_ (x:=y) fun t a'=>bR t (.inr a')]
 case idxA cq n sz x y=>rw[bn.e_ (x:=x) fun t a'=>bR t (.inl a'),bn.e_ (x:=y) fun t a'=>bR t (.inr a')]
 case idxS x y=>rw[bn.e_ (x:=x) fun t a'=>bR t (.inl a'),bn.e_ (x:=y) fun t a'=>bR t (.inr a')]
 case extract x i=>rw[bn.e_ bR]
 case len s x=>rw[bn.e_ bR]
 case mlook x y=>rw[bn.e_ (x:=x) fun t a'=>bR t (.inl a'),bn.e_ (x:=y) fun t a'=>bR t (.inr a')]
 case isnil tQ x=>rw[bn.e_ bR]
 case app sz tR x y=>rw[bn.e_ (x:=x) fun t a'=>bR t (.inl a'),bn.e_ (x:=y) fun t a'=>bR t (.inr a')]
 case min xs=>rw[we bR]
 case max xs=>rw[we bR]
def AF (bm r:Nat) (bJ:bn->J) (h:aF) (op:kx) (v:J) (ay:aF):ey->Prop
 | .pure=>ay=h/\∀h2,evalOp bm r bJ h2 op=some (v,h2,.pure)
 | .hK=>∃blk,ay=h.new r blk/\∀h2,evalOp bm r bJ h2 op=some (v,h2.new r blk,.hK)
 | .rd=>ay=h/\∀h2:aF,(∀id,id<bm->h2.cells id=h.cells id)->evalOp bm r bJ h2 op=some (v,h2,.rd)
 | .wr=>True
 | .mH id=>ay=h/\id<bm/\∀h2:aF,h2.cells id=h.cells id->evalOp bm r bJ h2 op=some (v,h2,.mH id)
 | .lB k=>∀id,k id=true->ay.cells id=h.cells id
theorem gS {bm r:Nat} {bJ:bn->J} {h ay:aF} {op:kx} {v:J} {c:ey} (X:Option J) (df:∀h2,evalOp bm r bJ h2 op=X.map fun v=>(v,h2,.pure))
 (he:evalOp bm r bJ h op=some (v,ay,c)):(ay.next,ay.bu)=(h.next,h.bu)/\AF bm r bJ h op v ay c:=by
 rw[df] at he
 obtain⟨u,hu,he⟩:=Option.map_eq_some_iff.1 he
 cases he
 exact ⟨rfl,rfl,fun h2=>by rw[df,hu];rfl⟩
theorem AG {bm r:Nat} {bJ:bn->J} {h ay:aF} {op:kx} {v:J} {c:ey} (X:Option (J × List J)) (df:∀h2,evalOp bm r bJ h2 op=X.map fun p=>(p.1,aF.new h2 r p.2,.hK))
 (he:evalOp bm r bJ h op=some (v,ay,c)):(ay.next,ay.bu)=(h.next,h.bu)/\AF bm r bJ h op v ay c:=by
 rw[df] at he
 obtain⟨u,hu,he⟩:=Option.map_eq_some_iff.1 he
 cases he
 exact ⟨rfl,u.2,rfl,fun h2=>by rw[df,hu];rfl⟩
theorem tS {bm r:Nat} {bJ:bn->J} {h ay:aF} {op:kx} {v:J} {c:ey} (he:evalOp bm r bJ h op=some (v,ay,c)):
 (ay.next,ay.bu)=(h.next,h.bu)/\AF bm r bJ h op v ay c:=by
 cases op
 case mv x=>exact gS (some (bJ x)) (fun h2=>rfl) he
 case pick c a b=>
  cases I:bJ c<;>first
   | (simp only[evalOp,I] at he;cases he;done)
   | (rename_i t;exact gS (some (if t then bJ a else bJ b)) (fun h2=>by simp only[evalOp,I];rfl) he)
 case alloc z=>exact AG (some (.ptr r 0 0,[z])) (fun h2=>rfl) he
 case box x=>
  by_cases aP:(bJ x).cells.all J.dp=true
  · exact AG (some (.ptr r 0 0,[bJ x])) (fun h2=>by simp only[evalOp,if_pos aP];rfl) he
  · simp only[evalOp,if_neg aP] at he;cases he
 case build z ps=>exact gS ((gg z bJ ps).map J.agg) (fun h2=>by simp only[evalOp,Option.map_map];rfl) he
 case bsl sz z n ps=>
  by_cases aP:z.cells.length=sz/\0<sz/\z.ft=true
  · exact gS ((gh sz (List.replicate n z) bJ ps).map fun es=> .sl es true) (fun h2=>by simp only[evalOp,if_pos aP,Option.map_map];rfl) he
  · simp only[evalOp,if_neg aP] at he;cases he
 case load cq sz x=>
  cases av:bJ x<;>first
   | (simp only[evalOp,av] at he;cases he;done)
   | skip
  · rename_i id idx di
    simp only[evalOp,av] at he
    obtain⟨blk,ae,he⟩:=Option.bind_eq_some_iff.1 he
    obtain⟨e,h2,he⟩:=Option.bind_eq_some_iff.1 he
    obtain⟨cs,aO,he⟩:=Option.bind_eq_some_iff.1 he
    obtain⟨u,a2,he⟩:=Option.map_eq_some_iff.1 he
    cases he
    refine⟨rfl,?_⟩
    by_cases b8:id<bm
    · rw[if_pos b8]
      refine⟨rfl,b8,fun de d'=>?_⟩
      simp only[evalOp,av,d',ae,Option.bind_some,h2,aO,a2,if_pos b8];rfl
    · rw[if_neg b8];trivial
  · rename_i u
    exact gS ((cut u.cells 0 sz).bind (partOf cq)) (fun h2=>by
     simp only[evalOp,av]
     cases cut u.cells 0 sz<;>simp) he
 case store sz a w=>
  simp only[evalOp] at he
  split at he
  · split at he<;>try(cases he;done)
    obtain⟨blk,ae,he⟩:=Option.bind_eq_some_iff.1 he
    obtain⟨e,h2,he⟩:=Option.bind_eq_some_iff.1 he
    split at he<;>try(cases he;done)
    split at he
    · cases he;exact ⟨rfl,fun j bb=>by simp only[aF.new,aG];rw[if_neg (by simpa using bb)]⟩
    · split at he
      · cases he;exact ⟨rfl,fun j bb=>by simp only[aF.new,aG];rw[if_neg (by simpa using bb)]⟩
      · cases he
  · cases he
 case bin ty op x y=>exact gS (gY ty op (bJ x) (bJ y)) (fun h2=>rfl) he
 case mlook x y=>
  cases av:bJ x<;>first
   | (simp only[evalOp,av] at he;cases he;done)
   | skip
  rename_i m
  cases bj:bJ y<;>first
   | (simp only[evalOp,av,bj] at he;cases he;done)
   | skip
  rename_i k n
  cases k<;>first
   | (simp only[evalOp,av,bj] at he;cases he;done)
   | (exact gS (some (.cb [match m.lookup n with
       | some f=> .fn f [] []
       | none=> .nilfn,.bool (m.lookup n).isSome])) (fun h2=>by simp only[evalOp,av,bj];rfl) he)
 case isnil tQ x=>
  cases av:bJ x<;>first
   | (simp only[evalOp,av] at he;cases he;done)
   | skip
  · rename_i xs ex
    exact gS (if 0<xs.length then some (.bool tQ) else none) (fun h2=>by simp only[evalOp,av];split<;>rfl) he
  · rename_i id off len cap
    exact gS (if 0<len\/0<cap then some (.bool tQ) else none) (fun h2=>by simp only[evalOp,av];split<;>rfl) he
 case eqA tQ n x y=>
  cases av:bJ x<;>first
   | (simp only[evalOp,av] at he;cases he;done)
   | skip
  cases bj:bJ y<;>first
   | (simp only[evalOp,av,bj] at he;cases he;done)
   | skip
  rename_i xs ys
  by_cases aC:xs.length=n
  · exact gS ((gf xs ys).map fun b=> .bool (b != tQ)) (fun h2=>by simp only[evalOp,av,bj,if_pos aC,Option.map_map];rfl) he
  · simp only[evalOp,av,bj,if_neg aC] at he;cases he
 case un op x=>exact gS (gZ op (bJ x)) (fun h2=>rfl) he
 case conv k x=>
  cases av:bJ x<;>first
   | (simp only[evalOp,av] at he;cases he;done)
   | (rename_i k' n;exact gS (some (.int k (k.wrap n))) (fun h2=>by simp only[evalOp,av];rfl) he)
 case mkfn f a b=>exact gS (some (.fn f (a.map bJ) (b.map bJ))) (fun h2=>rfl) he
 case mksl z sz bytes l c=>
  cases av:bJ l<;>first
   | (simp only[evalOp,av] at he;cases he;done)
   | skip
  cases bj:bJ c<;>first
   | (simp only[evalOp,av,bj] at he;cases he;done)
   | skip
  rename_i k a k' b
  by_cases aC:0<=a/\a<=b/\b*bytes<=140737488355328/\0<bytes/\z.cells.length=sz/\0<sz/\(z.cells.all J.dp)=true
  · exact AG (some (.ref r 0 a.toNat b.toNat,List.replicate b.toNat z)) (fun h2=>by simp only[evalOp,av,bj,if_pos aC];rfl) he
  · simp only[evalOp,av,bj,if_neg aC] at he;cases he
 case slice sz x bd an ky=>
  cases av:bJ x<;>first
   | (simp only[evalOp,av] at he;cases he;done)
   | skip
  · rename_i xs ex
    refine gS (match bound 0 bJ bd,bound xs.length bJ an,bound xs.length bJ ky with
     | some l,some u,some m=>if l<=u/\u<=m/\m<=xs.length/\(l=0\/(xs.all fun e=>e.cells.length == sz)=true) then some (.sl ((xs.drop l).take (u - l)) ((ky.isSome||ex)&&m == u)) else none
     | _,_,_=>none) (fun h2=>?_) he
    simp only[evalOp,av]
    cases bound 0 bJ bd<;>cases bound xs.length bJ an<;>cases bound xs.length bJ ky<;>simp only[Option.map_none]
    split<;>rfl
  · rename_i id off len cap
    simp only[evalOp,av] at he
    split at he<;>try(cases he;done)
    rename_i l u m b1 cN eW
    split at he<;>try(cases he;done)
    rename_i bo
    cases he
    refine⟨rfl,?_⟩
    by_cases b8:id<bm
    · rw[if_pos b8]
      refine⟨rfl,fun de d'=>?_⟩
      simp only[evalOp,av,b1,cN,eW,d' id b8,if_pos bo,if_pos b8]
    · rw[if_neg b8];trivial
 case faddr cq off sz x=>
  cases av:bJ x<;>first
   | (simp only[evalOp,av] at he;cases he;done)
   | skip
  · rename_i id idx di
    exact gS (some (.ptr id idx (di+off))) (fun h2=>by simp only[evalOp,av];rfl) he
  · rename_i u
    exact gS (((cut u.cells off sz).bind (partOf cq)).map J.e0) (fun h2=>by
     simp only[evalOp,av]
     cases cut u.cells off sz<;>simp[Function.comp_def]) he
 case field cq off sz x=>
  cases av:bJ x<;>first
   | (simp only[evalOp,av] at he;cases he;done)
   | skip
  rename_i cs
  exact gS ((cut cs off sz).bind (partOf cq)) (fun h2=>by
   simp only[evalOp,av]
   cases cut cs off sz<;>simp) he
 case iaddrS sz x i=>
  cases av:bJ x<;>first
   | (simp only[evalOp,av] at he;cases he;done)
   | skip
  · cases bj:bJ i<;>first
     | (simp only[evalOp,av,bj] at he;cases he;done)
     | skip
    rename_i xs ex k n
    refine gS (if 0<=n then (xs[n.toNat]?).bind fun e=>if e.cells.length=sz then some (.e0 e) else none else none) (fun h2=>?_) he
    simp only[evalOp,av,bj]
    split
    · cases xs[n.toNat]? with
      | none=>rfl
      | some e=>simp only[Option.bind_some];split<;>rfl
    · rfl
  · cases bj:bJ i<;>first
     | (simp only[evalOp,av,bj] at he;cases he;done)
     | skip
    rename_i id off len cap k n
    simp only[evalOp,av,bj] at he
    split at he<;>try(cases he;done)
    rename_i bo
    cases he
    refine⟨rfl,?_⟩
    by_cases b8:id<bm
    · rw[if_pos b8]
      refine⟨rfl,fun de d'=>?_⟩
      simp only[evalOp,av,bj,d' id b8,if_pos bo,if_pos b8]
    · rw[if_neg b8];trivial
 case iaddrA cq n sz x i=>
  cases av:bJ x<;>first
   | (simp only[evalOp,av] at he;cases he;done)
   | skip
  · cases bj:bJ i<;>first
     | (simp only[evalOp,av,bj] at he;cases he;done)
     | skip
    rename_i id idx di k j
    refine gS (if 0<=j/\j<n then some (.ptr id idx (di+j.toNat*sz)) else none) (fun h2=>?_) he
    simp only[evalOp,av,bj]
    split<;>rfl
  · cases bj:bJ i<;>first
     | (simp only[evalOp,av,bj] at he;cases he;done)
     | skip
    rename_i u k j
    refine gS (if 0<=j/\j<n then ((cut u.cells (j.toNat*sz) sz).bind (partOf cq)).map J.e0 else none) (fun h2=>?_) he
    simp only[evalOp,av,bj]
    split
    · cases cut u.cells (j.toNat*sz) sz<;>simp[Function.comp_def]
    · rfl
 case idxA cq n sz x i=>
  cases av:bJ x<;>first
   | (simp only[evalOp,av] at he;cases he;done)
   | skip
  cases bj:bJ i<;>first
   | (simp only[evalOp,av,bj] at he;cases he;done)
   | skip
  rename_i cs k j
  refine gS (if 0<=j/\j<n then (cut cs (j.toNat*sz) sz).bind (partOf cq) else none) (fun h2=>?_) he
  simp only[evalOp,av,bj]
  split
  · cases cut cs (j.toNat*sz) sz<;>simp
  · rfl
 case idxS x i=>
  cases av:bJ x<;>first
   | (simp only[evalOp,av] at he;cases he;done)
   | skip
  cases bj:bJ i<;>first
   | (simp only[evalOp,av,bj] at he;cases he;done)
   | skip
  rename_i s k j
  refine gS (if 0<=j then (s[j.toNat]?).map fun b=> .int .u8 b.toNat else none) (fun h2=>?_) he
  simp only[evalOp,av,bj]
  split
  · simp[Option.map_map,Function.comp_def]
  · rfl
 case extract x i=>
  cases av:bJ x<;>first
   | (simp only[evalOp,av] at he;cases he;done)
   | skip
  rename_i vs
  exact gS (vs[i]?) (fun h2=>by simp only[evalOp,av]) he
 case call f as=>simp only[evalOp] at he;cases he
 case len s x=>
  cases av:bJ x<;>first
   | (simp only[evalOp,av] at he;cases he;done)
   | skip
  · rename_i st
    refine gS (if s=true then some (.int .i64 st.size) else none) (fun h2=>?_) he
    simp only[evalOp,av];split<;>rfl
  · rename_i xs ex
    refine gS (if s=false then some (.int .i64 xs.length) else none) (fun h2=>?_) he
    simp only[evalOp,av];split<;>rfl
  · rename_i id off len cap
    refine gS (if s=false then some (.int .i64 len) else none) (fun h2=>?_) he
    simp only[evalOp,av];split<;>rfl
 case app sz bytes x y=>
  simp only[evalOp] at he
  obtain⟨ys,ae,he⟩:=Option.bind_eq_some_iff.1 he
  split at he<;>try(cases he;done)
  rename_i bo
  split at he
  · rename_i xs ex av
    split at he
    · rename_i gR
      cases he
      refine⟨rfl,?_⟩
      cases bj:bJ y<;>simp only[lQ]<;>try trivial
      refine⟨rfl,fun h2=>?_⟩
      rw[bj] at ae
      simp only[elems] at ae
      cases ae
      simp only[evalOp,bj,elems,Option.bind_some,if_pos bo,av,if_pos gR,lQ,if_true]
    rename_i gR
    split at he<;>try(cases he;done)
    rename_i si
    cases he
    refine⟨rfl,?_⟩
    cases bj:bJ y<;>simp only[lQ]<;>try trivial
    refine⟨_,rfl,fun h2=>?_⟩
    rw[bj] at ae
    simp only[elems] at ae
    cases ae
    simp only[evalOp,bj,elems,Option.bind_some,if_pos bo,av,if_neg gR,if_pos si,lQ,if_true]
  · rename_i id off len cap av
    split at he
    · rename_i gR
      cases he
      refine⟨rfl,?_⟩
      cases bj:bJ y<;>simp only[lQ]<;>try trivial
      refine⟨rfl,fun h2=>?_⟩
      rw[bj] at ae
      simp only[elems] at ae
      cases ae
      simp only[evalOp,bj,elems,Option.bind_some,if_pos bo,av,if_pos gR,lQ,if_true]
    split at he<;>try(cases he;done)
    obtain⟨blk,h2,he⟩:=Option.bind_eq_some_iff.1 he
    split at he<;>try(cases he;done)
    split at he
    · split at he<;>try(cases he;done)
      cases he;exact ⟨rfl,trivial⟩
    · split at he<;>try(cases he;done)
      cases he;exact ⟨rfl,trivial⟩
  · cases he
 case min xs=>exact gS (fg (fun a b=>if b<a then b else a) (xs.map bJ)) (fun h2=>rfl) he
 case max xs=>exact gS (fg (fun a b=>if a<b then b else a) (xs.map bJ)) (fun h2=>rfl) he
end
end Go.Eng
namespace Go.Eng
open Go Go.RowKit
theorem EB {h h2:aF} {v u:J} {ids:List Nat} (a4:eJ h v=some (u,ids)) (I:∀id∈ids,h2.cells id=h.cells id):eJ h2 v=some (u,ids):=by
 cases v<;>simp only[eJ] at a4|- <;>try(first|exact a4|cases a4)
 rename_i id off len cap
 split at a4<;>try(cases a4;done)
 rename_i blk au
 split at a4<;>try(cases a4;done)
 rename_i bo
 cases a4
 rw[I id (by simp),au]
 simp only[if_pos bo]
theorem EC {h h2:aF}:∀ {vs us:List J} {ids:List Nat},ff h vs=some (us,ids)->(∀id∈ids,h2.cells id=h.cells id)->ff h2 vs=some (us,ids)
 | [],us,ids,a4,_=>by simp only[ff] at a4|-;exact a4
 | v::vs,us,ids,a4,I=>by
   simp only[ff] at a4|-
   split at a4<;>try(cases a4;done)
   rename_i kA a m4 b ae sj
   cases a4
   rw[EB ae fun id b8=>I id (by simp[b8]),EC sj fun id b8=>I id (by simp[b8])]
theorem M4 {h h2:aF} {v u:J} {ids:List Nat} (a4:hL h v=some (u,ids)) (I:∀id∈ids,h2.cells id=h.cells id):hL h2 v=some (u,ids):=by
 cases v<;>simp only[hL] at a4|- <;>try(exact EB a4 I)
 obtain⟨p,ae,he⟩:=Option.map_eq_some_iff.1 a4
 cases he
 rw[EC ae I];rfl
theorem x9 {h h2:aF}:∀ {vs us:List J} {ids:List Nat},e8 h vs=some (us,ids)->(∀id∈ids,h2.cells id=h.cells id)->e8 h2 vs=some (us,ids)
 | [],us,ids,a4,_=>by simp only[e8] at a4|-;exact a4
 | v::vs,us,ids,a4,I=>by
   simp only[e8] at a4|-
   split at a4<;>try(cases a4;done)
   rename_i kA a m4 b ae sj
   cases a4
   rw[M4 ae fun id b8=>I id (by simp[b8]),x9 sj fun id b8=>I id (by simp[b8])]
theorem tT (h:aF) {ct ej:Nat} (b1 cN:List J) (cp:ct≠ej):(h.new ct b1).new ej cN=(h.new ej cN).new ct b1:=by
 simp only[aF.new,aF.mk.injEq,and_true]
 funext t
 simp only[aG]
 by_cases ae:t=ct<;>by_cases h2:t=ej<;>simp_all
theorem pD (h:aF) {r id:Nat} (b:List J) (cp:id≠r):(h.new r b).cells id=h.cells id:=by
 simp only[aF.new,aG,if_neg cp]
theorem M5 {bm q:Nat} {bJ:bn->J} {h ay:aF} {op:kx} {v:J} {c:ey} {r:Nat} {blk:List J} (he:evalOp bm q bJ h op=some (v,ay,c)) (aC:h.cells r=none) (pE:r≠q):
 evalOp bm q bJ (h.new r blk) op=some (v,ay.new r blk,c)/\ay.cells r=none:=by
 have cp:∀ {id b},h.cells id=some b->id≠r:=by rintro id b au rfl;rw[aC] at au;cases au
 have qe:∀ {id b},h.cells id=some b->(h.new r blk).cells id=some b:=fun au=>by rw[pD _ _ (cp au)];exact au
 have dC:∀ {sz id},sizedB sz (h.cells id)=true->sizedB sz ((h.new r blk).cells id)=true:=fun {sz id} aP=>by
  cases au:h.cells id with
  | none=>rw[au] at aP;cases aP
  | some b=>rw[qe au,<-au];exact aP
 have lE:∀ {y ys},elems h y=some ys->elems (h.new r blk) y=some ys:=fun {y ys} bj=>by
  cases y<;>simp only[elems] at bj|- <;>try(first|exact bj|cases bj)
  split at bj<;>try(cases bj;done)
  rename_i b au
  rw[qe au];exact bj
 obtain⟨_,E⟩:=tS he
 have pu:c= .pure->evalOp bm q bJ (h.new r blk) op=some (v,ay.new r blk,c)/\ay.cells r=none:=by
  rintro rfl
  obtain⟨rfl,aq⟩:=E
  exact ⟨aq _,aC⟩
 have hK:c= .hK->evalOp bm q bJ (h.new r blk) op=some (v,ay.new r blk,c)/\ay.cells r=none:=by
  rintro rfl
  obtain⟨cN,rfl,aq⟩:=E
  exact ⟨by rw[aq,tT _ _ _ pE],by rw[pD _ _ pE];exact aC⟩
 clear E
 cases op
 case load cq sz x=>
  cases av:bJ x<;>(try(simp only[evalOp,av] at he;cases he;done))
  · rename_i id idx di
    simp only[evalOp,av] at he|-
    obtain⟨b,au,he⟩:=Option.bind_eq_some_iff.1 he
    obtain⟨e,ae,he⟩:=Option.bind_eq_some_iff.1 he
    obtain⟨cs,h2,he⟩:=Option.bind_eq_some_iff.1 he
    obtain⟨u,aO,he⟩:=Option.map_eq_some_iff.1 he
    cases he
    exact ⟨by simp only[qe au,Option.bind_some,ae,h2,aO,Option.map_some],aC⟩
  · refine pu ?_
    simp only[evalOp,av] at he
    obtain⟨cs,h2,he⟩:=Option.bind_eq_some_iff.1 he
    obtain⟨u,aO,he⟩:=Option.map_eq_some_iff.1 he
    cases he;rfl
 case store sz a x=>
  cases av:bJ a<;>(try(simp only[evalOp,av] at he;cases he;done))
  rename_i id idx di
  simp only[evalOp,av] at he|-
  split at he<;>try(cases he;done)
  rename_i aP
  obtain⟨b,au,he⟩:=Option.bind_eq_some_iff.1 he
  obtain⟨e,ae,he⟩:=Option.bind_eq_some_iff.1 he
  have q6:=cp au
  split at he<;>try(cases he;done)
  rename_i bo
  rw[if_neg (show ¬(h.new r blk).shut id=true from aP),qe au]
  simp only[Option.bind_some,ae,if_pos bo]
  split at he
  · cases he
    exact ⟨by rw[tT _ _ _ (Ne.symm q6)],by rw[pD _ _ (Ne.symm q6)];exact aC⟩
  · split at he<;>try(cases he;done)
    cases he
    exact ⟨by rw[tT _ _ _ (Ne.symm q6)],by rw[pD _ _ (Ne.symm q6)];exact aC⟩
 case slice sz x bd an ky=>
  cases av:bJ x<;>(try(simp only[evalOp,av] at he;cases he;done))
  · refine pu ?_
    simp only[evalOp,av] at he
    split at he<;>try(cases he;done)
    split at he<;>try(cases he;done)
    cases he;rfl
  · rename_i id off len cap
    simp only[evalOp,av] at he|-
    split at he<;>try(cases he;done)
    split at he<;>try(cases he;done)
    rename_i bo
    cases he
    rw[if_pos ⟨bo.1,bo.2.1,bo.2.2.1,bo.2.2.2.imp (fun h=>h) dC⟩]
    exact ⟨rfl,aC⟩
 case iaddrS sz x i=>
  cases av:bJ x<;>(try(simp only[evalOp,av] at he;cases he;done))
  · refine pu ?_
    cases an:bJ i<;>(try(simp only[evalOp,av,an] at he;cases he;done))
    simp only[evalOp,av,an] at he
    split at he<;>try(cases he;done)
    obtain⟨e,ae,he⟩:=Option.bind_eq_some_iff.1 he
    split at he<;>try(cases he;done)
    cases he;rfl
  · rename_i id off len cap
    cases an:bJ i<;>(try(simp only[evalOp,av,an] at he;cases he;done))
    simp only[evalOp,av,an] at he|-
    split at he<;>try(cases he;done)
    rename_i bo
    cases he
    rw[if_pos ⟨bo.1,bo.2.1,dC bo.2.2⟩]
    exact ⟨rfl,aC⟩
 case app sz bytes x y=>
  simp only[evalOp] at he|-
  obtain⟨ys,bj,he⟩:=Option.bind_eq_some_iff.1 he
  simp only[lE bj,Option.bind_some]
  split at he<;>try(cases he;done)
  rename_i bo
  rw[if_pos bo]
  cases av:bJ x<;>(try(simp only[av] at he;cases he;done))
  · simp only[av] at he|-
    split at he
    · rename_i aS
      cases he
      rw[if_pos aS];exact ⟨rfl,aC⟩
    · rename_i aS
      split at he<;>try(cases he;done)
      rename_i ae
      cases he
      rw[if_neg aS,if_pos ae]
      exact ⟨by rw[tT _ _ _ pE],by rw[pD _ _ pE];exact aC⟩
  · rename_i id off len cap
    simp only[av] at he|-
    split at he
    · rename_i aS
      cases he
      rw[if_pos aS];exact ⟨rfl,aC⟩
    · rename_i aS
      split at he<;>try(cases he;done)
      rename_i aP
      obtain⟨b,au,he⟩:=Option.bind_eq_some_iff.1 he
      have q6:=cp au
      rw[if_neg aS,if_neg (show ¬(h.new r blk).shut id=true from aP),qe au]
      simp only[Option.bind_some]
      split at he<;>try(cases he;done)
      rename_i ae
      rw[if_pos ae]
      split at he
      · rename_i h2
        rw[if_pos h2]
        split at he<;>try(cases he;done)
        rename_i aO
        cases he
        rw[if_pos aO]
        exact ⟨by rw[tT _ _ _ (Ne.symm q6)],by rw[pD _ _ (Ne.symm q6)];exact aC⟩
      · rename_i h2
        rw[if_neg h2]
        split at he<;>try(cases he;done)
        rename_i aO
        cases he
        rw[if_pos aO]
        refine⟨?_,by simp only[aG];rw[if_neg pE,if_neg (Ne.symm q6)];exact aC⟩
        simp only[aF.new,Option.some.injEq,Prod.mk.injEq,aF.mk.injEq,and_true,true_and]
        funext t
        simp only[aG]
        by_cases t1:t=r<;>by_cases t2:t=id<;>by_cases t3:t=q<;>simp_all
 all_goals
  cases c with
  | pure=>exact pu rfl
  | hK=>exact hK rfl
  | _=>
    exfalso
    simp only[evalOp] at he
    repeat' split at he
    all_goals first
     | (cases he;done)
     | (obtain⟨_,_,he⟩:=Option.map_eq_some_iff.1 he;cases he;done)
     | (obtain⟨_,_,he⟩:=Option.bind_eq_some_iff.1 he;obtain⟨_,_,he⟩:=Option.map_eq_some_iff.1 he;cases he;done)
     | (obtain⟨_,_,he⟩:=Option.bind_eq_some_iff.1 he;split at he<;>cases he;done)
theorem ED {h:aF} {v u:J} {ids:List Nat} (a4:eJ h v=some (u,ids)):∀id∈ids,∃b,h.cells id=some b:=by
 cases v<;>simp only[eJ] at a4<;>try(first|(cases a4;done)|(cases a4;intro id b8;cases b8;done))
 split at a4<;>try(cases a4;done)
 rename_i b au
 split at a4<;>try(cases a4;done)
 cases a4
 intro id b8
 rw[List.mem_singleton] at b8
 subst b8
 exact ⟨b,au⟩
theorem EE {h:aF}:∀ {vs us:List J} {ids:List Nat},ff h vs=some (us,ids)->∀id∈ids,∃b,h.cells id=some b
 | [],us,ids,a4=>by simp only[ff] at a4;cases a4;intro id b8;cases b8
 | v::vs,us,ids,a4=>by
   simp only[ff] at a4
   split at a4<;>try(cases a4;done)
   rename_i kA a m4 b ae sj
   cases a4
   intro id b8
   rcases List.mem_append.1 b8 with b8|b8
   · exact ED ae id b8
   · exact EE sj id b8
theorem M6 {h:aF} {v u:J} {ids:List Nat} (a4:hL h v=some (u,ids)):∀id∈ids,∃b,h.cells id=some b:=by
 cases v<;>simp only[hL] at a4<;>try(exact ED a4)
 obtain⟨p,ae,he⟩:=Option.map_eq_some_iff.1 a4
 cases he
 exact EE ae
theorem EF {h:aF}:∀ {vs us:List J} {ids:List Nat},e8 h vs=some (us,ids)->∀id∈ids,∃b,h.cells id=some b
 | [],us,ids,a4=>by simp only[e8] at a4;cases a4;intro id b8;cases b8
 | v::vs,us,ids,a4=>by
   simp only[e8] at a4
   split at a4<;>try(cases a4;done)
   rename_i kA a m4 b ae sj
   cases a4
   intro id b8
   rcases List.mem_append.1 b8 with b8|b8
   · exact M6 ae id b8
   · exact EF sj id b8
theorem M7 {h:aF} {vs us:List J} {ids:List Nat} {r:Nat} {blk:List J} (a4:e8 h vs=some (us,ids)) (aC:h.cells r=none):e8 (h.new r blk) vs=some (us,ids):=
 x9 a4 fun id b8=>pD _ _ (by
  rintro rfl
  obtain⟨b,au⟩:=EF a4 _ b8
  rw[aC] at au;cases au)
def q7 (c1:lC->List J->aF->Option (J × aF)):Prop:=
 ∀t args h v ay r blk,c1 t args h=some (v,ay)->h.cells r=none->r<h.next->c1 t args (h.new r blk)=some (v,ay.new r blk)/\ay.cells r=none/\h.next<=ay.next
theorem M8 {bm:Nat} {h ay:aF} {r:Nat} {blk:List J} (aC:h.cells r=none) (pF:ay.cells r=none):p4 bm (h.new r blk) (ay.new r blk)=p4 bm h ay:=by
 funext id
 simp only[p4]
 by_cases e:id=r
 · subst e
   simp only[aF.new,aG,if_true,aC,pF,vQ]
 · rw[pD _ _ e,pD _ _ e]
theorem EG {G:Nat->Option J} {tab:FuncId->Option (List J->Option J)} {c1:lC->List J->aF->Option (J × aF)} (aT:q7 c1) {bm q:Nat} {e:bH} {s aD:bg} {c:ey} {r:Nat} {blk:List J}
 (he:dJ G tab c1 bm q e s=some (aD,c)) (aC:s.h.cells r=none) (bf:r<s.h.next) (pE:r≠q):
 dJ G tab c1 bm q e ⟨s.F,s.h.new r blk⟩=some (⟨aD.F,aD.h.new r blk⟩,c)/\aD.h.cells r=none/\s.h.next<=aD.h.next:=by
 unfold dJ at he|-
 split at he
 · split at he
   · split at he
     · split at he<;>try(cases he;done)
       rename_i vs ids a4
       obtain⟨v,aY,he⟩:=Option.map_eq_some_iff.1 he
       cases he
       simp_all only
       refine⟨?_,aC,Nat.le_refl _⟩
       simp only[M7 a4 aC,aY,Option.map_some]
       rfl
     · obtain⟨p,aY,he⟩:=Option.map_eq_some_iff.1 he
       obtain⟨v,ay⟩:=p
       cases he
       obtain⟨ab,aa,af⟩:=aT _ _ _ _ _ r blk aY aC bf
       simp_all only
       refine⟨?_,by first|exact aa|trivial,by first|exact af|trivial⟩
       simp only[ab,Option.map_some,M8 aC aa]
   · obtain⟨p,aY,he⟩:=Option.map_eq_some_iff.1 he
     obtain⟨v,ay⟩:=p
     cases he
     obtain⟨ab,aa,af⟩:=aT _ _ _ _ _ r blk aY aC bf
     simp_all only
     exact ⟨by simp only[ab,Option.map_some],by first|exact aa|trivial,by first|exact af|trivial⟩
   · cases he
 · obtain⟨p,aY,he⟩:=Option.map_eq_some_iff.1 he
   obtain⟨v,ay,c'⟩:=p
   cases he
   obtain⟨ab,aa⟩:=M5 (blk:=blk) aY aC pE
   have af:=(tS aY).1
   simp only[Prod.mk.injEq] at af
   exact ⟨by simp only[ab,Option.map_some],aa,by simp only[af.1];exact Nat.le_refl _⟩
theorem AH {G:Nat->Option J} {tab:FuncId->Option (List J->Option J)} {c1:lC->List J->aF->Option (J × aF)} (aT:q7 c1) {bm q:Nat} {e:bH} {s aD:bg} {c:ey} {r:Nat} {blk:List J}
 (he:dr G tab c1 bm q e s=some (aD,c)) (aC:s.h.cells r=none) (bf:r<s.h.next) (pE:r≠q):
 dr G tab c1 bm q e ⟨s.F,s.h.new r blk⟩=some (⟨aD.F,aD.h.new r blk⟩,c)/\aD.h.cells r=none/\s.h.next<=aD.h.next:=by
 unfold dr at he|-
 split at he
 · exact EG aT he aC bf pE
 · split at he
   · rename_i b au
     split at he
     · rename_i hw
       simp only[au,if_pos hw]
       exact EG aT he aC bf pE
     · rename_i hw
       cases he
       simp only[au,if_neg hw]
       exact ⟨by first|rfl|trivial,aC,Nat.le_refl _⟩
   · rename_i au
     cases he
     simp only[au]
     exact ⟨by first|rfl|trivial,aC,Nat.le_refl _⟩
   · cases he
theorem sk (h:aF):h.close []=h:=by
 cases h;simp[aF.close]
section
variable {G:Nat->Option J} {tab:FuncId->Option (List J->Option J)} {c1:lC->List J->aF->Option (J × aF)}
def EH (G:Nat->Option J) (tab:FuncId->Option (List J->Option J)) (c1:lC->List J->aF->Option (J × aF)) (bm r:Nat) (e:bH) (s:bg) (v:J) (ay:aF):ey->Prop
 | .pure=>ay=s.h/\∀c9 h2,(∀t∈e.reads,c9 t=s.F t)->dr G tab c1 bm r e ⟨c9,h2⟩=some (⟨dq c9 e.dst v,h2⟩,.pure)
 | .hK=>∃blk,ay=s.h.new r blk/\∀c9 h2,(∀t∈e.reads,c9 t=s.F t)->dr G tab c1 bm r e ⟨c9,h2⟩=some (⟨dq c9 e.dst v,h2.new r blk⟩,.hK)
 | .rd=>∃ids,ay=s.h.close ids/\∀c9 (h2:aF),(∀t∈e.reads,c9 t=s.F t)->(∀id,id<bm->h2.cells id=s.h.cells id)->dr G tab c1 bm r e ⟨c9,h2⟩=some (⟨dq c9 e.dst v,h2.close ids⟩,.rd)
 | .wr=>∀c9,(∀t∈e.reads,c9 t=s.F t)->dr G tab c1 bm r e ⟨c9,s.h⟩=some (⟨dq c9 e.dst v,ay⟩,.wr)
 | .mH id=>ay=s.h/\id<bm/\∀c9 (h2:aF),(∀t∈e.reads,c9 t=s.F t)->h2.cells id=s.h.cells id->dr G tab c1 bm r e ⟨c9,h2⟩=some (⟨dq c9 e.dst v,h2⟩,.mH id)
 | .lB qV=>(∀id,qV id=true->ay.cells id=s.h.cells id)/\∀c9,(∀t∈e.reads,c9 t=s.F t)->dr G tab c1 bm r e ⟨c9,s.h⟩=some (⟨dq c9 e.dst v,ay⟩,.lB qV)
theorem EI {bm r:Nat} {e:bH} {s aD:bg} {c:ey} (bq:dJ G tab c1 bm r e s=some (aD,c))
 (c7:∀c9 h2,(∀t∈e.reads,c9 t=s.F t)->dr G tab c1 bm r e ⟨c9,h2⟩=dJ G tab c1 bm r e ⟨c9,h2⟩):
 ∃v ay,aD=⟨dq s.F e.dst v,ay⟩/\EH G tab c1 bm r e s v ay c:=by
 have EJ:∀t∈e.op.reads,t∈e.reads:=fun t a'=>by simp only[bH.reads,List.mem_append];exact .inr a'
 by_cases hv:∃f args,e.op= .call f args
 · obtain⟨f,args,df⟩:=hv
   have wg:∀c9,(∀t∈e.reads,c9 t=s.F t)->f.cu G c9=f.cu G s.F/\args.map (bn.cu G c9)=args.map (bn.cu G s.F):=by
    intro c9 h2
    have aO:∀t∈e.op.reads,c9 t=s.F t:=fun t a'=>h2 t (EJ t a')
    rw[df] at aO
    simp only[kx.reads,List.mem_append] at aO
    exact ⟨bn.e_ fun t a'=>aO t (.inl a'),we fun t a'=>aO t (.inr a')⟩
   unfold dJ at bq
   simp only[df] at bq
   split at bq<;>try(cases bq;done)
   rotate_left
   · rename_i id aT
     obtain⟨p,aY,bq⟩:=Option.map_eq_some_iff.1 bq
     cases bq
     refine⟨p.1,p.2,rfl,fun c9 d'=>?_⟩
     rw[c7 c9 s.h d']
     obtain⟨aj,aq⟩:=wg c9 d'
     unfold dJ
     simp only[df,aj,aT,aq,aY,Option.map_some]
   rename_i n first c0 aT
   split at bq
   · rename_i T dn
     split at bq<;>try(cases bq;done)
     rename_i vs ids a4
     obtain⟨v,aY,bq⟩:=Option.map_eq_some_iff.1 bq
     cases bq
     refine⟨v,_,rfl,?_⟩
     by_cases an:ids.isEmpty=true
     · rw[if_pos an]
       have M9:ids= []:=by simpa using an
       subst M9
       refine⟨sk _,fun c9 h2 d'=>?_⟩
       rw[c7 c9 h2 d']
       obtain⟨aj,aq⟩:=wg c9 d'
       unfold dJ
       simp only[df,aj,aT,dn,aq,x9 a4 (h2:=h2) (fun id b8=>absurd b8 (by simp)),aY,Option.map_some,sk]
       rfl
     · rw[if_neg an]
       by_cases aC:ids.all (fun i=>decide (i<bm))=true
       · rw[if_pos aC]
         refine⟨ids,rfl,fun c9 h2 d' I=>?_⟩
         rw[c7 c9 h2 d']
         obtain⟨aj,aq⟩:=wg c9 d'
         unfold dJ
         simp only[df,aj,aT,dn,aq,x9 a4 (h2:=h2) (fun id b8=>I id (by simpa using List.all_eq_true.1 aC id b8)),aY,Option.map_some,if_neg an,if_pos aC]
       · rw[if_neg aC]
         intro c9 d'
         rw[c7 c9 s.h d']
         obtain⟨aj,aq⟩:=wg c9 d'
         unfold dJ
         simp only[df,aj,aT,dn,aq,a4,aY,Option.map_some,if_neg an,if_neg aC]
   · rename_i dn
     obtain⟨p,aY,bq⟩:=Option.map_eq_some_iff.1 bq
     cases bq
     refine⟨p.1,p.2,rfl,fun id aI=>?_,fun c9 d'=>?_⟩
     · simp only[p4,Bool.and_eq_true] at aI
       exact (L6 aI.2).symm
     rw[c7 c9 s.h d']
     obtain⟨aj,aq⟩:=wg c9 d'
     unfold dJ
     simp only[df,aj,aT,dn,aq,aY,Option.map_some]
 · have nq:∀kZ,dJ G tab c1 bm r e kZ=(evalOp bm r (bn.cu G kZ.F) kZ.h e.op).map fun(v,ay,c)=>(⟨dq kZ.F e.dst v,ay⟩,c):=by
    intro kZ
    unfold dJ
    split
    · exact absurd ⟨_,_,‹_›⟩ hv
    · rfl
   rw[nq] at bq
   obtain⟨p,bc,bq⟩:=Option.map_eq_some_iff.1 bq
   obtain⟨v,ay,dg⟩:=p
   have AI:(⟨dq s.F e.dst v,ay⟩:bg)=aD:=congrArg Prod.fst bq
   have AJ:dg=c:=congrArg Prod.snd bq
   subst AI;subst AJ
   refine⟨v,ay,rfl,?_⟩
   obtain⟨_,E⟩:=tS bc
   have key:∀c9 h2,(∀t∈e.reads,c9 t=s.F t)->dr G tab c1 bm r e ⟨c9,h2⟩=(evalOp bm r (bn.cu G s.F) h2 e.op).map fun(v,ay,c)=>(⟨dq c9 e.dst v,ay⟩,c):=by
    intro c9 h2 d'
    rw[c7 c9 h2 d',nq]
    simp only
    rw[M3 (F:=c9) (F':=s.F) fun t a'=>d' t (EJ t a')]
   cases dg with
   | pure=>
     obtain⟨aj,aq⟩:=E
     exact ⟨aj,fun c9 h2 d'=>by rw[key c9 h2 d',aq h2];rfl⟩
   | hK=>
     obtain⟨blk,aj,aq⟩:=E
     exact ⟨blk,aj,fun c9 h2 d'=>by rw[key c9 h2 d',aq h2];rfl⟩
   | rd=>
     obtain⟨aj,aq⟩:=E
     refine⟨[],by rw[sk];exact aj,fun c9 h2 d' I=>?_⟩
     rw[key c9 h2 d',aq h2 I,sk];rfl
   | wr=>exact fun c9 d'=>by rw[key c9 s.h d',bc];rfl
   | mH id=>
     obtain⟨aj,aW,aq⟩:=E
     exact ⟨aj,aW,fun c9 h2 d' I=>by rw[key c9 h2 d',aq h2 I];rfl⟩
   | lB k=>exact ⟨E,fun c9 d'=>by rw[key c9 s.h d',bc];rfl⟩
theorem EK {bm r:Nat} {e:bH} {s aD:bg} {c:ey} (bq:dr G tab c1 bm r e s=some (aD,c)):
 ∃v ay,aD=⟨dq s.F e.dst v,ay⟩/\EH G tab c1 bm r e s v ay c:=by
 cases pG:e.guard with
 | none=>
   have bf:∀kZ,dr G tab c1 bm r e kZ=dJ G tab c1 bm r e kZ:=fun kZ=>by unfold dr;rw[pG]
   rw[bf] at bq
   exact EI bq fun c9 h2 _=>bf _
 | some g=>
   obtain⟨t,want⟩:=g
   have a':t∈e.reads:=by simp[bH.reads,pG]
   cases au:s.F t<;>first
    | (unfold dr at bq;simp only[pG,au] at bq;cases bq;done)
    | skip
   · unfold dr at bq
     simp only[pG,au] at bq
     cases bq
     refine⟨.k_,s.h,rfl,rfl,fun c9 h2 d'=>?_⟩
     unfold dr;simp only[pG,d' t a',au]
   rename_i b
   by_cases o1:b=want
   · have bf:∀c9 h2,(∀t∈e.reads,c9 t=s.F t)->dr G tab c1 bm r e ⟨c9,h2⟩=dJ G tab c1 bm r e ⟨c9,h2⟩:=fun c9 h2 d'=>by
      unfold dr;simp only[pG,d' t a',au,if_pos o1]
     have aS:=bf s.F s.h (fun _ _=>rfl)
     have:dr G tab c1 bm r e s=dJ G tab c1 bm r e s:=aS
     rw[this] at bq
     exact EI bq bf
   · unfold dr at bq
     simp only[pG,au,if_neg o1] at bq
     cases bq
     refine⟨.k_,s.h,rfl,rfl,fun c9 h2 d'=>?_⟩
     unfold dr;simp only[pG,d' t a',au,if_neg o1]
theorem M_ {F:Nat->J} {d e:Option Nat} {u v:J} (h:∀x,d=some x->e≠some x):dq (dq F d u) e v=dq (dq F e v) d u:=by
 cases d with
 | none=>rfl
 | some x=>
   cases e with
   | none=>rfl
   | some y=>
     have cp:x≠y:=fun q=>h x rfl (by rw[q])
     funext t
     simp only[dq,aG]
     by_cases ae:t=x<;>by_cases h2:t=y<;>simp_all
theorem EL {F:Nat->J} {d:Option Nat} {v:J} {t:Nat} (h:∀x,d=some x->t≠x):dq F d v t=F t:=by
 cases d with
 | none=>rfl
 | some x=>simp[dq,aG,h x rfl]
theorem apart_spec {e f:bH} (h:e.apart f=true):(∀x,e.dst=some x->x ∉ f.reads)/\(∀x,e.dst=some x->f.dst≠some x)/\(∀x,f.dst=some x->x ∉ e.reads):=by
 refine⟨fun d bw=>?_,fun d bw=>?_,fun d bw=>?_⟩<;>simp[bH.apart,bw] at h
 · exact h.1.1
 · exact h.1.2
 · exact h.2
theorem M' (h:aF) (a b:List Nat):(h.close a).close b=(h.close b).close a:=by
 simp only[aF.close,aF.mk.injEq,true_and,and_true]
 funext t
 cases h.shut t<;>cases a.contains t<;>cases b.contains t<;>rfl
theorem Na {bm pB hQ:Nat} {sm sn:bH} {s s1 s2:bg} {ci qf:ey} (ae:dr G tab c1 bm pB sm s=some (s1,ci)) (h2:dr G tab c1 bm hQ sn s1=some (s2,qf))
 (Nb:sm.apart sn=true) (I:kV ci qf=true) (bf:pB≠hQ) (an:bm<=pB) (bb:bm<=hQ) (wh:q7 c1) (Nc:s.h.cells hQ=none) (Nd:hQ<s.h.next):
 ∃wi,dr G tab c1 bm hQ sn s=some (wi,qf)/\dr G tab c1 bm pB sm wi=some (s2,ci):=by
 obtain⟨a1,cP,fV⟩:=apart_spec Nb
 obtain⟨AK,cC,rfl,pH⟩:=EK ae
 obtain⟨hx,kW,rfl,hR⟩:=EK h2
 have ib:∀t∈sn.reads,s.F t=(dq s.F sm.dst AK) t:=fun t a'=>(EL fun x av=>by rintro rfl;exact a1 _ av a').symm
 have ic:∀v t,t∈sm.reads->(dq s.F sn.dst v) t=s.F t:=fun v t a'=>EL fun x av=>by rintro rfl;exact fV _ av a'
 have ie:dq (dq s.F sn.dst hx) sm.dst AK=dq (dq s.F sm.dst AK) sn.dst hx:=(M_ fun x av=>cP x av).symm
 cases ci with
 | pure=>
   obtain⟨aj,aq⟩:=pH
   subst aj
   cases qf with
   | pure=>
     obtain⟨aW,bW⟩:=hR
     subst aW
     exact ⟨_,bW s.F s.h ib,by rw[aq _ _ (ic hx),ie]⟩
   | hK=>
     obtain⟨blk,aW,bW⟩:=hR
     subst aW
     exact ⟨_,bW s.F s.h ib,by rw[aq _ _ (ic hx),ie]⟩
   | rd=>
     obtain⟨ids,aW,bW⟩:=hR
     subst aW
     exact ⟨_,bW s.F s.h ib (fun _ _=>rfl),by rw[aq _ _ (ic hx),ie]⟩
   | wr=>exact ⟨_,hR s.F ib,by rw[aq _ _ (ic hx),ie]⟩
   | mH id=>
     obtain⟨aW,ea,bW⟩:=hR
     subst aW
     exact ⟨_,bW s.F s.h ib rfl,by rw[aq _ _ (ic hx),ie]⟩
   | lB k=>exact ⟨_,hR.2 s.F ib,by rw[aq _ _ (ic hx),ie]⟩
 | hK=>
   obtain⟨blk,aj,aq⟩:=pH
   subst aj
   cases qf with
   | pure=>
     obtain⟨aW,bW⟩:=hR
     subst aW
     exact ⟨_,bW s.F s.h ib,by rw[aq _ _ (ic hx),ie]⟩
   | hK=>
     obtain⟨tU,aW,bW⟩:=hR
     subst aW
     exact ⟨_,bW s.F s.h ib,by rw[aq _ _ (ic hx),ie,tT _ _ _ bf]⟩
   | rd=>
     obtain⟨ids,aW,bW⟩:=hR
     subst aW
     have bo:∀id,id<bm->s.h.cells id=(s.h.new pB blk).cells id:=fun id b8=>by
      simp only[aF.new,aG];rw[if_neg (by omega)]
     exact ⟨_,bW s.F s.h ib bo,by rw[aq _ _ (ic hx),ie];rfl⟩
   | wr=>simp[kV] at I
   | mH id=>
     obtain⟨aW,ea,bW⟩:=hR
     subst aW
     have bo:s.h.cells id=(s.h.new pB blk).cells id:=by
      simp only[aF.new,aG];rw[if_neg (by omega)]
     exact ⟨_,bW s.F s.h ib bo,by rw[aq _ _ (ic hx),ie]⟩
   | lB k=>simp[kV] at I
 | rd=>
   obtain⟨ids,aj,aq⟩:=pH
   subst aj
   cases qf with
   | pure=>
     obtain⟨aW,bW⟩:=hR
     subst aW
     exact ⟨_,bW s.F s.h ib,by rw[aq _ _ (ic hx) (fun _ _=>rfl),ie]⟩
   | hK=>
     obtain⟨tU,aW,bW⟩:=hR
     subst aW
     have bo:∀id,id<bm->(s.h.new hQ tU).cells id=s.h.cells id:=fun id b8=>by
      simp only[aF.new,aG];rw[if_neg (by omega)]
     exact ⟨_,bW s.F s.h ib,by rw[aq _ _ (ic hx) bo,ie];rfl⟩
   | rd=>
     obtain⟨AL,aW,bW⟩:=hR
     subst aW
     exact ⟨_,bW s.F s.h ib (fun _ _=>rfl),by rw[aq _ (s.h.close AL) (ic hx) (fun _ _=>rfl),ie,M']⟩
   | wr=>simp[kV] at I
   | mH id=>
     obtain⟨aW,ea,bW⟩:=hR
     subst aW
     exact ⟨_,bW s.F s.h ib rfl,by rw[aq _ s.h (ic hx) (fun _ _=>rfl),ie]⟩
   | lB k=>simp[kV] at I
 | mH id=>
   obtain⟨aj,ea,aq⟩:=pH
   subst aj
   cases qf with
   | pure=>
     obtain⟨aW,bW⟩:=hR
     subst aW
     exact ⟨_,bW s.F s.h ib,by rw[aq _ _ (ic hx) rfl,ie]⟩
   | hK=>
     obtain⟨tU,aW,bW⟩:=hR
     subst aW
     have bo:(s.h.new hQ tU).cells id=s.h.cells id:=by
      simp only[aF.new,aG];rw[if_neg (by omega)]
     exact ⟨_,bW s.F s.h ib,by rw[aq _ _ (ic hx) bo,ie]⟩
   | rd=>
     obtain⟨AL,aW,bW⟩:=hR
     subst aW
     exact ⟨_,bW s.F s.h ib (fun _ _=>rfl),by rw[aq _ (s.h.close AL) (ic hx) rfl,ie]⟩
   | wr=>simp[kV] at I
   | mH Zt=>
     obtain⟨aW,fW,bW⟩:=hR
     subst aW
     exact ⟨_,bW s.F s.h ib rfl,by rw[aq _ _ (ic hx) rfl,ie]⟩
   | lB k=>
     exact ⟨_,hR.2 s.F ib,by rw[aq _ _ (ic hx) (hR.1 id I),ie]⟩
 | lB k=>
   obtain⟨Nf,pH⟩:=pH
   cases qf with
   | pure=>
     obtain⟨aW,bW⟩:=hR
     subst aW
     exact ⟨_,bW s.F s.h ib,by rw[pH _ (ic hx),ie]⟩
   | hK=>
     obtain⟨tU,aW,bW⟩:=hR
     subst aW
     have ea:=(AH (blk:=tU) wh (pH _ (ic hx)) Nc Nd (Ne.symm bf)).1
     exact ⟨_,bW s.F s.h ib,by rw[ie] at ea;exact ea⟩
   | rd=>simp[kV] at I
   | wr=>simp[kV] at I
   | mH id=>
     obtain⟨aW,ea,bW⟩:=hR
     subst aW
     exact ⟨_,bW s.F s.h ib (Nf id I).symm,by rw[pH _ (ic hx),ie]⟩
   | lB k=>simp[kV] at I
 | wr=>
   cases qf with
   | pure=>
     obtain⟨aW,bW⟩:=hR
     subst aW
     exact ⟨_,bW s.F s.h ib,by rw[pH _ (ic hx),ie]⟩
   | hK=>simp[kV] at I
   | rd=>simp[kV] at I
   | wr=>simp[kV] at I
   | mH id=>simp[kV] at I
   | lB k=>simp[kV] at I
theorem EM {bm:Nat} {e:bH} {i:Nat}:∀ {fA lH:List (bH × Nat)} {s aD:bg} {cs:List ey},dG G tab c1 bm (fA++(e,i)::lH) s=some (aD,cs)->
 (∀k (aI:k<fA.length) (h':k<cs.length) (a6:fA.length<cs.length),fA[k].1.apart e=true/\kV cs[k] cs[fA.length]=true/\fA[k].2≠i)->q7 c1->s.h.cells (bm+i)=none->bm+i<s.h.next->
 ∃s1 c cV cY,dr G tab c1 bm (bm+i) e s=some (s1,c)/\dG G tab c1 bm (fA++lH) s1=some (aD,cV++cY)/\cs=cV++c::cY/\cV.length=fA.length
 | [],lH,s,aD,cs,h,_,_,_,_=>by
   simp only[List.nil_append,dG] at h
   split at h<;>try(cases h;done)
   rename_i s1 c ae
   obtain⟨p,h2,aO⟩:=Option.map_eq_some_iff.1 h
   cases aO
   exact ⟨s1,c,[],p.2,ae,h2,rfl,rfl⟩
 | (cc,i0)::fA,lH,s,aD,cs,h,bo,wh,EN,EO=>by
   simp only[List.cons_append,dG] at h
   split at h<;>try(cases h;done)
   rename_i AM dg ae
   obtain⟨p,h2,aO⟩:=Option.map_eq_some_iff.1 h
   obtain⟨z6,hM⟩:=p
   cases aO
   have hlen:∀ {L:List (bH × Nat)} {s aD:bg} {cs:List ey},dG G tab c1 bm L s=some (aD,cs)->cs.length=L.length:=by
    intro L
    induction L with
    | nil=>intro s aD cs h;simp only[dG] at h;cases h;rfl
    | cons q L b_=>
      intro s aD cs h
      simp only[dG] at h
      split at h<;>try(cases h;done)
      obtain⟨p,h2,aO⟩:=Option.map_eq_some_iff.1 h
      cases aO
      simp[b_ h2]
   have hb:=hlen h2
   have Ng:=(bo 0 (by simp) (by simp) (by simp[hb])).2.2
   simp only[List.getElem_cons_zero] at Ng
   obtain⟨-,Nh,lg⟩:=AH (blk:=[]) wh ae EN EO (by omega)
   obtain⟨AN,c,cV,cY,ba,br,rfl,kE⟩:=EM h2 (fun k aI h' a6=>by
    have:=bo (k+1) (by simp;omega) (by simp;omega) (by simp;omega)
    simpa using this) wh Nh (by omega)
   have aS:=bo 0 (by simp) (by simp) (by simp[kE])
   simp only[List.getElem_cons_zero,List.length_cons,List.getElem_cons_succ] at aS
   have xT:(cV++c::cY)[fA.length]'(by simp[kE])=c:=by simp[<-kE]
   rw[xT] at aS
   obtain⟨wi,ab,aa⟩:=Na ae ba aS.1 aS.2.1 (by have:=aS.2.2;simp at this;omega) (by omega) (by omega) wh EN EO
   refine⟨wi,c,dg::cV,cY,ab,?_,rfl,by simp[kE]⟩
   simp only[List.cons_append,dG,aa,br,Option.map_some]
end
end Go.Eng
namespace Go.Eng
open Go Go.RowKit
theorem bC.Ni {w:World} {ok:Nat->Prop} {σ bN:Nat->Option (Nat × Nat)} {v:J} {cv:Value} (h:bC w ok σ (.e0 v) cv):bC w ok bN (.e0 v) cv:=by
 obtain⟨c6,eK,rfl,ae,h2⟩:=h.xN
 exact .e0 v c6 eK ae h2
def hS (F:Fence):Prop:=F=Fence.wide\/∃l,F=Fence.wide.inRound l
theorem hS.fn {F:Fence} (h:hS F) (f:FuncId):F.fn f:=by
 rcases h with rfl|⟨l,rfl⟩<;>trivial
theorem hS.depth {F:Fence} (h:hS F):F.depth=none:=by
 rcases h with rfl|⟨l,rfl⟩<;>rfl
theorem hS.room {F:Fence} (h:hS F) (n:Nat):F.room n:=fun d bw=>by rw[h.depth] at bw;cases bw
theorem hS.one {F:Fence} (h:hS F) (n:Nat):F.depth.isSome=true->1<=n:=fun bw=>by rw[h.depth] at bw;cases bw
theorem hS.inRound {F:Fence} (h:hS F) (l:Nat):hS (F.inRound l):=by
 rcases h with rfl|⟨k,rfl⟩
 · exact .inr ⟨l,rfl⟩
 · exact .inr ⟨l,rfl⟩
theorem hS.calls {F:Fence} (h:hS F) {n:Nat} {P:Program} {f:FuncId} {args:Array Value} {w:World} {R:Ending->World->Prop} (I:Calls P f args w R):CallsIn F n P f args w R:=by
 rcases h with rfl|⟨l,rfl⟩
 · exact callsIn_wide.2 I
 · exact (callsIn_wide (n:=n)).2 I
structure dP (base:Nat) (okin:Nat->Prop) (σ:Nat->Option (Nat × Nat)) (h:aF) (w:World) (bN:Nat->Option (Nat × Nat)) (ay:aF) (bh:World):Prop where
 sub:∀id x,σ id=some x->bN id=some x
 still:tF w bh (b5 base okin σ h) (b5 base okin bN ay)
 below:Below base w bh
 grow:∀b,gG w b<=gG bh b
 loop:∀(b:Nat) (r:Loop),w.heap[b]? =some (.loop r)->∃st kF,bh.heap[b]? =some (.loop {r with state:=st,pending:=kF})
 o2:∀b:Nat,w.heap[b]? =some (.deferred (some []))->bh.heap[b]? =some (.deferred (some []))
theorem dP.refl (base:Nat) (okin:Nat->Prop) (σ:Nat->Option (Nat × Nat)) (h:aF) (w:World):dP base okin σ h w σ h w:=
 ⟨fun _ _ h=>h,fun _ _ _ _ h=>⟨h,rfl⟩,Below.refl _ _,fun _=>Nat.le_refl _,fun _ r h=>⟨r.state,r.pending,h⟩,fun _ h=>h⟩
theorem dP.trans {base:Nat} {okin:Nat->Prop} {σ hp p8:Nat->Option (Nat × Nat)} {h ae h2:aF} {w bK cr:World}
 (p:dP base okin σ h w hp ae bK) (q:dP base okin hp ae bK p8 h2 cr):dP base okin σ h w p8 h2 cr:=
 ⟨fun id x av=>q.sub id x (p.sub id x av),fun b o au aI a4=>by
   obtain⟨eD,aj⟩:=p.still b o au aI a4
   obtain⟨ef,aq⟩:=q.still b o (by rw[aj];exact au) aI eD
   exact ⟨ef,aq.trans aj⟩,p.below.trans q.below,fun b=>Nat.le_trans (p.grow b) (q.grow b),fun b r au=>by
   obtain⟨s1,dO,aj⟩:=p.loop b r au
   obtain⟨s2,e2,aq⟩:=q.loop b _ aj
   exact ⟨s2,e2,aq⟩,fun b au=>q.o2 b (p.o2 b au)⟩
theorem dP.rep {base:Nat} {okin:Nat->Prop} {σ bN:Nat->Option (Nat × Nat)} {h ay:aF} {w bh:World} (p:dP base okin σ h w bN ay bh)
 {v:J} {cv:Value} (r:bC w (b5 base okin σ h) σ v cv):bC bh (b5 base okin bN ay) bN v cv:=r.mono p.still p.sub p.grow
theorem qg {w:World} {b:Nat} {o:Obj} (h:w.heap[b]? =some o):b<w.heap.size:=(Array.getElem?_eq_some_iff.1 h).1
theorem dd.other {base:Nat} {okin:Nat->Prop} {σ bN:Nat->Option (Nat × Nat)} {h ay:aF} {w bh:World} (H:dd base okin σ h w) (p:Prog base okin σ h w bN ay bh) {b:Nat} {o:Obj} (au:w.heap[b]? =some o)
 (aC:∀arr ty e,o≠ .cells arr ty e):bh.heap[b]? =some o:=by
 have b6:=qg au
 by_cases wj:b<base
 · rw[p.below.block b wj];exact au
 · have:=(p.qV b b6 (.inr ⟨Nat.le_of_not_lt wj,fun id s aP a6=>by
    obtain⟨blk,oY⟩:=Option.isSome_iff_exists.1 a6
    obtain⟨gF,aD,arr,ty,aj,aq,_⟩:=H.blk id blk oY
    rw[aP] at aj;cases aj
    rw[au] at aq
    exact absurd (Option.some.inj aq) (aC _ _ _)⟩)).2
   rw[this];exact au
theorem dP.of {base:Nat} {okin:Nat->Prop} {σ bN:Nat->Option (Nat × Nat)} {h ay:aF} {w bh:World} (H:dd base okin σ h w) (p:Prog base okin σ h w bN ay bh):dP base okin σ h w bN ay bh:=
 ⟨p.sub,p.still,p.below,p.grow,fun b r au=>⟨r.state,r.pending,H.other p au (fun _ _ _ h=>by cases h)⟩,fun b au=>H.other p au (fun _ _ _ h=>by cases h)⟩
def o3:fu->LoopState
 | .ready=> .ready
 | .busy=> .busy
 | .done _=> .done
def Nj:cX->Option Code
 | .normal=>none
 | .exit id=>some (.exit id)
 | .ret=>some .ret
def o4:fu->Option Code
 | .ready=>none
 | .busy=>none
 | .done e=>Nj e
structure ig (σ:Nat->Option (Nat × Nat)) (bu:Nat->Option fu) (w:World):Prop where
 look:∀id p,bu id=some p->∃(l s:Nat) (r:Loop),σ id=some (l,s)/\w.heap[l]? =some (.loop r)/\r.state=o3 p/\r.pending=o4 p
 inj:∀id gn p qh l s aD,bu id=some p->bu gn=some qh->σ id=some (l,s)->σ gn=some (l,aD)->id=gn
theorem ig.of {base:Nat} {okin:Nat->Prop} {σ bN:Nat->Option (Nat × Nat)} {h ay:aF} {w bh:World} (L:ig σ h.bu w) (H:dd base okin σ h w) (p:Prog base okin σ h w bN ay bh) (bc:ay.bu=h.bu):ig bN ay.bu bh:=by
 rw[bc]
 refine⟨fun id q bo=>?_,fun id gn q ns l s aD ae h2 aj aq=>?_⟩
 · obtain⟨l,s,r,aj,aq,aW,bW⟩:=L.look id q bo
   exact ⟨l,s,r,p.sub _ _ aj,H.other p aq (fun _ _ _ h=>by cases h),aW,bW⟩
 · obtain⟨ck,s1,ct,a1,_⟩:=L.look id q ae
   obtain⟨dD,s2,ej,cP,_⟩:=L.look gn ns h2
   have b1:=p.sub _ _ a1;rw[aj] at b1
   have cN:=p.sub _ _ cP;rw[aq] at cN
   cases b1;cases cN
   exact L.inj id gn q ns l s aD ae h2 a1 cP
def pI (P:Program) (G:Nat->Option J) (base:Nat) (okin:Nat->Prop) (Y:List dm) (σ:Nat->Option (Nat × Nat)) (h:aF) (w:World):Prop:=
 ∀L∈Y,∃(l s:Nat) (r:Loop) (og:Nat),σ L.id=some (l,s)/\w.heap[l]? =some (.loop r)/\og<=r.tmps.size/\L.ps=r.params.toList/\(∀p∈L.ps,p<og)/\
  gj P og r.assign=some L.ei/\gj P og r.body=some L.body/\kC G (b5 base okin σ h) σ w L.F {tmps:=r.tmps,defers:=[]}
theorem pI.mono {P:Program} {G:Nat->Option J} {base:Nat} {okin:Nat->Prop} {Y:List dm} {σ bN:Nat->Option (Nat × Nat)} {h ay:aF} {w bh:World} (C:pI P G base okin Y σ h w) (p:dP base okin σ h w bN ay bh):pI P G base okin Y bN ay bh:=by
 intro L a_
 obtain⟨l,s,r,og,aj,aq,aW,bW,ea,fW,AO,q8⟩:=C L a_
 obtain⟨st,kF,Nk⟩:=p.loop l r aq
 exact ⟨l,s,_,og,p.sub _ _ aj,Nk,aW,bW,ea,fW,AO,⟨fun t=>p.rep (q8.slot t),fun g v bq=>p.rep (q8.nk g v bq)⟩⟩
structure Marks (cc:Nat) (c4:List Deferred) (w:World):Prop where
 each:∀d∈c4,∃D,d.target= .collected D/\cc<=D/\w.heap[D]? =some (.deferred (some []))
 nodup:c4.Pairwise fun d ob=>d.target≠ob.target
theorem Marks.mono {cc:Nat} {c4:List Deferred} {w bh:World} (M:Marks cc c4 w) (bw:∀b:Nat,w.heap[b]? =some (.deferred (some []))->bh.heap[b]? =some (.deferred (some []))):Marks cc c4 bh:=
 ⟨fun d h=>by
   obtain⟨D,ae,h2,aO⟩:=M.each d h
   exact ⟨D,ae,h2,bw D aO⟩,M.nodup⟩
def AP (P:Program) (f:FuncId) (args:Array Value) (w:World) (R:Value->World->Prop):Prop:=
 ((callFunc f args).run P w= .ok (.enter f args) w/\Calls P f args w fun e bh=>∃cv,e= .returned cv/\R cv bh)\/
 ∃cv bh,(callFunc f args).run P w= .ok (.value cv) bh/\R cv bh
def AQ (P:Program) (l:Nat) (args:Array Value) (w:World) (R:Value->World->Prop):Prop:=
 ∃f tmps ei body,(Instr.yield l args).run P w= .ok (.round l f tmps ei body) w/\∀F n,hS F->RoundIn F n P l f tmps ei body w fun e bh=>∃cv,e= .returned cv/\R cv bh
def bl (P:Program) (G:Nat->Option J) (f:FuncId) (T:List J->Option J):Prop:=
 ∀args v,T args=some v->∀(ok:Nat->Prop) (w:World) (eb:Array Value),eb.size=args.length->
  (∀i (h:i<args.length) (ay:i<eb.size),dU w ok args[i] eb[i])->
  (∀g u,G g=some u->bC w ok (fun _=>none) (.e0 u) (.pointer (some ⟨g,0,none⟩)))->
  AP P f eb w fun cv bh=>dU bh (fun b=>ok b\/w.heap.size<=b) v cv/\Below w.heap.size w bh
def tV (base:Nat) (okin:Nat->Prop) (σ:Nat->Option (Nat × Nat)) (h:aF) (w:World) (ay:aF) (v:J) (cv:Value) (bh:World):Prop:=
 ∃bN,dP base okin σ h w bN ay bh/\dd base okin bN ay bh/\ig bN ay.bu bh/\bC bh (b5 base okin bN ay) bN v cv/\(∀id,ay.next<=id->bN id=none)/\∀id,id<h.next->bN id=σ id
structure tW (P:Program) (G:Nat->Option J) (Y:List dm) (c1:lC->List J->aF->Option (J × aF)):Prop where
 next:∀t args h v ay,c1 t args h=some (v,ay)->h.next<=ay.next
 frame:q7 c1
 fn:∀f args h v ay,c1 (.fn f) args h=some (v,ay)->∀base okin σ w (eb:Array Value),dd base okin σ h w->ig σ h.bu w->pI P G base okin Y σ h w->eb.size=args.length->
    (∀i (an:i<args.length) (cC:i<eb.size),bC w (b5 base okin σ h) σ args[i] eb[i])->
    (∀g u,G g=some u->bC w (b5 base okin σ h) σ (.e0 u) (.pointer (some ⟨g,0,none⟩)))->(∀id,h.next<=id->σ id=none)->
    AP P f eb w (tV base okin σ h w ay v)
 lR:∀id args h v ay,c1 (.lR id) args h=some (v,ay)->∀base okin σ w (eb:Array Value) l s,dd base okin σ h w->ig σ h.bu w->pI P G base okin Y σ h w->σ id=some (l,s)->eb.size=args.length->
    (∀i (an:i<args.length) (cC:i<eb.size),bC w (b5 base okin σ h) σ args[i] eb[i])->
    (∀g u,G g=some u->bC w (b5 base okin σ h) σ (.e0 u) (.pointer (some ⟨g,0,none⟩)))->(∀id,h.next<=id->σ id=none)->
    AQ P l eb w (tV base okin σ h w ay v)
structure fB (P:Program) (G:Nat->Option J) (Y:List dm) (dE:Option Nat) (cc:Nat) (base:Nat) (okin:Nat->Prop) (N:Nat) (dk:Nat) (dj:Nat->Option (Nat × Nat)) (bd:Nat->Prop) (σ:Nat->Option (Nat × Nat)) (s:bg) (a:Act) (w:World):Prop where
 aP:dd base okin σ s.h w
 mc:ig σ s.h.bu w
 hq:pI P G base okin Y σ s.h w
 cg:kC G (b5 base okin σ s.h) σ w s.F a
 size:N<=a.tmps.size
 marks:Marks cc a.defers w
 rd:∀l,dE=some l->∃r,w.heap[l]? =some (.loop r)
 so:cc<=w.heap.size
 free:∀id,bd id->dk<=id/\id<s.h.next/\σ id=none
 low:dk<=s.h.next
 mL:∀id,id<dk->σ id=dj id
 fresh:∀id,s.h.next<=id->σ id=none
section
variable {P:Program} {G:Nat->Option J} {base:Nat} {okin:Nat->Prop} {N:Nat} {dk:Nat} {dj:Nat->Option (Nat × Nat)} {bd:Nat->Prop} {σ:Nat->Option (Nat × Nat)} {w:World} {a:Act}
theorem kC.mono {bN:Nat->Option (Nat × Nat)} {h ay:aF} {bh:World} {F:Nat->J} (cg:kC G (b5 base okin σ h) σ w F a) (p:dP base okin σ h w bN ay bh):kC G (b5 base okin bN ay) bN bh F a:=
 ⟨fun t=>p.rep (cg.slot t),fun g v bq=>p.rep (cg.nk g v bq)⟩
theorem kC.put {h:aF} {F:Nat->J} (cg:kC G (b5 base okin σ h) σ w F a) {d:Option Nat} (bw:d.all (fun d=>decide (d<N))=true) (eO:N<=a.tmps.size) {v:J} {cv:Value} (aY:bC w (b5 base okin σ h) σ v cv):
 kC G (b5 base okin σ h) σ w (dq F d v) (a.put d cv):=by
 refine⟨fun t=>?_,cg.nk⟩
 cases d with
 | none=>exact cg.slot t
 | some d=>
   have b6:d<a.tmps.size:=by
    have:d<N:=by simpa using bw
    omega
   simp only[dq,aG,Act.put]
   by_cases e:t=d
   · subst e
     rw[if_pos rfl]
     simpa[Array.getD,b6] using aY
   · rw[if_neg e]
     have:=cg.slot t
     have aq:(a.tmps.setIfInBounds d cv).getD t undef=a.tmps.getD t undef:=by
      simp only[Array.getD_eq_getD_getElem?]
      rw[Array.getElem?_setIfInBounds_ne (Ne.symm e)]
     rw[aq];exact this
theorem Nl (a:Act) (d:Option Nat) (v:Value):(a.put d v).tmps.size=a.tmps.size:=by
 cases d<;>simp[Act.put]
theorem put_defers (a:Act) (d:Option Nat) (v:Value):(a.put d v).defers=a.defers:=by
 cases d<;>rfl
theorem dd.grown {h:aF} (H:dd base okin σ h w) {bh:World} (au:Below w.heap.size w bh):dd base okin σ h bh/\Prog base okin σ h w σ h bh:=by
 have P:Prog base okin σ h w σ h bh:=⟨fun _ _ x=>x,fun b b6 a4=>⟨a4,au.block b b6⟩,au.mono H.base,Mb au⟩
 refine⟨⟨fun id b s an=>⟨(H.val id b s an).1,Nat.lt_of_lt_of_le (H.val id b s an).2 au.size⟩,fun id gk gH=>?_,H.inj,Nat.le_trans H.base au.size⟩,P⟩
 obtain⟨b,s,q4,ty,aj,aq,aW⟩:=H.blk id gk gH
 refine⟨b,s,q4,ty,aj,by rw[au.block b (H.val _ _ _ aj).2];exact aq,fun i an=>⟨(aW i an).1,fun j bb=>?_⟩⟩
 obtain⟨v,ba,br⟩:=(aW i an).2 j bb
 exact ⟨v,ba,P.rep br⟩
theorem wk {h:aF} {x y:List Nat} (np:∀i∈x,i∈y) (b:Nat) (a4:b5 base okin σ (h.close x) b):b5 base okin σ (h.close y) b:=by
 rcases a4 with a4|⟨ae,h2⟩
 · exact .inl a4
 · refine .inr ⟨ae,fun id s aP a6=>?_⟩
   have:=h2 id s aP a6
   simp only[aF.close,Bool.or_eq_true,List.contains_iff_mem] at this|-
   exact this.imp (fun q=>q) (np id)
theorem EP {h:aF} (H:dd base okin σ h w) {v u:J} {cv:Value} {ids:List Nat} (bf:bC w (b5 base okin σ h) σ v cv) (a4:eJ h v=some (u,ids)):dU w (b5 base okin σ (h.close ids)) u cv:=by
 cases v<;>simp only[eJ] at a4<;>try(cases a4;done)
 case int k n=>cases a4;rw[bf.hN];exact .int k n
 case bool b=>cases a4;rw[bf.qZ];exact .bool b
 case str s=>cases a4;rw[bf.vS];exact .str s
 case nilfn=>cases a4;rw[bf.L'];exact .nilfn
 case mp m=>
  cases a4
  have:=bf.DI
  rw[sk]
  exact this
 case sl xs ex=>
  cases a4
  have:=bf.q0
  rw[sk]
  exact this
 case ref id off len cap=>
  split at a4<;>try(cases a4;done)
  rename_i blk au
  split at a4<;>try(cases a4;done)
  rename_i bo
  obtain⟨cn,eg⟩:=bo
  cases a4
  obtain⟨A,c,b,sz,rfl,aj,aq,aW,bW⟩:=bf.q1
  obtain⟨gF,fU,arr,ty,f1,f2,f3⟩:=H.blk id blk au
  rw[aj] at f1;cases f1
  have hlen:((blk.drop off).take len).length=len:=by simp;omega
  have lE:∀i (an:i<len),((blk.drop off).take len)[i]'(by rw[hlen];exact an)=blk[off+i]'(by omega):=by intro i an;simp
  have kB:b5 base okin σ (h.close [id]) b:=by
   refine .inr ⟨(H.val _ _ _ aj).1,fun gn s aP a6=>?_⟩
   have:gn=id:=H.inj gn id b s sz a6 (by simp[au]) aP aj
   subst this
   simp[aF.close]
  have R:=dU.sl (w:=w) (ok:=b5 base okin σ (h.close [id])) ((blk.drop off).take len) false A c sz (fun i j=>(arr[(off+i)*sz+j]?).getD undef) (by rw[hlen];exact aq) (fun de=>absurd de (by simp))
   (fun i an=>by rw[hlen] at an;rw[lE i an];exact (f3 _ _).1)
   (fun i j an bb=>by
     rw[hlen] at an
     obtain⟨rfl,_⟩:=bW (by omega)
     refine⟨_,rfl,kB,?_⟩
     obtain⟨mo,ba,_⟩:=(f3 (off+i) (by omega)).2 j (by rw[(f3 (off+i) (by omega)).1];exact bb)
     rw[p_]
     simp only[World.cell?,f2,Option.isSome_none,Bool.false_eq_true,if_false]
     rw[show off*sz+(i*sz+j)=(off+i)*sz+j by rw[Nat.add_mul];omega,ba];rfl)
   (fun pA=>by
     rw[hlen] at pA
     obtain⟨rfl,_⟩:=bW (by omega)
     rfl)
   (fun i an j bb=>by
     rw[hlen] at an
     have he:=lE i an
     simp only[he] at bb|-
     obtain⟨mo,ba,br⟩:=(f3 (off+i) (by omega)).2 j bb
     show dU _ _ _ ((arr[(off+i)*sz+j]?).getD undef)
     rw[ba]
     have kG:(blk[off+i]'(by omega)).cells[j].e7=true:=List.all_eq_true.1 (List.all_eq_true.1 eg _ (List.getElem_mem _)) _ (List.getElem_mem bb)
     exact (dU.D2 br kG).r6 fun k aI kB=>by
      have:=wk (base:=base) (okin:=okin) (σ:=σ) (h:=h) (x:=[]) (y:=[id]) (by simp) k (by rw[sk];exact kB)
      exact this)
  rw[hlen] at R
  exact R
theorem ER {h:aF} (H:dd base okin σ h w):∀ {vs us:List J} {ids:List Nat} (cs:Nat->Value),(∀i (an:i<vs.length),bC w (b5 base okin σ h) σ vs[i] (cs i))->ff h vs=some (us,ids)->
 us.length=vs.length/\∀i (an:i<us.length),dU w (b5 base okin σ (h.close ids)) us[i] (cs i)
 | [],us,ids,cs,_,a4=>by simp only[ff] at a4;cases a4;exact ⟨rfl,fun i an=>absurd an (by simp)⟩
 | v::vs,us,ids,cs,bf,a4=>by
   simp only[ff] at a4
   split at a4<;>try(cases a4;done)
   rename_i kA x m4 y ae h2
   cases a4
   obtain⟨l,q⟩:=ER H (fun i=>cs (i+1)) (fun i an=>bf (i+1) (by simpa using an)) h2
   refine⟨by simp[l],fun i an=>?_⟩
   cases i with
   | zero=>exact (EP H (bf 0 (by simp)) ae).r6 fun b _ au=>wk (fun i an=>by simp[an]) b au
   | succ i=>exact (q i (by simpa using an)).r6 fun b _ au=>wk (fun i an=>by simp[an]) b au
theorem ES {h:aF} (H:dd base okin σ h w) {v u:J} {cv:Value} {ids:List Nat} (bf:bC w (b5 base okin σ h) σ v cv) (a4:hL h v=some (u,ids)):dU w (b5 base okin σ (h.close ids)) u cv:=by
 by_cases aY:∃cs,v= .agg cs
 · obtain⟨cs,rfl⟩:=aY
   simp only[hL] at a4
   obtain⟨p,ae,he⟩:=Option.map_eq_some_iff.1 a4
   obtain⟨us,Nm⟩:=p
   cases he
   obtain⟨vs,rfl,ck,ct⟩:=bf.tG
   obtain⟨dD,ej⟩:=ER H (fun i=>vs.getD i undef) (fun i an=>by
    have b6:i<vs.size:=by omega
    have:=ct i an b6
    simpa[Array.getD,b6] using this) ae
   refine .agg _ _ (by show vs.size=us.length;omega) (fun i an cC=>?_)
   have:=ej i an
   simpa[Array.getD,cC] using this
 · refine EP H bf ?_
   cases v<;>first|exact a4|exact absurd ⟨_,rfl⟩ aY
theorem AR {h:aF} (H:dd base okin σ h w):∀ {vs us:List J} {ids:List Nat} (cs:Nat->Value),(∀i (an:i<vs.length),bC w (b5 base okin σ h) σ vs[i] (cs i))->e8 h vs=some (us,ids)->
 us.length=vs.length/\∀i (an:i<us.length),dU w (b5 base okin σ (h.close ids)) us[i] (cs i)
 | [],us,ids,cs,_,a4=>by simp only[e8] at a4;cases a4;exact ⟨rfl,fun i an=>absurd an (by simp)⟩
 | v::vs,us,ids,cs,bf,a4=>by
   simp only[e8] at a4
   split at a4<;>try(cases a4;done)
   rename_i kA x m4 y ae h2
   cases a4
   obtain⟨l,q⟩:=AR H (fun i=>cs (i+1)) (fun i an=>bf (i+1) (by simpa using an)) h2
   refine⟨by simp[l],fun i an=>?_⟩
   cases i with
   | zero=>exact (ES H (bf 0 (by simp)) ae).r6 fun b _ au=>wk (fun i an=>by simp[an]) b au
   | succ i=>exact (q i (by simpa using an)).r6 fun b _ au=>wk (fun i an=>by simp[an]) b au
theorem Nn {h:aF} (H:dd base okin σ h w) {v u:J} {cv:Value} {ids:List Nat} (bf:bC w (b5 base okin σ h) σ v cv) (a4:kU h v=some (u,ids)):dU w (b5 base okin σ (h.close ids)) u cv:=by
 by_cases aY:∃cs,v= .cb cs
 · obtain⟨cs,rfl⟩:=aY
   simp only[kU] at a4
   obtain⟨p,ae,he⟩:=Option.map_eq_some_iff.1 a4
   obtain⟨us,Nm⟩:=p
   cases he
   obtain⟨vs,rfl,ck,ct⟩:=bf.DK
   obtain⟨dD,ej⟩:=AR H (fun i=>vs.getD i undef) (fun i an=>by
    have b6:i<vs.size:=by omega
    have:=ct i an b6
    simpa[Array.getD,b6] using this) ae
   refine .cb _ _ (by show vs.size=us.length;omega) (fun i an cC=>?_)
   have:=ej i an
   simpa[Array.getD,cC] using this
 · refine ES H bf ?_
   cases v<;>first|exact a4|exact absurd ⟨_,rfl⟩ aY
end
end Go.Eng
namespace Go.Eng
open Go Go.RowKit
section
variable {P:Program} {G:Nat->Option J} {base:Nat} {okin:Nat->Prop} {N:Nat} {dk:Nat} {dj:Nat->Option (Nat × Nat)} {bd:Nat->Prop} {σ:Nat->Option (Nat × Nat)} {w:World} {a:Act}
 {tab:FuncId->Option (List J->Option J)} {c1:lC->List J->aF->Option (J × aF)} {Y:List dm} {dE:Option Nat} {cc:Nat} {dt:Fence} {et:Nat}
theorem AS (x:Array Value) (i:Nat) (h:i<x.size):x.getD i undef=x[i]:=by simp[Array.getD,h]
theorem ET {ops:Array Oper} {o:Oper} {e:bH} (h:p6 P N ops o=some e):
 e.dst=o.dst/\fT P o.op=some e.op/\o.dst.all (fun d=>decide (d<N))=true/\
   ((o.guard=none/\e.guard=none)\/∃j t want,o.guard=some (j,want)/\(ops[j]?).bind (·.dst)=some t/\e.guard=some (t,want)):=by
 unfold p6 at h
 split at h<;>try(cases h;done)
 rename_i bw
 split at h<;>try(cases h;done)
 rename_i op df
 split at h
 · rename_i bq
   cases h
   exact ⟨rfl,df,bw,.inl ⟨bq,rfl⟩⟩
 · rename_i j w bq
   split at h<;>try(cases h;done)
   rename_i t a'
   cases h
   exact ⟨rfl,df,bw,.inr ⟨j,t,w,bq,a',rfl⟩⟩
theorem No {o:Oper} {x:Operand} {args:Array Operand} {argTypes:Array TypeId} (df:o.op= .call {callee:= .value x,args,argTypes}) {f:FuncId} {fc cv:Array Value} (av:a.eval x= .func (.func f) fc cv):
 (execOp a.eval o).run P w=(callFunc f (fc++args.map a.eval++cv)).run P w:=by
 simp[execOp,df,resolve,Deferred.ofValue,av,invoke]
theorem Np {o:Oper} {x:Operand} {args:Array Operand} {argTypes:Array TypeId} (df:o.op= .call {callee:= .value x,args,argTypes}) {l:Nat} (av:a.eval x= .func (.yield l) #[] #[]):
 (execOp a.eval o).run P w=(Instr.yield l (args.map a.eval)).run P w:=by
 simp[execOp,df,resolve,Deferred.ofValue,av,invoke]
theorem fB.step {bN:Nat->Option (Nat × Nat)} {s:bg} (S:fB P G Y dE cc base okin N dk dj bd σ s a w) {d:Option Nat} (bw:d.all (fun d=>decide (d<N))=true) {v:J} {cv:Value} {ay:aF} {bh:World} {r:Nat}
 (p:dP base okin σ s.h w bN ay bh) (H:dd base okin bN ay bh) (L:ig bN ay.bu bh) (bf:bC bh (b5 base okin bN ay) bN v cv) (aC:s.h.next<=ay.next) (aT:∀id,bd id->id≠r->bN id=none) (Nq:∀id,ay.next<=id->bN id=none) (a4:∀id,id<dk->bN id=σ id):
 fB P G Y dE cc base okin N dk dj (fun id=>bd id/\id≠r) bN ⟨dq s.F d v,ay⟩ (a.put d cv) bh:=
 ⟨H,L,S.hq.mono p,(S.cg.mono p).put bw S.size bf,by rw[Nl];exact S.size,by rw[put_defers];exact S.marks.mono p.o2,fun l a6=>by
   obtain⟨Ev,ae⟩:=S.rd l a6
   obtain⟨st,kF,h2⟩:=p.loop l Ev ae
   exact ⟨_,h2⟩,Nat.le_trans S.so p.below.size,fun id b8=>⟨(S.free id b8.1).1,Nat.lt_of_lt_of_le (S.free id b8.1).2.1 aC,aT id b8.1 b8.2⟩,Nat.le_trans S.low aC,fun id b8=>(a4 id b8).trans (S.mL id b8),Nq⟩
theorem EU (bR:hS dt) {Q:Exit->Act->World->Prop} {K:Act->World->Prop} {o:Oper} {f:FuncId} {eb:Array Value} {R:Value->World->Prop} (bw:AP P f eb w R) (pJ:∀c,o.op≠ .defer c) (c7:(execOp a.eval o).run P w=(callFunc f eb).run P w)
 (m6:∀cv bh,R cv bh->K (a.put o.dst cv) bh):o.wpIn dt et P a w K Q:=by
 unfold Oper.wpIn
 refine⟨fun f _=>bR.fn f,?_⟩
 rw[Oper.semAt_eq _ _ _ pJ,c7]
 rcases bw with⟨ae,h2⟩|⟨cv,bh,ae,h2⟩
 · rw[ae,Oper.uponIn_enter]
   refine⟨bR.one et,bR.calls (h2.mono fun e bh ⟨cv,he,eu⟩=>?_)⟩
   subst he
   exact m6 cv bh eu
 · rw[ae]
   exact m6 cv bh h2
theorem Nr (bR:hS dt) {Q:Exit->Act->World->Prop} {K:Act->World->Prop} {o:Oper} {l:Nat} {eb:Array Value} {R:Value->World->Prop} (bw:AQ P l eb w R) (pJ:∀c,o.op≠ .defer c) (c7:(execOp a.eval o).run P w=(Instr.yield l eb).run P w)
 (m6:∀cv bh,R cv bh->K (a.put o.dst cv) bh):o.wpIn dt et P a w K Q:=by
 unfold Oper.wpIn
 refine⟨fun f _=>bR.fn f,?_⟩
 rw[Oper.semAt_eq _ _ _ pJ,c7]
 obtain⟨f,tmps,ei,body,ae,h2⟩:=bw
 rw[ae,Oper.uponIn_round]
 refine⟨bR.one et,(h2 dt _ bR).mono fun e bh ⟨cv,he,eu⟩=>?_⟩
 subst he
 exact m6 cv bh eu
theorem EV (bR:hS dt) (hv:tW P G Y c1) (lV:∀f T,tab f=some T->bl P G f T) {ops:Array Oper} {o:Oper} {e:bH} (eO:p6 P N ops o=some e) {bm r:Nat} {s aD:bg} {c:ey}
 (c7:dJ G tab c1 bm r e s=some (aD,c)) (S:fB P G Y dE cc base okin N dk dj bd σ s a w) (q9:bd r) {K:Act->World->Prop} {Q:Exit->Act->World->Prop}
 (m6:∀bN ep bh,fB P G Y dE cc base okin N dk dj (fun id=>bd id/\id≠r) bN aD ep bh->dP base okin σ s.h w bN aD.h bh->K ep bh):o.wpIn dt et P a w K Q:=by
 obtain⟨d1,d2,d3,_⟩:=ET eO
 have bw:e.dst.all (fun d=>decide (d<N))=true:=by rw[d1];exact d3
 by_cases I:∃f args,e.op= .call f args
 · obtain⟨f,args,df⟩:=I
   rw[df] at d2
   have lD:∃x as cB,o.op= .call {callee:= .value x,args:=as,argTypes:=cB}/\eF x=some f/\p5 as.toList=some args:=by
    cases a4:o.op<;>rw[a4] at d2<;>simp only[fT] at d2<;>try(first|(cases d2;done)|(split at d2<;>cases d2;done))
    case call AB=>
     obtain⟨callee,as,cB⟩:=AB
     cases callee with
     | value x=>
       simp only at d2
       split at d2<;>try(cases d2;done)
       rename_i ae h2
       cases d2
       exact ⟨x,as,cB,rfl,ae,h2⟩
     | invoke _ _=>simp only at d2;cases d2
     | builtin b=>
       exfalso
       cases b<;>simp only at d2<;>(repeat' split at d2)<;>first|(cases d2;done)|(obtain⟨_,_,d2⟩:=Option.map_eq_some_iff.1 d2;cases d2)
    all_goals
     exfalso
     first
      | (obtain⟨_,_,d2⟩:=Option.map_eq_some_iff.1 d2;cases d2;done)
      | ((repeat' split at d2)<;>first|contradiction|(cases d2;done)|(obtain⟨_,_,d2⟩:=Option.map_eq_some_iff.1 d2;cases d2;done))
   obtain⟨x,as,cB,a4,av,has⟩:=lD
   unfold dJ at c7
   simp only[df] at c7
   have pJ:∀c,o.op≠ .defer c:=fun c I=>by rw[a4] at I;cases I
   split at c7<;>try(cases c7;done)
   rotate_left
   · rename_i id aT
     obtain⟨p,bc,c7⟩:=Option.map_eq_some_iff.1 c7
     obtain⟨v,ay⟩:=p
     cases c7
     have rx:=S.cg.ez av
     rw[aT] at rx
     obtain⟨l,sl,ex,pK⟩:=rx.Ma
     obtain⟨lh,o5⟩:=r_ S.cg has
     have aC:=hv.next _ _ _ _ _ bc
     refine Nr bR (hv.lR _ _ _ _ _ bc base okin σ w (as.map a.eval) l sl S.aP S.mc S.hq pK (by simp at lh|-;omega) (fun i an cC=>by
      have:=o5 i (by simpa using an) (by simpa using cC)
      simpa using this) S.cg.nk S.fresh) pJ (Np a4 ex) (fun AT bh eu=>?_)
     obtain⟨bN,ab,aa,AU,af,ad,ah⟩:=eu
     rw[<-d1]
     exact m6 bN _ bh (S.step bw ab aa AU af aC (fun id b8 _=>by rw[ah id (S.free id b8).2.1];exact (S.free id b8).2.2) ad (fun id b8=>ah id (Nat.lt_of_lt_of_le b8 S.low))) ab
   rename_i n first c0 aT
   have rx:=S.cg.ez av
   rw[aT] at rx
   obtain⟨fc,cv,ex,ck,dD,ct,ej⟩:=rx.DJ
   obtain⟨lh,o5⟩:=r_ S.cg has
   have EW:=No (P:=P) (w:=w) a4 ex
   have dC:(fc++as.map a.eval++cv).size=(first++args.map (bn.cu G s.F)++c0).length:=by simp at lh|-;omega
   have fK:∀i (an:i<(first++args.map (bn.cu G s.F)++c0).length) (cC:i<(fc++as.map a.eval++cv).size),bC w (b5 base okin σ s.h) σ (first++args.map (bn.cu G s.F)++c0)[i] (fc++as.map a.eval++cv)[i]:=by
    intro i an cC
    by_cases ae:i<first.length
    · have aj:(first++args.map (bn.cu G s.F)++c0)[i]=first[i]:=by
       rw[List.getElem_append_left (by simp;omega),List.getElem_append_left ae]
      have aq:(fc++as.map a.eval++cv)[i]=fc[i]'(by omega):=by
       rw[Array.getElem_append_left (by simp;omega),Array.getElem_append_left (by omega)]
      rw[aj,aq];exact ct i ae (by omega)
    · by_cases h2:i<first.length+args.length
      · have aj:(first++args.map (bn.cu G s.F)++c0)[i]=args[i - first.length].cu G s.F:=by
         rw[List.getElem_append_left (by simp;omega),List.getElem_append_right (by omega)];simp
        have aq:(fc++as.map a.eval++cv)[i]=a.eval (as.toList[i - first.length]'(by simp at lh|-;omega)):=by
         rw[Array.getElem_append_left (by simp at lh|-;omega),Array.getElem_append_right (by omega)]
         simp[ck]
        rw[aj,aq];exact o5 _ (by omega) (by simp at lh|-;omega)
      · have aj:(first++args.map (bn.cu G s.F)++c0)[i]=c0[i -(first.length+args.length)]'(by simp at an;omega):=by
         rw[List.getElem_append_right (by simp;omega)];simp
        have aq:(fc++as.map a.eval++cv)[i]=cv[i -(first.length+args.length)]'(by simp at an;omega):=by
         rw[Array.getElem_append_right (by simp at lh|-;omega)]
         congr 1
         simp at lh|-;omega
        rw[aj,aq];exact ej _ (by simp at an;omega) (by simp at an;omega)
   split at c7
   · rename_i T dn
     split at c7<;>try(cases c7;done)
     rename_i vs ids p7
     obtain⟨v,aY,c7⟩:=Option.map_eq_some_iff.1 c7
     cases c7
     obtain⟨Ns,EX⟩:=S.aP.close ids
     obtain⟨bz,b4⟩:=AR S.aP (fun i=>(fc++as.map a.eval++cv).getD i undef) (fun i an=>by
      have b6:i<(fc++as.map a.eval++cv).size:=by rw[dC];exact an
      have:=fK i an b6
      rw[AS _ _ b6];exact this) p7
     refine EU bR (lV n T dn vs v aY (b5 base okin σ (s.h.close ids)) w (fc++as.map a.eval++cv) (by rw[dC,bz]) (fun i an cC=>by
      have:=b4 i an
      rw[AS _ _ cC] at this;exact this) (fun g u bq=>(EX.rep (S.cg.nk g u bq)).Ni)) pJ EW (fun AT bh eu=>?_)
     obtain⟨cn,eg⟩:=eu
     obtain⟨AV,AW⟩:=Ns.grown eg
     have EY:=EX.trans AW
     have EZ:=dP.of S.aP EY
     rw[<-d1]
     refine m6 σ _ bh (S.step bw EZ AV (S.mc.of S.aP EY rfl) (.val _ _ (cn.r6 fun b _ au=>?_)) (Nat.le_refl _) (fun id b8 _=>(S.free id b8).2.2) S.fresh (fun _ _=>rfl)) EZ
     rcases au with au|au
     · exact au
     · exact .inr ⟨Nat.le_trans S.aP.base au,fun id sz aP _=>by have:=(S.aP.val _ _ _ aP).2;omega⟩
   · rename_i dn
     obtain⟨p,bc,c7⟩:=Option.map_eq_some_iff.1 c7
     obtain⟨v,ay⟩:=p
     cases c7
     have aC:=hv.next _ _ _ _ _ bc
     refine EU bR (hv.fn _ _ _ _ _ bc base okin σ w _ S.aP S.mc S.hq dC fK S.cg.nk S.fresh) pJ EW (fun AT bh eu=>?_)
     obtain⟨bN,ab,aa,AU,af,ad,ah⟩:=eu
     rw[<-d1]
     exact m6 bN _ bh (S.step bw ab aa AU af aC (fun id b8 _=>by rw[ah id (S.free id b8).2.1];exact (S.free id b8).2.2) ad (fun id b8=>ah id (Nat.lt_of_lt_of_le b8 S.low))) ab
 · have nq:dJ G tab c1 bm r e s=(evalOp bm r (bn.cu G s.F) s.h e.op).map fun(v,ay,c)=>(⟨dq s.F e.dst v,ay⟩,c):=by
    unfold dJ
    split
    · exact absurd ⟨_,_,‹_›⟩ I
    · rfl
   rw[nq] at c7
   obtain⟨p,bc,c7⟩:=Option.map_eq_some_iff.1 c7
   obtain⟨v,ay,dg⟩:=p
   have mI:(⟨dq s.F e.dst v,ay⟩:bg)=aD:=congrArg Prod.fst c7
   subst mI
   have x_:ay.next=s.h.next:=congrArg Prod.fst (tS bc).1
   have Nt:ay.bu=s.h.bu:=congrArg Prod.snd (tS bc).1
   obtain⟨bN,cv,bh,aj,aq,aW,bW,ea⟩:=MW S.aP S.cg (S.free r q9).2.2 o d2 bc
   have fin:fB P G Y dE cc base okin N dk dj (fun id=>bd id/\id≠r) bN ⟨dq s.F e.dst v,ay⟩ (a.put e.dst cv) bh:=
    S.step bw (dP.of S.aP aq) aW (S.mc.of S.aP aq Nt) bW (by rw[x_];exact Nat.le_refl _) (fun id b8 cp=>by rw[ea id cp];exact (S.free id b8).2.2) (fun id b8=>by
      rw[x_] at b8
      have:id≠r:=by have:=(S.free r q9).2.1;omega
      rw[ea id this];exact S.fresh id b8) (fun id b8=>ea id (by have:=(S.free r q9).1;omega))
   have E0:=m6 bN _ bh fin (dP.of S.aP aq)
   have pJ:∀c,o.op≠ .defer c:=fun c I=>by rw[I] at d2;simp only[fT] at d2;cases d2
   unfold Oper.wpIn
   refine⟨fun f _=>bR.fn f,?_⟩
   rw[Oper.semAt_eq _ _ _ pJ]
   rcases aj with aj|⟨aj,rfl⟩
   · rw[aj,Oper.uponIn_value,<-d1];exact E0
   · rw[aj,Oper.uponIn_skip,<-d1];exact E0
theorem E1 (bR:hS dt) (hv:tW P G Y c1) (lV:∀f T,tab f=some T->bl P G f T) {ops:Array Oper} {i:Nat} {o:Oper} (an:ops[i]? =some o) {e:bH} (eO:p6 P N ops o=some e) {bm r:Nat} {s aD:bg} {c:ey}
 (c7:dr G tab c1 bm r e s=some (aD,c)) (S:fB P G Y dE cc base okin N dk dj bd σ s a w) (q9:bd r) {K:Act->World->Prop} {Q:Exit->Act->World->Prop}
 (m6:∀bN ep bh,fB P G Y dE cc base okin N dk dj (fun id=>bd id/\id≠r) bN aD ep bh->dP base okin σ s.h w bN aD.h bh->K ep bh):wpOpIn dt et P ops Q i K a w:=by
 obtain⟨d1,d2,d3,bq⟩:=ET eO
 unfold wpOpIn
 rw[an]
 simp only
 unfold dr at c7
 rcases bq with⟨ba,br⟩|⟨j,t,want,ba,br,eS⟩
 · rw[br] at c7
   simp only[Region.wanted,ba,if_true]
   exact EV bR hv lV eO c7 S q9 m6
 · rw[eS] at c7
   simp only at c7
   cases au:s.F t<;>rw[au] at c7<;>try(cases c7;done)
   · cases c7
     have a':=S.cg.slot t
     rw[au] at a'
     have pL:=a'.L_
     have bj:yielded ops a.tmps j=none:=by
      rw[Array.getD_eq_getD_getElem?] at pL
      cases bo:a.tmps[t]? with
      | none=>simp[yielded,br,bo]
      | some v=>
        rw[bo] at pL
        simp only[Option.getD_some] at pL
        subst pL
        simp[yielded,br,bo,Go.undef]
     simp only[Region.wanted,ba,bj]
     have cp:((none:Option Bool) == some want)=false:=rfl
     rw[cp]
     simp only[Bool.false_eq_true,if_false]
     have bw:e.dst.all (fun d=>decide (d<N))=true:=by rw[d1];exact d3
     refine⟨fun f _=>bR.fn f,?_⟩
     rw[<-d1]
     exact m6 σ _ w (S.step bw (dP.refl ..) S.aP S.mc .k_ (Nat.le_refl _) (fun id b8 _=>(S.free id b8).2.2) S.fresh (fun _ _=>rfl)) (dP.refl ..)
   rename_i b
   have a':=S.cg.slot t
   rw[au] at a'
   have pL:=a'.qZ
   have wm:a.tmps[t]? =some (.bool b):=by
    rw[Array.getD_eq_getD_getElem?] at pL
    cases bo:a.tmps[t]? with
    | none=>rw[bo] at pL;simp[undef] at pL
    | some v=>rw[bo] at pL;simpa using pL
   have bj:yielded ops a.tmps j=some b:=by
    simp[yielded,br,wm]
   simp only[Region.wanted,ba,bj]
   by_cases o1:b=want
   · subst o1
     simp only[if_true] at c7
     simp only[BEq.rfl,if_true]
     exact EV bR hv lV eO c7 S q9 m6
   · simp only[if_neg o1] at c7
     cases c7
     have cp:(some b == some want)=false:=by simpa using o1
     rw[cp]
     simp only[Bool.false_eq_true,if_false]
     have bw:e.dst.all (fun d=>decide (d<N))=true:=by rw[d1];exact d3
     refine⟨fun f _=>bR.fn f,?_⟩
     rw[<-d1]
     exact m6 σ _ w (S.step bw (dP.refl ..) S.aP S.mc .k_ (Nat.le_refl _) (fun id b8 _=>(S.free id b8).2.2) S.fresh (fun _ _=>rfl)) (dP.refl ..)
end
end Go.Eng
namespace Go.Eng
open Go Go.RowKit
section
variable {P:Program} {G:Nat->Option J} {base:Nat} {okin:Nat->Prop} {N:Nat} {dk:Nat} {dj:Nat->Option (Nat × Nat)} {tab:FuncId->Option (List J->Option J)} {c1:lC->List J->aF->Option (J × aF)} {Y:List dm} {dE:Option Nat} {cc:Nat} {dt:Fence} {et:Nat}
theorem AX {bm:Nat}:∀ {L:List (bH × Nat)} {s aD:bg} {cs:List ey},dG G tab c1 bm L s=some (aD,cs)->cs.length=L.length
 | [],s,aD,cs,h=>by simp only[dG] at h;cases h;rfl
 | q::L,s,aD,cs,h=>by
   simp only[dG] at h
   split at h<;>try(cases h;done)
   obtain⟨p,h2,aO⟩:=Option.map_eq_some_iff.1 h
   cases aO
   simp[AX h2]
theorem fB.weaken {bd tL:Nat->Prop} {σ:Nat->Option (Nat × Nat)} {s:bg} {a:Act} {w:World} (S:fB P G Y dE cc base okin N dk dj bd σ s a w) (h:∀i,tL i->bd i):fB P G Y dE cc base okin N dk dj tL σ s a w:=
 ⟨S.aP,S.mc,S.hq,S.cg,S.size,S.marks,S.rd,S.so,fun i an=>S.free i (h i an),S.low,S.mL,S.fresh⟩
theorem E2 (bR:hS dt) (hv:tW P G Y c1) (lV:∀f T,tab f=some T->bl P G f T) {ops:Array Oper} {bm:Nat} {aD:bg} {Q:Exit->Act->World->Prop}:∀(L:List (bH × Nat)) (s:bg) (cs:List ey) (σ:Nat->Option (Nat × Nat)) (a:Act) (w:World),
 (∀p∈L,∃o,ops[p.2]? =some o/\p6 P N ops o=some p.1)->L.Pairwise (fun p q=>p.2<q.2)->dG G tab c1 bm L s=some (aD,cs)->
 fB P G Y dE cc base okin N dk dj (fun id=>∃p∈L,id=bm+p.2) σ s a w->
 (∀bN ep bh,fB P G Y dE cc base okin N dk dj (fun _=>False) bN aD ep bh->dP base okin σ s.h w bN aD.h bh->Q .normal ep bh)->wpOpsIn dt et P ops Q (L.map (·.2)) a w
 | [],s,cs,σ,a,w,_,_,c7,S,eA=>by
   simp only[dG] at c7;cases c7
   exact eA σ a w (S.weaken fun _ h=>h.elim) (dP.refl ..)
 | (e,i)::L,s,cs,σ,a,w,a_,bw,c7,S,eA=>by
   simp only[dG] at c7
   split at c7<;>try(cases c7;done)
   rename_i s1 c ae
   obtain⟨p,h2,aO⟩:=Option.map_eq_some_iff.1 c7
   obtain⟨s2,E3⟩:=p
   have q_:s2=aD:=congrArg Prod.fst aO
   subst q_
   obtain⟨o,a4,x'⟩:=a_ (e,i) (by simp)
   rw[List.map_cons,wpOpsIn_cons]
   refine E1 bR hv lV a4 x' ae S ⟨(e,i),by simp,rfl⟩ (fun bN ep bh mN au=>?_)
   refine E2 bR hv lV L s1 E3 bN ep bh (fun p bc=>a_ p (by simp[bc])) (List.pairwise_cons.1 bw).2 h2 (mN.weaken ?_) (fun AY AZ A0 A1 qi=>eA AY AZ A0 A1 (au.trans qi))
   rintro id ⟨p,bc,rfl⟩
   refine⟨⟨p,by simp[bc],rfl⟩,?_⟩
   have:=(List.pairwise_cons.1 bw).1 p bc
   simp only at this|-
   omega
theorem Nu {ops:Array Oper} {b:List Nat} (h:xM ops b=true) {i k:Nat} {o:Oper} (a4:ops[i]? =some o) (aI:k<i) (au:(b.getD i 0).testBit k=true):
 ∃e∈o.after,Region.binds .any e=true/\(e.on=k\/(k<e.on/\(b.getD e.on 0).testBit k=true)):=by
 unfold xM at h
 have ae:=List.all_eq_true.1 h (o,i) (by
  rw[List.mem_zipIdx_iff_getElem?]
  simpa using a4)
 have h2:=List.all_eq_true.1 ae k (by simpa using aI)
 simp only[au,Bool.not_true,Bool.false_or] at h2
 obtain⟨e,he,aO⟩:=Array.any_eq_true'.1 h2
 simp only[Bool.and_eq_true,Bool.or_eq_true,beq_iff_eq,decide_eq_true_eq] at aO
 exact ⟨e,he,aO.1,aO.2⟩
theorem E4 {ops:Array Oper} (h:xL ops=true) {i:Nat} {o:Oper} (a4:ops[i]? =some o) {e:Edge} (he:e∈o.after) (au:Region.binds .any e=true):e.on<i:=by
 unfold xL at h
 have ae:=List.all_eq_true.1 h (o,i) (by
  rw[List.mem_zipIdx_iff_getElem?]
  simpa using a4)
 have h2:=Array.all_eq_true'.1 ae e he
 simpa[au] using h2
structure Left (P:Program) (N:Nat) (ops:Array Oper) (b:List Nat) (L:List (bH × Nat)) (cs:List ey) (listed:Array Bool):Prop where
 size:listed.size=ops.size
 mem:∀p∈L,∃o,ops[p.2]? =some o/\p6 P N ops o=some p.1/\listed.getD p.2 true=false
 all:∀i,i<ops.size->listed.getD i true=false->∃e,(e,i)∈L
 ya:L.Pairwise (fun p q=>p.2<q.2)
 shut:∀i,i<ops.size->listed.getD i false=true->∀k,k<i->(b.getD i 0).testBit k=true->listed.getD k false=true
 E5:∀p q (bc:p<q) (bo:q<L.length) (q5:q<cs.length),(b.getD L[q].2 0).testBit L[p].2=true\/(L[p].1.apart L[q].1=true/\kV cs[p] cs[q]=true)
theorem Nv {listed:Array Bool} {n i:Nat} (aP:listed.size=n) (an:i<n):listed.getD i true=false\/listed.getD i false=true:=by
 have:i<listed.size:=by omega
 simp only[Array.getD_eq_getD_getElem?,Array.getElem?_eq_getElem this,Option.getD_some]
 cases listed[i]<;>simp
theorem Nw (bR:hS dt) (hv:tW P G Y c1) (lV:∀f T,tab f=some T->bl P G f T) {ops:Array Oper} {b:List Nat} (Nx:xM ops b=true) (E6:xL ops=true) {bm:Nat} {aD:bg} {Q:Exit->Act->World->Prop}:
 ∀(fuel:Nat) (L:List (bH × Nat)) (s:bg) (cs:List ey) (listed:Array Bool) (σ:Nat->Option (Nat × Nat)) (a:Act) (w:World),L.length<=fuel->
 Left P N ops b L cs listed->dG G tab c1 bm L s=some (aD,cs)->
 fB P G Y dE cc base okin N dk dj (fun id=>∃p∈L,id=bm+p.2) σ s a w->
 (∀bN ep bh,fB P G Y dE cc base okin N dk dj (fun _=>False) bN aD ep bh->dP base okin σ s.h w bN aD.h bh->Q .normal ep bh)->wpAnyIn dt et P .any ops Q fuel listed a w:=by
 have fin:∀(s:bg) (cs:List ey) (σ:Nat->Option (Nat × Nat)) (a:Act) (w:World),dG G tab c1 bm [] s=some (aD,cs)->
  fB P G Y dE cc base okin N dk dj (fun id=>∃p∈([]:List (bH × Nat)),id=bm+p.2) σ s a w->
  (∀bN ep bh,fB P G Y dE cc base okin N dk dj (fun _=>False) bN aD ep bh->dP base okin σ s.h w bN aD.h bh->Q .normal ep bh)->Q .normal a w:=by
  intro s cs σ a w c7 S eA
  simp only[dG] at c7;cases c7
  exact eA σ a w (S.weaken fun _ h=>h.elim) (dP.refl ..)
 have Ny:∀ {cs:List ey} {listed:Array Bool},Left P N ops b [] cs listed->Region.ready .any ops listed= []:=by
  intro cs listed a_
  apply List.eq_nil_iff_forall_not_mem.2
  intro i an
  have bf:=mem_ready.1 an
  obtain⟨a6,o,a4,_⟩:=bf
  obtain⟨e,he⟩:=a_.all i (Array.getElem?_eq_some_iff.1 a4).1 a6
  simp at he
 intro fuel
 induction fuel with
 | zero=>
   intro L s cs listed σ a w aT a_ c7 S eA
   have:L= []:=List.eq_nil_of_length_eq_zero (by omega)
   subst this
   exact ⟨Ny a_,fin s cs σ a w c7 S eA⟩
 | succ fuel b_=>
   intro L s cs listed σ a w aT a_ c7 S eA
   refine⟨fun bf=>?_,fun i an=>?_⟩
   · cases L with
     | nil=>exact fin s cs σ a w c7 S eA
     | cons p L=>
       exfalso
       obtain⟨o,a4,x',a6⟩:=a_.mem p (by simp)
       have:p.2∈Region.ready .any ops listed:=by
        refine mem_ready.2 ⟨a6,o,a4,fun e he au=>?_⟩
        have b6:=E4 E6 a4 he au
        have dC:=(Array.getElem?_eq_some_iff.1 a4).1
        rcases Nv a_.size (show e.on<ops.size by omega) with ae|ae
        · obtain⟨q,bo⟩:=a_.all e.on (by omega) ae
          rcases List.mem_cons.1 bo with bo|bo
          · rw[<-bo] at b6;simp at b6
          · have:=(List.pairwise_cons.1 a_.ya).1 _ bo
            simp at this;omega
        · exact ae
       rw[bf] at this;simp at this
   · obtain⟨a6,o,a4,Nz⟩:=mem_ready.1 an
     have tP:=(Array.getElem?_eq_some_iff.1 a4).1
     obtain⟨e,he⟩:=a_.all i tP a6
     obtain⟨fA,lH,rfl⟩:=List.append_of_mem he
     have x5:∀k,k<i->listed.getD k false=false->(b.getD i 0).testBit k=false:=by
      intro k aI tX
      cases a':(b.getD i 0).testBit k with
      | false=>rfl
      | true=>
        exfalso
        obtain⟨E7,ae,h2,aO⟩:=Nu Nx a4 aI a'
        have E8:=Nz E7 ae h2
        rcases aO with rfl|⟨aO,a2⟩
        · rw[E8] at tX;cases tX
        · have b6:=E4 E6 a4 ae h2
          have:=a_.shut E7.on (by omega) E8 k aO a2
          rw[this] at tX;cases tX
     have hlen:=AX c7
     have NA:∀p∈fA++(e,i)::lH,listed.getD p.2 false=false:=by
      intro p bc
      obtain⟨o',p7,_,q3⟩:=a_.mem p bc
      have dC:=(Array.getElem?_eq_some_iff.1 p7).1
      have kX:p.2<listed.size:=by rw[a_.size];exact dC
      simp only[Array.getD_eq_getD_getElem?,Array.getElem?_eq_getElem kX,Option.getD_some] at q3|-
      exact q3
     obtain⟨s1,c,cV,cY,ab,aa,rfl,ad⟩:=EM c7 (fun k aI h' q3=>by
      have qb:(fA++(e,i)::lH)[k]'(by simp;omega)=fA[k]:=List.getElem_append_left aI
      have vZ:(fA++(e,i)::lH)[fA.length]'(by simp)=(e,i):=by simp
      have bc:=a_.E5 k fA.length aI (by simp) q3
      rw[qb,vZ] at bc
      have b6:fA[k].2<i:=by
       have:=List.pairwise_append.1 a_.ya
       exact this.2.2 _ (List.getElem_mem aI) (e,i) (by simp)
      have aT:=x5 fA[k].2 b6 (NA _ (by simp[List.getElem_mem aI]))
      rcases bc with bc|bc
      · rw[aT] at bc;cases bc
      · exact ⟨bc.1,bc.2,by omega⟩) hv.frame (by
        have NB:=S.free (bm+i) ⟨(e,i),by simp,rfl⟩
        cases au:s.h.cells (bm+i) with
        | none=>rfl
        | some b=>
          obtain⟨_,_,_,_,ae,_⟩:=S.aP.blk _ _ au
          rw[NB.2.2] at ae;cases ae) (S.free (bm+i) ⟨(e,i),by simp,rfl⟩).2.1
     obtain⟨o',p7,x',_⟩:=a_.mem (e,i) (by simp)
     refine E1 bR hv lV p7 x' ab S ⟨(e,i),by simp,rfl⟩ (fun bN ep bh mN gp=>?_)
     have E9:∀p∈fA++lH,p.2≠i:=by
      intro p bc
      have bo:=List.pairwise_append.1 a_.ya
      rcases List.mem_append.1 bc with bc|bc
      · have:=bo.2.2 p bc (e,i) (by simp);simp at this;omega
      · have:=(List.pairwise_cons.1 bo.2.1).1 p bc;simp at this;omega
     have E_:∀p∈fA++lH,p∈fA++(e,i)::lH:=by
      intro p bc
      rcases List.mem_append.1 bc with bc|bc
      · simp[bc]
      · simp[bc]
     have tY:∀(j:Nat) (d:Bool),j≠i->(listed.setIfInBounds i true).getD j d=listed.getD j d:=fun j d bb=>by
      simp only[Array.getD_eq_getD_getElem?]
      rw[Array.getElem?_setIfInBounds_ne (Ne.symm bb)]
     have NC:(listed.setIfInBounds i true).getD i false=true:=by
      have:i<listed.size:=by rw[a_.size];exact tP
      simp[Array.getD_eq_getD_getElem?,this]
     have ND:Left P N ops b (fA++lH) (cV++cY) (listed.setIfInBounds i true):=by
      refine⟨by simpa using a_.size,fun p bc=>?_,fun j bb r9=>?_,?_,fun j bb r9 k aI a'=>?_,fun p q bc bo q5=>?_⟩
      · obtain⟨eD,ae,h2,aO⟩:=a_.mem p (E_ p bc)
        exact ⟨eD,ae,h2,by rw[tY _ _ (E9 p bc)];exact aO⟩
      · by_cases tZ:j=i
        · subst tZ
          have:j<listed.size:=by rw[a_.size];exact tP
          simp[Array.getD_eq_getD_getElem?,this] at r9
        · rw[tY _ _ tZ] at r9
          obtain⟨e',NF⟩:=a_.all j bb r9
          refine⟨e',?_⟩
          rcases List.mem_append.1 NF with h|h
          · simp[h]
          · rcases List.mem_cons.1 h with h|h
            · exact absurd (congrArg Prod.snd h) tZ
            · simp[h]
      · have bo:=List.pairwise_append.1 a_.ya
        exact List.pairwise_append.2 ⟨bo.1,(List.pairwise_cons.1 bo.2.1).2,fun p bc q q5=>bo.2.2 p bc q (by simp[q5])⟩
      · by_cases E':k=i
        · subst E';exact NC
        · rw[tY _ _ E']
          by_cases tZ:j=i
          · subst tZ
            cases tX:listed.getD k false with
            | true=>rfl
            | false=>rw[x5 k aI tX] at a';cases a'
          · rw[tY _ _ tZ] at r9
            exact a_.shut j bb r9 k aI a'
      ·
       have m7:cV.length=fA.length:=ad
       have pos:∀(r:Nat) (bf:r<(fA++lH).length) (oc:r<(cV++cY).length),∃hc,(hc=if r<fA.length then r else r+1)/\∃(ae:hc<(fA++(e,i)::lH).length) (h2:hc<(cV++c::cY).length),(fA++lH)[r]=(fA++(e,i)::lH)[hc]/\(cV++cY)[r]=(cV++c::cY)[hc]:=by
        intro r bf oc
        simp only[List.length_append] at bf oc
        by_cases h:r<fA.length
        · refine⟨r,by rw[if_pos h],by simp;omega,by simp;omega,?_,?_⟩
          · rw[List.getElem_append_left h,List.getElem_append_left h]
          · rw[List.getElem_append_left (by omega),List.getElem_append_left (by omega)]
        · refine⟨r+1,by rw[if_neg h],by simp;omega,by simp;omega,?_,?_⟩
          · rw[List.getElem_append_right (by omega),List.getElem_append_right (by omega)]
            have:r+1 - fA.length=(r - fA.length)+1:=by omega
            simp[this]
          · rw[List.getElem_append_right (by omega),List.getElem_append_right (by omega)]
            have:r+1 - cV.length=(r - cV.length)+1:=by omega
            simp[this]
       obtain⟨qh,NG,dO,e2,lT,t_⟩:=pos p (by omega) (by omega)
       obtain⟨ns,NH,cn,eg,gQ,lF⟩:=pos q bo q5
       have:=a_.E5 qh ns (by subst NG;subst NH;split<;>split<;>omega) cn eg
       rw[lT,gQ,t_,lF]
       exact this
     refine b_ (fA++lH) s1 (cV++cY) (listed.setIfInBounds i true) bN ep bh (by simp at aT|-;omega) ND aa (mN.weaken ?_) (fun AY AZ A0 A1 qi=>eA AY AZ A0 A1 (gp.trans qi))
     rintro id ⟨p,bc,rfl⟩
     exact ⟨⟨p,E_ p bc,rfl⟩,by have:=E9 p bc;omega⟩
theorem Fa {ops:Array Oper}:∀ {os:List Oper} {es:List bH},vR P N ops os=some es->es.length=os.length/\∀i (h:i<es.length) (ay:i<os.length),p6 P N ops os[i]=some es[i]
 | [],es,h=>by simp only[vR] at h;cases h;exact ⟨rfl,fun i h=>absurd h (by simp)⟩
 | o::os,es,h=>by
   simp only[vR] at h
   split at h<;>try(cases h;done)
   rename_i e qc ae h2
   cases h
   obtain⟨l,q⟩:=Fa h2
   refine⟨by simp[l],fun i an cC=>?_⟩
   cases i with
   | zero=>exact ae
   | succ i=>exact q i (by simpa using an) (by simpa using cC)
end
end Go.Eng
namespace Go.Eng
open Go Go.RowKit
section
variable {P:Program} {G:Nat->Option J} {base:Nat} {okin:Nat->Prop} {σ:Nat->Option (Nat × Nat)} {h:aF} {w:World}
theorem A2 {l:Nat} {o o':Obj} (a6:w.heap[l]? =some o) (aC:∀arr ty e,o≠ .cells arr ty e) (pF:∀es c,o≠ .map es c) (ok:Nat->Prop):tF w (w.putObj l o') ok ok:=fun b x au aI a4=>
 ⟨a4,World.putObj_heap_other (by
   rintro rfl
   rw[a6] at au
   cases au
   rcases aI with⟨_,_,_,rfl⟩|⟨_,_,rfl⟩
   · exact aC _ _ _ rfl
   · exact pF _ _ rfl)⟩
theorem A3 {l:Nat} {o o':Obj} (a6:w.heap[l]? =some o) (aC:∀arr ty e,o≠ .cells arr ty e) (b:Nat):gG w b<=gG (w.putObj l o') b:=by
 by_cases e:b=l
 · subst e
   have:gG w b=0:=by
    unfold gG
    rw[a6]
    cases o<;>first|rfl|exact absurd rfl (aC _ _ _)
   omega
 · unfold gG
   rw[World.putObj_heap_other e];exact Nat.le_refl _
theorem dd.put (H:dd base okin σ h w) {l:Nat} {o:Obj} (o':Obj) (a6:w.heap[l]? =some o) (aC:∀arr ty e,o≠ .cells arr ty e) (pF:∀es c,o≠ .map es c):dd base okin σ h (w.putObj l o'):=by
 refine⟨fun id b s an=>⟨(H.val id b s an).1,by simpa using (H.val id b s an).2⟩,fun id gk gH=>?_,H.inj,by simpa using H.base⟩
 obtain⟨b,s,q4,ty,aj,aq,aW⟩:=H.blk id gk gH
 refine⟨b,s,q4,ty,aj,?_,fun i an=>⟨(aW i an).1,fun j bb=>?_⟩⟩
 · rw[World.putObj_heap_other (by rintro rfl;rw[a6] at aq;exact aC _ _ _ (Option.some.inj aq))];exact aq
 · obtain⟨v,ba,br⟩:=(aW i an).2 j bb
   exact ⟨v,ba,br.mono (A2 a6 aC pF _) (fun _ _ x=>x) (A3 a6 aC)⟩
theorem Fb {l:Nat} (o':Obj) (au:base<=l):Below base w (w.putObj l o'):=⟨rfl,rfl,rfl,by simp,fun k aI=>World.putObj_heap_other (by omega)⟩
theorem dP.A4 {l:Nat} {r:Loop} (a6:w.heap[l]? =some (.loop r)) (au:base<=l) (st:LoopState) (kF:Option Code) {ay:aF} (kB:∀b,b5 base okin σ h b->b5 base okin σ ay b):
 dP base okin σ h w σ ay (w.putObj l (.loop {r with state:=st,pending:=kF})):=by
 have aC:∀arr ty e,Obj.loop r≠ .cells arr ty e:=fun _ _ _ h=>by cases h
 have pF:∀es c,Obj.loop r≠ .map es c:=fun _ _ h=>by cases h
 refine⟨fun _ _ x=>x,fun b o ae aI h2=>⟨kB b h2,(A2 a6 aC pF (fun _=>True) b o ae aI trivial).2⟩,Fb _ au,A3 a6 aC,fun b lU aS=>?_,fun b aS=>?_⟩
 · by_cases e:b=l
   · subst e
     rw[a6] at aS;cases aS
     exact ⟨st,kF,World.putObj_heap_same (qg a6)⟩
   · exact ⟨lU.state,lU.pending,by rw[World.putObj_heap_other e];exact aS⟩
 · rw[World.putObj_heap_other (by rintro rfl;rw[a6] at aS;cases aS)];exact aS
theorem ig.set {bu:Nat->Option fu} (L:ig σ bu w) {id l s:Nat} {r:Loop} {md:fu} (bc:bu id=some md) (pK:σ id=some (l,s)) (a6:w.heap[l]? =some (.loop r)) (p:fu):
 ig σ (aG bu id (some p)) (w.putObj l (.loop {r with state:=o3 p,pending:=o4 p})):=by
 refine⟨fun gn q bo=>?_,fun i g0 q ns a s1 s2 ae h2 aj aq=>?_⟩
 · by_cases e:gn=id
   · subst e
     simp only[aG,if_true] at bo
     cases bo
     exact ⟨l,s,_,pK,World.putObj_heap_same (qg a6),rfl,rfl⟩
   · simp only[aG,e,if_false] at bo
     obtain⟨mr,aD,hc,aj,aq,aW,bW⟩:=L.look gn q bo
     refine⟨mr,aD,hc,aj,?_,aW,bW⟩
     rw[World.putObj_heap_other]
     · exact aq
     · rintro rfl
       exact e (L.inj gn id q md _ _ _ bo bc aj pK)
 · have f:∀i q,aG bu id (some p) i=some q->∃q,bu i=some q:=by
    intro i q bo
    by_cases e:i=id
    · subst e;exact ⟨md,bc⟩
    · exact ⟨q,by simpa[aG,e] using bo⟩
   obtain⟨cn,ae⟩:=f i q ae
   obtain⟨eg,h2⟩:=f g0 ns h2
   exact L.inj i g0 cn eg a s1 s2 ae h2 aj aq
theorem ig.del {bu:Nat->Option fu} (L:ig σ bu w) {id l s:Nat} {md:fu} (bc:bu id=some md) (pK:σ id=some (l,s)) (o':Obj):ig σ (aG bu id none) (w.putObj l o'):=by
 have f:∀i q,aG bu id none i=some q->i≠id/\bu i=some q:=by
  intro i q bo
  by_cases e:i=id
  · simp[aG,e] at bo
  · exact ⟨e,by simpa[aG,e] using bo⟩
 refine⟨fun gn q bo=>?_,fun i g0 q ns a s1 s2 ae h2 aj aq=>L.inj i g0 q ns a s1 s2 (f i q ae).2 (f g0 ns h2).2 aj aq⟩
 obtain⟨e,bo⟩:=f gn q bo
 obtain⟨mr,aD,hc,aj,aq,aW,bW⟩:=L.look gn q bo
 refine⟨mr,aD,hc,aj,?_,aW,bW⟩
 rw[World.putObj_heap_other]
 · exact aq
 · rintro rfl
   exact e (L.inj gn id q md _ _ _ bo bc aj pK)
theorem ig.add {bu:Nat->Option fu} (L:ig σ bu w) (mq:∀id b s,σ id=some (b,s)->b<w.heap.size) {id:Nat} (b8:σ id=none) {bK:World} (au:Below w.heap.size w bK) {l:Nat} (b6:w.heap.size<=l) {r:Loop}
 (a6:bK.heap[l]? =some (.loop r)) (aP:r.state= .ready) (bc:r.pending=none):ig (aG σ id (some (l,0))) (aG bu id (some .ready)) bK:=by
 refine⟨fun gn q bo=>?_,fun i g0 q ns a s1 s2 ae h2 aj aq=>?_⟩
 · by_cases e:gn=id
   · subst e
     simp only[aG,if_true] at bo
     cases bo
     exact ⟨l,0,r,by simp[aG],a6,aP,bc⟩
   · simp only[aG,e,if_false] at bo
     obtain⟨mr,aD,hc,aj,aq,aW,bW⟩:=L.look gn q bo
     exact ⟨mr,aD,hc,by simpa[aG,e] using aj,by rw[au.block mr (qg aq)];exact aq,aW,bW⟩
 · by_cases e:i=id<;>by_cases e':g0=id
   · rw[e,e']
   · exfalso
     simp only[aG,e,e',if_true,if_false] at aj aq
     have:=mq _ _ _ aq
     cases aj;omega
   · exfalso
     simp only[aG,e,e',if_true,if_false] at aj aq
     have:=mq _ _ _ aj
     cases aq;omega
   · simp only[aG,e,e',if_false] at ae h2 aj aq
     exact L.inj i g0 q ns a s1 s2 ae h2 aj aq
theorem dd.named (H:dd base okin σ h w) {id l:Nat} (b8:σ id=none) (au:base<=l) (a6:l<w.heap.size):dd base okin (aG σ id (some (l,0))) h w/\Prog base okin σ h w (aG σ id (some (l,0))) h w:=by
 have I:=H.Aa b8
 have sub:∀i x,σ i=some x->aG σ id (some (l,0)) i=some x:=by
  intro i x av
  unfold aG
  by_cases e:i=id
  · subst e;rw[b8] at av;cases av
  · rw[if_neg e];exact av
 have ok:∀b,b5 base okin σ h b->b5 base okin (aG σ id (some (l,0))) h b:=by
  rintro b (a4|⟨ae,h2⟩)
  · exact .inl a4
  · refine .inr ⟨ae,fun i s aP A5=>?_⟩
    by_cases e:i=id
    · subst e;rw[I] at A5;simp at A5
    · exact h2 i s (by simpa[aG,e] using aP) A5
 have P:Prog base okin σ h w (aG σ id (some (l,0))) h w:=⟨sub,fun b _ a4=>⟨ok b a4,rfl⟩,Below.refl _ _,fun _=>Nat.le_refl _⟩
 refine⟨⟨fun i b s an=>?_,fun i gk gH=>?_,fun i g0 b s aD ae h2 aj aq=>?_,H.base⟩,P⟩
 · by_cases e:i=id
   · simp only[aG,e,if_true] at an;cases an;exact ⟨au,a6⟩
   · simp only[aG,e,if_false] at an;exact H.val i b s an
 · obtain⟨b,s,q4,ty,aj,aq,aW⟩:=H.blk i gk gH
   refine⟨b,s,q4,ty,sub _ _ aj,aq,fun j bb=>⟨(aW j bb).1,fun k aI=>?_⟩⟩
   obtain⟨v,ba,br⟩:=(aW j bb).2 k aI
   exact ⟨v,ba,P.rep br⟩
 · have hP:i≠id:=by rintro rfl;rw[I] at ae;simp at ae
   have kD:g0≠id:=by rintro rfl;rw[I] at h2;simp at h2
   exact H.inj i g0 b s aD ae h2 (by simpa[aG,hP] using aj) (by simpa[aG,kD] using aq)
inductive Drop (cc:Nat):World->World->Prop
 | refl (w:World):Drop cc w w
 | step {w cr:World} {D:Nat}:cc<=D->w.heap[D]? =some (.deferred (some []))->Drop cc (w.putObj D (.deferred none)) cr->Drop cc w cr
theorem Drop.keeps {cc:Nat} {w cr:World} (d:Drop cc w cr):∀ {wo:World} {dj:Nat->Option (Nat × Nat)} {aS:aF},cc=wo.heap.size->base<=cc->dP base okin dj aS wo σ h w->dd base okin σ h w->ig σ h.bu w->
 dP base okin dj aS wo σ h cr/\dd base okin σ h cr/\ig σ h.bu cr/\(∀v cv,bC w (b5 base okin σ h) σ v cv->bC cr (b5 base okin σ h) σ v cv):=by
 induction d with
 | refl w=>exact fun _ _ p H L=>⟨p,H,L,fun _ _ r=>r⟩
 | @step w cr D ae h2 _ b_=>
   intro wo dj aS he au p H L
   have aC:∀arr ty e,Obj.deferred (some [])≠ .cells arr ty e:=fun _ _ _ h=>by cases h
   have pF:∀es c,Obj.deferred (some [])≠ .map es c:=fun _ _ h=>by cases h
   have st:=A2 (o':= .deferred none) h2 aC pF (b5 base okin σ h)
   have A6:=A3 (o':= .deferred none) h2 aC
   have e2:dP base okin dj aS wo σ h (w.putObj D (.deferred none)):=by
    refine⟨p.sub,fun b o ba Fc br=>?_,p.below.trans (Fb _ (Nat.le_trans au ae)),fun b=>Nat.le_trans (p.grow b) (A6 b),fun b r g=>?_,fun b g=>?_⟩
    · obtain⟨eD,aj⟩:=p.still b o ba Fc br
      obtain⟨ef,aq⟩:=st b o (by rw[aj];exact ba) Fc eD
      exact ⟨ef,aq.trans aj⟩
    · obtain⟨s1,dO,aj⟩:=p.loop b r g
      exact ⟨s1,dO,by rw[World.putObj_heap_other (by rintro rfl;rw[h2] at aj;cases aj)];exact aj⟩
    · have:=qg g
      rw[World.putObj_heap_other (by omega)]
      exact p.o2 b g
   have lH:ig σ h.bu (w.putObj D (.deferred none)):=⟨fun id q bo=>by
    obtain⟨l,s,r,aj,aq,aW,bW⟩:=L.look id q bo
    exact ⟨l,s,r,aj,by rw[World.putObj_heap_other (by rintro rfl;rw[h2] at aq;cases aq)];exact aq,aW,bW⟩,L.inj⟩
   obtain⟨cn,eg,gQ,lF⟩:=b_ he au e2 (H.put _ h2 aC pF) lH
   exact ⟨cn,eg,gQ,fun v cv r=>lF v cv (r.mono st (fun _ _ x=>x) A6)⟩
theorem Fe {Fn:Func} {tmps:Array Value} {R:Ending->World->Prop} {cc:Nat}:∀(c4:List Deferred) (w:World),Marks cc c4 w->(∀cr,Drop cc w cr->∃v,(results Fn tmps).run P cr= .ok v cr/\R (.returned v) cr)->
 LeavesInM Fence.wide 0 P Fn tmps R c4 .returning w
 | [],w,_,eu=>eu w (.refl w)
 | d::c4,w,M,eu=>by
   obtain⟨D,ae,h2,aO⟩:=M.each d (by simp)
   refine⟨by simp,.inl ⟨D,w.putObj D (.deferred none),ae,run_takeDeferred aO,Fe c4 _ ⟨fun ob lI=>?_,(List.pairwise_cons.1 M.nodup).2⟩ (fun cr bw=>eu cr (.step h2 aO bw))⟩⟩
   obtain⟨Ff,ba,br,eS⟩:=M.each ob (by simp[lI])
   refine⟨Ff,ba,br,?_⟩
   rw[World.putObj_heap_other]
   · exact eS
   · rintro rfl
     exact (List.pairwise_cons.1 M.nodup).1 ob lI (by rw[ae,ba])
end
end Go.Eng
namespace Go.Eng
open Go Go.RowKit
def lW:cX->Exit
 | .normal=> .normal
 | .exit id=> .exit id
 | .ret=> .ret
section
variable {P:Program} {G:Nat->Option J} {base:Nat} {okin:Nat->Prop} {N:Nat} {dk:Nat} {dj:Nat->Option (Nat × Nat)} {tab:FuncId->Option (List J->Option J)} {Y:List dm} {dE:Option Nat} {cc:Nat}
theorem fB.bump {bd:Nat->Prop} {σ:Nat->Option (Nat × Nat)} {s:bg} {a:Act} {w:World} (S:fB P G Y dE cc base okin N dk dj bd σ s a w) (m:Nat):
 fB P G Y dE cc base okin N dk dj (fun id=>s.h.next<=id/\id<s.h.next+m) σ ⟨s.F,{s.h with next:=s.h.next+m}⟩ a w:=
 ⟨⟨S.aP.val,S.aP.blk,S.aP.inj,S.aP.base⟩,S.mc,S.hq,S.cg,S.size,S.marks,S.rd,S.so,fun id b8=>⟨Nat.le_trans S.low b8.1,b8.2,S.fresh id b8.1⟩,Nat.le_trans S.low (Nat.le_add_right _ _),S.mL,fun id b8=>S.fresh id (Nat.le_trans (Nat.le_add_right _ _) b8)⟩
theorem dP.next {σ bN:Nat->Option (Nat × Nat)} {h ay:aF} {w bh:World} {m:Nat} (p:dP base okin σ {h with next:=m} w bN ay bh):dP base okin σ h w bN ay bh:=⟨p.sub,p.still,p.below,p.grow,p.loop,p.o2⟩
theorem fB.drew {bd:Nat->Prop} {σ:Nat->Option (Nat × Nat)} {s:bg} {a:Act} {w:World} (S:fB P G Y dE cc base okin N dk dj bd σ s a w):fB P G Y dE cc base okin N dk dj bd σ s a w.drew:=by
 obtain⟨H,p⟩:=S.aP.drew
 have q:=dP.of S.aP p
 exact ⟨H,S.mc.of S.aP p rfl,S.hq.mono q,S.cg.mono q,S.size,S.marks.mono q.o2,fun l a6=>by
  obtain⟨r,ae⟩:=S.rd l a6
  obtain⟨st,kF,h2⟩:=q.loop l r ae
  exact ⟨_,h2⟩,Nat.le_trans S.so q.below.size,S.free,S.low,S.mL,S.fresh⟩
theorem NI (hm:P.follows .mixedOrders=true) {dt:Fence} {et:Nat} (bR:hS dt) {c1:lC->List J->aF->Option (J × aF)} (hv:tW P G Y c1) (lV:∀f T,tab f=some T->bl P G f T)
 {id:Nat} {ops:Array Oper} {draw:Bool} {es:List bH} {b:List Nat} {k0:Bool} (I:gj P N (.region id ops draw)=some (.region k0 es b)) {s aD:bg} (c7:fh G tab c1 k0 es b s=some aD)
 {bd:Nat->Prop} {σ:Nat->Option (Nat × Nat)} {a:Act} {w:World} (S:fB P G Y dE cc base okin N dk dj bd σ s a w) {Q:Exit->Act->World->Prop}
 (eA:∀bN ep bh,fB P G Y dE cc base okin N dk dj (fun _=>False) bN aD ep bh->dP base okin σ s.h w bN aD.h bh->Q .normal ep bh):(Code.region id ops draw).wpIn dt et P Q a w:=by
 simp only[gj] at I
 split at I<;>try(cases I;done)
 rename_i Fg NJ
 obtain⟨ck,cn⟩:=Fa NJ
 have dC:Fg.length=ops.size:=by simpa using ck
 unfold fh at c7
 split at c7<;>try(cases c7;done)
 rename_i s1 cs bf
 split at c7<;>try(cases c7;done)
 rename_i kB
 cases c7
 have yb:∀(es:List bH),es=Fg->∀p∈es.zipIdx,∃o,ops[p.2]? =some o/\p6 P N ops o=some p.1/\p.2<ops.size:=by
  rintro es rfl p bc
  obtain⟨e,i⟩:=p
  have ae:=List.mem_zipIdx_iff_getElem?.1 bc
  simp only at ae
  obtain⟨an,rfl⟩:=List.getElem?_eq_some_iff.1 ae
  have cC:i<ops.toList.length:=by simp;omega
  have:=cn i an cC
  refine⟨ops[i]'(by simpa using cC),by simp[Array.getElem?_eq_getElem (show i<ops.size by simpa using cC)],by simpa using this,by simpa using cC⟩
 have Fh:∀(es:List bH),es.zipIdx.Pairwise (fun p q=>p.2<q.2):=by
  intro es
  rw[List.pairwise_iff_getElem]
  intro i j an bb NK
  simpa using NK
 cases draw with
 | false=>
   simp only[Bool.false_eq_true,if_false] at I
   cases I
   refine wpIn_region ?_
   have NL:es.zipIdx.map (·.2)=List.range ops.size:=by
    rw[<-dC]
    apply List.ext_getElem
    · simp
    · intro i ae h2;simp
   rw[<-NL]
   refine E2 bR hv lV _ _ cs σ a w (fun p bc=>by obtain⟨o,ae,h2,_⟩:=yb es rfl p bc;exact ⟨o,ae,h2⟩) (Fh es) bf ((S.bump es.length).weaken ?_) (fun bN ep bh mN au=>eA bN ep bh mN au.next)
   rintro id ⟨p,bc,rfl⟩
   obtain⟨_,_,_,aO⟩:=yb es rfl p bc
   exact ⟨Nat.le_add_right _ _,by omega⟩
 | true=>
   simp only[if_true] at I
   split at I<;>try(cases I;done)
   rename_i Fi
   cases I
   simp only[Bool.and_eq_true] at Fi
   obtain⟨⟨⟨hP,kD⟩,px⟩,sq⟩:=Fi
   simp only[Bool.not_true,Bool.false_or] at kB
   refine wpIn_region_any hm ?_
   have hlen:=AX bf
   refine Nw bR hv lV px kD ops.size es.zipIdx _ cs _ σ a _ (by simp;omega) ?_ bf (((S.drew).bump es.length).weaken ?_) (fun bN ep bh mN au=>eA bN ep bh mN ?_)
   · refine⟨by simp,fun p bc=>?_,fun i an _=>?_,Fh es,fun i an a6=>?_,fun p q bc bo q5=>?_⟩
     · obtain⟨o,ae,h2,aO⟩:=yb es rfl p bc
       exact ⟨o,ae,h2,by simp[Array.getD_eq_getD_getElem?,aO]⟩
     · exact ⟨es[i]'(by omega),by rw[List.mem_zipIdx_iff_getElem?];simp[List.getElem?_eq_getElem (show i<es.length by omega)]⟩
     · simp[Array.getD_eq_getD_getElem?,an] at a6
     · have si:q<es.length:=by simpa using bo
       have pM:p<es.length:=by omega
       simp only[List.getElem_zipIdx,Nat.zero_add]
       have a1:=List.all_eq_true.1 hP (es[q],q) (by rw[List.mem_zipIdx_iff_getElem?];simp[List.getElem?_eq_getElem si])
       have cP:=List.all_eq_true.1 a1 (es[p],p) (by rw[List.mem_zipIdx_iff_getElem?];simp[List.getElem?_eq_getElem pM])
       have b1:=List.all_eq_true.1 kB (cs[q],q) (by rw[List.mem_zipIdx_iff_getElem?];simp[List.getElem?_eq_getElem q5])
       have cN:=List.all_eq_true.1 b1 (cs[p]'(by omega),p) (by rw[List.mem_zipIdx_iff_getElem?];simp[List.getElem?_eq_getElem (show p<cs.length by omega)])
       simp only[decide_eq_true bc,Bool.not_true,Bool.false_or,Bool.or_eq_true] at cP cN
       rcases cP with cP|cP
       · exact .inl cP
       · rcases cN with cN|cN
         · exact .inl cN
         · exact .inr ⟨cP,cN⟩
   · rintro id ⟨p,bc,rfl⟩
     obtain⟨_,_,_,aO⟩:=yb es rfl p bc
     exact ⟨Nat.le_add_right _ _,by simp;omega⟩
   · exact dP.trans (dP.of S.aP S.aP.drew.2) au.next
def yc (tmps:Array Value):ResultVar->Sem Value
 | .tmp t=>pure (tmps.getD t undef)
 | .cell a t=>do loadVar t (<-asAddr (tmps.getD a undef))
theorem NM (fn:Func) (tmps:Array Value):results fn tmps=(do let vs <-fn.results.mapM (yc tmps);pure (if h:vs.size=1 then vs[0] else .tuple vs)):=by
 unfold results
 congr 1
theorem NN {fn:Func} {rs:List m3} (t':r5 P fn.results.toList=some rs) {σ:Nat->Option (Nat × Nat)} {s:bg} {a:Act} {w:World} (dQ:dd base okin σ s.h w) (Fj:kC G (b5 base okin σ s.h) σ w s.F a) {v:J} (aY:e1 s.h s.F rs=some v):
 ∃cv,(results fn a.tmps).run P w= .ok cv w/\bC w (b5 base okin σ s.h) σ v cv:=by
 have main:∀(oW:List ResultVar) (rs:List m3) (vs:List J),r5 P oW=some rs->rs.mapM (gi s.h s.F)=some vs->
  ∃g1:List Value,(oW.mapM (yc a.tmps)).run P w= .ok g1 w/\g1.length=vs.length/\∀i (h:i<vs.length) (ay:i<g1.length),bC w (b5 base okin σ s.h) σ vs[i] g1[i]:=by
  intro oW
  induction oW with
  | nil=>
    intro rs vs ae h2
    simp only[r5] at ae;cases ae
    simp only[List.mapM_nil] at h2;cases h2
    exact ⟨[],by simp,rfl,fun i h=>absurd h (by simp)⟩
  | cons r oW b_=>
    intro rs vs ae h2
    simp only[r5] at ae
    split at ae<;>try(cases ae;done)
    rename_i x xs av oZ
    cases ae
    rw[List.mapM_cons] at h2
    obtain⟨u,hu,h2⟩:=Option.bind_eq_some_iff.1 h2
    obtain⟨us,Ah,h2⟩:=Option.bind_eq_some_iff.1 h2
    cases h2
    obtain⟨g1,aj,aq,aW⟩:=b_ xs us oZ Ah
    have one:∃oV,(yc a.tmps r).run P w= .ok oV w/\bC w (b5 base okin σ s.h) σ u oV:=by
     cases r with
     | tmp t=>
       simp only[z9] at av;cases av
       simp only[gi] at hu;cases hu
       exact ⟨_,rfl,Fj.slot t⟩
     | cell ep t=>
       simp only[z9] at av
       split at av<;>try(cases av;done)
       rename_i cq sz d' dC
       split at av<;>try(cases av;done)
       rename_i a2
       cases av
       simp only[gi] at hu
       split at hu<;>try(cases hu;done)
       rename_i id idx di bR
       obtain⟨blk,au,hu⟩:=Option.bind_eq_some_iff.1 hu
       obtain⟨e,he,hu⟩:=Option.bind_eq_some_iff.1 hu
       obtain⟨cs,pC,bc⟩:=Option.bind_eq_some_iff.1 hu
       have rt:=Fj.slot ep
       rw[bR] at rt
       obtain⟨Ey,cR,cu,aP⟩:=rt.vT
       obtain⟨eK,ba,br⟩:=dQ.elem au he aP pC
       obtain⟨cv,ab,aa⟩:=Ad (P:=P) (w:=w) (σ:=σ) (ok:=b5 base okin σ s.h) d' dC a2 _ eK ba (tH pC).2.1 br bc
       exact ⟨cv,by simp[yc,cu,asAddr,ab],aa⟩
    obtain⟨oV,cV,cY⟩:=one
    refine⟨oV::g1,?_,by simp[aq],fun i an cC=>?_⟩
    · rw[List.mapM_cons]
      simp only[Sem.run_bind]
      rw[cV]
      simp only[Result.andThen_ok]
      rw[aj]
      simp
    · cases i with
      | zero=>exact cY
      | succ i=>exact aW i (by simpa using an) (by simpa using cC)
 unfold e1 at aY
 obtain⟨vs,ae,h2⟩:=Option.map_eq_some_iff.1 aY
 obtain⟨g1,aj,aq,aW⟩:=main _ _ _ t' ae
 have c7:(results fn a.tmps).run P w= .ok (if h:g1.toArray.size=1 then g1.toArray[0] else .tuple g1.toArray) w:=by
  rw[NM,Array.mapM_eq_mapM_toList]
  simp only[Sem.run_bind,Sem.run_map]
  rw[aj]
  simp
 refine⟨_,c7,?_⟩
 split at h2
 · rename_i v0
   subst h2
   have a6:g1.length=1:=by simpa using aq
   rw[dif_pos (by simpa using a6)]
   have:=aW 0 (by simp) (by omega)
   simpa using this
 · rename_i cp
   subst h2
   have a6:g1.length≠1:=by
    intro a6
    rw[aq] at a6
    obtain⟨v0,rfl⟩:=List.length_eq_one_iff.1 a6
    exact cp v0 rfl
   rw[dif_neg (by simpa using a6)]
   exact .cb _ _ (by simpa using aq) (fun i an cC=>by simpa using aW i an (by simpa using cC))
theorem NO {fn:Func} {f:bt} (h:z_ P fn=some f):∃c,fn.body=some c/\gj P fn.ntmps c=some f.body/\r5 P fn.results.toList=some f.res/\fn.name≠ "runtime.NumGoroutine":=by
 unfold z_ at h
 split at h<;>try(cases h;done)
 rename_i aC
 split at h<;>try(cases h;done)
 rename_i c au
 split at h<;>try(cases h;done)
 rename_i b rs ae h2
 cases h
 exact ⟨c,au,ae,h2,by simpa using aC⟩
theorem A7 {f:FuncId} {fn:Func} (aT:P.funcs[f]? =some fn) {c:Code} (au:fn.body=some c) (aC:fn.name≠ "runtime.NumGoroutine") (args:Array Value) (w:World):(callFunc f args).run P w= .ok (.enter f args) w:=by
 simp[callFunc,aT,au,aC]
def k1 (G:Nat->Option J) (Φ:FuncId->Option bt) (tab:FuncId->Option (List J->Option J)) (n:Nat) (Y:List dm) (f:FuncId) (args:List J) (h:aF):Option (J × aF):=
 match Φ f with
 | some fn=>match exec G Φ tab n Y fn.body ⟨a8 args,h⟩ with
   | some (.normal,aD)|some (.ret,aD)=>(e1 aD.h aD.F fn.res).map fun v=>(v,aD.h)
   | _=>none
 | none=>none
def o6 (G:Nat->Option J) (Φ:FuncId->Option bt) (tab:FuncId->Option (List J->Option J)) (n:Nat) (Y:List dm) (id:Nat) (args:List J) (h:aF):Option (J × aF):=
 match oT id Y with
 | some (L,Y')=>if L.ps.length=args.length then
    match exec G Φ tab n Y' L.ei ⟨ni L.F L.ps args,h⟩ with
    | some (.normal,s1)=>match s1.h.bu id with
      | some .ready=>match exec G Φ tab n Y' L.body ⟨s1.F,s1.h.set id (some .busy)⟩ with
        | some (e,aD)=>match aD.h.bu id with
          | some .busy=>match e with
            | .normal=>some (.bool true,aD.h.set id (some .ready))
            | e=>some (.bool false,aD.h.set id (some (.done e)))
          | _=>none
        | none=>none
      | _=>none
    | _=>none
   else none
 | none=>none
def lj (G:Nat->Option J) (Φ:FuncId->Option bt) (tab:FuncId->Option (List J->Option J)) (n:Nat) (Y:List dm) (t:lC) (args:List J) (h:aF):Option (J × aF):=
 match t with
 | .fn f=>k1 G Φ tab n Y f args h
 | .lR id=>o6 G Φ tab n Y id args h
theorem q' {Φ:FuncId->Option bt} {n:Nat} {f:FuncId} {args:List J} {h ay:aF} {v:J} (I:k1 G Φ tab n Y f args h=some (v,ay)):
 ∃fn ex aD,Φ f=some fn/\exec G Φ tab n Y fn.body ⟨a8 args,h⟩=some (ex,aD)/\(ex= .normal\/ex= .ret)/\e1 aD.h aD.F fn.res=some v/\aD.h=ay:=by
 unfold k1 at I
 split at I<;>try(cases I;done)
 rename_i fn aT
 split at I
 · rename_i aD he
   obtain⟨u,hu,I⟩:=Option.map_eq_some_iff.1 I
   cases I
   exact ⟨fn,_,aD,aT,he,.inl rfl,hu,rfl⟩
 · rename_i aD he
   obtain⟨u,hu,I⟩:=Option.map_eq_some_iff.1 I
   cases I
   exact ⟨fn,_,aD,aT,he,.inr rfl,hu,rfl⟩
 · cases I
theorem ua {Φ:FuncId->Option bt} {n:Nat} {id:Nat} {args:List J} {h ay:aF} {v:J} (I:o6 G Φ tab n Y id args h=some (v,ay)):
 ∃L Y' s1 ex aD,oT id Y=some (L,Y')/\L.ps.length=args.length/\exec G Φ tab n Y' L.ei ⟨ni L.F L.ps args,h⟩=some (.normal,s1)/\s1.h.bu id=some .ready/\
  exec G Φ tab n Y' L.body ⟨s1.F,s1.h.set id (some .busy)⟩=some (ex,aD)/\aD.h.bu id=some .busy/\((ex= .normal/\v= .bool true/\ay=aD.h.set id (some .ready))\/(ex≠ .normal/\v= .bool false/\ay=aD.h.set id (some (.done ex)))):=by
 unfold o6 at I
 split at I<;>try(cases I;done)
 rename_i L Y' a_
 split at I<;>try(cases I;done)
 rename_i hlen
 split at I<;>try(cases I;done)
 rename_i s1 ae
 split at I<;>try(cases I;done)
 rename_i bc
 split at I<;>try(cases I;done)
 rename_i e aD h2
 split at I<;>try(cases I;done)
 rename_i au
 split at I
 · cases I
   exact ⟨L,Y',s1,_,aD,a_,hlen,ae,bc,h2,au,.inl ⟨rfl,rfl,rfl⟩⟩
 · rename_i cp
   cases I
   exact ⟨L,Y',s1,e,aD,a_,hlen,ae,bc,h2,au,.inr ⟨cp,rfl,rfl⟩⟩
theorem Fk {id:Nat} {L:dm} {Y':List dm}:∀ {Y:List dm},oT id Y=some (L,Y')->L∈Y/\L.id=id/\∀X∈Y',X∈Y
 | [],h=>by cases h
 | X::Y,h=>by
   unfold oT at h
   split at h
   · rename_i b8
     cases h
     exact ⟨by simp,b8,fun Z A8=>by simp[A8]⟩
   · obtain⟨ae,h2,aO⟩:=Fk h
     exact ⟨by simp[ae],h2,fun Z A8=>by simp[aO Z A8]⟩
def ub (P:Program) (G:Nat->Option J) (tab:FuncId->Option (List J->Option J)) (n:Nat):Prop:=
 ∀(N:Nat) (Y:List dm) (c:Code) (qj:ee) (s:bg) (ex:cX) (aD:bg),gj P N c=some qj->exec G (bk P) tab n Y qj s=some (ex,aD)->
  ∀(dt:Fence) (et:Nat) (_:hS dt) (cc:Nat) (base:Nat) (okin:Nat->Prop) (dk:Nat) (dj:Nat->Option (Nat × Nat)) (σ:Nat->Option (Nat × Nat)) (a:Act) (w:World) (Q:Exit->Act->World->Prop),fB P G Y dt.round cc base okin N dk dj (fun _=>False) σ s a w->
   (∀bN ep bh,fB P G Y dt.round cc base okin N dk dj (fun _=>False) bN aD ep bh->dP base okin σ s.h w bN aD.h bh->Q (lW ex) ep bh)->c.wpIn dt et P Q a w
theorem A9 {n:Nat} (fX:ub P G tab n) {f:FuncId} {args:List J} {h ay:aF} {v:J} (I:k1 G (bk P) tab n Y f args h=some (v,ay)):
 ∀base okin σ w (eb:Array Value),dd base okin σ h w->ig σ h.bu w->pI P G base okin Y σ h w->eb.size=args.length->
  (∀i (an:i<args.length) (cC:i<eb.size),bC w (b5 base okin σ h) σ args[i] eb[i])->
  (∀g u,G g=some u->bC w (b5 base okin σ h) σ (.e0 u) (.pointer (some ⟨g,0,none⟩)))->(∀id,h.next<=id->σ id=none)->
  (callFunc f eb).run P w= .ok (.enter f eb) w/\Calls P f eb w fun e bh=>∃cv,e= .returned cv/\tV base okin σ h w ay v cv bh:=by
 obtain⟨fn,ex,aD,aT,he,hex,A_,rfl⟩:=q' I
 obtain⟨Fn,bR,NP⟩:=Option.bind_eq_some_iff.1 aT
 obtain⟨c,au,xT,t',A'⟩:=NO NP
 have NQ:=fX Fn.ntmps Y c fn.body ⟨a8 args,h⟩ ex aD xT he
 refine fun base okin σ w eb H Ba yd dC fK ra wq=>⟨A7 bR au A' _ _,?_⟩
 refine(callsIn_wide (n:=0)).1 (callsIn_of_wp_marks bR au trivial ?_)
 have S:fB P G Y Fence.wide.round w.heap.size base okin Fn.ntmps h.next σ (fun _=>False) σ ⟨a8 args,h⟩ {tmps:=eb++Array.replicate (Fn.ntmps - eb.size) undef,defers:=[]} w:=by
  refine⟨H,Ba,yd,⟨fun t=>?_,ra⟩,by simp;omega,⟨fun d bw=>absurd bw (by simp),List.Pairwise.nil⟩,fun l a6=>(by cases a6),Nat.le_refl _,fun id b8=>b8.elim,Nat.le_refl _,fun _ _=>rfl,wq⟩
  simp only[a8]
  by_cases a':t<args.length
  · have b6:t<eb.size:=by omega
    have aj:args.getD t .undef=args[t]:=by simp[List.getD,a']
    have aq:(eb++Array.replicate (Fn.ntmps - eb.size) undef).getD t undef=eb[t]:=by
     rw[AS _ _ (by simp;omega),Array.getElem_append_left b6]
    rw[aj,aq]
    exact fK t a' b6
  · have aj:args.getD t .undef= .undef:=by simp[List.getD,List.getElem?_eq_none (Nat.le_of_not_lt a')]
    rw[aj];exact .undef _
 refine NQ Fence.wide 0 (.inl rfl) w.heap.size base okin h.next σ σ _ w _ S (fun bN ep bh mN p=>?_)
 have fin:LeavesInM Fence.wide 0 P Fn ep.tmps (fun e bh=>∃cv,e= .returned cv/\tV base okin σ h w aD.h v cv bh) ep.defers .returning bh:=by
  refine Fe _ _ mN.marks fun cr bw=>?_
  obtain⟨cn,eg,gQ,lF⟩:=bw.keeps rfl H.base p mN.aP mN.mc
  obtain⟨cv,ab,aa⟩:=NN t' eg ⟨fun t=>lF _ _ (mN.cg.slot t),fun g u bq=>lF _ _ (mN.cg.nk g u bq)⟩ A_
  exact ⟨cv,ab,cv,rfl,bN,cn,eg,gQ,aa,mN.fresh,mN.mL⟩
 rcases hex with rfl|rfl
 · exact fin
 · exact fin
theorem NR {ps:List Nat}:∀ {vs:List J} {g1:List Value} {w:World} {ok:Nat->Prop} {σ:Nat->Option (Nat × Nat)} {F:Nat->J} {cS:Array Value},vs.length=ps.length->g1.length=ps.length->(∀p∈ps,p<cS.size)->
 (∀t,bC w ok σ (F t) (cS.getD t undef))->(∀i (h:i<vs.length) (ay:i<g1.length),bC w ok σ vs[i] g1[i])->
 ∀t,bC w ok σ (ni F ps vs t) (((ps.zip g1).foldl (fun tmps (t,a)=>tmps.setIfInBounds t a) cS).getD t undef):=by
 induction ps with
 | nil=>intro vs g1 w ok σ F cS ae h2 bc bR aY t;simpa[ni] using bR t
 | cons p ps b_=>
   intro vs g1 w ok σ F cS ae h2 bc bR aY t
   cases vs with
   | nil=>simp at ae
   | cons v vs=>
     cases g1 with
     | nil=>simp at h2
     | cons c g1=>
       simp only[ni,List.zip_cons_cons,List.foldl_cons]
       refine b_ (by simpa using ae) (by simpa using h2) (fun q bo=>by simpa using bc q (by simp[bo])) (fun t=>?_) (fun i an cC=>by
        have:=aY (i+1) (by simpa using an) (by simpa using cC)
        simpa using this) t
       have b6:=bc p (by simp)
       by_cases e:t=p
       · subst e
         have:=aY 0 (by simp) (by simp)
         simpa[aG,Array.getD,b6] using this
       · have aq:(cS.setIfInBounds p c).getD t undef=cS.getD t undef:=by
          simp only[Array.getD_eq_getD_getElem?]
          rw[Array.getElem?_setIfInBounds_ne (Ne.symm e)]
         rw[aq]
         simpa[aG,e] using bR t
theorem NS {ps:List Nat}:∀ {g1:List Value} {cS:Array Value},((ps.zip g1).foldl (fun tmps (t,a)=>tmps.setIfInBounds t a) cS).size=cS.size:=by
 induction ps with
 | nil=>intro g1 cS;simp
 | cons p ps b_=>
   intro g1 cS
   cases g1 with
   | nil=>simp
   | cons c g1=>simp only[List.zip_cons_cons,List.foldl_cons];rw[b_];simp
theorem Fl {c1:lC->List J->aF->Option (J × aF)} (hv:∀t args h v ay,c1 t args h=some (v,ay)->h.next<=ay.next) {bm:Nat}:∀ {L:List (bH × Nat)} {s aD:bg} {cs:List ey},dG G tab c1 bm L s=some (aD,cs)->s.h.next<=aD.h.next
 | [],s,aD,cs,h=>by simp only[dG] at h;cases h;exact Nat.le_refl _
 | (e,i)::L,s,aD,cs,h=>by
   simp only[dG] at h
   split at h<;>try(cases h;done)
   rename_i s1 c ae
   obtain⟨p,h2,aO⟩:=Option.map_eq_some_iff.1 h
   cases aO
   refine Nat.le_trans ?_ (Fl hv h2)
   have go:∀ {s1:bg} {c:ey},dJ G tab c1 bm (bm+i) e s=some (s1,c)->s.h.next<=s1.h.next:=by
    intro s1 c bq
    unfold dJ at bq
    split at bq
    · split at bq<;>try(cases bq;done)
      · split at bq
        · split at bq<;>try(cases bq;done)
          obtain⟨v,_,bq⟩:=Option.map_eq_some_iff.1 bq
          cases bq
          exact Nat.le_refl _
        · obtain⟨q,bo,bq⟩:=Option.map_eq_some_iff.1 bq
          obtain⟨v,ay⟩:=q
          cases bq
          exact hv _ _ _ _ _ bo
      · obtain⟨q,bo,bq⟩:=Option.map_eq_some_iff.1 bq
        obtain⟨v,ay⟩:=q
        cases bq
        exact hv _ _ _ _ _ bo
    · obtain⟨q,bo,bq⟩:=Option.map_eq_some_iff.1 bq
      obtain⟨v,ay,dg⟩:=q
      have mI:(⟨dq s.F e.dst v,ay⟩:bg)=s1:=congrArg Prod.fst bq
      subst mI
      exact Nat.le_of_eq (congrArg Prod.fst (tS bo).1).symm
   unfold dr at ae
   split at ae
   · exact go ae
   · split at ae<;>try(cases ae;done)
     · split at ae
       · exact go ae
       · cases ae;exact Nat.le_refl _
     · cases ae;exact Nat.le_refl _
theorem gC (G:Nat->Option J) (Φ:FuncId->Option bt) (tab:FuncId->Option (List J->Option J)) (n:Nat) (Y:List dm) (c:ee) (s:bg):exec G Φ tab (n+1) Y c s=match c with
 | .skip=>some (.normal,s)
 | .ret=>some (.ret,s)
 | .exit id=>some (.exit id,s)
 | .region draw ops kz=>(fh G tab (lj G Φ tab n Y) draw ops kz s).map fun aD=>(.normal,aD)
 | .seq a b=>match exec G Φ tab n Y a s with
   | some (.normal,aD)=>exec G Φ tab n Y b aD
   | r=>r
 | .cond x a b=>match x.cu G s.F with
   | .bool t=>if t then exec G Φ tab n Y a s else exec G Φ tab n Y b s
   | _=>none
 | .block id b=>match exec G Φ tab n Y b s with
   | some (.exit i,aD)=>if i=id then some (.normal,aD) else some (.exit i,aD)
   | r=>r
 | .loop b=>match exec G Φ tab n Y b s with
   | some (.normal,aD)=>exec G Φ tab n Y (.loop b) aD
   | r=>r
 | .ma f ps ei body=>match f.cu G s.F with
   | .fn g first c0=>match Φ g with
     | some fn=>match exec G Φ tab n (⟨s.h.next,s.F,ps,ei,body⟩::Y) fn.body ⟨a8 (first++ [.gb s.h.next]++c0),{s.h with next:=s.h.next+1,bu:=aG s.h.bu s.h.next (some .ready)}⟩ with
       | some (.normal,aD)|some (.ret,aD)=>match e1 aD.h aD.F fn.res with
         | some _=>match aD.h.bu s.h.next with
           | some .ready=>some (.normal,⟨s.F,aD.h.set s.h.next none⟩)
           | some (.done e)=>some (e,⟨s.F,aD.h.set s.h.next none⟩)
           | _=>none
         | none=>none
       | _=>none
     | none=>none
   | _=>none:=by
 cases c<;>rfl
theorem ye {Φ:FuncId->Option bt} {n:Nat} {f:bn} {ps:List Nat} {ei body:ee} {s aD:bg} {ex:cX} (he:exec G Φ tab (n+1) Y (.ma f ps ei body) s=some (ex,aD)):
 ∃g first c0 v ay p,f.cu G s.F= .fn g first c0/\
  k1 G Φ tab n (⟨s.h.next,s.F,ps,ei,body⟩::Y) g (first++ [.gb s.h.next]++c0) {s.h with next:=s.h.next+1,bu:=aG s.h.bu s.h.next (some .ready)}=some (v,ay)/\
  ay.bu s.h.next=some p/\((p= .ready/\ex= .normal)\/p= .done ex)/\aD=⟨s.F,ay.set s.h.next none⟩:=by
 rw[gC] at he
 simp only at he
 split at he<;>try(cases he;done)
 rename_i g first c0 aT
 split at he<;>try(cases he;done)
 rename_i fn m8
 have key:∀(s1:bg),(exec G Φ tab n (⟨s.h.next,s.F,ps,ei,body⟩::Y) fn.body ⟨a8 (first++ [.gb s.h.next]++c0),{s.h with next:=s.h.next+1,bu:=aG s.h.bu s.h.next (some .ready)}⟩=some (.normal,s1)\/
  exec G Φ tab n (⟨s.h.next,s.F,ps,ei,body⟩::Y) fn.body ⟨a8 (first++ [.gb s.h.next]++c0),{s.h with next:=s.h.next+1,bu:=aG s.h.bu s.h.next (some .ready)}⟩=some (.ret,s1))->
  (match e1 s1.h s1.F fn.res with
    | some _=>match s1.h.bu s.h.next with
      | some .ready=>some (cX.normal,(⟨s.F,s1.h.set s.h.next none⟩:bg))
      | some (.done e)=>some (e,⟨s.F,s1.h.set s.h.next none⟩)
      | _=>none
    | none=>none)=some (ex,aD)->
  ∃Fm Fo Fp v ay p,J.fn g first c0= .fn Fm Fo Fp/\
  k1 G Φ tab n (⟨s.h.next,s.F,ps,ei,body⟩::Y) Fm (Fo++ [.gb s.h.next]++Fp) {s.h with next:=s.h.next+1,bu:=aG s.h.bu s.h.next (some .ready)}=some (v,ay)/\
  ay.bu s.h.next=some p/\((p= .ready/\ex= .normal)\/p= .done ex)/\aD=⟨s.F,ay.set s.h.next none⟩:=by
  intro s1 ae h2
  split at h2<;>try(cases h2;done)
  rename_i v aY
  refine⟨g,first,c0,v,s1.h,?_⟩
  have Ar:k1 G Φ tab n (⟨s.h.next,s.F,ps,ei,body⟩::Y) g (first++ [.gb s.h.next]++c0) {s.h with next:=s.h.next+1,bu:=aG s.h.bu s.h.next (some .ready)}=some (v,s1.h):=by
   unfold k1
   rw[m8]
   rcases ae with ae|ae<;>simp only[ae,aY,Option.map_some]
  split at h2
  · rename_i bc
    cases h2
    exact ⟨_,rfl,Ar,bc,.inl ⟨rfl,rfl⟩,rfl⟩
  · rename_i e bc
    cases h2
    exact ⟨_,rfl,Ar,bc,.inr rfl,rfl⟩
  · cases h2
 rw[aT]
 split at he
 · rename_i s1 ae
   exact key s1 (.inl ae) he
 · rename_i s1 ae
   exact key s1 (.inr ae) he
 · cases he
theorem yf {Φ:FuncId->Option bt}:∀(n:Nat) (Y:List dm) (c:ee) (s:bg) (ex:cX) (aD:bg),exec G Φ tab n Y c s=some (ex,aD)->s.h.next<=aD.h.next:=by
 intro n
 induction n with
 | zero=>intro Y c s ex aD he;unfold exec at he;cases he
 | succ n b_=>
   have a9:∀ {Y:List dm} {f:FuncId} {args:List J} {h ay:aF} {v:J},k1 G Φ tab n Y f args h=some (v,ay)->h.next<=ay.next:=by
    intro Y f args h ay v I
    obtain⟨fn,ex,aD,_,he,_,_,rfl⟩:=q' I
    exact b_ _ _ _ _ _ he
   have m9:∀ {Y:List dm} {id:Nat} {args:List J} {h ay:aF} {v:J},o6 G Φ tab n Y id args h=some (v,ay)->h.next<=ay.next:=by
    intro Y id args h ay v I
    obtain⟨L,Y',s1,ex,aD,_,_,ae,_,h2,_,aO⟩:=ua I
    have a1:=b_ _ _ _ _ _ ae
    have cP:=b_ _ _ _ _ _ h2
    have:ay.next=aD.h.next:=by rcases aO with⟨_,_,rfl⟩|⟨_,_,rfl⟩<;>rfl
    rw[this]
    exact Nat.le_trans a1 cP
   intro Y c s ex aD he
   have yg:=he
   rw[gC] at he
   cases c with
   | skip=>cases he;exact Nat.le_refl _
   | ret=>cases he;exact Nat.le_refl _
   | exit id=>cases he;exact Nat.le_refl _
   | region draw ops kz=>
     simp only at he
     obtain⟨s1,ae,he⟩:=Option.map_eq_some_iff.1 he
     cases he
     unfold fh at ae
     split at ae<;>try(cases ae;done)
     rename_i s2 cs h2
     split at ae<;>try(cases ae;done)
     cases ae
     refine Nat.le_trans (Nat.le_add_right _ _) (Fl (fun t args h v ay I=>?_) h2)
     cases t with
     | fn f=>exact a9 I
     | lR id=>exact m9 I
   | seq a b=>
     simp only at he
     split at he
     · rename_i s1 ae
       exact Nat.le_trans (b_ _ _ _ _ _ ae) (b_ _ _ _ _ _ he)
     · exact b_ _ _ _ _ _ he
   | cond x a b=>
     simp only at he
     split at he<;>try(cases he;done)
     split at he
     · exact b_ _ _ _ _ _ he
     · exact b_ _ _ _ _ _ he
   | block id b=>
     simp only at he
     split at he
     · rename_i i s1 ae
       have:=b_ _ _ _ _ _ ae
       split at he<;>(cases he;exact this)
     · exact b_ _ _ _ _ _ he
   | loop b=>
     simp only at he
     split at he
     · rename_i s1 ae
       exact Nat.le_trans (b_ _ _ _ _ _ ae) (b_ _ _ _ _ _ he)
     · exact b_ _ _ _ _ _ he
   | ma f ps ei body=>
     obtain⟨g,first,c0,v,ay,p,_,I,_,_,rfl⟩:=ye yg
     have:=a9 I
     simp only at this
     show s.h.next<=ay.next
     omega
theorem NT {Φ:FuncId->Option bt} {n:Nat} {t:lC} {args:List J} {h ay:aF} {v:J} (I:lj G Φ tab n Y t args h=some (v,ay)):h.next<=ay.next:=by
 cases t with
 | fn f=>
   obtain⟨fn,ex,aD,_,he,_,_,rfl⟩:=q' I
   exact yf _ _ _ _ _ _ he
 | lR id=>
   obtain⟨L,Y',s1,ex,aD,_,_,ae,_,h2,_,aO⟩:=ua I
   have a1:=yf _ _ _ _ _ _ ae
   have cP:=yf _ _ _ _ _ _ h2
   have:ay.next=aD.h.next:=by rcases aO with⟨_,_,rfl⟩|⟨_,_,rfl⟩<;>rfl
   rw[this]
   exact Nat.le_trans a1 cP
end
end Go.Eng
namespace Go.Eng
open Go Go.RowKit
section
variable {G:Nat->Option J} {Φ:FuncId->Option bt} {tab:FuncId->Option (List J->Option J)}
theorem NU {h:aF} {F:Nat->J} {r:Nat} {blk:List J} (aC:h.cells r=none):∀ {x:m3} {v:J},gi h F x=some v->gi (h.new r blk) F x=some v
 | .tmp t,v,aY=>aY
 | .cell t cq sz,v,aY=>by
   simp only[gi] at aY|-
   split at aY<;>try(cases aY;done)
   rename_i id idx di bR
   obtain⟨b,au,aY⟩:=Option.bind_eq_some_iff.1 aY
   try simp only[bR]
   have cp:id≠r:=by rintro rfl;rw[aC] at au;cases au
   rw[pD _ _ cp,au]
   exact aY
theorem Fq {h:aF} {F:Nat->J} {r:Nat} {blk:List J} (aC:h.cells r=none):∀ {rs:List m3} {vs:List J},rs.mapM (gi h F)=some vs->rs.mapM (gi (h.new r blk) F)=some vs
 | [],vs,aY=>aY
 | x::rs,vs,aY=>by
   rw[List.mapM_cons] at aY|-
   simp only[Option.bind_eq_bind,Option.bind_eq_some_iff,Option.pure_def,Option.some.injEq] at aY|-
   obtain⟨a,bF,b,au,e⟩:=aY
   exact ⟨a,NU aC bF,b,Fq aC au,e⟩
theorem NV {h:aF} {F:Nat->J} {r:Nat} {blk:List J} (aC:h.cells r=none) {rs:List m3} {v:J} (aY:e1 h F rs=some v):e1 (h.new r blk) F rs=some v:=by
 unfold e1 at aY|-
 obtain⟨vs,ae,h2⟩:=Option.map_eq_some_iff.1 aY
 rw[Fq aC ae]
 exact congrArg some h2
theorem Fs {c1:lC->List J->aF->Option (J × aF)} (aT:q7 c1) {bm r:Nat} {blk:List J} (rb:r<bm):∀ {L:List (bH × Nat)} {s aD:bg} {cs:List ey},dG G tab c1 bm L s=some (aD,cs)->s.h.cells r=none->r<s.h.next->
 dG G tab c1 bm L ⟨s.F,s.h.new r blk⟩=some (⟨aD.F,aD.h.new r blk⟩,cs)/\aD.h.cells r=none/\s.h.next<=aD.h.next
 | [],s,aD,cs,h,aC,bf=>by
   simp only[dG] at h|-
   cases h
   exact ⟨rfl,aC,Nat.le_refl _⟩
 | (e,i)::L,s,aD,cs,h,aC,bf=>by
   simp only[dG] at h|-
   split at h<;>try(cases h;done)
   rename_i s1 c ae
   obtain⟨p,h2,aO⟩:=Option.map_eq_some_iff.1 h
   obtain⟨s2,E3⟩:=p
   cases aO
   obtain⟨ab,aa,af⟩:=AH (blk:=blk) aT ae aC bf (by omega)
   obtain⟨cn,eg,gQ⟩:=Fs (blk:=blk) aT rb h2 aa (by omega)
   exact ⟨by simp only[ab,cn,Option.map_some],eg,by show s.h.next<=s2.h.next;omega⟩
theorem Bb {n:Nat} (fX:∀(Y:List dm) (c:ee) (s:bg) (ex:cX) (aD:bg),exec G Φ tab n Y c s=some (ex,aD)->∀r blk,s.h.cells r=none->r<s.h.next->exec G Φ tab n Y c ⟨s.F,s.h.new r blk⟩=some (ex,⟨aD.F,aD.h.new r blk⟩)/\aD.h.cells r=none/\s.h.next<=aD.h.next)
 (Y:List dm):q7 (lj G Φ tab n Y):=by
 intro t args h v ay r blk I aC bf
 cases t with
 | fn f=>
   obtain⟨fn,ex,aD,m8,he,hex,aY,rfl⟩:=q' I
   obtain⟨ab,aa,af⟩:=fX _ _ _ _ _ he r blk aC bf
   refine⟨?_,aa,af⟩
   show k1 G Φ tab n Y f args (h.new r blk)=_
   unfold k1
   simp only at ab
   rcases hex with rfl|rfl<;>simp only[m8,ab,NV aa aY,Option.map_some]
 | lR id=>
   obtain⟨L,Y',s1,ex,aD,a_,hlen,ae,bc,h2,au,aO⟩:=ua I
   obtain⟨ab,aa,af⟩:=fX _ _ _ _ _ ae r blk aC bf
   obtain⟨cn,eg,gQ⟩:=fX _ _ _ _ _ h2 r blk aa (show r<s1.h.next by simp only at af;omega)
   simp only at ab cn
   have a6:h.next<=aD.h.next:=Nat.le_trans af gQ
   have Ft:exec G Φ tab n Y' L.body ⟨s1.F,(s1.h.new r blk).set id (some .busy)⟩=some (ex,⟨aD.F,aD.h.new r blk⟩):=cn
   rcases aO with⟨rfl,rfl,rfl⟩|⟨cp,rfl,rfl⟩
   · refine⟨?_,eg,a6⟩
     show o6 G Φ tab n Y id args (h.new r blk)=_
     unfold o6
     simp only[a_,if_pos hlen,ab,show (s1.h.new r blk).bu id=some .ready from bc,Ft,show (aD.h.new r blk).bu id=some .busy from au]
     rfl
   · refine⟨?_,eg,a6⟩
     show o6 G Φ tab n Y id args (h.new r blk)=_
     unfold o6
     simp only[a_,if_pos hlen,ab,show (s1.h.new r blk).bu id=some .ready from bc,Ft,show (aD.h.new r blk).bu id=some .busy from au]
     cases ex with
     | normal=>exact absurd rfl cp
     | exit i=>rfl
     | ret=>rfl
theorem Fu:∀(n:Nat) (Y:List dm) (c:ee) (s:bg) (ex:cX) (aD:bg),exec G Φ tab n Y c s=some (ex,aD)->∀r blk,s.h.cells r=none->r<s.h.next->
 exec G Φ tab n Y c ⟨s.F,s.h.new r blk⟩=some (ex,⟨aD.F,aD.h.new r blk⟩)/\aD.h.cells r=none/\s.h.next<=aD.h.next
 | 0,Y,c,s,ex,aD,he,r,blk,aC,bf=>by unfold exec at he;cases he
 | n+1,Y,c,s,ex,aD,he,r,blk,aC,bf=>by
   have fX:=Fu n
   have aS:=he
   rw[gC] at he|-
   cases c with
   | skip=>cases he;exact ⟨rfl,aC,Nat.le_refl _⟩
   | ret=>cases he;exact ⟨rfl,aC,Nat.le_refl _⟩
   | exit id=>cases he;exact ⟨rfl,aC,Nat.le_refl _⟩
   | region k0 ops kz=>
     simp only at he|-
     obtain⟨s1,ae,he⟩:=Option.map_eq_some_iff.1 he
     cases he
     unfold fh at ae|-
     split at ae<;>try(cases ae;done)
     rename_i s2 cs c7
     split at ae<;>try(cases ae;done)
     rename_i kB
     cases ae
     obtain⟨ab,aa,af⟩:=Fs (blk:=blk) (Bb fX Y) bf c7 aC (show r<s.h.next+ops.length by omega)
     simp only at ab af
     refine⟨?_,aa,by omega⟩
     have NW:dG G tab (lj G Φ tab n Y) (s.h.new r blk).next ops.zipIdx ⟨s.F,{(s.h.new r blk) with next:=(s.h.new r blk).next+ops.length}⟩=some (⟨aD.F,aD.h.new r blk⟩,cs):=ab
     rw[NW]
     simp only[if_pos kB,Option.map_some]
   | seq a b=>
     simp only at he|-
     split at he
     · rename_i s1 ae
       obtain⟨ab,aa,af⟩:=fX _ _ _ _ _ ae r blk aC bf
       obtain⟨cn,eg,gQ⟩:=fX _ _ _ _ _ he r blk aa (by omega)
       exact ⟨by simp only[ab];exact cn,eg,by omega⟩
     · rename_i cp
       obtain⟨ab,aa,af⟩:=fX _ _ _ _ _ he r blk aC bf
       refine⟨?_,aa,af⟩
       rw[ab]
       cases ex with
       | normal=>exact absurd he (cp aD)
       | exit i=>rfl
       | ret=>rfl
   | cond x a b=>
     simp only at he|-
     split at he<;>try(cases he;done)
     rename_i t a'
     try simp only[a']
     split at he
     · rename_i sr;simp only[if_pos sr];exact fX _ _ _ _ _ he r blk aC bf
     · rename_i sr;simp only[if_neg sr];exact fX _ _ _ _ _ he r blk aC bf
   | block id b=>
     simp only at he|-
     split at he
     · rename_i i s1 ae
       obtain⟨ab,aa,af⟩:=fX _ _ _ _ _ ae r blk aC bf
       rw[ab]
       simp only
       split at he<;>rename_i an<;>cases he<;>simp only[an,if_true,if_false]<;>exact ⟨by first|rfl|trivial,aa,af⟩
     · rename_i cp
       obtain⟨ab,aa,af⟩:=fX _ _ _ _ _ he r blk aC bf
       refine⟨?_,aa,af⟩
       rw[ab]
       cases ex with
       | normal=>rfl
       | exit i=>exact absurd he (cp i aD)
       | ret=>rfl
   | loop b=>
     simp only at he|-
     split at he
     · rename_i s1 ae
       obtain⟨ab,aa,af⟩:=fX _ _ _ _ _ ae r blk aC bf
       obtain⟨cn,eg,gQ⟩:=fX _ _ _ _ _ he r blk aa (by omega)
       exact ⟨by simp only[ab];exact cn,eg,by omega⟩
     · rename_i cp
       obtain⟨ab,aa,af⟩:=fX _ _ _ _ _ he r blk aC bf
       refine⟨?_,aa,af⟩
       rw[ab]
       cases ex with
       | normal=>exact absurd he (cp aD)
       | exit i=>rfl
       | ret=>rfl
   | ma f ps ei body=>
     obtain⟨g,first,c0,v,ay,p,aT,I,bc,mu,rfl⟩:=ye aS
     have ih:lj G Φ tab n (⟨s.h.next,s.F,ps,ei,body⟩::Y) (.fn g) (first++ [.gb s.h.next]++c0) {s.h with next:=s.h.next+1,bu:=aG s.h.bu s.h.next (some .ready)}=some (v,ay):=I
     obtain⟨ab,aa,af⟩:=Bb fX _ _ _ _ _ _ r blk ih aC (show r<s.h.next+1 by omega)
     obtain⟨fn,e,s2,m8,Bc,hex,aY,de⟩:=q' (show k1 G Φ tab n _ g _ _=some (v,ay.new r blk) from ab)
     refine⟨?_,aa,by simp only at af;show s.h.next<=ay.next;omega⟩
     simp only[aT,m8]
     have NX:exec G Φ tab n (⟨(s.h.new r blk).next,s.F,ps,ei,body⟩::Y) fn.body ⟨a8 (first++ [.gb (s.h.new r blk).next]++c0),{(s.h.new r blk) with next:=(s.h.new r blk).next+1,bu:=aG (s.h.new r blk).bu (s.h.new r blk).next (some .ready)}⟩=some (e,s2):=Bc
     have pM:s2.h.bu (s.h.new r blk).next=some p:=by rw[de];exact bc
     rw[NX]
     rcases hex with rfl|rfl<;>simp only[aY,pM]<;>rcases mu with⟨rfl,rfl⟩|rfl<;>simp only[de]<;>rfl
theorem NY (n:Nat) (Y:List dm):q7 (lj G Φ tab n Y):=Bb (Fu n) Y
end
end Go.Eng
namespace Go.Eng
open Go Go.RowKit
section
variable {P:Program} {G:Nat->Option J} {tab:FuncId->Option (List J->Option J)} {Y:List dm}
theorem NZ {n:Nat} (fX:ub P G tab n) {id:Nat} {args:List J} {h ay:aF} {v:J} (I:o6 G (bk P) tab n Y id args h=some (v,ay)):
 ∀base okin σ w (eb:Array Value) l s,dd base okin σ h w->ig σ h.bu w->pI P G base okin Y σ h w->σ id=some (l,s)->eb.size=args.length->
  (∀i (an:i<args.length) (cC:i<eb.size),bC w (b5 base okin σ h) σ args[i] eb[i])->
  (∀g u,G g=some u->bC w (b5 base okin σ h) σ (.e0 u) (.pointer (some ⟨g,0,none⟩)))->(∀id,h.next<=id->σ id=none)->
  AQ P l eb w (tV base okin σ h w ay v):=by
 obtain⟨L,Y',s1,ex,aD,a_,hlen,N0,Fv,Bc,N1,k2⟩:=ua I
 obtain⟨bz,b4,Ae⟩:=Fk a_
 intro base okin σ w eb l s H Ba yd pK dC fK ra wq
 obtain⟨mr,kZ,r,og,cV,cY,dF,dK,ij,ik,mw,me⟩:=yd L bz
 rw[b4,pK] at cV;cases cV
 have yh:r.params.size=L.ps.length:=by rw[dK];simp
 have qe:eb.size=r.params.size:=by omega
 have N2:pI P G base okin Y' σ h w:=fun X mO=>yd X (Ae X mO)
 have gp:base<=l:=(H.val _ _ _ pK).1
 refine⟨r.fn,_,r.assign,r.body,run_yield cY qe,fun F et bR=>?_⟩
 have N3:(r.params.zip eb).foldl (fun tmps (t,a)=>tmps.setIfInBounds t a) r.tmps=(L.ps.zip eb.toList).foldl (fun tmps (t,a)=>tmps.setIfInBounds t a) r.tmps:=by
  rw[dK,<-Array.foldl_toList,Array.toList_zip]
 rw[N3]
 have S:fB P G Y' (F.inRound l).round w.heap.size base okin og h.next σ (fun _=>False) σ ⟨ni L.F L.ps args,h⟩ {tmps:=(L.ps.zip eb.toList).foldl (fun tmps (t,a)=>tmps.setIfInBounds t a) r.tmps,defers:=[]} w:=by
  refine⟨H,Ba,N2,⟨fun t=>?_,ra⟩,?_,⟨fun d bw=>absurd bw (by simp),List.Pairwise.nil⟩,fun dD hb=>?_,Nat.le_refl _,fun id b8=>b8.elim,Nat.le_refl _,fun _ _=>rfl,wq⟩
  · exact NR (by omega) (by simp;omega) (fun p bc=>Nat.lt_of_lt_of_le (ij p bc) dF) (fun t=>me.slot t) (fun i an cC=>by
     have:=fK i an (by simpa using cC)
     simpa using this) t
  · show og<=(Array.size _)
    rw[NS];exact dF
  · cases hb;exact ⟨r,cY⟩
 refine roundIn_of_wpIn (bR.fn _) ?_
 refine fX og Y' r.assign L.ei _ _ s1 ik N0 (F.inRound l) et (bR.inRound l) w.heap.size base okin h.next σ σ _ w _ S (fun hp a1 bK hd dO=>?_)
 obtain⟨ck,wi,ct,d1,d2,d3,d4⟩:=hd.mc.look id _ Fv
 have Bd:hp id=some (l,s):=dO.sub _ _ pK
 rw[Bd] at d1;cases d1
 refine⟨_,run_beginRound d2 d3,?_⟩
 have aq:({ct with state:= .busy}:Loop)= {ct with state:=o3 .busy,pending:=o4 .busy}:=by
  have:o4 .busy=ct.pending:=by rw[d4];rfl
  rw[this];rfl
 rw[aq]
 have aC:∀arr ty e,Obj.loop ct≠ .cells arr ty e:=fun _ _ _ h=>by cases h
 have e2:dP base okin hp s1.h bK hp (s1.h.set id (some .busy)) (bK.putObj l (.loop {ct with state:=o3 .busy,pending:=o4 .busy})):=dP.A4 d2 gp _ _ (fun b au=>au)
 have yi:=hd.aP.put (.loop {ct with state:=o3 .busy,pending:=o4 .busy}) d2 aC (fun _ _ h=>by cases h)
 have wu:fB P G Y' (F.inRound l).round w.heap.size base okin og h.next σ (fun _=>False) hp ⟨s1.F,s1.h.set id (some .busy)⟩ a1 (bK.putObj l (.loop {ct with state:=o3 .busy,pending:=o4 .busy})):=
  ⟨⟨yi.val,yi.blk,yi.inj,yi.base⟩,hd.mc.set Fv Bd d2 .busy,hd.hq.mono e2,hd.cg.mono e2,hd.size,hd.marks.mono e2.o2,fun dD hb=>by
    obtain⟨ej,ba⟩:=hd.rd dD hb
    obtain⟨x,y,br⟩:=e2.loop dD ej ba
    exact ⟨_,br⟩,Nat.le_trans hd.so e2.below.size,fun _ h=>h.elim,hd.low,hd.mL,hd.fresh⟩
 refine fX og Y' r.body L.body _ ex aD mw Bc (F.inRound l) et (bR.inRound l) w.heap.size base okin h.next σ hp _ _ _ wu (fun nt fV eP yj lT=>?_)
 have yk:=lT.sub _ _ Bd
 obtain⟨N4,N5,f1⟩:=lT.loop l _ (World.putObj_heap_same (qg d2))
 generalize Zu:({ct with state:=N4,pending:=N5}:Loop)=o5 at f1
 have f2:eP.heap[l]? =some (.loop o5):=f1
 have su:∀arr ty e,Obj.loop o5≠ .cells arr ty e:=fun _ _ _ h=>by cases h
 have fin:∀(p:fu) (cv:Value),ay=aD.h.set id (some p)->bC (eP.putObj l (.loop {o5 with state:=o3 p,pending:=o4 p})) (b5 base okin nt (aD.h.set id (some p))) nt v cv->
  tV base okin σ h w ay v cv (eP.putObj l (.loop {o5 with state:=o3 p,pending:=o4 p})):=by
  rintro p cv rfl bf
  have t_:dP base okin nt aD.h eP nt (aD.h.set id (some p)) (eP.putObj l (.loop {o5 with state:=o3 p,pending:=o4 p})):=dP.A4 f2 gp _ _ (fun b au=>au)
  have qk:=yj.aP.put (.loop {o5 with state:=o3 p,pending:=o4 p}) f2 su (fun _ _ h=>by cases h)
  exact ⟨nt,((dO.trans e2).trans lT).trans t_,⟨qk.val,qk.blk,qk.inj,qk.base⟩,yj.mc.set N1 yk f2 p,bf,yj.fresh,yj.mL⟩
 rcases k2 with⟨rfl,rfl,de⟩|⟨cp,rfl,de⟩
 · exact ⟨_,_,run_endRound none f2,.bool true,rfl,fin .ready _ de (.val _ _ (.bool _))⟩
 · cases ex with
   | normal=>exact absurd rfl cp
   | ret=>exact ⟨_,_,run_endRound (some .ret) f2,.bool false,rfl,fin (.done .ret) _ de (.val _ _ (.bool _))⟩
   | exit i=>exact ⟨_,_,run_endRound (some (.exit i)) f2,.bool false,rfl,fin (.done (.exit i)) _ de (.val _ _ (.bool _))⟩
theorem N6 {n:Nat} (fX:ub P G tab n):tW P G Y (lj G (bk P) tab n Y):=
 ⟨fun _ _ _ _ _ I=>NT I,NY n Y,fun _ _ _ _ _ I base okin σ w eb H L C ae h2 aO a2=> .inl (A9 fX I base okin σ w eb H L C ae h2 aO a2),
   fun _ _ _ _ _ I=>NZ fX I⟩
theorem Fw {N:Nat} {c:Code} {qj:ee} (I:gj P N c=some qj):∀(m:Nat),(∀k,k<m->ub P G tab k)->∀(s:bg) (ex:cX) (aD:bg),exec G (bk P) tab m Y (.loop qj) s=some (ex,aD)->
 ∀(dt:Fence) (et:Nat) (_:hS dt) (cc:Nat) (base:Nat) (okin:Nat->Prop) (dk:Nat) (dj σ:Nat->Option (Nat × Nat)) (a:Act) (w:World) (Q:Exit->Act->World->Prop),fB P G Y dt.round cc base okin N dk dj (fun _=>False) σ s a w->
  (∀bN ep bh,fB P G Y dt.round cc base okin N dk dj (fun _=>False) bN aD ep bh->dP base okin σ s.h w bN aD.h bh->Q (lW ex) ep bh)->Code.roundsIn dt et P c Q m a w
 | 0,_,s,ex,aD,he=>by unfold exec at he;cases he
 | m+1,fX,s,ex,aD,he=>by
   rw[gC] at he
   simp only at he
   split at he
   · rename_i s1 ae
     have bK:=fX m (Nat.lt_succ_self m) N Y c qj s _ s1 I ae
     have cr:=Fw I m (fun k aI=>fX k (Nat.lt_succ_of_lt aI)) s1 ex aD he
     refine fun dt et bR cc base okin dk dj σ a w Q S eA=>?_
     rw[roundsIn_succ]
     exact bK dt et bR cc base okin dk dj σ a w _ S fun hp a1 nu hd dO=>cr dt et bR cc base okin dk dj hp a1 nu Q hd fun p8 cP Be wu e2=>eA p8 cP Be wu (dO.trans e2)
   · rename_i cp
     have bK:=fX m (Nat.lt_succ_self m) N Y c qj s ex aD I he
     refine fun dt et bR cc base okin dk dj σ a w Q S eA=>?_
     rw[roundsIn_succ]
     refine bK dt et bR cc base okin dk dj σ a w _ S fun hp a1 nu hd dO=>?_
     have:=eA hp a1 nu hd dO
     cases ex with
     | normal=>exact absurd he (cp aD)
     | exit id=>exact this
     | ret=>exact this
theorem N7 {n N:Nat} (fX:ub P G tab n) {x:Operand} {ps:Array Tmp} {ei body:Code} {f:bn} {wv wx:ee} (av:eF x=some f) (bF:gj P N ei=some wv) (au:gj P N body=some wx) (yh:ps.toList.all (fun p=>decide (p<N))=true)
 {s aD:bg} {ex:cX} (he:exec G (bk P) tab (n+1) Y (.ma f ps.toList wv wx) s=some (ex,aD))
 (dt:Fence) (et:Nat) (bR:hS dt) (cc:Nat) (base:Nat) (okin:Nat->Prop) (dk:Nat) (dj σ:Nat->Option (Nat × Nat)) (a:Act) (w:World) (Q:Exit->Act->World->Prop) (S:fB P G Y dt.round cc base okin N dk dj (fun _=>False) σ s a w)
 (eA:∀bN ep bh,fB P G Y dt.round cc base okin N dk dj (fun _=>False) bN aD ep bh->dP base okin σ s.h w bN aD.h bh->Q (lW ex) ep bh):(Code.rangeFunc x ps ei body).wpIn dt et P Q a w:=by
 obtain⟨g,first,c0,v,ay,p,aT,hv,bc,mu,rfl⟩:=ye he
 have rx:=S.cg.ez av
 rw[aT] at rx
 obtain⟨fc,cv,N8,ck,dD,ct,ej⟩:=rx.DJ
 have b8:σ s.h.next=none:=S.fresh _ (Nat.le_refl _)
 have enter:∀fn,∃(l:Nat) (mark:List Deferred) (bK:World) (r:Loop),(Instr.enterLoop fn a.tmps ps ei body dt.round).run P w= .ok (l,mark) bK/\Below w.heap.size w bK/\w.heap.size<=l/\bK.heap[l]? =some (.loop r)/\
  r.state= .ready/\r.pending=none/\r.tmps=a.tmps/\r.params=ps/\r.assign=ei/\r.body=body/\Marks w.heap.size mark bK:=by
  intro fn
  cases Bf:dt.round with
  | none=>
    refine⟨_,_,_,{state:= .ready,pending:=none,fn,tmps:=a.tmps,params:=ps,assign:=ei,body,defers:=w.heap.size},run_enterLoop_outer fn a.tmps ps ei body,((Below.refl _ _).alloc (Nat.le_refl _) _).alloc (by simp) _,Nat.le_succ _,?_,rfl,rfl,rfl,rfl,rfl,rfl,⟨fun d bw=>?_,?_⟩⟩
    · have:=World.alloc_heap_new (w.alloc (.deferred (some []))) (.loop {state:= .ready,pending:=none,fn,tmps:=a.tmps,params:=ps,assign:=ei,body,defers:=w.heap.size})
      rwa [World.size_alloc] at this
    · simp at bw
      subst bw
      refine⟨w.heap.size,rfl,Nat.le_refl _,?_⟩
      rw[Below.heap_alloc _ _ _ (by simp)]
      exact World.alloc_heap_new w _
    · simp
  | some gI=>
    obtain⟨lU,aS⟩:=S.rd gI Bf
    refine⟨_,_,_,{state:= .ready,pending:=none,fn,tmps:=a.tmps,params:=ps,assign:=ei,body,defers:=lU.defers},run_enterLoop_inner aS fn a.tmps ps ei body,(Below.refl _ _).alloc (Nat.le_refl _) _,Nat.le_refl _,World.alloc_heap_new w _,rfl,rfl,rfl,rfl,rfl,rfl,⟨fun d bw=>absurd bw (by simp),List.Pairwise.nil⟩⟩
 refine wpIn_rangeFunc fun fn m8=>?_
 obtain⟨l,mark,bK,r,aj,gp,hle,aq,aW,bW,ea,fW,AO,q8,Fx⟩:=enter fn
 have b6:=qg aq
 have wj:=Nat.le_trans S.aP.base hle
 obtain⟨AV,AW⟩:=S.aP.grown gp
 obtain⟨yl,ql⟩:=AV.named b8 wj b6
 have dO:dP base okin σ s.h w (aG σ s.h.next (some (l,0))) s.h bK:=dP.of S.aP (AW.trans ql)
 have fA:=S.mc.add (fun id b s aP=>(S.aP.val id b s aP).2) b8 gp hle aq aW bW
 have wy:dP base okin σ s.h w (aG σ s.h.next (some (l,0))) {s.h with next:=s.h.next+1,bu:=aG s.h.bu s.h.next (some .ready)} bK:=⟨dO.sub,dO.still,dO.below,dO.grow,dO.loop,dO.o2⟩
 have H1:dd base okin (aG σ s.h.next (some (l,0))) {s.h with next:=s.h.next+1,bu:=aG s.h.bu s.h.next (some .ready)} bK:=⟨yl.val,yl.blk,yl.inj,yl.base⟩
 have Bg:=S.cg.mono wy
 have N9:pI P G base okin (⟨s.h.next,s.F,ps.toList,wv,wx⟩::Y) (aG σ s.h.next (some (l,0))) {s.h with next:=s.h.next+1,bu:=aG s.h.bu s.h.next (some .ready)} bK:=by
  intro L a_
  rcases List.mem_cons.1 a_ with rfl|a_
  · refine⟨l,0,r,N,by simp[aG],aq,by rw[ea];exact S.size,by rw[fW],fun q bo=>by simpa using List.all_eq_true.1 yh q bo,by rw[AO];exact bF,by rw[q8];exact au,⟨fun t=>?_,Bg.nk⟩⟩
    rw[ea];exact Bg.slot t
  · exact S.hq.mono wy L a_
 have fK:∀i (an:i<(first++ [J.gb s.h.next]++c0).length) (cC:i<(fc++ #[Value.func (.yield l) #[] #[]]++cv).size),bC bK (b5 base okin (aG σ s.h.next (some (l,0))) {s.h with next:=s.h.next+1,bu:=aG s.h.bu s.h.next (some .ready)}) (aG σ s.h.next (some (l,0))) (first++ [J.gb s.h.next]++c0)[i] (fc++ #[Value.func (.yield l) #[] #[]]++cv)[i]:=by
  intro i an cC
  by_cases ae:i<first.length
  · have cn:(first++ [J.gb s.h.next]++c0)[i]=first[i]:=by
     rw[List.getElem_append_left (by simp;omega),List.getElem_append_left ae]
    have eg:(fc++ #[Value.func (.yield l) #[] #[]]++cv)[i]=fc[i]'(by omega):=by
     rw[Array.getElem_append_left (by simp;omega),Array.getElem_append_left (by omega)]
    rw[cn,eg];exact wy.rep (ct i ae (by omega))
  · by_cases h2:i=first.length
    · have cn:(first++ [J.gb s.h.next]++c0)[i]=J.gb s.h.next:=by
       rw[List.getElem_append_left (by simp;omega),List.getElem_append_right (by omega)];simp
      have eg:(fc++ #[Value.func (.yield l) #[] #[]]++cv)[i]=Value.func (.yield l) #[] #[]:=by
       rw[Array.getElem_append_left (by simp;omega),Array.getElem_append_right (by omega)];simp
      rw[cn,eg]
      exact .gb _ l 0 (by simp[aG])
    · have cn:(first++ [J.gb s.h.next]++c0)[i]=c0[i -(first.length+1)]'(by simp at an;omega):=by
       rw[List.getElem_append_right (by simp;omega)];simp
      have eg:(fc++ #[Value.func (.yield l) #[] #[]]++cv)[i]=cv[i -(first.length+1)]'(by simp at cC;omega):=by
       rw[Array.getElem_append_right (by simp;omega)]
       congr 1
       simp;omega
      rw[cn,eg];exact wy.rep (ej _ (by simp at an;omega) (by simp at cC;omega))
 have dC:(fc++ #[Value.func (.yield l) #[] #[]]++cv).size=(first++ [J.gb s.h.next]++c0).length:=by simp;omega
 have wq:∀id,s.h.next+1<=id->aG σ s.h.next (some (l,0)) id=none:=fun id b8=>by
  have:id≠s.h.next:=by omega
  simp only[aG,this,if_false]
  exact S.fresh id (by omega)
 obtain⟨cV,cY⟩:=A9 fX hv base okin _ bK _ H1 fA N9 dC fK Bg.nk wq
 refine⟨l,mark,bK,{target:= .fn (.func g) cv,args:=fc++ #[Value.func (.yield l) #[] #[]]},bK,g,fc++ #[Value.func (.yield l) #[] #[]]++cv,bK,aj,?_,fun xP _=>bR.fn xP,?_,bR.one et,bR.calls (cY.mono ?_)⟩
 · simp[resolve,Deferred.ofValue,N8]
   rfl
 · simpa[invoke] using cV
 rintro e eP ⟨AT,rfl,nt,lT,N_,Fy,_,f3,o0⟩
 obtain⟨mr,aD,hc,d1,d2,d3,d4⟩:=Fy.look _ p bc
 have yk:nt s.h.next=some (l,0):=lT.sub _ _ (by simp[aG])
 rw[yk] at d1;cases d1
 have N':hc.state≠ .busy:=by
  rw[d3]
  rcases mu with⟨rfl,_⟩|rfl<;>simp[o3]
 have su:∀arr ty e,Obj.loop hc≠ .cells arr ty e:=fun _ _ _ h=>by cases h
 have t_:dP base okin nt ay eP nt (ay.set s.h.next none) (eP.putObj l (.loop {hc with state:= .exhausted})):=dP.A4 d2 wj .exhausted hc.pending (fun b au=>au)
 have qk:=N_.put (.loop {hc with state:= .exhausted}) d2 su (fun _ _ h=>by cases h)
 have Oa:ig nt (aG ay.bu s.h.next none) (eP.putObj l (.loop {hc with state:= .exhausted})):=Fy.del bc yk _
 have sv:dP base okin σ s.h w nt (ay.set s.h.next none) (eP.putObj l (.loop {hc with state:= .exhausted})):=(wy.trans lT).trans t_
 have x_:=(yf (G:=G) (tab:=tab) (Φ:=bk P) (n+1) Y (.ma f ps.toList wv wx) s ex _ he)
 have Ob:fB P G Y dt.round cc base okin N dk dj (fun _=>False) nt ⟨s.F,ay.set s.h.next none⟩ {a with defers:=mark++a.defers} (eP.putObj l (.loop {hc with state:= .exhausted})):=by
  refine⟨⟨qk.val,qk.blk,qk.inj,qk.base⟩,Oa,S.hq.mono sv,⟨fun t=>sv.rep (S.cg.slot t),fun g v bq=>sv.rep (S.cg.nk g v bq)⟩,S.size,?_,fun dD hb=>?_,Nat.le_trans S.so sv.below.size,fun _ h=>h.elim,Nat.le_trans S.low x_,fun id b8=>?_,f3⟩
  · have bz:=Fx.mono (fun b au=>t_.o2 b (lT.o2 b au))
    have b4:=S.marks.mono sv.o2
    refine⟨fun d bw=>?_,List.pairwise_append.2 ⟨bz.nodup,b4.nodup,fun d bw ob lI=>?_⟩⟩
    · rcases List.mem_append.1 bw with bw|bw
      · obtain⟨D,ba,br,eS⟩:=bz.each d bw
        exact ⟨D,ba,Nat.le_trans S.so br,eS⟩
      · exact b4.each d bw
    · obtain⟨D,ba,br,_⟩:=Fx.each d bw
      obtain⟨Ff,Oc,_,Od⟩:=S.marks.each ob lI
      have:=qg Od
      rw[ba,Oc]
      intro de
      cases de
      omega
  · obtain⟨ej,ba⟩:=S.rd dD hb
    obtain⟨x1,x2,br⟩:=sv.loop dD ej ba
    exact ⟨_,br⟩
  · have:id≠s.h.next:=by have:=S.low;omega
    rw[o0 id (by have:=S.low;show id<s.h.next+1;omega)]
    simp only[aG,this,if_false]
    exact S.mL id b8
 have bo:=eA nt _ _ Ob sv
 refine⟨_,_,run_endLoop d2 N',?_⟩
 rw[d4] at bo|-
 rcases mu with⟨rfl,rfl⟩|rfl
 · exact bo
 · cases ex with
   | normal=>exact bo
   | ret=>exact wpIn_ret bo
   | exit i=>exact wpIn_exit bo
theorem uc {P:Program} {b:Frame} {a:Act} {k:List Item} {cs:List Frame} {w:World} {c:Code}:step P (lone (b.atR a (.code (.scope c)::k)) cs w)= .next (lone (b.atR a (.code c:: .inScope c::k)) cs w):=
 step_lone_go (by simp[stepG,stepG.exec,Frame.atR])
theorem Oe {P:Program} {b:Frame} {a:Act} {k:List Item} {cs:List Frame} {w:World} {c:Code}:step P (lone (b.atR a (.inScope c::k)) cs w)= .next (lone (b.atR a k) cs w):=
 step_lone_go (by simp[stepG,stepG.exec,Frame.atR])
theorem Of {F:Fence} {n:Nat} {P:Program} {c:Code} {Q:Exit->Act->World->Prop} {a:Act} {w:World} (h:c.wpIn F n P (Exit.noGoto Q) a w):(Code.scope c).wpIn F n P Q a w:=by
 intro b k cs Bf au bf
 have aS:(lone (b.atR a (.code (.scope c)::k)) cs w).fenced P F:=fenced_calm au bf rfl
 obtain⟨e,wz,wA,bo,ud⟩:=h b (.inScope c::k) cs Bf au bf
 cases e with
 | normal=>exact ⟨.normal,wz,wA,bo,.head aS uc (StepsIn.trans ud (.one (fenced_calm au bf rfl) Oe))⟩
 | exit id=>
   have av:exitTo id (.inScope c::k)=exitTo id k:=by simp[exitTo]
   exact ⟨_,wz,wA,bo,fun k' aI=> .head aS uc (ud.1 k' (by rw[av];exact aI)),fun oc aI=>let ⟨k₁,ae,h2⟩:=ud.2 oc (by rw[av];exact aI);⟨k₁,ae,.head aS uc h2⟩⟩
 | goto l=>exact bo.elim
 | ret=>exact ⟨_,wz,wA,bo,.of_steps (.one aS uc) ud⟩
 | panic Zv=>exact ⟨_,wz,wA,bo,.of_steps (.one aS uc) ud⟩
 | outgrown=>exact ⟨_,wz,wA,bo,.of_steps (.one aS uc) ud⟩
theorem Og (hm:P.follows .mixedOrders=true) (lV:∀f T,tab f=some T->bl P G f T):∀n,ub P G tab n:=by
 intro n
 induction n using Nat.strongRecOn with
 | _ n fX=>
 intro N Y c qj s ex aD I he
 cases n with
 | zero=>unfold exec at he;cases he
 | succ n=>
 have b_:=fX n (Nat.lt_succ_self n)
 have yg:=he
 rw[gC] at he
 cases c with
 | skip=>
   simp only[gj] at I;cases I
   cases he
   exact fun dt et bR cc base okin dk dj σ a w Q S eA=>wpIn_skip (eA σ a w S (dP.refl ..))
 | ret=>
   simp only[gj] at I;cases I
   cases he
   exact fun dt et bR cc base okin dk dj σ a w Q S eA=>wpIn_ret (eA σ a w S (dP.refl ..))
 | exit id=>
   simp only[gj] at I;cases I
   cases he
   exact fun dt et bR cc base okin dk dj σ a w Q S eA=>wpIn_exit (eA σ a w S (dP.refl ..))
 | region id ops draw=>
   have ia:=I
   have Oh:∃k0 es b,qj= .region k0 es b:=by
    simp only[gj] at I
    split at I<;>try(cases I;done)
    split at I
    · split at I<;>try(cases I;done)
      cases I;exact ⟨_,_,_,rfl⟩
    · cases I;exact ⟨_,_,_,rfl⟩
   obtain⟨k0,es,b,rfl⟩:=Oh
   simp only at he
   obtain⟨s1,ae,he⟩:=Option.map_eq_some_iff.1 he
   cases he
   exact fun dt et bR cc base okin dk dj σ a w Q S eA=>NI hm bR (N6 b_) lV ia ae S eA
 | seq x y=>
   simp only[gj] at I
   split at I<;>try(cases I;done)
   rename_i qm Bh av bj
   cases I
   simp only at he
   split at he
   · rename_i s1 ae
     have bK:=b_ N Y x qm s _ s1 av ae
     have cr:=b_ N Y y Bh s1 ex aD bj he
     refine fun dt et bR cc base okin dk dj σ a w Q S eA=>wpIn_seq ?_
     exact bK dt et bR cc base okin dk dj σ a w _ S fun hp a1 nu hd dO=>cr dt et bR cc base okin dk dj hp a1 nu Q hd fun p8 cP Be wu e2=>eA p8 cP Be wu (dO.trans e2)
   · rename_i cp
     have bK:=b_ N Y x qm s ex aD av he
     refine fun dt et bR cc base okin dk dj σ a w Q S eA=>wpIn_seq ?_
     refine bK dt et bR cc base okin dk dj σ a w _ S fun hp a1 nu hd dO=>?_
     have:=eA hp a1 nu hd dO
     cases ex with
     | normal=>exact absurd he (cp aD)
     | exit id=>exact this
     | ret=>exact this
 | cond x y z=>
   simp only[gj] at I
   split at I<;>try(cases I;done)
   rename_i qm Bh Oi av bj aV
   cases I
   simp only at he
   split at he<;>try(cases he;done)
   rename_i t a'
   cases t with
   | true=>
     simp only[if_true] at he
     have bK:=b_ N Y y Bh s ex aD bj he
     refine fun dt et bR cc base okin dk dj σ a w Q S eA=>?_
     have r:=S.cg.ez av
     rw[a'] at r
     exact wpIn_cond_true r.qZ (bK dt et bR cc base okin dk dj σ a w Q S eA)
   | false=>
     simp only[Bool.false_eq_true,if_false] at he
     have bK:=b_ N Y z Oi s ex aD aV he
     refine fun dt et bR cc base okin dk dj σ a w Q S eA=>?_
     have r:=S.cg.ez av
     rw[a'] at r
     exact wpIn_cond_false r.qZ (bK dt et bR cc base okin dk dj σ a w Q S eA)
 | block id x=>
   simp only[gj] at I
   obtain⟨qm,av,rfl⟩:=Option.map_eq_some_iff.1 I
   simp only at he
   split at he
   · rename_i i s1 ae
     have bK:=b_ N Y x qm s _ s1 av ae
     have aP:s1=aD:=by split at he<;>(cases he;rfl)
     subst aP
     refine fun dt et bR cc base okin dk dj σ a w Q S eA=>wpIn_block ?_
     refine bK dt et bR cc base okin dk dj σ a w _ S fun hp a1 nu hd dO=>?_
     have:=eA hp a1 nu hd dO
     simp only[lW,Exit.inBlock]
     split at he
     · rename_i b8
       cases he
       rw[if_pos b8];exact this
     · rename_i b8
       cases he
       rw[if_neg b8];exact this
   · rename_i cp
     have bK:=b_ N Y x qm s ex aD av he
     refine fun dt et bR cc base okin dk dj σ a w Q S eA=>wpIn_block ?_
     refine bK dt et bR cc base okin dk dj σ a w _ S fun hp a1 nu hd dO=>?_
     have:=eA hp a1 nu hd dO
     cases ex with
     | normal=>exact this
     | exit i=>exact absurd he (cp i aD)
     | ret=>exact this
 | loop x=>
   simp only[gj] at I
   obtain⟨qm,av,rfl⟩:=Option.map_eq_some_iff.1 I
   have bK:=Fw av (n+1) fX s ex aD yg
   exact fun dt et bR cc base okin dk dj σ a w Q S eA=>wpIn_loop_rounds (n+1) (bK dt et bR cc base okin dk dj σ a w Q S eA)
 | rangeFunc x ps ei body=>
   simp only[gj] at I
   split at I<;>try(cases I;done)
   rename_i f wv wx av bF au
   split at I<;>try(cases I;done)
   rename_i yh
   cases I
   exact fun dt et bR cc base okin dk dj σ a w Q S eA=>N7 b_ av bF au yh yg dt et bR cc base okin dk dj σ a w Q S eA
 | scope x=>
   simp only[gj] at I
   obtain⟨qm,av,rfl⟩:=Option.map_eq_some_iff.1 I
   simp only at he
   cases n with
   | zero=>
     have aS:exec G (bk P) tab 0 Y .skip s=none:=by unfold exec;rfl
     rw[aS] at he;cases he
   | succ n=>
     have aS:exec G (bk P) tab (n+1) Y .skip s=some (.normal,s):=by rw[gC]
     rw[aS] at he
     simp only at he
     have bK:=b_ N Y x qm s ex aD av he
     refine fun dt et bR cc base okin dk dj σ a w Q S eA=>Of ?_
     refine bK dt et bR cc base okin dk dj σ a w _ S fun hp a1 nu hd dO=>?_
     have:=eA hp a1 nu hd dO
     cases ex<;>exact this
 | label _=>
   simp only[gj] at I;cases I
   cases he
   exact fun dt et bR cc base okin dk dj σ a w Q S eA=>wpIn_label (eA σ a w S (dP.refl ..))
 | goto _=>simp only[gj] at I;cases I
 | refuse _=>simp only[gj] at I;cases I
theorem Bi (n:Nat) (f:FuncId) (args:List J) (h:aF):xG G (bk P) tab n Y f args h=k1 G (bk P) tab n Y f args h:=rfl
theorem ym (hm:P.follows .mixedOrders=true) (lV:∀f T,tab f=some T->bl P G f T) {f:FuncId} {T:List J->Option J}
 (dn:∀args v,T args=some v->∃n,m5 G (bk P) tab n f args=some v):bl P G f T:=by
 intro args v aY ok w eb dC fK ra
 obtain⟨n,aC⟩:=dn args v aY
 unfold m5 at aC
 obtain⟨p,ae,h2⟩:=Option.bind_eq_some_iff.1 aC
 obtain⟨u,ay⟩:=p
 obtain⟨q,aO,a2⟩:=Option.map_eq_some_iff.1 h2
 obtain⟨kA,ids⟩:=q
 cases a2
 rw[Bi] at ae
 have H:dd w.heap.size ok (fun _=>none) aS w:=⟨fun id b sz h=>(by cases h),fun id blk h=>(by cases h),fun id gn b sz fU h=>(by cases h),Nat.le_refl _⟩
 have kB:∀b,b<w.heap.size->ok b->b5 w.heap.size ok (fun _=>none) aS b:=fun b au a4=> .inl ⟨au,a4⟩
 have st:tF w w ok (b5 w.heap.size ok (fun _=>none) aS):=fun b o au _ a4=>⟨kB b (qg au) a4,rfl⟩
 obtain⟨d1,d2⟩:=A9 (Og hm lV n) ae w.heap.size ok (fun _=>none) w eb H ⟨fun id p h=>(by cases h),fun id gn p qh l s aD h=>(by cases h)⟩ (fun L a_=>absurd a_ (by simp)) dC (fun i an cC=> .val _ _ ((fK i an cC).mono st))
  (fun g u bq=>(ra g u bq).mono st (fun _ _ h=>h) (fun _=>Nat.le_refl _)) (fun _ _=>rfl)
 refine .inl ⟨d1,d2.mono fun e bh eu=>?_⟩
 obtain⟨cv,he,bN,p,Oj,_,r,_,_⟩:=eu
 refine⟨cv,he,(Nn Oj r aO).r6 fun b _ au=>?_,p.below⟩
 rcases au with au|au
 · exact .inl au.2
 · exact .inr au.1
end
#print axioms ym
end Go.Eng
