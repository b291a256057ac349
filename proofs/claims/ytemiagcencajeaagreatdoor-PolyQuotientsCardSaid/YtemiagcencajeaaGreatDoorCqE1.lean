import Derived.Orders
import Derived.Below
import Derived.Laws.CopyRow
import Derived.Laws.MakeOwn
set_option linter.unusedSimpArgs false
set_option linter.unusedVariables false
set_option linter.unusedSectionVars false
namespace Go.Eng
open Go
inductive J where
 | undef
 | kv
 | int (k:IntKind) (n:Int)
 | bool (b:Bool)
 | str (s:ByteArray)
 | sl (xs:List J) (ex:Bool)
 | ref (id off len cap:Nat)
 | ptr (id idx cQ:Nat)
 | eV (v:J)
 | fn (f:FuncId) (first caps:List J)
 | nilfn
 | fX (id:Nat)
 | mp (adN:List (Int × FuncId))
 | agg (cs:List J)
 | bD (vs:List J)
 deriving Inhabited
def J.cells:J->List J
 | .agg cs=>cs
 | v=>[v]
def J.ch:J->Bool
 | .undef| .kv| .agg _| .bD _=>false
 | _=>true
def J.dO:J->Bool
 | .int .. | .bool _| .str _| .sl .. | .nilfn| .fn _ [] []=>true
 | _=>false
def J.dJ (v:J):Bool:=v.cells.all J.dO
def partOf (bZ:Bool) (cs:List J):Option J:=
 if bZ then some (.agg cs) else match cs with
  | [c]=>if c.ch=true then some c else none
  | _=>none
def cut (cs:List J) (off sz:Nat):Option (List J):=if off+sz<=cs.length then some ((cs.drop off).take sz) else none
def eW (cs:List J) (off:Nat) (vs:List J):List J:=cs.take off++vs++cs.drop (off+vs.length)
inductive de where
 | normal
 | exit (id:Nat)
 | ret
inductive fr where
 | ready
 | busy
 | done (e:de)
structure af where
 cells:Nat->Option (List J)
 shut:Nat->Bool
 next:Nat
 a7:Nat->Option fr:=fun _=>none
def aw {α:Type} (f:Nat->α) (k:Nat) (v:α):Nat->α:=fun i=>if i=k then v else f i
structure aW where
 F:Nat->J
 h:af
inductive a6 where
 | t (n:Nat)
 | c (v:J)
 | g (i:Nat)
 | f (n:FuncId)
 deriving Inhabited
inductive j7 where
 | mv (x:a6)
 | pick (c a b:a6)
 | alloc (z:J)
 | box (x:a6)
 | build (z:List J) (ps:List (Nat × Nat × a6))
 | bsl (sz:Nat) (z:J) (n:Nat) (ps:List (Nat × a6))
 | load (bZ:Bool) (sz:Nat) (x:a6)
 | store (sz:Nat) (a v:a6)
 | bin (ty:Nat) (op:BinOp) (x y:a6)
 | eqA (neg:Bool) (n:Nat) (x y:a6)
 | un (op:UnOp) (x:a6)
 | conv (k:IntKind) (x:a6)
 | mkfn (f:FuncId) (first caps:List a6)
 | mksl (z:J) (sz bytes:Nat) (l c:a6)
 | slice (sz:Nat) (x:a6) (cu ab j8:Option a6)
 | faddr (bZ:Bool) (off sz:Nat) (x:a6)
 | field (bZ:Bool) (off sz:Nat) (x:a6)
 | iaddrS (sz:Nat) (x i:a6)
 | iaddrA (bZ:Bool) (n sz:Nat) (x i:a6)
 | idxA (bZ:Bool) (n sz:Nat) (x i:a6)
 | idxS (x i:a6)
 | extract (x:a6) (i:Nat)
 | call (f:a6) (args:List a6)
 | len (str:Bool) (x:a6)
 | mlook (x i:a6)
 | isnil (neg:Bool) (x:a6)
 | app (sz bytes:Nat) (x y:a6)
 | min (xs:List a6)
 | max (xs:List a6)
 deriving Inhabited
def a6.rd:a6->List Nat
 | .t n=>[n]
 | _=>[]
def a6.xB:Option a6->List Nat
 | some x=>x.rd
 | none=>[]
def j7.reads:j7->List Nat
 | .mv x| .box x| .load _ _ x| .un _ x| .conv _ x| .faddr _ _ _ x| .field _ _ _ x| .extract x _| .len _ x| .isnil _ x=>x.rd
 | .pick c a b=>c.rd++a.rd++b.rd
 | .alloc _=>[]
 | .build _ ps=>ps.flatMap fun p=>p.2.2.rd
 | .bsl _ _ _ ps=>ps.flatMap fun p=>p.2.rd
 | .store _ a v=>a.rd++v.rd
 | .bin _ _ x y| .eqA _ _ x y| .mksl _ _ _ x y| .iaddrS _ x y| .iaddrA _ _ _ x y| .idxA _ _ _ x y| .idxS x y| .app _ _ x y| .mlook x y=>x.rd++y.rd
 | .mkfn _ a b=>a.flatMap a6.rd++b.flatMap a6.rd
 | .slice _ x cu ab j8=>x.rd++a6.xB cu++a6.xB ab++a6.xB j8
 | .call f as=>f.rd++as.flatMap a6.rd
 | .min xs| .max xs=>xs.flatMap a6.rd
structure a_ where
 dst:Option Nat
 op:j7
 guard:Option (Nat × Bool)
 deriving Inhabited
abbrev a_.m (a b:Nat):a_:=⟨some a,.mv (.t b),none⟩
abbrev a_.o (a:Nat) (o:j7):a_:=⟨some a,o,none⟩
abbrev a_.n (o:j7):a_:=⟨none,o,none⟩
abbrev a_.g (a:Nat) (o:j7) (t:Nat) (w:Bool):a_:=⟨some a,o,some (t,w)⟩
def a_.reads (e:a_):List Nat:=(match e.guard with
 | some (t,_)=>[t]
 | none=>[])++e.op.reads
def a_.apart (e f:a_):Bool:=
 (match e.dst with
  | some d=>!(f.reads.contains d)&&f.dst != some d
  | none=>true)&&
 (match f.dst with
  | some d=>!(e.reads.contains d)
  | none=>true)
inductive dk where
 | skip
 | region (draw:Bool) (ops:List a_) (eX:List Nat)
 | seq (a b:dk)
 | cond (c:a6) (a b:dk)
 | block (id:Nat) (c:dk)
 | loop (c:dk)
 | k5 (f:a6) (ps:List Nat) (dK body:dk)
 | exit (id:Nat)
 | ret
 deriving Inhabited
inductive mr where
 | tmp (t:Nat)
 | cell (t:Nat) (bZ:Bool) (sz:Nat)
 deriving Inhabited
structure aZ where
 body:dk
 res:List mr
 deriving Inhabited
inductive dV where
 | pure|rd|fs|wr
 | jD (id:Nat)
 | lh (qw:Nat->Bool)
mutual
def J.beq:J->J->Bool
 | .undef,.undef=>true
 | .kv,.kv=>true
 | .int k n,.int k' O4=>decide (k=k')&&decide (n=O4)
 | .bool a,.bool b=>decide (a=b)
 | .str a,.str b=>decide (a=b)
 | .sl xs e,.sl ys f=>mQ xs ys&&decide (e=f)
 | .ref a b c d,.ref eE j9 c' ph=>decide (a=eE)&&decide (b=j9)&&decide (c=c')&&decide (d=ph)
 | .ptr a b c,.ptr eE j9 c'=>decide (a=eE)&&decide (b=j9)&&decide (c=c')
 | .eV a,.eV b=>J.beq a b
 | .fn f a b,.fn g c d=>decide (f=g)&&mQ a c&&mQ b d
 | .nilfn,.nilfn=>true
 | .fX a,.fX b=>decide (a=b)
 | .mp m,.mp lj=>decide (m=lj)
 | .agg a,.agg b=>mQ a b
 | .bD a,.bD b=>mQ a b
 | _,_=>false
def mQ:List J->List J->Bool
 | [],[]=>true
 | x::xs,y::ys=>J.beq x y&&mQ xs ys
 | _,_=>false
end
mutual
theorem J.beq_eq:∀(a b:J),J.beq a b=true->a=b
 | .undef,b,h=>by cases b<;>simp_all[J.beq]
 | .kv,b,h=>by cases b<;>simp_all[J.beq]
 | .int k n,b,h=>by cases b<;>simp_all[J.beq]
 | .bool a,b,h=>by cases b<;>simp_all[J.beq]
 | .str a,b,h=>by cases b<;>simp_all[J.beq]
 | .sl xs e,b,h=>by
   cases b<;>simp only[J.beq,Bool.and_eq_true,decide_eq_true_eq,Bool.false_eq_true] at h
   rw[rR _ _ h.1,h.2]
 | .ref a b c d,x,h=>by cases x<;>simp_all[J.beq]
 | .ptr a b c,x,h=>by cases x<;>simp_all[J.beq]
 | .eV a,b,h=>by
   cases b<;>simp only[J.beq,Bool.false_eq_true] at h
   rw[J.beq_eq _ _ h]
 | .fn f a b,x,h=>by
   cases x<;>simp only[J.beq,Bool.and_eq_true,decide_eq_true_eq,Bool.false_eq_true] at h
   rw[h.1.1,rR _ _ h.1.2,rR _ _ h.2]
 | .nilfn,b,h=>by cases b<;>simp_all[J.beq]
 | .fX a,b,h=>by cases b<;>simp_all[J.beq]
 | .mp m,b,h=>by cases b<;>simp_all[J.beq]
 | .agg a,b,h=>by
   cases b<;>simp only[J.beq,Bool.false_eq_true] at h
   rw[rR _ _ h]
 | .bD a,b,h=>by
   cases b<;>simp only[J.beq,Bool.false_eq_true] at h
   rw[rR _ _ h]
theorem rR:∀(a b:List J),mQ a b=true->a=b
 | [],[],_=>rfl
 | [],_::_,h=>by simp[mQ] at h
 | _::_,[],h=>by simp[mQ] at h
 | x::xs,y::ys,h=>by
   simp only[mQ,Bool.and_eq_true] at h
   rw[J.beq_eq _ _ h.1,rR _ _ h.2]
end
mutual
theorem J.beq_refl:∀(a:J),J.beq a a=true
 | .undef| .kv| .int _ _| .bool _| .str _| .ref _ _ _ _| .ptr _ _ _| .nilfn| .fX _| .mp _=>by simp[J.beq]
 | .sl xs e=>by simp[J.beq,pj xs]
 | .eV a=>by simp[J.beq,J.beq_refl a]
 | .fn f a b=>by simp[J.beq,pj a,pj b]
 | .agg a=>by simp[J.beq,pj a]
 | .bD a=>by simp[J.beq,pj a]
theorem pj:∀(a:List J),mQ a a=true
 | []=>rfl
 | x::xs=>by simp[mQ,J.beq_refl x,pj xs]
end
def xC:Option (List J)->Option (List J)->Bool
 | none,none=>true
 | some a,some b=>mQ a b
 | _,_=>false
theorem O5 {a b:Option (List J)} (h:xC a b=true):a=b:=by
 cases a<;>cases b<;>simp only[xC,Bool.false_eq_true] at h
 · rfl
 · rw[rR _ _ h]
theorem xD (a:Option (List J)):xC a a=true:=by
 cases a
 · rfl
 · exact pj _
section eval
variable (G:Nat->Option J)
def a6.ev (F:Nat->J):a6->J
 | .t n=>F n
 | .c v=>v
 | .g i=>match G i with
   | some v=> .eV v
   | none=> .undef
 | .f n=> .fn n [] []
def iX (op:BinOp) (k:IntKind) (a b:Int):Option J:=
 match op with
 | .add=>some (.int k (k.wrap (a+b)))
 | .sub=>some (.int k (k.wrap (a - b)))
 | .mul=>some (.int k (k.wrap (a*b)))
 | .quo=>if b=0 then none else some (.int k (k.wrap (a.tdiv b)))
 | .rem=>if b=0 then none else some (.int k (a.tmod b))
 | .and=>some (.int k (k.wrap ((BitVec.ofInt k.bits a&&&BitVec.ofInt k.bits b).toNat)))
 | .or=>some (.int k (k.wrap ((BitVec.ofInt k.bits a|||BitVec.ofInt k.bits b).toNat)))
 | .xor=>some (.int k (k.wrap ((BitVec.ofInt k.bits a ^^^ BitVec.ofInt k.bits b).toNat)))
 | .andNot=>some (.int k (k.wrap ((BitVec.ofInt k.bits a&&& ~~~(BitVec.ofInt k.bits b)).toNat)))
 | .eql=>some (.bool (a == b))
 | .neq=>some (.bool (a != b))
 | .lss=>some (.bool (decide (a<b)))
 | .leq=>some (.bool (decide (a<=b)))
 | .gtr=>some (.bool (decide (a>b)))
 | .geq=>some (.bool (decide (a>=b)))
 | _=>none
def iA (op:BinOp) (k:IntKind) (a b:Int):Option J:=
 if b<0 then none else
 match op with
 | .shl=>some (.int k (k.wrap (a*2^(Min.min b.toNat k.bits))))
 | .shr=>some (.int k (a.fdiv (2^(Min.min b.toNat k.bits))))
 | _=>none
def ft (ty:Nat) (op:BinOp):J->J->Option J
 | .int k a,.int k' b=>if op= .shl\/op= .shr then iA op k a b else if k=k' then iX op k a b else none
 | .bool a,.bool b=>if ty=1 then match op with
   | .eql=>some (.bool (a == b))
   | .neq=>some (.bool (!(a == b)))
   | _=>none else none
 | .str a,.str b=>match op with
   | .eql=>some (.bool (a.toList == b.toList))
   | .neq=>some (.bool (!(a.toList == b.toList)))
   | _=>none
 | _,_=>none
def fu (op:UnOp):J->Option J
 | .int k n=>match op with
   | .neg=>some (.int k (k.wrap (0 - n)))
   | .xor=>some (.int k (k.wrap ((BitVec.ofInt k.bits (if k.signed then -1 else k.max) ^^^ BitVec.ofInt k.bits n).toNat)))
   | _=>none
 | .bool b=>match op with
   | .not=>some (.bool !b)
   | _=>none
 | _=>none
def eY:List J->List J->Option Bool
 | [],[]=>some true
 | .int k a::xs,.int k' b::ys=>if k=k' then (eY xs ys).map fun r=>(a == b)&&r else none
 | _,_=>none
def eZ (cells:List J) (bh:a6->J):List (Nat × Nat × a6)->Option (List J)
 | []=>some cells
 | (off,size,x)::rest=>
   if (bh x).cells.length=size/\off+size<=cells.length/\((bh x).cells.all J.ch)=true then eZ (eW cells off (bh x).cells) bh rest else none
def e0 (sz:Nat) (es:List J) (bh:a6->J):List (Nat × a6)->Option (List J)
 | []=>some es
 | (i,x)::rest=>
   if (bh x).cells.length=sz/\i<es.length/\(bh x).dJ=true then e0 sz (es.set i (bh x)) bh rest else none
def bound (d:Nat) (bh:a6->J):Option a6->Option Nat
 | none=>some d
 | some x=>match bh x with
   | .int _ n=>if 0<=n then some n.toNat else none
   | _=>none
def elems (h:af):J->Option (List J)
 | .sl xs _=>some xs
 | .ref id off len _=>match h.cells id with
   | some blk=>if off+len<=blk.length then some ((blk.drop off).take len) else none
   | none=>none
 | _=>none
def sizedB (sz:Nat):Option (List J)->Bool
 | some blk=>decide (0<blk.length)&&blk.all fun e=>e.cells.length == sz
 | none=>false
def kg:J->Bool
 | .sl .. =>true
 | _=>false
def dE (h:af):J->Option (J × List Nat)
 | .ref id off len _=>match h.cells id with
   | some blk=>if off+len<=blk.length/\(blk.all J.dJ)=true then some (.sl ((blk.drop off).take len) false,[id]) else none
   | none=>none
 | .int k n=>some (.int k n,[])
 | .bool b=>some (.bool b,[])
 | .str s=>some (.str s,[])
 | .sl xs e=>some (.sl xs e,[])
 | .nilfn=>some (.nilfn,[])
 | .mp m=>some (.mp m,[])
 | _=>none
def ey (h:af):List J->Option (List J × List Nat)
 | []=>some ([],[])
 | v::vs=>match dE h v,ey h vs with
   | some (j_,a),some (mu,b)=>some (j_::mu,a++b)
   | _,_=>none
def iu (h:af):J->Option (J × List Nat)
 | .agg cs=>(ey h cs).map fun(jE,a)=>(.agg jE,a)
 | v=>dE h v
def eh (h:af):List J->Option (List J × List Nat)
 | []=>some ([],[])
 | v::vs=>match iu h v,eh h vs with
   | some (j_,a),some (mu,b)=>some (j_::mu,a++b)
   | _,_=>none
def jl (h:af):J->Option (J × List Nat)
 | .bD vs=>(eh h vs).map fun(mu,a)=>(.bD mu,a)
 | v=>iu h v
def af.close (h:af) (ids:List Nat):af:={h with shut:=fun k=>h.shut k||ids.contains k}
def af.new (h:af) (r:Nat) (blk:List J):af:={h with cells:=aw h.cells r (some blk)}
def jm (f:Int->Int->Int):List J->Option J
 | [.int k a]=>some (.int k a)
 | .int k a:: .int k' b::rest=>if k=k' then jm f (.int k (f a b)::rest) else none
 | _=>none
termination_by l=>l.length
def evalOp (bb r:Nat) (bh:a6->J) (h:af):j7->Option (J × af × dV)
 | .mv x=>some (bh x,h,.pure)
 | .pick c a b=>match bh c with
   | .bool t=>some (if t then bh a else bh b,h,.pure)
   | _=>none
 | .alloc z=>some (.ptr r 0 0,h.new r [z],.fs)
 | .box x=>if (bh x).cells.all J.ch then some (.ptr r 0 0,h.new r [bh x],.fs) else none
 | .build z ps=>(eZ z bh ps).map fun cs=>(.agg cs,h,.pure)
 | .bsl sz z n ps=>if z.cells.length=sz/\0<sz/\z.dJ=true then (e0 sz (List.replicate n z) bh ps).map fun es=>(.sl es true,h,.pure) else none
 | .load bZ sz x=>match bh x with
   | .eV v=>(cut v.cells 0 sz).bind fun cs=>(partOf bZ cs).map fun u=>(u,h,.pure)
   | .ptr id idx cQ=>(h.cells id).bind fun blk=>(blk[idx]?).bind fun e=>(cut e.cells cQ sz).bind fun cs=>(partOf bZ cs).map fun u=>(u,h,if id<bb then .jD id else .wr)
   | _=>none
 | .store sz a v=>match bh a with
   | .ptr id idx cQ=>
     if h.shut id=true then none else
     (h.cells id).bind fun blk=>(blk[idx]?).bind fun e=>
       if (bh v).cells.length=sz/\cQ+sz<=e.cells.length/\((bh v).cells.all J.ch)=true then
        match e with
        | .agg cs=>some (.undef,h.new id (blk.set idx (.agg (eW cs cQ (bh v).cells))),.wr)
        | _=>match (bh v).cells with
          | [u]=>some (.undef,h.new id (blk.set idx u),.wr)
          | _=>none
       else none
   | _=>none
 | .bin ty op x y=>(ft ty op (bh x) (bh y)).map fun v=>(v,h,.pure)
 | .eqA neg n x y=>match bh x,bh y with
   | .agg xs,.agg ys=>if xs.length=n then (eY xs ys).map fun b=>(.bool (b != neg),h,.pure) else none
   | _,_=>none
 | .un op x=>(fu op (bh x)).map fun v=>(v,h,.pure)
 | .conv k x=>match bh x with
   | .int _ n=>some (.int k (k.wrap n),h,.pure)
   | _=>none
 | .mkfn f first caps=>some (.fn f (first.map bh) (caps.map bh),h,.pure)
 | .mksl z sz bytes l c=>match bh l,bh c with
   | .int _ a,.int _ b=>
     if 0<=a/\a<=b/\b*bytes<=140737488355328/\0<bytes/\z.cells.length=sz/\0<sz/\(z.cells.all J.ch)=true
     then some (.ref r 0 a.toNat b.toNat,h.new r (List.replicate b.toNat z),.fs) else none
   | _,_=>none
 | .slice sz x cu ab j8=>match bh x with
   | .ref id off len cap=>match bound 0 bh cu,bound len bh ab,bound cap bh j8 with
     | some l,some u,some m=>if l<=u/\u<=m/\m<=cap/\(l=0\/sizedB sz (h.cells id)=true) then some (.ref id (off+l) (u - l) (m - l),h,if id<bb then .rd else .wr) else none
     | _,_,_=>none
   | .sl xs ex=>match bound 0 bh cu,bound xs.length bh ab,bound xs.length bh j8 with
     | some l,some u,some m=>if l<=u/\u<=m/\m<=xs.length/\(l=0\/(xs.all fun e=>e.cells.length == sz)=true) then some (.sl ((xs.drop l).take (u - l)) ((j8.isSome||ex)&&m == u),h,.pure) else none
     | _,_,_=>none
   | _=>none
 | .faddr bZ off sz x=>match bh x with
   | .eV v=>(cut v.cells off sz).bind fun cs=>(partOf bZ cs).map fun u=>(.eV u,h,.pure)
   | .ptr id idx cQ=>some (.ptr id idx (cQ+off),h,.pure)
   | _=>none
 | .field bZ off sz x=>match bh x with
   | .agg cs=>(cut cs off sz).bind fun cs=>(partOf bZ cs).map fun u=>(u,h,.pure)
   | _=>none
 | .iaddrS sz x i=>match bh x,bh i with
   | .sl xs _,.int _ n=>if 0<=n then (xs[n.toNat]?).bind fun e=>if e.cells.length=sz then some (.eV e,h,.pure) else none else none
   | .ref id off len _,.int _ n=>if 0<=n/\n<len/\sizedB sz (h.cells id)=true then some (.ptr id (off+n.toNat) 0,h,if id<bb then .rd else .wr) else none
   | _,_=>none
 | .iaddrA bZ n sz x i=>match bh x,bh i with
   | .eV v,.int _ j=>if 0<=j/\j<n then (cut v.cells (j.toNat*sz) sz).bind fun cs=>(partOf bZ cs).map fun u=>(.eV u,h,.pure) else none
   | .ptr id idx cQ,.int _ j=>if 0<=j/\j<n then some (.ptr id idx (cQ+j.toNat*sz),h,.pure) else none
   | _,_=>none
 | .idxA bZ n sz x i=>match bh x,bh i with
   | .agg cs,.int _ j=>if 0<=j/\j<n then (cut cs (j.toNat*sz) sz).bind fun cs=>(partOf bZ cs).map fun u=>(u,h,.pure) else none
   | _,_=>none
 | .idxS x i=>match bh x,bh i with
   | .str s,.int _ j=>if 0<=j then (s[j.toNat]?).map fun b=>(.int .u8 b.toNat,h,.pure) else none
   | _,_=>none
 | .extract x i=>match bh x with
   | .bD vs=>(vs[i]?).map fun v=>(v,h,.pure)
   | _=>none
 | .len str x=>match bh x with
   | .sl xs _=>if str=false then some (.int .i64 xs.length,h,.pure) else none
   | .ref _ _ len _=>if str=false then some (.int .i64 len,h,.pure) else none
   | .str s=>if str=true then some (.int .i64 s.size,h,.pure) else none
   | _=>none
 | .mlook x i=>match bh x,bh i with
   | .mp m,.int .i64 n=>some (.bD [match m.lookup n with
     | some f=> .fn f [] []
     | none=> .nilfn,.bool (m.lookup n).isSome],h,.pure)
   | _,_=>none
 | .isnil neg x=>match bh x with
   | .sl xs _=>if 0<xs.length then some (.bool neg,h,.pure) else none
   | .ref _ _ len cap=>if 0<len\/0<cap then some (.bool neg,h,.pure) else none
   | _=>none
 | .app sz bytes x y=>(elems h (bh y)).bind fun ys=>
   if 0<sz/\0<bytes/\(ys.all fun e=>e.cells.length == sz&&e.cells.all J.ch)=true then
    match bh x with
    | .sl xs ex=>if ys.length=0 then some (.sl xs ex,h,if kg (bh y) then .pure else .wr) else if ex=true/\(xs.length+ys.length)*bytes<=35184372088832/\0<ys.length/\(xs.all fun e=>e.cells.length == sz)=true
        then some (.ref r 0 (xs.length+ys.length) (xs.length+ys.length),h.new r (xs++ys),if kg (bh y) then .fs else .wr) else none
    | .ref id off len cap=>if ys.length=0 then some (.ref id off len cap,h,if kg (bh y) then .pure else .wr) else if h.shut id=true then none else (h.cells id).bind fun blk=>
        if off+len<=blk.length/\(len+ys.length)*bytes<=35184372088832/\0<ys.length/\(blk.all fun e=>e.cells.length == sz)=true then
         if len+ys.length<=cap then
          if off+cap<=blk.length then some (.ref id off (len+ys.length) cap,h.new id (blk.take (off+len)++ys++blk.drop (off+len+ys.length)),.wr) else none
         else if off=0/\0<len then some (.ref r 0 (len+ys.length) (len+ys.length),{h with cells:=aw (aw h.cells id none) r (some (blk.take len++ys))},.wr) else none
        else none
    | _=>none
   else none
 | .min xs=>(jm (fun a b=>if b<a then b else a) (xs.map bh)).map fun v=>(v,h,.pure)
 | .max xs=>(jm (fun a b=>if a<b then b else a) (xs.map bh)).map fun v=>(v,h,.pure)
 | .call .. =>none
end eval
def cD (F:Nat->J) (d:Option Nat) (v:J):Nat->J:=
 match d with
 | some t=>aw F t v
 | none=>F
def qx (bb:Nat) (h h':af):Nat->Bool:=fun id=>decide (id<bb)&&xC (h.cells id) (h'.cells id)
def kx:dV->dV->Bool
 | .pure,_|_,.pure=>true
 | .jD id,.lh k| .lh k,.jD id=>k id
 | .lh _,.fs=>true
 | .wr,_|_,.wr=>false
 | .lh _,_|_,.lh _=>false
 | _,_=>true
def tw (cs:List dV) (rS:List Nat):Bool:=
 cs.zipIdx.all fun(c,j)=>cs.zipIdx.all fun(d,i)=>!(decide (i<j))||(rS.getD j 0).testBit i||kx d c
section exec
variable (G:Nat->Option J) (Φ:FuncId->Option aZ) (tab:FuncId->Option (List J->Option J))
def dW (args:List J):Nat->J:=fun i=>args.getD i .undef
def e1 (h:af) (F:Nat->J):mr->Option J
 | .tmp t=>some (F t)
 | .cell t bZ sz=>match F t with
   | .ptr id idx cQ=>(h.cells id).bind fun blk=>(blk[idx]?).bind fun e=>(cut e.cells cQ sz).bind fun cs=>partOf bZ cs
   | _=>none
def d_ (h:af) (F:Nat->J) (rs:List mr):Option J:=
 (rs.mapM (e1 h F)).map fun
   | [v]=>v
   | vs=> .bD vs
inductive kO where
 | fn (f:FuncId)
 | lk (id:Nat)
def c4 (cl:kO->List J->af->Option (J × af)) (bb r:Nat) (e:a_) (s:aW):Option (aW × dV):=
 match e.op with
 | .call f args=>match f.ev G s.F with
   | .fn n first caps=>match tab n with
     | some T=>match eh s.h (first++args.map (a6.ev G s.F)++caps) with
       | some (vs,ids)=>(T vs).map fun v=>(⟨cD s.F e.dst v,s.h.close ids⟩,if ids.isEmpty then .pure else if ids.all (fun i=>decide (i<bb)) then .rd else .wr)
       | none=>none
     | none=>(cl (.fn n) (first++args.map (a6.ev G s.F)++caps) s.h).map fun(v,h')=>(⟨cD s.F e.dst v,h'⟩,.lh (qx bb s.h h'))
   | .fX id=>(cl (.lk id) (args.map (a6.ev G s.F)) s.h).map fun(v,h')=>(⟨cD s.F e.dst v,h'⟩,.wr)
   | _=>none
 | op=>(evalOp bb r (a6.ev G s.F) s.h op).map fun(v,h',c)=>(⟨cD s.F e.dst v,h'⟩,c)
def cE (cl:kO->List J->af->Option (J × af)) (bb r:Nat) (e:a_) (s:aW):Option (aW × dV):=
 match e.guard with
 | none=>c4 G tab cl bb r e s
 | some (t,want)=>match s.F t with
   | .bool b=>if b=want then c4 G tab cl bb r e s else some (⟨cD s.F e.dst .kv,s.h⟩,.pure)
   | .kv=>some (⟨cD s.F e.dst .kv,s.h⟩,.pure)
   | _=>none
def c2 (cl:kO->List J->af->Option (J × af)) (bb:Nat):List (a_ × Nat)->aW->Option (aW × List dV)
 | [],s=>some (s,[])
 | (e,i)::es,s=>match cE G tab cl bb (bb+i) e s with
   | some (aj,c)=>(c2 cl bb es aj).map fun(Bd,cs)=>(Bd,c::cs)
   | none=>none
def ez (cl:kO->List J->af->Option (J × af)) (draw:Bool) (ops:List a_) (eX:List Nat) (s:aW):Option aW:=
 match c2 G tab cl s.h.next ops.zipIdx ⟨s.F,{s.h with next:=s.h.next+ops.length}⟩ with
 | some (aj,cs)=>if !draw||tw cs eX then some aj else none
 | none=>none
structure cR where
 id:Nat
 F:Nat->J
 ps:List Nat
 dK:dk
 body:dk
def oo (id:Nat):List cR->Option (cR × List cR)
 | []=>none
 | L::Y=>if L.id=id then some (L,Y) else oo id Y
def nd (F:Nat->J):List Nat->List J->(Nat->J)
 | p::ps,v::vs=>nd (aw F p v) ps vs
 | _,_=>F
def af.set (h:af) (id:Nat) (p:Option fr):af:={h with a7:=aw h.a7 id p}
def exec:Nat->List cR->dk->aW->Option (de × aW)
 | 0,_,_,_=>none
 | n+1,Y,c,s=>match c with
   | .skip=>some (.normal,s)
   | .ret=>some (.ret,s)
   | .exit id=>some (.exit id,s)
   | .region draw ops eX=>(ez G tab
       (fun t args h=>match t with
         | .fn f=>match Φ f with
           | some fn=>match exec n Y fn.body ⟨dW args,h⟩ with
             | some (.normal,aj)|some (.ret,aj)=>(d_ aj.h aj.F fn.res).map fun v=>(v,aj.h)
             | _=>none
           | none=>none
         | .lk id=>match oo id Y with
           | some (L,Y')=>if L.ps.length=args.length then
              match exec n Y' L.dK ⟨nd L.F L.ps args,h⟩ with
              | some (.normal,s1)=>match s1.h.a7 id with
                | some .ready=>match exec n Y' L.body ⟨s1.F,s1.h.set id (some .busy)⟩ with
                  | some (e,aj)=>match aj.h.a7 id with
                    | some .busy=>match e with
                      | .normal=>some (.bool true,aj.h.set id (some .ready))
                      | e=>some (.bool false,aj.h.set id (some (.done e)))
                    | _=>none
                  | none=>none
                | _=>none
              | _=>none
             else none
           | none=>none) draw ops eX s).map fun aj=>(.normal,aj)
   | .seq a b=>match exec n Y a s with
     | some (.normal,aj)=>exec n Y b aj
     | r=>r
   | .cond x a b=>match x.ev G s.F with
     | .bool t=>if t then exec n Y a s else exec n Y b s
     | _=>none
   | .block id b=>match exec n Y b s with
     | some (.exit i,aj)=>if i=id then some (.normal,aj) else some (.exit i,aj)
     | r=>r
   | .loop b=>match exec n Y b s with
     | some (.normal,aj)=>exec n Y (.loop b) aj
     | r=>r
   | .k5 f ps dK body=>match f.ev G s.F with
     | .fn g first caps=>match Φ g with
       | some fn=>match exec n (⟨s.h.next,s.F,ps,dK,body⟩::Y) fn.body ⟨dW (first++ [.fX s.h.next]++caps),{s.h with next:=s.h.next+1,a7:=aw s.h.a7 s.h.next (some .ready)}⟩ with
         | some (.normal,aj)|some (.ret,aj)=>match d_ aj.h aj.F fn.res with
           | some _=>match aj.h.a7 s.h.next with
             | some .ready=>some (.normal,⟨s.F,aj.h.set s.h.next none⟩)
             | some (.done e)=>some (e,⟨s.F,aj.h.set s.h.next none⟩)
             | _=>none
           | none=>none
         | _=>none
       | none=>none
     | _=>none
def xE (n:Nat) (Y:List cR) (f:FuncId) (args:List J) (h:af):Option (J × af):=
 match Φ f with
 | some fn=>match exec G Φ tab n Y fn.body ⟨dW args,h⟩ with
   | some (.normal,aj)|some (.ret,aj)=>(d_ aj.h aj.F fn.res).map fun v=>(v,aj.h)
   | _=>none
 | none=>none
def aQ:af:={cells:=fun _=>none,shut:=fun _=>false,next:=0}
def mw (n:Nat) (f:FuncId) (args:List J):Option J:=
 (xE G Φ tab n [] f args aQ).bind fun(v,h)=>(jl h v).map (·.1)
end exec
end Go.Eng
namespace Go.Eng
open Go
def qy:Value->Option J
 | .int k n=>some (.int k n)
 | .bool b=>some (.bool b)
 | .string s=>some (.str s)
 | .slice none 0 0=>some (.sl [] true)
 | .nilFunc=>some .nilfn
 | _=>none
def xF:List Value->Option (List J)
 | []=>some []
 | v::vs=>match qy v,xF vs with
   | some a,some as=>some (a::as)
   | _,_=>none
def qz:Value->Option J
 | .agg cs=>(xF cs.toList).map .agg
 | v=>qy v
def ei:Operand->Option a6
 | .tmp t=>some (.t t)
 | .const v=>(qz v).map .c
 | .global g=>some (.g g)
 | .func f=>some (.f f)
def pk:List Operand->Option (List a6)
 | []=>some []
 | x::xs=>match ei x,pk xs with
   | some a,some as=>some (a::as)
   | _,_=>none
def rT:Option Operand->Option (Option a6)
 | none=>some none
 | some x=>(ei x).map some
section
variable (P:Program)
def jb (t:TypeId):Option Nat:=(P.info? t).map (·.size)
def Be (t:TypeId):Option Nat:=(P.info? t).map (·.bytes)
def zeroOf (t:TypeId):Option J:=(P.info? t).bind fun i=>i.zero.bind qz
def mR (t:TypeId):Option Bool:=
 match P.underlying t with
 | some (.struct _)|some (.array _ _)=>some true
 | some _=>some false
 | none=>none
def xG (cc:Array Field):List (Nat × Operand)->Option (List (Nat × Nat × a6))
 | []=>some []
 | (i,x)::r=>match cc[i]?,ei x,xG cc r with
   | some f,some y,some ps=>match jb P f.type with
     | some s=>some ((f.offset,s,y)::ps)
     | none=>none
   | _,_,_=>none
def Bf (cc:List Field):Bool:=cc.all fun f=>(jb P f.type).isSome
def xH (s:Nat):List (Nat × Operand)->Option (List (Nat × Nat × a6))
 | []=>some []
 | (i,x)::r=>match ei x,xH s r with
   | some y,some ps=>some ((i*s,s,y)::ps)
   | _,_=>none
def xI:List (Nat × Operand)->Option (List (Nat × a6))
 | []=>some []
 | (i,x)::r=>match ei x,xI r with
   | some y,some ps=>some ((i,y)::ps)
   | _,_=>none
def fN:Op->Option j7
 | .move x| .assign x=>(ei x).map .mv
 | .pick c a b=>match ei c,ei a,ei b with
   | some c,some a,some b=>some (.pick c a b)
   | _,_,_=>none
 | .alloc e=>(zeroOf P e).map .alloc
 | .box _ x=>(ei x).map .box
 | .build t ps=>match P.underlying t,zeroOf P t with
   | some (.struct cc),some z=>if Bf P cc.toList then (xG P cc ps.toList).map (.build z.cells) else none
   | some (.array _ e),some z=>match jb P e with
     | some s=>(xH s ps.toList).map (.build z.cells)
     | none=>none
   | _,_=>none
 | .buildSlice t n ps=>match P.underlying t with
   | some (.slice e)=>match jb P e,zeroOf P e,xI ps.toList with
     | some s,some z,some ps=>if n*s<=2^24 then some (.bsl s z n ps) else none
     | _,_,_=>none
   | _=>none
 | .load t x=>match mR P t,jb P t,ei x with
   | some bZ,some s,some x=>if bZ||s == 1 then some (.load bZ s x) else none
   | _,_,_=>none
 | .store t a v=>match jb P t,ei a,ei v with
   | some s,some a,some v=>some (.store s a v)
   | _,_,_=>none
 | .binOp op t x y _=>match ei x,ei y with
   | some ky,some oq=>match P.underlying t with
     | some (.int _)=>some (.bin 0 op ky oq)
     | some .bool=>some (.bin 1 op ky oq)
     | some .string=>some (.bin 2 op ky oq)
     | some (.array n e)=>match P.underlying e,jb P e with
       | some (.int _),some 1=>if op= .eql then some (.eqA false n ky oq) else if op= .neq then some (.eqA true n ky oq) else none
       | _,_=>none
     | some (.slice _)=>match oq with
       | .c (.sl [] true)=>if op= .eql then some (.isnil false ky) else if op= .neq then some (.isnil true ky) else none
       | _=>none
     | _=>none
   | _,_=>none
 | .lookup t x i true=>match P.underlying t with
   | some (.map k e)=>match P.underlying k,zeroOf P e,ei x,ei i with
     | some (.int .i64),some .nilfn,some x,some i=>some (.mlook x i)
     | _,_,_,_=>none
   | _=>none
 | .unOp op _ x=>(ei x).map (.un op)
 | .convert s d x=>match P.underlying s,P.underlying d,ei x with
   | some (.int _),some (.int k),some x=>some (.conv k x)
   | _,_,_=>none
 | .makeFunc (.func f) first caps=>match pk first.toList,pk caps.toList with
   | some a,some b=>some (.mkfn f a b)
   | _,_=>none
 | .makeSlice t l c=>match P.underlying t with
   | some (.slice e)=>match zeroOf P e,jb P e,Be P e,ei l,ei c with
     | some z,some s,some b,some l,some c=>some (.mksl z s b l c)
     | _,_,_,_,_=>none
   | _=>none
 | .slice t x cu ab j8=>match P.underlying t with
   | some (.slice e)=>match jb P e,ei x,rT cu,rT ab,rT j8 with
     | some s,some x,some cu,some ab,some j8=>if j8.isSome&&ab.isNone then none else some (.slice s x cu ab j8)
     | _,_,_,_,_=>none
   | _=>none
 | .fieldAddr s x f=>match P.underlying s with
   | some (.struct cc)=>match cc[f]? with
     | some f=>match mR P f.type,jb P f.type,ei x with
       | some bZ,some sz,some x=>if sz=0 then none else some (.faddr bZ f.offset sz x)
       | _,_,_=>none
     | none=>none
   | _=>none
 | .field s x f=>match P.underlying s with
   | some (.struct cc)=>match cc[f]? with
     | some f=>match mR P f.type,jb P f.type,ei x with
       | some bZ,some sz,some x=>if bZ||sz == 1 then some (.field bZ f.offset sz x) else none
       | _,_,_=>none
     | none=>none
   | _=>none
 | .indexAddr t x i=>match P.underlying t with
   | some (.slice e)=>match jb P e,ei x,ei i with
     | some s,some x,some i=>some (.iaddrS s x i)
     | _,_,_=>none
   | some (.array n e)=>match mR P e,jb P e,ei x,ei i with
     | some bZ,some s,some x,some i=>some (.iaddrA bZ n s x i)
     | _,_,_,_=>none
   | _=>none
 | .index t x i=>match P.underlying t with
   | some (.array n e)=>match mR P e,jb P e,ei x,ei i with
     | some bZ,some s,some x,some i=>if bZ||s == 1 then some (.idxA bZ n s x i) else none
     | _,_,_,_=>none
   | some .string=>match ei x,ei i with
     | some x,some i=>some (.idxS x i)
     | _,_=>none
   | _=>none
 | .extract x i=>(ei x).map fun x=> .extract x i
 | .panic _=>some (.extract (.c .undef) 0)
 | .call {callee:= .value f,args,..}=>match ei f,pk args.toList with
   | some f,some as=>some (.call f as)
   | _,_=>none
 | .call {callee:= .builtin .len,args,argTypes}=>match argTypes[0]?,args.toList with
   | some t,[x]=>match P.underlying t,ei x with
     | some (.slice _),some x=>some (.len false x)
     | some .string,some x=>some (.len true x)
     | _,_=>none
   | _,_=>none
 | .call {callee:= .builtin .append,args,argTypes}=>match argTypes.toList,args.toList with
   | [t,u],[x,y]=>match P.underlying t,P.underlying u with
     | some (.slice e),some (.slice _)=>match jb P e,Be P e,zeroOf P e,ei x,ei y with
       | some s,some b,some z,some x,some y=>if z.cells.length=s then some (.app s b x y) else none
       | _,_,_,_,_=>none
     | _,_=>none
   | _,_=>none
 | .call {callee:= .builtin .min,args,..}=>(pk args.toList).map .min
 | .call {callee:= .builtin .max,args,..}=>(pk args.toList).map .max
 | _=>none
def pn (N:Nat) (ops:Array Oper) (o:Oper):Option a_:=
 if o.dst.all (fun d=>decide (d<N)) then
  match fN P o.op with
  | some op=>match o.guard with
    | none=>some ⟨o.dst,op,none⟩
    | some (j,w)=>match (ops[j]?).bind (·.dst) with
      | some d=>some ⟨o.dst,op,some (d,w)⟩
      | none=>none
  | none=>none
 else none
def vw (N:Nat) (ops:Array Oper):List Oper->Option (List a_)
 | []=>some []
 | o::os=>match pn P N ops o,vw N ops os with
   | some e,some es=>some (e::es)
   | _,_=>none
def O6 (es:List a_) (b:List Nat):Bool:=
 es.zipIdx.all fun(e,j)=>es.zipIdx.all fun(f,i)=>!(decide (i<j))||(b.getD j 0).testBit i||f.apart e
def xJ (ops:Array Oper):Bool:=ops.toList.zipIdx.all fun(o,i)=>o.after.all fun e=>!Region.binds .any e||decide (e.on<i)
def xK (ops:Array Oper) (b:List Nat):Bool:=
 ops.toList.zipIdx.all fun(o,i)=>(List.range i).all fun k=>!((b.getD i 0).testBit k)||o.after.any fun e=>Region.binds .any e&&(e.on == k||(decide (k<e.on)&&(b.getD e.on 0).testBit k))
def fY (N:Nat):Code->Option dk
 | .skip=>some .skip
 | .region _ ops draw=>match vw P N ops ops.toList with
   | some es=>if draw then
      (let b:=(Region.before ops).toList
       if O6 es b&&xJ ops&&xK ops b&&Region.noSelect ops then some (.region true es b) else none)
     else some (.region false es [])
   | none=>none
 | .seq a b=>match fY N a,fY N b with
   | some a,some b=>some (.seq a b)
   | _,_=>none
 | .cond c a b=>match ei c,fY N a,fY N b with
   | some c,some a,some b=>some (.cond c a b)
   | _,_,_=>none
 | .block id c=>(fY N c).map (.block id)
 | .loop c=>(fY N c).map .loop
 | .rangeFunc f ps dK body=>match ei f,fY N dK,fY N body with
   | some f,some a,some b=>if ps.toList.all (fun p=>decide (p<N)) then some (.k5 f ps.toList a b) else none
   | _,_,_=>none
 | .exit id=>some (.exit id)
 | .ret=>some .ret
 | .scope c=>(fY N c).map (.seq .skip)
 | .label _=>some .skip
 | _=>none
def Bg:ResultVar->Option mr
 | .tmp t=>some (.tmp t)
 | .cell a t=>match mR P t,jb P t with
   | some bZ,some s=>if bZ||s == 1 then some (.cell a bZ s) else none
   | _,_=>none
def rU:List ResultVar->Option (List mr)
 | []=>some []
 | r::rs=>match Bg P r,rU rs with
   | some a,some as=>some (a::as)
   | _,_=>none
def Bh (fn:Func):Option aZ:=
 if fn.name == "runtime.NumGoroutine" then none else
 match fn.body with
 | some c=>match fY P fn.ntmps c,rU P fn.results.toList with
   | some b,some rs=>some ⟨b,rs⟩
   | _,_=>none
 | none=>none
def aR (f:FuncId):Option aZ:=(P.funcs[f]?).bind (Bh P)
end
end Go.Eng
namespace Go.Eng
open Go Go.RowKit
inductive dy (w:World) (ok:Nat->Prop):J->Value->Prop
 | int (k:IntKind) (n:Int):dy w ok (.int k n) (.int k n)
 | bool (b:Bool):dy w ok (.bool b) (.bool b)
 | str (s:ByteArray):dy w ok (.str s) (.string s)
 | nilfn:dy w ok .nilfn .nilFunc
 | fn (f:FuncId):dy w ok (.fn f [] []) (.func (.func f) #[] #[])
 | mp (m:List (Int × FuncId)) (r:Nat) (es:Array MapEntry) (clock:Nat):ok r->w.heap[r]? =some (.map es clock)->es.size=m.length->
    (∀i (h:i<m.length) (h':i<es.size),es[i].key= .int .i64 m[i].1/\es[i].val= .func (.func m[i].2) #[] #[])->dy w ok (.mp m) (.map (some r))
 | sl (xs:List J) (ex:Bool) (A:Option Addr) (c sz:Nat) (eo:Nat->Nat->Value):
    xs.length<=c->(ex=true->c=xs.length)->
    (∀i (h:i<xs.length),xs[i].cells.length=sz)->
    (∀i j,i<xs.length->j<sz->∃cy,A=some cy/\ok cy.block/\w.cell? (cy.add (i*sz+j))=some (eo i j))->
    (0<xs.length->A.isSome=true)->
    (∀i (h:i<xs.length) j (aO:j<xs[i].cells.length),dy w ok (xs[i].cells[j]) (eo i j))->
    dy w ok (.sl xs ex) (.slice A xs.length c)
 | agg (cs:List J) (vs:Array Value):vs.size=cs.length->
    (∀i (h:i<cs.length) (h':i<vs.size),dy w ok cs[i] vs[i])->dy w ok (.agg cs) (.agg vs)
 | bD (cs:List J) (vs:Array Value):vs.size=cs.length->
    (∀i (h:i<cs.length) (h':i<vs.size),dy w ok cs[i] vs[i])->dy w ok (.bD cs) (.tuple vs)
theorem Addr.qA (a:Addr) (n:Nat):(a.add n).block=a.block:=by unfold Addr.add;split<;>rfl
def tx (w a5:World) (ok ot:Nat->Prop):Prop:=∀b o,w.heap[b]? =some o->((∃arr ty e,o= .cells arr ty e)\/∃es clock,o= .map es clock)->ok b->ot b/\a5.heap[b]? =w.heap[b]?
theorem cells_of_cell {w:World} {cy:Addr} {v:Value} (h:w.cell? cy=some v):∃arr ty e,w.heap[cy.block]? =some (.cells arr ty e):=by
 unfold World.cell? at h
 split at h
 · rename_i arr ty e he;exact ⟨_,_,_,he⟩
 · cases h
theorem dy.mono {w a5:World} {ok ot:Nat->Prop} (ag:tx w a5 ok ot)
 {v:J} {cv:Value} (h:dy w ok v cv):dy a5 ot v cv:=by
 induction h with
 | int k n=>exact .int k n
 | bool b=>exact .bool b
 | str s=>exact .str s
 | nilfn=>exact .nilfn
 | fn f=>exact .fn f
 | mp m r es clock U h2 aN a8=>
   obtain⟨cr,eF⟩:=ag _ _ h2 (.inr ⟨_,_,rfl⟩) U
   exact .mp m r es clock cr (eF.trans h2) aN a8
 | sl xs ex A c sz eo U h2 aN a8 cr eF bj=>
   refine .sl xs ex A c sz eo U h2 aN (fun i j ab aO=>?_) cr bj
   obtain⟨cy,e,aL,I⟩:=a8 i j ab aO
   obtain⟨arr,ty,ax,mx⟩:=cells_of_cell I
   rw[Addr.qA] at mx
   obtain⟨nE,he⟩:=ag _ _ mx (.inl ⟨_,_,_,rfl⟩) aL
   refine⟨cy,e,nE,?_⟩
   rw[<-I]
   exact World.cell?_of_block (w:=w) (by rw[Addr.qA];exact he)
 | agg cs vs aG h bj=>exact .agg cs vs aG bj
 | bD cs vs aG h bj=>exact .bD cs vs aG bj
theorem dy.rV {w:World} {ok ot:Nat->Prop} (ag:∀b,b<w.heap.size->ok b->ot b) {v:J} {cv:Value} (h:dy w ok v cv):dy w ot v cv:=
 h.mono fun b o aa _ aL=>⟨ag b (by by_cases bF:b<w.heap.size;exact bF;rw[Array.getElem?_eq_none (by omega)] at aa;cases aa) aL,rfl⟩
def iB (w:World) (b:Nat):Nat:=match w.heap[b]? with
 | some (.cells arr _ _)=>arr.size
 | _=>0
inductive bf (w:World) (ok:Nat->Prop) (σ:Nat->Option (Nat × Nat)):J->Value->Prop
 | undef (cv:Value):bf w ok σ .undef cv
 | kv:bf w ok σ .kv Go.undef
 | val (v:J) (cv:Value):dy w ok v cv->bf w ok σ v cv
 | ref (id off len cap:Nat) (A:Option Addr) (c b sz:Nat):σ id=some (b,sz)->len<=c->cap<=c->
    (0<c->A=some ⟨b,off*sz,none⟩/\(off+c)*sz<=iB w b)->bf w ok σ (.ref id off len cap) (.slice A len c)
 | ptr (id idx cQ b sz:Nat):σ id=some (b,sz)->bf w ok σ (.ptr id idx cQ) (.pointer (some ⟨b,idx*sz+cQ,none⟩))
 | eV (v:J) (cy:Addr) (eo:Nat->Value):
    (∀j,j<v.cells.length->ok cy.block/\w.cell? (cy.add j)=some (eo j))->
    (∀j (h:j<v.cells.length),dy w ok (v.cells[j]) (eo j))->bf w ok σ (.eV v) (.pointer (some cy))
 | fX (id l s:Nat):σ id=some (l,s)->bf w ok σ (.fX id) (.func (.yield l) #[] #[])
 | fn (f:FuncId) (first caps:List J) (fb cv:Array Value):fb.size=first.length->cv.size=caps.length->
    (∀i (h:i<first.length) (h':i<fb.size),bf w ok σ first[i] fb[i])->
    (∀i (h:i<caps.length) (h':i<cv.size),bf w ok σ caps[i] cv[i])->bf w ok σ (.fn f first caps) (.func (.func f) fb cv)
 | agg (cs:List J) (vs:Array Value):vs.size=cs.length->
    (∀i (h:i<cs.length) (h':i<vs.size),bf w ok σ cs[i] vs[i])->bf w ok σ (.agg cs) (.agg vs)
 | bD (cs:List J) (vs:Array Value):vs.size=cs.length->
    (∀i (h:i<cs.length) (h':i<vs.size),bf w ok σ cs[i] vs[i])->bf w ok σ (.bD cs) (.tuple vs)
theorem bf.mono {w a5:World} {ok ot:Nat->Prop} {σ bp:Nat->Option (Nat × Nat)}
 (ag:tx w a5 ok ot) (aE:∀id x,σ id=some x->bp id=some x)
 (ay:∀b,iB w b<=iB a5 b) {v:J} {cv:Value} (h:bf w ok σ v cv):bf a5 ot bp v cv:=by
 induction h with
 | undef cv=>exact .undef cv
 | kv=>exact .kv
 | val v cv h=>exact .val _ _ (h.mono ag)
 | ref id off len cap A c b sz U h2 aN a8=>exact .ref id off len cap A c b sz (aE _ _ U) h2 aN (fun I=>⟨(a8 I).1,Nat.le_trans (a8 I).2 (ay b)⟩)
 | ptr id idx cQ b sz U=>exact .ptr id idx cQ b sz (aE _ _ U)
 | fX id l s U=>exact .fX id l s (aE _ _ U)
 | eV v cy eo U h2=>
   refine .eV v cy eo (fun j aO=>?_) (fun j aO=>(h2 j aO).mono ag)
   obtain⟨aL,I⟩:=U j aO
   obtain⟨arr,ty,ax,mx⟩:=cells_of_cell I
   rw[Addr.qA] at mx
   obtain⟨nE,he⟩:=ag _ _ mx (.inl ⟨_,_,_,rfl⟩) aL
   exact ⟨nE,by rw[<-I];exact World.cell?_of_block (w:=w) (by rw[Addr.qA];exact he)⟩
 | fn f first caps fb cv U h2 aN a8 O7 O8=>exact .fn f first caps fb cv U h2 O7 O8
 | agg cs vs aG h bj=>exact .agg cs vs aG bj
 | bD cs vs aG h bj=>exact .bD cs vs aG bj
section inversion
variable {w:World} {ok:Nat->Prop} {σ:Nat->Option (Nat × Nat)}
theorem bf.jF {k:IntKind} {n:Int} {cv:Value} (h:bf w ok σ (.int k n) cv):cv= .int k n:=by
 cases h with
 | val _ _ h=>cases h;rfl
theorem bf.qB {b:Bool} {cv:Value} (h:bf w ok σ (.bool b) cv):cv= .bool b:=by
 cases h with
 | val _ _ h=>cases h;rfl
theorem bf.vx {s:ByteArray} {cv:Value} (h:bf w ok σ (.str s) cv):cv= .string s:=by
 cases h with
 | val _ _ h=>cases h;rfl
theorem bf.O9 {cv:Value} (h:bf w ok σ .kv cv):cv=Go.undef:=by
 cases h with
 | val _ _ h=>cases h
 | kv=>rfl
theorem bf.O_ {cv:Value} (h:bf w ok σ .nilfn cv):cv= .nilFunc:=by
 cases h with
 | val _ _ h=>cases h;rfl
theorem bf.Gc {m:List (Int × FuncId)} {cv:Value} (h:bf w ok σ (.mp m) cv):dy w ok (.mp m) cv:=by
 cases h with
 | val _ _ h=>exact h
theorem bf.qC {xs:List J} {ex:Bool} {cv:Value} (h:bf w ok σ (.sl xs ex) cv):dy w ok (.sl xs ex) cv:=by
 cases h with
 | val _ _ h=>exact h
theorem bf.qD {id off len cap:Nat} {cv:Value} (h:bf w ok σ (.ref id off len cap) cv):
 ∃A c b sz,cv= .slice A len c/\σ id=some (b,sz)/\len<=c/\cap<=c/\(0<c->A=some ⟨b,off*sz,none⟩/\(off+c)*sz<=iB w b):=by
 cases h with
 | val _ _ h=>cases h
 | ref _ _ _ _ A c b sz U h2 aN a8=>exact ⟨A,c,b,sz,rfl,U,h2,aN,a8⟩
theorem bf.vy {id idx cQ:Nat} {cv:Value} (h:bf w ok σ (.ptr id idx cQ) cv):
 ∃b sz,cv= .pointer (some ⟨b,idx*sz+cQ,none⟩)/\σ id=some (b,sz):=by
 cases h with
 | val _ _ h=>cases h
 | ptr _ _ _ b sz U=>exact ⟨b,sz,rfl,U⟩
theorem bf.xL {v:J} {cv:Value} (h:bf w ok σ (.eV v) cv):
 ∃(cy:Addr) (eo:Nat->Value),cv= .pointer (some cy)/\(∀j,j<v.cells.length->ok cy.block/\w.cell? (cy.add j)=some (eo j))/\(∀j (h:j<v.cells.length),dy w ok (v.cells[j]) (eo j)):=by
 cases h with
 | val _ _ h=>cases h
 | eV _ cy eo U h2=>exact ⟨cy,eo,rfl,U,h2⟩
theorem bf.Gd {f:FuncId} {first caps:List J} {v:Value} (h:bf w ok σ (.fn f first caps) v):
 ∃fb cv,v= .func (.func f) fb cv/\fb.size=first.length/\cv.size=caps.length/\
  (∀i (h:i<first.length) (h':i<fb.size),bf w ok σ first[i] fb[i])/\(∀i (h:i<caps.length) (h':i<cv.size),bf w ok σ caps[i] cv[i]):=by
 cases h with
 | val _ _ h=>cases h;exact ⟨#[],#[],rfl,rfl,rfl,fun i h=>absurd h (Nat.not_lt_zero i),fun i h=>absurd h (Nat.not_lt_zero i)⟩
 | fn _ _ _ fb cv U h2 aN a8=>exact ⟨fb,cv,rfl,U,h2,aN,a8⟩
theorem bf.O' {id:Nat} {cv:Value} (h:bf w ok σ (.fX id) cv):∃l s,cv= .func (.yield l) #[] #[]/\σ id=some (l,s):=by
 cases h with
 | val _ _ h=>cases h
 | fX _ l s U=>exact ⟨l,s,rfl,U⟩
theorem bf.tz {cs:List J} {v:Value} (h:bf w ok σ (.agg cs) v):
 ∃vs,v= .agg vs/\vs.size=cs.length/\(∀i (h:i<cs.length) (h':i<vs.size),bf w ok σ cs[i] vs[i]):=by
 cases h with
 | val _ _ h=>cases h with
   | agg _ vs U h2=>exact ⟨vs,rfl,U,fun i h h'=> .val _ _ (h2 i h h')⟩
 | agg _ vs U h2=>exact ⟨vs,rfl,U,h2⟩
theorem bf.Ge {cs:List J} {v:Value} (h:bf w ok σ (.bD cs) v):
 ∃vs,v= .tuple vs/\vs.size=cs.length/\(∀i (h:i<cs.length) (h':i<vs.size),bf w ok σ cs[i] vs[i]):=by
 cases h with
 | val _ _ h=>cases h with
   | bD _ vs U h2=>exact ⟨vs,rfl,U,fun i h h'=> .val _ _ (h2 i h h')⟩
 | bD _ vs U h2=>exact ⟨vs,rfl,U,h2⟩
theorem bf.vz {v:J} {cv:Value} (h:bf w ok σ v cv) (aE:v.ch=true):cv.oneCell'=true:=by
 cases h with
 | undef=>simp[J.ch] at aE
 | kv=>simp[J.ch] at aE
 | val _ _ h=>cases h<;>first|rfl|simp[J.ch] at aE
 | agg=>simp[J.ch] at aE
 | bD=>simp[J.ch] at aE
 | _=>rfl
theorem bf.cells {v:J} {cv:Value} (h:bf w ok σ v cv) (hu:v.cells.all J.ch=true\/∃cs,v= .agg cs):
 cv.cells.size=v.cells.length/\∀i (h:i<v.cells.length) (h':i<cv.cells.size),bf w ok σ v.cells[i] cv.cells[i]:=by
 by_cases aV:∃cs,v= .agg cs
 · obtain⟨cs,rfl⟩:=aV
   obtain⟨vs,rfl,U,h2⟩:=h.tz
   exact ⟨U,h2⟩
 · have aF:v.cells= [v]:=by
    cases v<;>first|rfl|exact absurd ⟨_,rfl⟩ aV
   have aE:v.ch=true:=by
    rcases hu with hu|hu
    · rw[aF] at hu;simpa using hu
    · exact absurd hu aV
   have I:cv.cells= #[cv]:=by
    have:=h.vz aE
    cases cv<;>first|rfl|simp[Value.oneCell'] at this
   rw[aF,I]
   refine⟨rfl,fun i U h2=>?_⟩
   have:i=0:=by simpa using U
   subst this
   exact h
end inversion
def bz (base:Nat) (okin:Nat->Prop) (σ:Nat->Option (Nat × Nat)) (h:af) (b:Nat):Prop:=
 (b<base/\okin b)\/(base<=b/\∀id sz,σ id=some (b,sz)->(h.cells id).isSome=true->h.shut id=true)
structure cK (base:Nat) (okin:Nat->Prop) (σ:Nat->Option (Nat × Nat)) (h:af) (w:World):Prop where
 val:∀id b sz,σ id=some (b,sz)->base<=b/\b<w.heap.size
 blk:∀id blk,h.cells id=some blk->∃b sz arr ty,σ id=some (b,sz)/\w.heap[b]? =some (.cells arr ty (0,0))/\
  ∀i (ab:i<blk.length),blk[i].cells.length=sz/\∀j (aO:j<blk[i].cells.length),∃v,arr[i*sz+j]? =some v/\bf w (bz base okin σ h) σ (blk[i].cells[j]) v
 inj:∀id gh b sz fO,(h.cells id).isSome=true->(h.cells gh).isSome=true->σ id=some (b,sz)->σ gh=some (b,fO)->id=gh
 base:base<=w.heap.size
structure Prog (base:Nat) (okin:Nat->Prop) (σ:Nat->Option (Nat × Nat)) (h:af) (w:World) (bp:Nat->Option (Nat × Nat)) (h':af) (a5:World):Prop where
 sub:∀id x,σ id=some x->bp id=some x
 qw:∀b,b<w.heap.size->bz base okin σ h b->bz base okin bp h' b/\a5.heap[b]? =w.heap[b]?
 below:Below base w a5
 grow:∀b,iB w b<=iB a5 b
theorem Prog.refl (base:Nat) (okin:Nat->Prop) (σ:Nat->Option (Nat × Nat)) (h:af) (w:World):Prog base okin σ h w σ h w:=
 ⟨fun _ _ h=>h,fun _ _ h=>⟨h,rfl⟩,Below.refl _ _,fun _=>Nat.le_refl _⟩
theorem Prog.trans {base:Nat} {okin:Nat->Prop} {σ jn po:Nat->Option (Nat × Nat)} {h U h2:af} {w b3 cF:World}
 (p:Prog base okin σ h w jn U b3) (q:Prog base okin jn U b3 po h2 cF):Prog base okin σ h w po h2 cF:=
 ⟨fun id x ae=>q.sub id x (p.sub id x ae),fun b aa aL=>by
   obtain⟨jT,au⟩:=p.qw b aa aL
   obtain⟨d',ax⟩:=q.qw b (Nat.lt_of_lt_of_le aa p.below.size) jT
   exact ⟨d',ax.trans au⟩,p.below.trans q.below,fun b=>Nat.le_trans (p.grow b) (q.grow b)⟩
theorem Prog.still {base:Nat} {okin:Nat->Prop} {σ bp:Nat->Option (Nat × Nat)} {h h':af} {w a5:World} (p:Prog base okin σ h w bp h' a5):tx w a5 (bz base okin σ h) (bz base okin bp h'):=
 fun b o aa _ aL=>p.qw b (by by_cases bF:b<w.heap.size;exact bF;rw[Array.getElem?_eq_none (by omega)] at aa;cases aa) aL
theorem Prog.rep {base:Nat} {okin:Nat->Prop} {σ bp:Nat->Option (Nat × Nat)} {h h':af} {w a5:World} (p:Prog base okin σ h w bp h' a5)
 {v:J} {cv:Value} (r:bf w (bz base okin σ h) σ v cv):bf a5 (bz base okin bp h') bp v cv:=r.mono p.still p.sub p.grow
end Go.Eng
namespace Go.Eng
open Go Go.RowKit
theorem Gf (w:World) (o:Obj) (b:Nat):iB w b<=iB (w.alloc o) b:=by
 by_cases h:b<w.heap.size
 · unfold iB;rw[Below.heap_alloc _ _ _ h];exact Nat.le_refl _
 · unfold iB;rw[Array.getElem?_eq_none (by omega)];exact Nat.zero_le _
theorem Bi (w:World) (arr:Array Value) (ty:TypeId):iB (w.alloc (.cells arr ty)) w.heap.size=arr.size:=by
 have:(w.alloc (.cells arr ty)).heap[w.heap.size]? =some (.cells arr ty):=by show (w.heap.push _)[w.heap.size]? =_;simp
 unfold iB;rw[this]
theorem Gg (w:World) (g:Nat) (arr arr':Array Value) (ty:TypeId) (bG:Nat × Nat) (ba:w.heap[g]? =some (.cells arr ty bG)) (aG:arr.size<=arr'.size) (b:Nat):iB w b<=iB (w.setRow g arr') b:=by
 by_cases h:b=g
 · subst h;unfold iB;rw[ba,setRow_heap _ _ _ _ _ _ ba];exact aG
 · unfold iB;rw[setRow_other _ _ _ _ h];exact Nat.le_refl _
theorem Pa {w a5:World} (h:Below w.heap.size w a5) (b:Nat):iB w b<=iB a5 b:=by
 by_cases aa:b<w.heap.size
 · unfold iB;rw[h.block b aa];exact Nat.le_refl _
 · unfold iB;rw[Array.getElem?_eq_none (by omega)];exact Nat.zero_le _
section
variable {base:Nat} {okin:Nat->Prop} {σ:Nat->Option (Nat × Nat)} {h:af} {w:World}
theorem cK.Bj (H:cK base okin σ h w) {r:Nat} (aU:σ r=none):h.cells r=none:=by
 cases I:h.cells r with
 | none=>rfl
 | some blk=>
   obtain⟨b,sz,_,_,e,_⟩:=H.blk r blk I
   rw[aU] at e;cases e
theorem cK.alloc (H:cK base okin σ h w) {r:Nat} (aU:σ r=none) (blk:List J) (arr:Array Value) (ty:TypeId) (sz:Nat)
 (aa:∀i (ab:i<blk.length),blk[i].cells.length=sz/\∀j (aO:j<blk[i].cells.length),∃v,arr[i*sz+j]? =some v/\bf w (bz base okin σ h) σ (blk[i].cells[j]) v):
 cK base okin (aw σ r (some (w.heap.size,sz))) (h.new r blk) (w.alloc (.cells arr ty))/\
 Prog base okin σ h w (aw σ r (some (w.heap.size,sz))) (h.new r blk) (w.alloc (.cells arr ty)):=by
 have Pb:=H.Bj aU
 have sub:∀id x,σ id=some x->aw σ r (some (w.heap.size,sz)) id=some x:=by
  intro id x ae
  unfold aw
  by_cases e:id=r
  · subst e;rw[aU] at ae;cases ae
  · rw[if_neg e];exact ae
 have P:Prog base okin σ h w (aw σ r (some (w.heap.size,sz))) (h.new r blk) (w.alloc (.cells arr ty)):=by
  refine⟨sub,fun b aa aL=>⟨?_,Below.heap_alloc _ _ _ aa⟩,(Below.refl _ _).alloc H.base _,Gf w _⟩
  rcases aL with aL|⟨U,h2⟩
  · exact .inl aL
  · refine .inr ⟨U,fun id s aE aG=>?_⟩
    unfold aw at aE
    by_cases e:id=r
    · rw[if_pos e] at aE
      have:w.heap.size=b:=by injection aE with aE;injection aE
      omega
    · rw[if_neg e] at aE
      refine h2 id s aE ?_
      simpa[af.new,aw,e] using aG
 refine⟨⟨?_,?_,?_,?_⟩,P⟩
 · intro id b s aE
   unfold aw at aE
   by_cases e:id=r
   · rw[if_pos e] at aE
     injection aE with aE;injection aE with U h2
     subst U
     exact ⟨H.base,by simp⟩
   · rw[if_neg e] at aE
     obtain⟨a1,e2⟩:=H.val id b s aE
     exact ⟨a1,by simp;omega⟩
 · intro id fZ iC
   by_cases e:id=r
   · subst e
     have:blk=fZ:=by simpa[af.new,aw] using iC
     subst this
     refine⟨w.heap.size,sz,arr,ty,by simp[aw],by show (w.heap.push _)[w.heap.size]? =_;simp,fun i ab=>⟨(aa i ab).1,fun j aO=>?_⟩⟩
     obtain⟨v,au,ax⟩:=(aa i ab).2 j aO
     exact ⟨v,au,P.rep ax⟩
   · have pq:h.cells id=some fZ:=by simpa[af.new,aw,e] using iC
     obtain⟨b,s,a,t,au,ax,a9⟩:=H.blk id fZ pq
     refine⟨b,s,a,t,sub _ _ au,?_,fun i ab=>⟨(a9 i ab).1,fun j aO=>?_⟩⟩
     · rw[Below.heap_alloc _ _ _ (H.val _ _ _ au).2];exact ax
     · obtain⟨v,f1,f2⟩:=(a9 i ab).2 j aO
       exact ⟨v,f1,P.rep f2⟩
 · intro id gh b s aj U h2 au ax
   by_cases e:id=r<;>by_cases e':gh=r
   · rw[e,e']
   · exfalso
     simp only[aw,e,e',if_true,if_false] at au ax
     injection au with au;injection au with au _
     have:=(H.val _ _ _ ax).2
     omega
   · exfalso
     simp only[aw,e,e',if_true,if_false] at au ax
     injection ax with ax;injection ax with ax _
     have:=(H.val _ _ _ au).2
     omega
   · simp only[aw,e,e',if_false] at au ax
     exact H.inj id gh b s aj (by simpa[af.new,aw,e] using U) (by simpa[af.new,aw,e'] using h2) au ax
 · simp;have:=H.base;omega
theorem cK.write (H:cK base okin σ h w) {id:Nat} {blk blk':List J} {b sz:Nat} {arr arr':Array Value} {ty:TypeId} (I:h.cells id=some blk) (aE:h.shut id=false)
 (he:σ id=some (b,sz)) (aV:w.heap[b]? =some (.cells arr ty (0,0))) (rW:arr.size<=arr'.size)
 (aa:∀i (ab:i<blk'.length),blk'[i].cells.length=sz/\∀j (aO:j<blk'[i].cells.length),∃v,arr'[i*sz+j]? =some v/\bf w (bz base okin σ h) σ (blk'[i].cells[j]) v):
 cK base okin σ (h.new id blk') (w.setRow b arr')/\Prog base okin σ h w σ (h.new id blk') (w.setRow b arr'):=by
 have xM:∀i,(((h.new id blk').cells i).isSome=true)↔((h.cells i).isSome=true):=by
  intro i
  by_cases e:i=id
  · subst e;simp[af.new,aw,I]
  · simp[af.new,aw,e]
 have j':∀k,bz base okin σ h k↔bz base okin σ (h.new id blk') k:=by
  intro k
  unfold bz
  constructor
  · rintro (a|⟨a,c⟩)
    · exact .inl a
    · exact .inr ⟨a,fun i s ab aG=>c i s ab ((xM i).1 aG)⟩
  · rintro (a|⟨a,c⟩)
    · exact .inl a
    · exact .inr ⟨a,fun i s ab aG=>c i s ab ((xM i).2 aG)⟩
 have vA:=H.val _ _ _ he
 have P:Prog base okin σ h w σ (h.new id blk') (w.setRow b arr'):=by
  refine⟨fun _ _ x=>x,fun k ag aL=>⟨(j' k).1 aL,?_⟩,⟨rfl,rfl,rfl,by simp,fun k ag=>setRow_other _ _ _ _ (by omega)⟩,Gg _ _ _ _ _ _ aV rW⟩
  refine setRow_other _ _ _ _ ?_
  rintro rfl
  rcases aL with⟨a,_⟩|⟨_,c⟩
  · omega
  · have:=c id sz he (by simp[I])
    rw[aE] at this;cases this
 refine⟨⟨?_,?_,?_,?_⟩,P⟩
 · intro i k s ab
   have:=H.val i k s ab
   exact ⟨this.1,by simpa using this.2⟩
 · intro i fZ iC
   by_cases e:i=id
   · subst e
     have:blk'=fZ:=by simpa[af.new,aw] using iC
     subst this
     refine⟨b,sz,arr',ty,he,setRow_heap _ _ _ _ _ _ aV,fun i ab=>⟨(aa i ab).1,fun j aO=>?_⟩⟩
     obtain⟨v,au,ax⟩:=(aa i ab).2 j aO
     exact ⟨v,au,P.rep ax⟩
   · have pq:h.cells i=some fZ:=by simpa[af.new,aw,e] using iC
     obtain⟨j9,s,a,t,au,ax,a9⟩:=H.blk i fZ pq
     refine⟨j9,s,a,t,au,?_,fun i ab=>⟨(a9 i ab).1,fun j aO=>?_⟩⟩
     · rw[setRow_other]
       · exact ax
       · rintro rfl
         exact e (H.inj i id _ _ _ (by simp[pq]) (by simp[I]) au he)
     · obtain⟨v,f1,f2⟩:=(a9 i ab).2 j aO
       exact ⟨v,f1,P.rep f2⟩
 · intro i iY k s aj U h2 au ax
   exact H.inj i iY k s aj ((xM i).1 U) ((xM iY).1 h2) au ax
 · simpa using H.base
theorem cK.close (H:cK base okin σ h w) (ids:List Nat):cK base okin σ (h.close ids) w/\Prog base okin σ h w σ (h.close ids) w:=by
 have P:Prog base okin σ h w σ (h.close ids) w:=by
  refine⟨fun _ _ x=>x,fun b aa aL=>⟨?_,rfl⟩,Below.refl _ _,fun _=>Nat.le_refl _⟩
  rcases aL with aL|⟨U,h2⟩
  · exact .inl aL
  · exact .inr ⟨U,fun id s aE aG=>by simp[af.close,h2 id s aE aG]⟩
 refine⟨⟨H.val,fun id fZ iC=>?_,H.inj,H.base⟩,P⟩
 obtain⟨b,s,a,t,au,ax,a9⟩:=H.blk id fZ iC
 refine⟨b,s,a,t,au,ax,fun i ab=>⟨(a9 i ab).1,fun j aO=>?_⟩⟩
 obtain⟨v,f1,f2⟩:=(a9 i ab).2 j aO
 exact ⟨v,f1,P.rep f2⟩
theorem cK.rename (H:cK base okin σ h w) {id r:Nat} {blk blk':List J} {b sz:Nat} {arr arr':Array Value} {ty:TypeId} (I:h.cells id=some blk) (aE:h.shut id=false) (aU:σ r=none)
 (he:σ id=some (b,sz)) (aV:w.heap[b]? =some (.cells arr ty (0,0))) (rW:arr.size<=arr'.size)
 (aa:∀i (ab:i<blk'.length),blk'[i].cells.length=sz/\∀j (aO:j<blk'[i].cells.length),∃v,arr'[i*sz+j]? =some v/\bf w (bz base okin σ h) σ (blk'[i].cells[j]) v):
 cK base okin (aw σ r (some (b,sz))) {h with cells:=aw (aw h.cells id none) r (some blk')} (w.setRow b arr')/\
 Prog base okin σ h w (aw σ r (some (b,sz))) {h with cells:=aw (aw h.cells id none) r (some blk')} (w.setRow b arr'):=by
 have bV:id≠r:=by rintro rfl;rw[aU] at he;cases he
 have Pb:=H.Bj aU
 have vA:=H.val _ _ _ he
 have sub:∀i x,σ i=some x->aw σ r (some (b,sz)) i=some x:=by
  intro i x ae
  unfold aw
  by_cases e:i=r
  · subst e;rw[aU] at ae;cases ae
  · rw[if_neg e];exact ae
 have P:Prog base okin σ h w (aw σ r (some (b,sz))) {h with cells:=aw (aw h.cells id none) r (some blk')} (w.setRow b arr'):=by
  have Gh:∀k,bz base okin σ h k->k≠b:=by
   rintro k aL rfl
   rcases aL with⟨a,_⟩|⟨_,c⟩
   · omega
   · have:=c id sz he (by simp[I])
     rw[aE] at this;cases this
  refine⟨sub,fun k ag aL=>⟨?_,setRow_other _ _ _ _ (Gh k aL)⟩,⟨rfl,rfl,rfl,by simp,fun k ag=>setRow_other _ _ _ _ (by omega)⟩,Gg _ _ _ _ _ _ aV rW⟩
  have Pc:=Gh k aL
  rcases aL with aL|⟨U,h2⟩
  · exact .inl aL
  · refine .inr ⟨U,fun i s ab aG=>?_⟩
    by_cases e:i=r
    · simp only[aw,e,if_true] at ab
      injection ab with ab;injection ab with ab _
      exact absurd ab.symm Pc
    · simp only[aw,e,if_false] at ab aG
      by_cases e':i=id
      · simp[e'] at aG
      · exact h2 i s ab (by simpa[e'] using aG)
 refine⟨⟨?_,?_,?_,?_⟩,P⟩
 · intro i k s ab
   by_cases e:i=r
   · simp only[aw,e,if_true] at ab
     injection ab with ab;injection ab with U h2
     subst U
     exact ⟨vA.1,by simpa using vA.2⟩
   · simp only[aw,e,if_false] at ab
     have:=H.val i k s ab
     exact ⟨this.1,by simpa using this.2⟩
 · intro i fZ iC
   by_cases e:i=r
   · subst e
     have:blk'=fZ:=by simpa[aw] using iC
     subst this
     refine⟨b,sz,arr',ty,by simp[aw],setRow_heap _ _ _ _ _ _ aV,fun i ab=>⟨(aa i ab).1,fun j aO=>?_⟩⟩
     obtain⟨v,au,ax⟩:=(aa i ab).2 j aO
     exact ⟨v,au,P.rep ax⟩
   · by_cases e':i=id
     · simp[aw,e'] at iC
       exact absurd iC.1 bV
     · have pq:h.cells i=some fZ:=by simpa[aw,e,e'] using iC
       obtain⟨j9,s,a,t,au,ax,a9⟩:=H.blk i fZ pq
       refine⟨j9,s,a,t,sub _ _ au,?_,fun i ab=>⟨(a9 i ab).1,fun j aO=>?_⟩⟩
       · rw[setRow_other]
         · exact ax
         · rintro rfl
           exact e' (H.inj i id _ _ _ (by simp[pq]) (by simp[I]) au he)
       · obtain⟨v,f1,f2⟩:=(a9 i ab).2 j aO
         exact ⟨v,f1,P.rep f2⟩
 · intro i iY k s aj U h2 au ax
   by_cases e:i=r<;>by_cases e':iY=r
   · rw[e,e']
   · exfalso
     simp only[aw,e,e',if_true,if_false] at au ax h2
     by_cases rX:iY=id
     · simp[rX] at h2
     · rw[if_neg rX] at h2
       injection au with au;injection au with au _;subst au
       exact rX (H.inj iY id _ _ _ h2 (by simp[I]) ax he)
   · exfalso
     simp only[aw,e,e',if_true,if_false] at au ax U
     by_cases rX:i=id
     · simp[rX] at U
     · rw[if_neg rX] at U
       injection ax with ax;injection ax with ax _;subst ax
       exact rX (H.inj i id _ _ _ U (by simp[I]) au he)
   · simp only[aw,e,e',if_false] at au ax U h2
     by_cases f:i=id
     · simp[f] at U
     · by_cases pr:iY=id
       · simp[pr] at h2
       · rw[if_neg f] at U;rw[if_neg pr] at h2
         exact H.inj i iY k s aj U h2 au ax
 · simpa using H.base
end
section consts
variable {w:World} {ok:Nat->Prop}
theorem Gi {v:Value} {a:J} (h:qy v=some a):dy w ok a v/\v.cells= #[v]/\a.cells= [a]:=by
 unfold qy at h
 split at h<;>try(cases h;done)
 · cases h;exact ⟨.int _ _,rfl,rfl⟩
 · cases h;exact ⟨.bool _,rfl,rfl⟩
 · cases h;exact ⟨.str _,rfl,rfl⟩
 · cases h
   refine⟨?_,rfl,rfl⟩
   exact .sl [] true none 0 0 (fun _ _=>undef) (by simp) (by simp) (fun i h=>absurd h (by simp)) (fun i j h=>absurd h (by simp)) (by simp) (fun i h=>absurd h (by simp))
 · cases h;exact ⟨.nilfn,rfl,rfl⟩
theorem Gj:∀ {vs:List Value} {as:List J},xF vs=some as->as.length=vs.length/\∀i (h:i<as.length) (h':i<vs.length),dy w ok as[i] vs[i]/\as[i].ch=true
 | [],as,h=>by cases h;exact ⟨rfl,fun i h=>absurd h (by simp)⟩
 | v::vs,as,h=>by
   simp only[xF] at h
   split at h<;>try(cases h;done)
   rename_i a Bk U h2
   cases h
   obtain⟨l,r⟩:=Gj h2
   refine⟨by simp[l],fun i ab bW=>?_⟩
   cases i with
   | zero=>
     refine⟨(Gi U).1,?_⟩
     unfold qy at U
     split at U<;>first|(cases U;done)|(cases U;rfl)
   | succ i=>exact r i (by simpa using ab) (by simpa using bW)
theorem Gk {v:Value} {a:J} (h:qz v=some a):dy w ok a v/\a.cells.all J.ch=true/\a.cells.length=v.cells.size:=by
 unfold qz at h
 split at h
 · rename_i cs
   obtain⟨as,U,rfl⟩:=Option.map_eq_some_iff.1 h
   obtain⟨l,r⟩:=Gj (w:=w) (ok:=ok) U
   refine⟨.agg as cs (by simpa using l.symm) (fun i ab bW=>(r i ab (by simpa using bW)).1),?_,by simpa[J.cells,Value.cells] using l⟩
   simp only[J.cells,List.all_eq_true]
   intro x ae
   obtain⟨i,ab,rfl⟩:=List.getElem_of_mem ae
   exact (r i ab (by omega)).2
 · obtain⟨au,ax,a9⟩:=Gi (w:=w) (ok:=ok) h
   refine⟨au,?_,by rw[ax,a9];rfl⟩
   rw[a9]
   unfold qy at h
   split at h<;>first|(cases h;done)|(cases h;rfl)
end consts
structure ka (G:Nat->Option J) (ok:Nat->Prop) (σ:Nat->Option (Nat × Nat)) (w:World) (F:Nat->J) (a:Act):Prop where
 slot:∀t,bf w ok σ (F t) (a.tmps.getD t undef)
 mS:∀g v,G g=some v->bf w ok σ (.eV v) (.pointer (some ⟨g,0,none⟩))
theorem ka.dX {G:Nat->Option J} {ok:Nat->Prop} {σ:Nat->Option (Nat × Nat)} {w:World} {F:Nat->J} {a:Act} (h:ka G ok σ w F a)
 {x:Operand} {y:a6} (ae:ei x=some y):bf w ok σ (y.ev G F) (a.eval x):=by
 cases x with
 | tmp t=>cases ae;exact h.slot t
 | const v=>
   obtain⟨c,U,rfl⟩:=Option.map_eq_some_iff.1 ae
   exact .val _ _ (Gk U).1
 | global g=>
   cases ae
   simp only[a6.ev,Act.eval]
   split
   · exact h.mS _ _ ‹_›
   · exact .undef _
 | func f=>cases ae;exact .fn f [] [] #[] #[] rfl rfl (fun i h=>absurd h (by simp)) (fun i h=>absurd h (by simp))
end Go.Eng
namespace Go.Eng
open Go Go.RowKit
section runs
variable {P:Program} {w:World} {t:TypeId}
theorem vB {b:Bool} (h:mR P t=some b):(isAgg t).run P w= .ok b w:=by
 unfold mR at h
 unfold isAgg
 cases hu:P.underlying t with
 | none=>rw[hu] at h;cases h
 | some d=>
   rw[hu] at h
   simp only[Sem.run_bind,run_underlying hu,Result.andThen_ok]
   cases d<;>simp at h<;>subst h<;>rfl
theorem run_typeInfo {i:TypeInfo} (h:P.info? t=some i):(typeInfo t).run P w= .ok i w:=by
 simp[typeInfo,h]
theorem run_sizeOf {s:Nat} (h:jb P t=some s):(sizeOf t).run P w= .ok s w:=by
 obtain⟨i,ab,rfl⟩:=Option.map_eq_some_iff.1 h
 simp[sizeOf,run_typeInfo ab]
theorem Gl {a:J} (h:zeroOf P t=some a):∃z,(zeroValue t).run P w= .ok z w/\qz z=some a/\∃i,P.info? t=some i/\i.zero=some z:=by
 unfold zeroOf at h
 obtain⟨i,ab,h⟩:=Option.bind_eq_some_iff.1 h
 obtain⟨z,ay,h⟩:=Option.bind_eq_some_iff.1 h
 exact ⟨z,by simp[zeroValue,run_typeInfo ab,ay],h,i,ab,ay⟩
end runs
theorem J.vC (cs:List J):(J.agg cs).cells=cs:=rfl
theorem tA {cs jE:List J} {off sz:Nat} (h:cut cs off sz=some jE):off+sz<=cs.length/\jE.length=sz/\∀j (aO:j<jE.length) (kh:off+j<cs.length),jE[j]=cs[off+j]:=by
 unfold cut at h
 split at h
 · cases h
   refine⟨‹_›,by simp;omega,fun j aO kh=>by simp⟩
 · cases h
theorem Bl {bZ:Bool} {cs:List J} {u:J} (h:partOf bZ cs=some u):(bZ=true/\u= .agg cs)\/(bZ=false/\cs= [u]/\u.ch=true):=by
 unfold partOf at h
 cases bZ with
 | true=>exact .inl ⟨rfl,by simpa using h.symm⟩
 | false=>
   simp only[Bool.false_eq_true,if_false] at h
   split at h
   · split at h
     · cases h;exact .inr ⟨rfl,rfl,‹_›⟩
     · cases h
   · cases h
theorem pt (b x j:Nat):(⟨b,x,none⟩:Addr).add j=⟨b,x+j,none⟩:=by
 unfold Addr.add;split<;>simp_all
theorem add_add (a:Addr) (i j:Nat) (h:a.spot=none\/0<i+j):(a.add i).add j=a.add (i+j):=by
 cases a with
 | mk b o s=>
   unfold Addr.add
   by_cases ab:i=0<;>by_cases aO:j=0<;>simp_all<;>omega
section ops
variable {P:Program} {base:Nat} {okin:Nat->Prop} {σ:Nat->Option (Nat × Nat)} {h:af} {w:World}
def tB (base:Nat) (okin:Nat->Prop) (σ:Nat->Option (Nat × Nat)) (h:af) (w:World) (r:Nat) (v:J) (h':af) (res:Result Next):Prop:=
 ∃bp cv a5,(res= .ok (.value cv) a5\/(res= .ok .skip a5/\cv=undef))/\Prog base okin σ h w bp h' a5/\cK base okin bp h' a5/\
  bf a5 (bz base okin bp h') bp v cv/\∀id,id≠r->bp id=σ id
theorem tB.pure (H:cK base okin σ h w) {r:Nat} {v:J} {cv:Value} {res:Result Next} (e:res= .ok (.value cv) w) (aU:bf w (bz base okin σ h) σ v cv):
 tB base okin σ h w r v h res:=⟨σ,cv,w,.inl e,Prog.refl ..,H,aU,fun _ _=>rfl⟩
theorem Bm {ok:Nat->Prop} {t:TypeId} {bZ:Bool} {sz:Nat} (dG:mR P t=some bZ) (df:jb P t=some sz) (U:(bZ||sz == 1)=true) (cy:Addr) (eo:Nat->Value)
 (I:∀j,j<sz->w.cell? (cy.add j)=some (eo j)) {cs:List J} (aG:cs.length=sz) (aU:∀j (aO:j<cs.length),bf w ok σ cs[j] (eo j)) {u:J} (aS:partOf bZ cs=some u):
 ∃cv,(loadVar t cy).run P w= .ok cv w/\bf w ok σ u cv:=by
 rcases Bl aS with⟨rfl,rfl⟩|⟨rfl,rfl,_⟩
 · refine⟨.agg ((List.range sz).map eo).toArray,?_,?_⟩
   · simp[loadVar,vB dG,run_sizeOf df,run_loadCells w cy sz eo I]
   · refine .agg _ _ (by simp[aG]) (fun i ab bW=>?_)
     simpa using aU i ab
 · have:sz=1:=by simpa using aG.symm
   subst this
   refine⟨eo 0,?_,aU 0 (by simp)⟩
   have:=I 0 (by omega)
   have e:cy.add 0=cy:=by unfold Addr.add;simp
   rw[e] at this
   simp[loadVar,vB dG,this]
theorem cK.elem (H:cK base okin σ h w) {id idx cQ sz b b_:Nat} {blk:List J} {e:J} (aa:h.cells id=some blk) (he:blk[idx]? =some e) (aE:σ id=some (b,b_))
 {cs:List J} (I:cut e.cells cQ sz=some cs):
 ∃eo:Nat->Value,(∀j,j<sz->w.cell? ((⟨b,idx*b_+cQ,none⟩:Addr).add j)=some (eo j))/\(∀j (aO:j<cs.length),bf w (bz base okin σ h) σ cs[j] (eo j)):=by
 obtain⟨j9,fO,arr,ty,au,ax,a9⟩:=H.blk id blk aa
 rw[aE] at au;cases au
 obtain⟨ab,rfl⟩:=List.getElem?_eq_some_iff.1 he
 obtain⟨cn,cd,dc⟩:=tA I
 have hlen:=(a9 idx ab).1
 refine⟨fun j=>(arr[idx*b_+(cQ+j)]?).getD undef,fun j aO=>?_,fun j aO=>?_⟩
 · obtain⟨v,f1,_⟩:=(a9 idx ab).2 (cQ+j) (by omega)
   rw[pt]
   simp only[World.cell?,ax,Option.isSome_none,Bool.false_eq_true,if_false]
   rw[Nat.add_assoc,f1];rfl
 · obtain⟨v,f1,f2⟩:=(a9 idx ab).2 (cQ+j) (by omega)
   rw[dc j aO (by omega)]
   show bf w _ σ _ ((arr[idx*b_+(cQ+j)]?).getD undef)
   rw[f1]
   exact f2
theorem Pd (H:cK base okin σ h w) {bb r:Nat} {t:TypeId} {bZ:Bool} {sz:Nat} (dG:mR P t=some bZ) (df:jb P t=some sz) (U:(bZ||sz == 1)=true)
 {G:Nat->Option J} {F:Nat->J} {x:a6} {jo:Value} (ae:bf w (bz base okin σ h) σ (x.ev G F) jo) {v:J} {h':af} {c:dV}
 (he:evalOp bb r (a6.ev G F) h (.load bZ sz x)=some (v,h',c)):
 h'=h/\∃cv,(Instr.loadAt t jo).run P w= .ok cv w/\bf w (bz base okin σ h) σ v cv:=by
 simp only[evalOp] at he
 split at he
 · rename_i u hu
   rw[hu] at ae
   obtain⟨cy,eo,rfl,bT,cL⟩:=ae.xL
   obtain⟨cs,I,he⟩:=Option.bind_eq_some_iff.1 he
   obtain⟨p,aS,he⟩:=Option.map_eq_some_iff.1 he
   cases he
   obtain⟨cn,cd,dc⟩:=tA I
   refine⟨rfl,?_⟩
   obtain⟨cv,au,ax⟩:=Bm (P:=P) (w:=w) (σ:=σ) (ok:=bz base okin σ h) dG df U cy eo (fun j aO=>(bT j (by omega)).2) cd
    (fun j aO=>by rw[dc j aO (by omega)];simpa using bf.val _ _ (cL j (by omega))) aS
   exact ⟨cv,by simpa[Instr.loadAt,Instr.sureAddr] using au,ax⟩
 · rename_i id idx cQ hu
   rw[hu] at ae
   obtain⟨b,b_,rfl,aE⟩:=ae.vy
   obtain⟨blk,aa,he⟩:=Option.bind_eq_some_iff.1 he
   obtain⟨e,kP,he⟩:=Option.bind_eq_some_iff.1 he
   obtain⟨cs,I,he⟩:=Option.bind_eq_some_iff.1 he
   obtain⟨p,aS,he⟩:=Option.map_eq_some_iff.1 he
   cases he
   obtain⟨cn,cd,dc⟩:=tA I
   obtain⟨eo,bT,cL⟩:=H.elem aa kP aE I
   refine⟨rfl,?_⟩
   obtain⟨cv,au,ax⟩:=Bm (P:=P) (w:=w) (σ:=σ) (ok:=bz base okin σ h) dG df U _ eo bT cd cL aS
   exact ⟨cv,by simpa[Instr.loadAt,Instr.sureAddr] using au,ax⟩
 · cases he
theorem bf.vD {ok:Nat->Prop} {v:J} {cv:Value} (aU:bf w ok σ v cv) (hu:v.cells.all J.ch=true):
 cv.cells.toList.length=v.cells.length/\(∀j (aO:j<v.cells.length) (kh:j<cv.cells.toList.length),bf w ok σ v.cells[j] cv.cells.toList[j])/\∀x∈cv.cells.toList,x.oneCell'=true:=by
 obtain⟨au,ax⟩:=aU.cells (.inl hu)
 refine⟨by simpa using au,fun j aO kh=>by simpa using ax j aO (by simpa using kh),fun x ae=>?_⟩
 obtain⟨i,ab,rfl⟩:=List.getElem_of_mem ae
 have bW:i<v.cells.length:=by simp at ab;omega
 refine(ax i bW (by simpa using ab)).vz ?_
 exact List.all_eq_true.1 hu _ (List.getElem_mem bW)
theorem xN {cs vs:List J} {off:Nat} (h:off+vs.length<=cs.length):(eW cs off vs).length=cs.length:=by
 simp[eW];omega
theorem qE {α:Type} {cs vs:List α} {off:Nat} (h:off+vs.length<=cs.length) (j:Nat) (aO:j<(cs.take off++vs++cs.drop (off+vs.length)).length) (kh:j<cs.length):
 (cs.take off++vs++cs.drop (off+vs.length))[j]=if cS:off<=j/\j<off+vs.length then vs[j - off]'(by omega) else cs[j]:=by
 by_cases U:j<off
 · rw[List.getElem_append_left (by simp;omega),List.getElem_append_left (by simp;omega),dif_neg (by omega)]
   simp
 · by_cases h2:j<off+vs.length
   · rw[List.getElem_append_left (by simp;omega),List.getElem_append_right (by simp;omega),dif_pos (by omega)]
     simp[Nat.min_eq_left (show off<=cs.length by omega)]
   · rw[List.getElem_append_right (by simp;omega),dif_neg (by omega)]
     have e:off+vs.length+(j -(min off cs.length+vs.length))=j:=by rw[Nat.min_eq_left (by omega)];omega
     simp[e]
theorem Pe (H:cK base okin σ h w) {bb r:Nat} {t:TypeId} {sz:Nat} (df:jb P t=some sz)
 {G:Nat->Option J} {F:Nat->J} {x y:a6} {jo jc:Value} (ae:bf w (bz base okin σ h) σ (x.ev G F) jo) (a2:bf w (bz base okin σ h) σ (y.ev G F) jc) {v:J} {h':af} {c:dV}
 (he:evalOp bb r (a6.ev G F) h (.store sz x y)=some (v,h',c)):
 v= .undef/\∃a5,(Instr.storeAt t jo jc).run P w= .ok () a5/\Prog base okin σ h w σ h' a5/\cK base okin σ h' a5:=by
 simp only[evalOp] at he
 split at he
 · rename_i id idx cQ hu
   rw[hu] at ae
   obtain⟨b,b_,rfl,aE⟩:=ae.vy
   split at he
   · cases he
   · rename_i b8
     have b8:h.shut id=false:=by simpa using b8
     obtain⟨blk,aa,he⟩:=Option.bind_eq_some_iff.1 he
     obtain⟨e,kP,he⟩:=Option.bind_eq_some_iff.1 he
     split at he
     · rename_i nF
       obtain⟨bL,cj,dd⟩:=nF
       obtain⟨dg,eI,Bn⟩:=a2.vD dd
       obtain⟨j9,fO,arr,ty,au,ax,a9⟩:=H.blk id blk aa
       rw[aE] at au;cases au
       obtain⟨ab,rfl⟩:=List.getElem?_eq_some_iff.1 kP
       have hlen:=(a9 idx ab).1
       have pv:idx*b_+(cQ+sz)<=arr.size:=by
        by_cases ay:cQ+sz=0
        · by_cases Pf:b_=0
          · simp[Pf,ay]
          · obtain⟨v0,f1,_⟩:=(a9 idx ab).2 0 (by omega)
            have:=(Array.getElem?_eq_some_iff.1 f1).1
            omega
        · obtain⟨v0,f1,_⟩:=(a9 idx ab).2 (cQ+sz - 1) (by omega)
          have:=(Array.getElem?_eq_some_iff.1 f1).1
          omega
       have cw:(Instr.storeAt t (.pointer (some ⟨b,idx*b_+cQ,none⟩)) jc).run P w= .ok () (w.setRow b (arr.toList.take (idx*b_+cQ)++jc.cells.toList++arr.toList.drop (idx*b_+cQ+jc.cells.toList.length)).toArray):=by
        have h2:=run_storeCells_at (P:=P) b (idx*b_+cQ) ty jc.cells.toList 0 arr w ax (by simp only[Nat.add_zero];rw[dg,bL];omega) Bn
        simp only[Nat.add_zero] at h2
        have bV:jc.cells.size=sz:=by rw[<-bL,<-dg];simp
        simp[Instr.storeAt,Instr.sureAddr,storeVar,run_sizeOf df,bV,h2]
       have key:∀e',e'.cells.length=b_->(∀j (aO:j<e'.cells.length),∃lG,(arr.toList.take (idx*b_+cQ)++jc.cells.toList++arr.toList.drop (idx*b_+cQ+jc.cells.toList.length)).toArray[idx*b_+j]? =some lG/\bf w (bz base okin σ h) σ (e'.cells[j]) lG)->
        Prog base okin σ h w σ (h.new id (blk.set idx e')) (w.setRow b (arr.toList.take (idx*b_+cQ)++jc.cells.toList++arr.toList.drop (idx*b_+cQ+jc.cells.toList.length)).toArray)/\
        cK base okin σ (h.new id (blk.set idx e')) (w.setRow b (arr.toList.take (idx*b_+cQ)++jc.cells.toList++arr.toList.drop (idx*b_+cQ+jc.cells.toList.length)).toArray):=by
        intro e' qF nf
        have:=H.write (blk':=blk.set idx e') (arr':=(arr.toList.take (idx*b_+cQ)++jc.cells.toList++arr.toList.drop (idx*b_+cQ+jc.cells.toList.length)).toArray) aa b8 aE ax (by simp;omega) ?_
        · exact ⟨this.2,this.1⟩
        · intro i bW
          have Bo:i<blk.length:=by simpa using bW
          by_cases vE:i=idx
          · subst vE
            simp only[List.getElem_set_self]
            exact ⟨qF,nf⟩
          · have bV:(blk.set idx e')[i]=blk[i]:=by rw[List.getElem_set_ne (Ne.symm vE)]
            rw[bV]
            refine⟨(a9 i Bo).1,fun j aO=>?_⟩
            obtain⟨v0,f1,f2⟩:=(a9 i Bo).2 j aO
            refine⟨v0,?_,f2⟩
            have bF:=(Array.getElem?_eq_some_iff.1 f1).1
            have lH:=(Array.getElem?_eq_some_iff.1 f1).2
            have rY:j<b_:=by have:=(a9 i Bo).1;omega
            have mT:¬(idx*b_+cQ<=i*b_+j/\i*b_+j<idx*b_+cQ+jc.cells.toList.length):=by
             rw[dg,bL]
             rintro ⟨dp,dr⟩
             rcases Nat.lt_or_gt_of_ne vE with q|q
             · have:(i+1)*b_<=idx*b_:=Nat.mul_le_mul_right _ q
               rw[Nat.add_mul] at this;omega
             · have:(idx+1)*b_<=i*b_:=Nat.mul_le_mul_right _ q
               rw[Nat.add_mul] at this;omega
            have hle:idx*b_+cQ+jc.cells.toList.length<=arr.toList.length:=by rw[dg,bL];simp;omega
            rw[List.getElem?_toArray,List.getElem?_eq_getElem (by simp;omega),qE hle _ _ (by simpa using bF),dif_neg mT]
            simpa using lH
       have hle:idx*b_+cQ+jc.cells.toList.length<=arr.toList.length:=by rw[dg,bL];simp;omega
       have Gm:∀j (aO:j<b_),∃lG,(arr.toList.take (idx*b_+cQ)++jc.cells.toList++arr.toList.drop (idx*b_+cQ+jc.cells.toList.length)).toArray[idx*b_+j]? =some lG/\
        (∀(cS:cQ<=j/\j<cQ+sz),bf w (bz base okin σ h) σ ((y.ev G F).cells[j - cQ]'(by omega)) lG)/\(¬(cQ<=j/\j<cQ+sz)->bf w (bz base okin σ h) σ (blk[idx].cells[j]'(by omega)) lG):=by
        intro j aO
        obtain⟨v0,f1,f2⟩:=(a9 idx ab).2 j (by omega)
        have bF:=(Array.getElem?_eq_some_iff.1 f1).1
        have lH:=(Array.getElem?_eq_some_iff.1 f1).2
        rw[List.getElem?_toArray,List.getElem?_eq_getElem (by simp;omega)]
        refine⟨_,rfl,fun cS=>?_,fun cS=>?_⟩
        · rw[qE hle _ _ (by simpa using bF),dif_pos (by rw[dg,bL];omega)]
          have:=eI (j - cQ) (by omega) (by omega)
          have e:idx*b_+j -(idx*b_+cQ)=j - cQ:=by omega
          simpa[e] using this
        · rw[qE hle _ _ (by simpa using bF),dif_neg (by rw[dg,bL];omega)]
          simp only[Array.getElem_toList]
          rw[lH];exact f2
       split at he
       · rename_i cs Gn
         cases he
         refine⟨rfl,_,cw,?_⟩
         rw[Gn] at hlen
         simp only[J.vC] at hlen
         have jq:cQ+(y.ev G F).cells.length<=cs.length:=by omega
         refine key _ (by simp only[J.vC];rw[xN jq];exact hlen) (fun j aO=>?_)
         have kh:j<b_:=by simp only[J.vC] at aO;rw[xN jq] at aO;omega
         obtain⟨lG,ll,ln,Bp⟩:=Gm j kh
         refine⟨lG,ll,?_⟩
         simp only[J.vC,eW]
         rw[qE jq j _ (by omega)]
         split
         · rename_i cS;exact ln (by omega)
         · rename_i cS
           have:=Bp (by omega)
           simpa[Gn,J.vC] using this
       · rename_i Pg
         split at he
         · rename_i u Bq
           cases he
           refine⟨rfl,_,cw,?_⟩
           have mx:blk[idx].cells.length=1:=by
            cases cS:blk[idx]<;>first|rfl|exact absurd cS (Pg _)
           have vF:sz=1:=by rw[<-bL,Bq];rfl
           have Br:u.ch=true:=by rw[Bq] at dd;simpa using dd
           have Bs:u.cells= [u]:=by cases u<;>first|rfl|simp[J.ch] at Br
           refine key u (by rw[Bs];simp;omega) (fun j aO=>?_)
           have Ph:j=0:=by rw[Bs] at aO;simpa using aO
           subst Ph
           obtain⟨lG,ll,ln,_⟩:=Gm 0 (by omega)
           refine⟨lG,ll,?_⟩
           have:=ln (by omega)
           simpa[Bs,Bq] using this
         · cases he
     · cases he
 · cases he
end ops
end Go.Eng
namespace Go.Eng
open Go Go.RowKit
section ops
variable {P:Program} {base:Nat} {okin:Nat->Prop} {σ:Nat->Option (Nat × Nat)} {h:af} {w:World} {G:Nat->Option J} {F:Nat->J} {a:Act}
theorem rZ (bG:ka G (bz base okin σ h) σ w F a):∀ {xs:List Operand} {ys:List a6},pk xs=some ys->
 ys.length=xs.length/\∀i (ab:i<ys.length) (bW:i<xs.length),bf w (bz base okin σ h) σ (ys[i].ev G F) (a.eval xs[i])
 | [],ys,e=>by cases e;exact ⟨rfl,fun i ab=>absurd ab (by simp)⟩
 | x::xs,ys,e=>by
   simp only[pk] at e
   split at e<;>try(cases e;done)
   rename_i y adO U h2
   cases e
   obtain⟨l,r⟩:=rZ bG h2
   refine⟨by simp[l],fun i ab bW=>?_⟩
   cases i with
   | zero=>exact bG.dX U
   | succ i=>exact r i (by simpa using ab) (by simpa using bW)
theorem Gp {ok:Nat->Prop} {t:TypeId} {bZ:Bool} {sz off:Nat} (dG:mR P t=some bZ) (df:jb P t=some sz) (U:(bZ||sz == 1)=true) {cs:List J} {vs:Array Value}
 (aG:vs.size=cs.length) (aU:∀i (h:i<cs.length) (h':i<vs.size),bf w ok σ cs[i] vs[i]) {jE:List J} (I:cut cs off sz=some jE) {u:J} (aS:partOf bZ jE=some u):
 ∃cv,(part t vs off).run P w= .ok cv w/\bf w ok σ u cv:=by
 obtain⟨cn,cd,dc⟩:=tA I
 rcases Bl aS with⟨rfl,rfl⟩|⟨rfl,rfl,_⟩
 · refine⟨.agg (vs.extract off (off+sz)),by simp[part,vB dG,run_sizeOf df],?_⟩
   refine .agg _ _ (by simp;omega) (fun i ab bW=>?_)
   rw[dc i ab (by omega)]
   simpa using aU (off+i) (by omega) (by omega)
 · have ou:sz=1:=by simpa using cd.symm
   have bF:off<vs.size:=by omega
   refine⟨vs[off],by simp[part,vB dG,bF],?_⟩
   have:=aU off (by omega) bF
   have e:=dc 0 (by simp) (by omega)
   simp only[List.getElem_cons_zero,Nat.add_zero] at e
   rw[e];exact this
def xO (op:BinOp) (k:IntKind) (x y:Int):Sem Value:=
 match op with
 | .add| .sub| .mul=>Op.intArith op k x y
 | .quo| .rem=>Op.intDiv op k x y
 | .and| .or| .xor| .andNot=>Op.intBits op k x y
 | _=>Op.intCmp op x y
theorem Pj (op:BinOp) (k:IntKind) (x y:Int) {v:J} (aa:iX op k x y=some v):
 ∃cv,(xO op k x y).run P w= .ok cv w/\∀ok σ,bf w ok σ v cv:=by
 cases op<;>simp only[iX] at aa<;>first
  | (cases aa;done)
  | (cases aa;exact ⟨_,rfl,fun _ _=> .val _ _ (.int _ _)⟩)
  | (cases aa;exact ⟨_,rfl,fun _ _=> .val _ _ (.bool _)⟩)
  | (split at aa
     · cases aa
     · cases aa;rename_i ay;exact ⟨_,by simp[xO,Op.intDiv,ay],fun _ _=> .val _ _ (.int _ _)⟩)
theorem Bt (ty:Nat) (op:BinOp) (t:TypeId) (X Y:Operand) {u v r:J} {ng cv:Value} {ok:Nat->Prop} (hu:bf w ok σ u ng) (aF:bf w ok σ v cv) (aa:ft ty op u v=some r)
 (aE:ty=1->P.underlying t=some .bool):
 ∃nh,(do eqGuard op t X Y ng cv;binOp op t ng cv:Sem Value).run P w= .ok nh w/\bf w ok σ r nh:=by
 have ba:∀ {a b:Value},(∀c,a≠ .nilIface/\a≠ .agg c)->(eqGuard op t X Y a b).run P w= .ok () w:=by
  intro a b aV
  cases a<;>first|exact absurd rfl (aV #[]).1|exact absurd rfl (aV _).2|(cases op<;>rfl)
 unfold ft at aa
 split at aa
 · rename_i k x k' y
   obtain rfl:=hu.jF
   obtain rfl:=aF.jF
   simp only[Sem.run_bind,ba (a:= .int k x) (b:= .int k' y) (fun c=>⟨by simp,by simp⟩),Result.andThen_ok]
   split at aa
   · rename_i cM
     unfold iA at aa
     split at aa
     · cases aa
     · rename_i Gq
       rcases cM with rfl|rfl
       · cases aa
         exact ⟨_,by simp[binOp,Op.shift,Gq],.val _ _ (.int _ _)⟩
       · cases aa
         exact ⟨_,by simp[binOp,Op.shift,Gq],.val _ _ (.int _ _)⟩
   · rename_i cM
     split at aa
     · rename_i ag
       subst ag
       obtain⟨nh,au,ax⟩:=Pj (P:=P) (w:=w) op k x y aa
       refine⟨nh,?_,ax _ _⟩
       have:binOp op t (.int k x) (.int k y)=xO op k x y:=by
        cases op<;>first|exact absurd (.inl rfl) cM|exact absurd (.inr rfl) cM|simp[binOp,xO]
       rw[this];exact au
     · cases aa
 · rename_i x y
   obtain rfl:=hu.qB
   obtain rfl:=aF.qB
   split at aa<;>try(cases aa;done)
   rename_i Pk
   have Bu:=aE Pk
   have heq:(Op.equal t (.bool x) (.bool y)).run P w= .ok (x == y) w:=by
    show (Op.equalIn (9999+1) t (.bool x) (.bool y)).run P w=_
    unfold Op.equalIn
    simp[run_underlying Bu]
   simp only[Sem.run_bind,ba (a:= .bool x) (b:= .bool y) (fun c=>⟨by simp,by simp⟩),Result.andThen_ok]
   split at aa
   · cases aa
     refine⟨.bool (x == y),?_,.val _ _ (.bool _)⟩
     show (do pure (.bool (<-Op.equal t (.bool x) (.bool y))):Sem Value).run P w=_
     simp[heq]
   · cases aa
     refine⟨.bool (!(x == y)),?_,.val _ _ (.bool _)⟩
     show (do pure (.bool !(<-Op.equal t (.bool x) (.bool y))):Sem Value).run P w=_
     simp[heq]
   · cases aa
 · rename_i x y
   obtain rfl:=hu.vx
   obtain rfl:=aF.vx
   simp only[Sem.run_bind,ba (a:= .string x) (b:= .string y) (fun c=>⟨by simp,by simp⟩),Result.andThen_ok]
   split at aa
   · cases aa
     exact ⟨.bool (x.toList == y.toList),by rw[show binOp .eql t (.string x) (.string y)=Op.stringOp .eql x y by simp[binOp]];simp[Op.stringOp],.val _ _ (.bool _)⟩
   · cases aa
     exact ⟨.bool (!(x.toList == y.toList)),by rw[show binOp .neq t (.string x) (.string y)=Op.stringOp .neq x y by simp[binOp]];simp[Op.stringOp],.val _ _ (.bool _)⟩
   · cases aa
 · cases aa
theorem Pl (op:UnOp) {u r:J} {ng:Value} {ok:Nat->Prop} (hu:bf w ok σ u ng) (aa:fu op u=some r):
 ∃nh,(Op.unary op ng).run P w= .ok nh w/\bf w ok σ r nh:=by
 unfold fu at aa
 split at aa
 · obtain rfl:=hu.jF
   split at aa
   · cases aa;exact ⟨_,rfl,.val _ _ (.int _ _)⟩
   · cases aa;exact ⟨_,rfl,.val _ _ (.int _ _)⟩
   · cases aa
 · obtain rfl:=hu.qB
   split at aa
   · cases aa;exact ⟨_,rfl,.val _ _ (.bool _)⟩
   · cases aa
 · cases aa
theorem tC {ok:Nat->Prop} {d y:Nat} {X:Operand} {x:a6} {l:Nat} (ae:bf w ok σ (x.ev G F) (a.eval X)) (aa:bound d (a6.ev G F) (some x)=some l) (aG:l<=y) (code:BoundsCode):
 (Instr.sliceBound (a.eval X) y code).run P w= .ok l w:=by
 unfold bound at aa
 simp only at aa
 split at aa
 · rename_i k n hu
   rw[hu] at ae
   rw[ae.jF]
   split at aa
   · rename_i az
     cases aa
     have:n<=(y:Int):=by omega
     simp[Instr.sliceBound,asIntOf,az,this]
   · cases aa
 · cases aa
theorem tD (bG:ka G (bz base okin σ h) σ w F a) {X:Option Operand} {x:Option a6} (e:rT X=some x):
 (X=none/\x=none)\/∃pw ky,X=some pw/\x=some ky/\bf w (bz base okin σ h) σ (ky.ev G F) (a.eval pw):=by
 cases X with
 | none=>cases e;exact .inl ⟨rfl,rfl⟩
 | some pw=>
   obtain⟨ky,U,rfl⟩:=Option.map_eq_some_iff.1 e
   exact .inr ⟨pw,ky,rfl,rfl,bG.dX U⟩
theorem Gr (bG:ka G (bz base okin σ h) σ w F a) {cu ab j8:Option Operand} {tE bW kz:Option a6} (au:rT cu=some tE) (ax:rT ab=some bW) (a9:rT j8=some kz)
 (tF:(kz.isSome&&bW.isNone)=false) (len cap tG:Nat) (ni:cap<=tG) (adP:kz=none->len<=tG) {l u m:Nat} (b1:bound 0 (a6.ev G F) tE=some l) (ej:bound len (a6.ev G F) bW=some u) (kQ:bound cap (a6.ev G F) kz=some m)
 (dp:l<=u) (dr:u<=m) (gi:m<=cap) (Pm:Bool):
 (Instr.sliceBounds Pm len tG (cu.map a.eval) (ab.map a.eval) (j8.map a.eval)).run P w= .ok (l,u,if kz.isSome then m else tG) w:=by
 unfold Instr.sliceBounds
 rcases tD bG a9 with⟨rfl,rfl⟩|⟨M,lj,rfl,rfl,dL⟩
 · have em:m=cap:=by cases kQ;rfl
   rcases tD bG ax with⟨rfl,rfl⟩|⟨Pn,h',rfl,rfl,Bv⟩
   · have Gs:u=len:=by cases ej;rfl
     rcases tD bG au with⟨rfl,rfl⟩|⟨L,lI,rfl,rfl,gj⟩
     · have el:l=0:=by cases b1;rfl
       simp[Gs,el]
     · have:=tC (P:=P) (a:=a) (y:=len) gj b1 (by omega) .sliceB
       simp[this,Gs]
   · have cS:=fun c=>tC (P:=P) (a:=a) (y:=tG) Bv ej (by omega) c
     rcases tD bG au with⟨rfl,rfl⟩|⟨L,lI,rfl,rfl,gj⟩
     · have el:l=0:=by cases b1;rfl
       simp[cS,el]
     · have:=tC (P:=P) (a:=a) (y:=u) gj b1 (by omega) .sliceB
       simp[this,cS]
 · have hm:=fun c=>tC (P:=P) (a:=a) (y:=tG) dL kQ (by omega) c
   rcases tD bG ax with⟨rfl,rfl⟩|⟨Pn,h',rfl,rfl,Bv⟩
   · simp at tF
   · have cS:=fun c=>tC (P:=P) (a:=a) (y:=m) Bv ej (by omega) c
     rcases tD bG au with⟨rfl,rfl⟩|⟨L,lI,rfl,rfl,gj⟩
     · have el:l=0:=by cases b1;rfl
       simp[hm,cS,el]
     · have:=tC (P:=P) (a:=a) (y:=u) gj b1 (by omega) .slice3C
       simp[hm,cS,this]
end ops
end Go.Eng
namespace Go.Eng
open Go Go.RowKit
section fill
variable {P:Program} {base:Nat} {okin:Nat->Prop} {σ:Nat->Option (Nat × Nat)} {h:af} {w:World} {G:Nat->Option J} {F:Nat->J} {a:Act}
def setFrom (cs:Array Value) (off:Nat) (l:List Value):Array Value:=(l.zipIdx 0).foldl (fun cs (c,j)=>cs.setIfInBounds (off+j) c) cs
theorem Gt (l:List Value):∀(s off:Nat) (cs:Array Value),((l.zipIdx s).foldl (fun cs (c,j)=>cs.setIfInBounds (off+j) c) cs).size=cs.size/\
 ∀k (ag:k<cs.size) (jU:k<((l.zipIdx s).foldl (fun cs (c,j)=>cs.setIfInBounds (off+j) c) cs).size),
  ((l.zipIdx s).foldl (fun cs (c,j)=>cs.setIfInBounds (off+j) c) cs)[k]=if cS:off+s<=k/\k<off+s+l.length then l[k -(off+s)]'(by omega) else cs[k]:=by
 induction l with
 | nil=>intro s off cs;exact ⟨rfl,fun k ag jU=>by
   rw[dif_neg (fun cS=>by simp at cS;omega)]
   simp[List.zipIdx]⟩
 | cons v l bj=>
   intro s off cs
   have:=bj (s+1) off (cs.setIfInBounds (off+s) v)
   refine⟨by simpa[List.zipIdx_cons] using this.1,fun k ag jU=>?_⟩
   have e:=this.2 k (by simpa using ag) (by simpa[List.zipIdx_cons] using jU)
   simp only[List.zipIdx_cons,List.foldl_cons]
   rw[e]
   by_cases U:k=off+s
   · subst U
     rw[dif_neg (by omega),dif_pos (by simp)]
     simp
   · by_cases h2:off+s<=k/\k<off+s+(v::l).length
     · have hlen:(v::l).length=l.length+1:=rfl
       rw[dif_pos (by omega),dif_pos h2]
       have:k -(off+s)=(k -(off+(s+1)))+1:=by omega
       simp[this]
     · have hlen:(v::l).length=l.length+1:=rfl
       rw[dif_neg (by omega),dif_neg h2]
       rw[Array.getElem_setIfInBounds_ne (h:=by omega)]
theorem fold_eq (cs:Array Value) (off:Nat) (v:Array Value):v.zipIdx.foldl (fun cs (c,j)=>cs.setIfInBounds (off+j) c) cs=setFrom cs off v.toList:=by
 rw[<-Array.foldl_toList,Array.toList_zipIdx];rfl
def r1 (w:World) (ok:Nat->Prop) (σ:Nat->Option (Nat × Nat)) (cs:List J) (vs:Array Value):Prop:=vs.size=cs.length/\∀i (h:i<cs.length) (h':i<vs.size),bf w ok σ cs[i] vs[i]
theorem r1.eW {ok:Nat->Prop} {cs:List J} {arr:Array Value} (I:r1 w ok σ cs arr) {v:J} {cv:Value} (aF:bf w ok σ v cv) (aE:v.cells.all J.ch=true) {off:Nat} (aL:off+v.cells.length<=cs.length):
 r1 w ok σ (Eng.eW cs off v.cells) (setFrom arr off cv.cells.toList):=by
 obtain⟨dg,eI,_⟩:=aF.vD aE
 obtain⟨cp,ea⟩:=I
 have A:=Gt cv.cells.toList 0 off arr
 refine⟨by rw[xN aL,<-cp];exact A.1,fun i ab bW=>?_⟩
 have ab:i<cs.length:=by rw[xN aL] at ab;exact ab
 have e:=A.2 i (by omega) bW
 show bf w ok σ _ (((cv.cells.toList.zipIdx 0).foldl (fun cs (c,j)=>cs.setIfInBounds (off+j) c) arr)[i])
 rw[e]
 simp only[Eng.eW]
 rw[qE aL i _ ab]
 by_cases cS:off<=i/\i<off+v.cells.length
 · rw[dif_pos cS,dif_pos (by omega)]
   exact eI _ (by omega) (by omega)
 · rw[dif_neg cS,dif_neg (by omega)]
   exact ea i ab (by omega)
theorem Bw (bG:ka G (bz base okin σ h) σ w F a) (place:Nat->Option (Nat × Nat)):∀(ps:List (Nat × Operand)) (fe:List (Nat × Nat × a6)),
 (fe.length=ps.length/\∀k (ag:k<fe.length) (jU:k<ps.length),place (ps[k].1)=some (fe[k].1,fe[k].2.1)/\ei (ps[k].2)=some (fe[k].2.2))->
 ∀(cs:List J) (arr:Array Value) (jE:List J),r1 w (bz base okin σ h) σ cs arr->eZ cs (a6.ev G F) fe=some jE->
  ∃arr',Instr.fill place arr (ps.map fun(i,x)=>(i,a.eval x))=some arr'/\r1 w (bz base okin σ h) σ jE arr'
 | [],[],_,cs,arr,jE,I,bw=>by
   simp only[eZ] at bw;cases bw
   exact ⟨arr,rfl,I⟩
 | [],_::_,aS,_,_,_,_,_=>by simp at aS
 | _::_,[],aS,_,_,_,_,_=>by simp at aS
 | (i,x)::ps,(off,size,y)::fe,aS,cs,arr,jE,I,bw=>by
   simp only[eZ] at bw
   split at bw<;>try(cases bw;done)
   rename_i nF
   obtain⟨bL,cj,dd⟩:=nF
   obtain⟨bo,bB⟩:=aS
   have q:=bB 0 (by simp) (by simp)
   simp only[List.getElem_cons_zero] at q
   have aF:=bG.dX q.2
   obtain⟨dg,eI,_⟩:=aF.vD dd
   have df:(a.eval x).cells.size=size:=by rw[<-bL,<-dg];simp
   obtain⟨arr',au,ax⟩:=Bw bG place ps fe ⟨by simpa using bo,fun k ag jU=>by
    have:=bB (k+1) (by simp;omega) (by simp;omega)
    simpa using this⟩ _ _ jE (I.eW aF dd (by omega)) bw
   refine⟨arr',?_,ax⟩
   simp only[List.map_cons,Instr.fill,q.1]
   rw[if_neg (by simp[df];have:=I.1;omega),fold_eq]
   exact au
theorem Gu {cc:Array Field}:∀ {ps:List (Nat × Operand)} {fe:List (Nat × Nat × a6)},xG P cc ps=some fe->
 fe.length=ps.length/\∀k (ag:k<fe.length) (jU:k<ps.length),((cc[ps[k].1]?).bind fun f=>(jb P f.type).map fun s=>(f.offset,s))=some (fe[k].1,fe[k].2.1)/\ei (ps[k].2)=some (fe[k].2.2)
 | [],fe,e=>by cases e;exact ⟨rfl,fun k ag=>absurd ag (by simp)⟩
 | (i,x)::r,fe,e=>by
   simp only[xG] at e
   split at e<;>try(cases e;done)
   rename_i f y Bx U h2 aN
   split at e<;>try(cases e;done)
   rename_i s aE
   cases e
   obtain⟨l,q⟩:=Gu aN
   refine⟨by simp[l],fun k ag jU=>?_⟩
   cases k with
   | zero=>simp[U,h2,aE]
   | succ k=>exact q k (by simpa using ag) (by simpa using jU)
theorem Gv {s:Nat}:∀ {ps:List (Nat × Operand)} {fe:List (Nat × Nat × a6)},xH s ps=some fe->
 fe.length=ps.length/\∀k (ag:k<fe.length) (jU:k<ps.length),(some (ps[k].1*s,s):Option (Nat × Nat))=some (fe[k].1,fe[k].2.1)/\ei (ps[k].2)=some (fe[k].2.2)
 | [],fe,e=>by cases e;exact ⟨rfl,fun k ag=>absurd ag (by simp)⟩
 | (i,x)::r,fe,e=>by
   simp only[xH] at e
   split at e<;>try(cases e;done)
   rename_i y Bx U h2
   cases e
   obtain⟨l,q⟩:=Gv h2
   refine⟨by simp[l],fun k ag jU=>?_⟩
   cases k with
   | zero=>simp[U]
   | succ k=>exact q k (by simpa using ag) (by simpa using jU)
theorem tH {ok:Nat->Prop} {t:TypeId} {z:J} (ay:zeroOf P t=some z):∃aH,(zeroValue t).run P w= .ok aH w/\r1 w ok σ z.cells aH.cells/\z.cells.all J.ch=true/\dy w ok z aH/\∃i,P.info? t=some i/\i.zero=some aH:=by
 obtain⟨aH,au,ax,a9⟩:=Gl (w:=w) ay
 obtain⟨f1,f2,f3⟩:=Gk (w:=w) (ok:=ok) ax
 refine⟨aH,au,?_,f2,f1,a9⟩
 exact (bf.val (σ:=σ) _ _ f1).cells (.inl f2)
theorem Po (cc:List Field) (bw:Bf P cc=true):∃pl:List (Nat × Nat),(cc.mapM (fun f=>do pure (f.offset,<-sizeOf f.type):Field->Sem (Nat × Nat))).run P w= .ok pl w/\
 ∀i:Nat,pl[i]? =(cc[i]?).bind fun f=>(jb P f.type).map fun s=>(f.offset,s):=by
 induction cc with
 | nil=>exact ⟨[],by simp,fun i=>by simp⟩
 | cons f cc bj=>
   simp only[Bf,List.all_cons,Bool.and_eq_true] at bw
   obtain⟨s,aE⟩:=Option.isSome_iff_exists.1 bw.1
   obtain⟨pl,au,ax⟩:=bj bw.2
   refine⟨(f.offset,s)::pl,by simp[List.mapM_cons,run_sizeOf aE] at au|-;simp[au],fun i=>?_⟩
   cases i with
   | zero=>simp[aE]
   | succ i=>simpa using ax i
theorem Pp (bG:ka G (bz base okin σ h) σ w F a) {t:TypeId} {ps:Array (Nat × Operand)} {lX:j7} (I:fN P (.build t ps)=some lX) {bb r:Nat} {v:J} {h':af} {c:dV}
 (he:evalOp bb r (a6.ev G F) h lX=some (v,h',c)):
 h'=h/\∃cv,(Instr.build t (ps.map fun(i,x)=>(i,a.eval x))).run P w= .ok cv w/\bf w (bz base okin σ h) σ v cv:=by
 simp only[fN] at I
 split at I
 · rename_i cc z hu ay
   split at I<;>try(cases I;done)
   rename_i Pq
   obtain⟨fe,aS,rfl⟩:=Option.map_eq_some_iff.1 I
   simp only[evalOp] at he
   obtain⟨cs,bw,he⟩:=Option.map_eq_some_iff.1 he
   cases he
   obtain⟨aH,eb,iZ,_⟩:=tH (w:=w) (σ:=σ) (ok:=bz base okin σ h) ay
   obtain⟨pl,au,ax⟩:=Po (w:=w) cc.toList Pq
   obtain⟨arr',f1,f2⟩:=Bw bG (fun x=>pl[x]?) ps.toList fe (by
    obtain⟨l,q⟩:=Gu aS
    exact ⟨l,fun k ag jU=>by have:=q k ag jU;refine⟨?_,this.2⟩;rw[ax];simpa using this.1⟩) _ _ cs iZ bw
   refine⟨rfl,.agg arr',?_,.agg _ _ f2.1 f2.2⟩
   have Pr:(cc.mapM (fun f=>do pure (f.offset,<-sizeOf f.type):Field->Sem (Nat × Nat))).run P w= .ok pl.toArray w:=by
    rw[Array.mapM_eq_mapM_toList,Sem.run_map,au];rfl
   simp only[Instr.build,Sem.run_bind,eb,Result.andThen_ok,run_underlying hu,Pr]
   have:(fun x:Nat=>pl.toArray[x]?)=fun x=>pl[x]? :=by funext x;simp
   simp only[this,Array.toList_map,f1]
   simp
 · rename_i n e z hu ay
   split at I<;>try(cases I;done)
   rename_i s aE
   obtain⟨fe,aS,rfl⟩:=Option.map_eq_some_iff.1 I
   simp only[evalOp] at he
   obtain⟨cs,bw,he⟩:=Option.map_eq_some_iff.1 he
   cases he
   obtain⟨aH,eb,iZ,_⟩:=tH (w:=w) (σ:=σ) (ok:=bz base okin σ h) ay
   obtain⟨arr',f1,f2⟩:=Bw bG (fun i=>some (i*s,s)) ps.toList fe (Gv aS) _ _ cs iZ bw
   refine⟨rfl,.agg arr',?_,.agg _ _ f2.1 f2.2⟩
   simp only[Instr.build,Sem.run_bind,eb,Result.andThen_ok,run_underlying hu,run_sizeOf aE,Array.toList_map,f1]
   simp
 · cases I
end fill
end Go.Eng
namespace Go.Eng
open Go Go.RowKit
section
variable {P:Program} {base:Nat} {okin:Nat->Prop} {σ:Nat->Option (Nat × Nat)} {h:af} {w:World} {G:Nat->Option J} {F:Nat->J} {a:Act}
theorem Gw (H:cK base okin σ h w) {r:Nat} (aU:σ r=none) {t:TypeId} {z:J} {aH:Value} (ay:bf w (bz base okin σ h) σ z aH) (aE:z.cells.all J.ch=true):
 ∃bp a5,(newVar t aH).run P w= .ok ⟨w.heap.size,0,none⟩ a5/\Prog base okin σ h w bp (h.new r [z]) a5/\cK base okin bp (h.new r [z]) a5/\
  bf a5 (bz base okin bp (h.new r [z])) bp (.ptr r 0 0) (.pointer (some ⟨w.heap.size,0,none⟩))/\∀id,id≠r->bp id=σ id:=by
 obtain⟨cn,cd⟩:=ay.cells (.inl aE)
 have A:=H.alloc aU [z] aH.cells t z.cells.length (fun i ab=>by
  have:i=0:=by simpa using ab
  subst this
  refine⟨rfl,fun j aO=>?_⟩
  have kh:j<z.cells.length:=aO
  refine⟨aH.cells[j]'(by omega),?_,cd j kh (by omega)⟩
  rw[Nat.zero_mul,Nat.zero_add]
  exact Array.getElem?_eq_getElem (by omega))
 refine⟨_,_,?_,A.2,A.1,?_,?_⟩
 · simp[newVar,newRow]
 · have:=bf.ptr (w:=w.alloc (.cells aH.cells t)) (ok:=bz base okin (aw σ r (some (w.heap.size,z.cells.length))) (h.new r [z])) (σ:=aw σ r (some (w.heap.size,z.cells.length))) r 0 0 w.heap.size z.cells.length (by simp[aw])
   simpa using this
 · intro id bC;simp[aw,bC]
theorem dy.Gx {ok:Nat->Prop} {v:J} {cv:Value} (aU:bf w ok σ v cv) (aa:v.dO=true):dy w ok v cv:=by
 cases aU with
 | undef=>simp[J.dO] at aa
 | kv=>simp[J.dO] at aa
 | val _ _ h=>exact h
 | agg=>simp[J.dO] at aa
 | bD=>simp[J.dO] at aa
 | ref=>simp[J.dO] at aa
 | ptr=>simp[J.dO] at aa
 | eV=>simp[J.dO] at aa
 | fn f first caps fb cv U h2=>
   cases first with
   | cons=>simp[J.dO] at aa
   | nil=>
     cases caps with
     | cons=>simp[J.dO] at aa
     | nil=>
       obtain rfl:=Array.eq_empty_of_size_eq_zero U
       obtain rfl:=Array.eq_empty_of_size_eq_zero h2
       exact .fn f
 | fX=>simp[J.dO] at aa
theorem J.Ps {v:J} (h:v.dO=true):v.ch=true:=by
 cases v<;>first|rfl|simp[J.dO] at h
theorem J.Pt {v:J} (h:v.dJ=true):v.cells.all J.ch=true:=by
 simp only[J.dJ,List.all_eq_true] at h|-
 exact fun x ae=>J.Ps (h x ae)
def lY (w:World) (ok:Nat->Prop) (σ:Nat->Option (Nat × Nat)) (sz:Nat) (es:List J) (arr:Array Value):Prop:=
 arr.size=es.length*sz/\∀i (ab:i<es.length),es[i].cells.length=sz/\∀j (aO:j<es[i].cells.length) (ag:i*sz+j<arr.size),bf w ok σ es[i].cells[j] arr[i*sz+j]
theorem ov {i j n sz:Nat} (ab:i<n) (aO:j<sz):i*sz+j<n*sz:=by
 have:(i+1)*sz<=n*sz:=Nat.mul_le_mul_right _ ab
 rw[Nat.add_mul] at this;omega
theorem lY.set {ok:Nat->Prop} {sz:Nat} {es:List J} {arr:Array Value} (H:lY w ok σ sz es arr) {i:Nat} {v:J} {cv:Value} (aF:bf w ok σ v cv) (aE:v.cells.all J.ch=true) (aG:v.cells.length=sz) (ab:i<es.length):
 lY w ok σ sz (es.set i v) (setFrom arr (i*sz) cv.cells.toList):=by
 obtain⟨dg,eI,_⟩:=aF.vD aE
 obtain⟨cp,ea⟩:=H
 have A:=Gt cv.cells.toList 0 (i*sz) arr
 have rW:(setFrom arr (i*sz) cv.cells.toList).size=arr.size:=A.1
 refine⟨by rw[rW,cp];simp,fun k ag=>?_⟩
 have jU:k<es.length:=by simpa using ag
 by_cases lZ:k=i
 · subst lZ
   simp only[List.getElem_set_self]
   refine⟨aG,fun j aO px=>?_⟩
   have bF:k*sz+j<arr.size:=by rw[rW] at px;exact px
   have e:=A.2 (k*sz+j) bF px
   show bf w ok σ _ (((cv.cells.toList.zipIdx 0).foldl (fun cs (c,j)=>cs.setIfInBounds (k*sz+j) c) arr)[k*sz+j])
   rw[e,dif_pos (by omega)]
   have ax:k*sz+j -(k*sz+0)=j:=by omega
   simp only[ax]
   exact eI j (by omega) (by omega)
 · have bV:(es.set i v)[k]=es[k]:=by rw[List.getElem_set_ne (Ne.symm lZ)]
   rw[bV]
   refine⟨(ea k jU).1,fun j aO px=>?_⟩
   have bF:k*sz+j<arr.size:=by rw[rW] at px;exact px
   have Pu:j<sz:=by have:=(ea k jU).1;omega
   have e:=A.2 (k*sz+j) bF px
   show bf w ok σ _ (((cv.cells.toList.zipIdx 0).foldl (fun cs (c,j)=>cs.setIfInBounds (i*sz+j) c) arr)[k*sz+j])
   rw[e,dif_neg]
   · exact (ea k jU).2 j aO bF
   · rw[dg,aG]
     rintro ⟨dp,dr⟩
     rcases Nat.lt_or_gt_of_ne lZ with q|q
     · have:=ov q Pu;omega
     · have:=ov (i:=i) (n:=k) q (j:=0) (sz:=sz) (by omega)
       have:(i+1)*sz<=k*sz:=Nat.mul_le_mul_right _ q
       rw[Nat.add_mul] at this;omega
theorem Gy (bG:ka G (bz base okin σ h) σ w F a) {sz:Nat}:∀(ps:List (Nat × Operand)) (fe:List (Nat × a6)),xI ps=some fe->
 ∀(es:List J) (arr:Array Value) (qG:List J),lY w (bz base okin σ h) σ sz es arr->(∀e∈es,e.dJ=true)->e0 sz es (a6.ev G F) fe=some qG->
  ∃arr',Instr.fill (fun i=>some (i*sz,sz)) arr (ps.map fun(i,x)=>(i,a.eval x))=some arr'/\lY w (bz base okin σ h) σ sz qG arr'/\(∀e∈qG,e.dJ=true)/\qG.length=es.length
 | [],fe,aS,es,arr,qG,H,aa,bw=>by
   cases aS
   simp only[e0] at bw;cases bw
   exact ⟨arr,rfl,H,aa,rfl⟩
 | (i,x)::ps,fe,aS,es,arr,qG,H,aa,bw=>by
   simp only[xI] at aS
   split at aS<;>try(cases aS;done)
   rename_i y Bx U h2
   cases aS
   simp only[e0] at bw
   split at bw<;>try(cases bw;done)
   rename_i nF
   obtain⟨bL,cj,dd⟩:=nF
   have aF:=bG.dX U
   have qH:=J.Pt dd
   obtain⟨dg,_,_⟩:=aF.vD qH
   have df:(a.eval x).cells.size=sz:=by rw[<-bL,<-dg];simp
   obtain⟨arr',au,ax,a9,bX⟩:=Gy bG ps Bx h2 _ _ qG (H.set aF qH bL cj) (fun e he=>by
    rcases List.mem_or_eq_of_mem_set he with he|rfl
    · exact aa e he
    · exact dd) bw
   refine⟨arr',?_,ax,a9,by simpa using bX⟩
   simp only[List.map_cons,Instr.fill]
   rw[if_neg,fold_eq]
   · exact au
   · simp only[df,ne_eq,not_true_eq_false,decide_false,Bool.false_or,decide_eq_true_eq,Nat.not_lt]
     rw[H.1]
     have:(i+1)*sz<=es.length*sz:=Nat.mul_le_mul_right _ cj
     rw[Nat.add_mul] at this;omega
theorem Gz {ok:Nat->Prop} {z:J} {aH:Value} (ay:r1 w ok σ z.cells aH.cells) (adQ:0<z.cells.length) (n:Nat):
 lY w ok σ z.cells.length (List.replicate n z) (madeCells aH.cells (n*z.cells.length)):=by
 refine⟨by simp[madeCells],fun i ab=>?_⟩
 have bW:i<n:=by simpa using ab
 simp only[List.getElem_replicate]
 refine⟨trivial,fun j aO ag=>?_⟩
 have e:(madeCells aH.cells (n*z.cells.length))[i*z.cells.length+j]=aH.cells[j]'(by rw[ay.1];exact aO):=by
  simp only[madeCells,Array.getElem_map,Array.getElem_range]
  have:(i*z.cells.length+j)%aH.cells.size=j:=by
   rw[ay.1,Nat.add_comm,Nat.add_mul_mod_self_right];exact Nat.mod_eq_of_lt aO
  rw[this]
  exact getElem!_pos _ _ _
 rw[e]
 exact ay.2 j aO _
theorem Pv (H:cK base okin σ h w) (bG:ka G (bz base okin σ h) σ w F a) {t:TypeId} {n:Nat} {ps:Array (Nat × Operand)} {lX:j7} (I:fN P (.buildSlice t n ps)=some lX) {bb r:Nat} {v:J} {h':af} {c:dV}
 (he:evalOp bb r (a6.ev G F) h lX=some (v,h',c)):
 h'=h/\∃cv a5,(Instr.buildSlice t n (ps.map fun(i,x)=>(i,a.eval x))).run P w= .ok cv a5/\Prog base okin σ h w σ h a5/\cK base okin σ h a5/\bf a5 (bz base okin σ h) σ v cv:=by
 simp only[fN] at I
 split at I<;>try(cases I;done)
 rename_i e hu
 split at I<;>try(cases I;done)
 rename_i sz z fe aE ay aS
 split at I<;>try(cases I;done)
 rename_i r2
 cases I
 simp only[evalOp] at he
 split at he<;>try(cases he;done)
 rename_i nF
 obtain⟨bL,cj,dd⟩:=nF
 obtain⟨es,bw,he⟩:=Option.map_eq_some_iff.1 he
 cases he
 obtain⟨aH,eb,iZ,xP,_,_⟩:=tH (w:=w) (σ:=σ) (ok:=bz base okin σ h) ay
 have M:=Gz (σ:=σ) iZ (by omega) n
 rw[bL] at M
 obtain⟨arr,f1,f2,f3,f4⟩:=Gy bG ps.toList fe aS _ _ es M (fun e he=>by rw[List.eq_of_mem_replicate he];exact dd) bw
 have By:Prog base okin σ h w σ h (w.alloc (.cells arr e)):=⟨fun _ _ x=>x,fun b aa aL=>⟨aL,Below.heap_alloc _ _ _ aa⟩,(Below.refl _ _).alloc H.base _,Gf w _⟩
 have H1:cK base okin σ h (w.alloc (.cells arr e)):=by
  refine⟨fun id b s ab=>?_,fun id fZ iC=>?_,H.inj,by simp;have:=H.base;omega⟩
  · have:=H.val id b s ab;exact ⟨this.1,by simp;omega⟩
  · obtain⟨b,s,qI,ty,au,ax,a9⟩:=H.blk id fZ iC
    refine⟨b,s,qI,ty,au,by rw[Below.heap_alloc _ _ _ (H.val _ _ _ au).2];exact ax,fun i ab=>⟨(a9 i ab).1,fun j aO=>?_⟩⟩
    obtain⟨lG,bT,cL⟩:=(a9 i ab).2 j aO
    exact ⟨lG,bT,By.rep cL⟩
 have hlen:es.length=n:=by simpa using f4
 refine⟨rfl,.slice (some ⟨w.heap.size,0,none⟩) n n,_,?_,By,H1,?_⟩
 · have Pw:¬2^24<n*sz:=by omega
   have vG:Instr.fill (fun i=>some (i*sz,sz)) (madeCells aH.cells (n*sz)) (List.map (fun x=>(x.fst,a.eval x.snd)) ps.toList)=some arr:=f1
   unfold madeCells at vG
   by_cases aQ:n*sz=0
   · have bO:Array.range (n*sz)= #[]:=by rw[aQ];rfl
     rw[bO] at vG
     simp only[List.map_toArray,List.map_nil] at vG
     simp[Instr.buildSlice,run_underlying hu,run_sizeOf aE,aQ,newRow,Array.range_zero',vG]
   · simp[Instr.buildSlice,run_underlying hu,run_sizeOf aE,Pw,aQ,eb,vG,newRow]
 · refine .val _ _ ?_
   have:=dy.sl (w:=w.alloc (.cells arr e)) (ok:=bz base okin σ h) es true (some ⟨w.heap.size,0,none⟩) es.length sz (fun i j=>(arr[i*sz+j]?).getD undef) (Nat.le_refl _) (fun _=>rfl) (fun i ab=>(f2.2 i ab).1)
    (fun i j ab aO=>?_) (fun _=>rfl) (fun i ab j aO=>?_)
   · rw[hlen] at this;exact this
   · refine⟨_,rfl,.inr ⟨H.base,fun id s r3 aG=>?_⟩,?_⟩
     · have:=(H.val _ _ _ r3).2;simp at this
     · rw[pt,Nat.zero_add]
       have bF:=ov ab aO
       have:i*sz+j<arr.size:=by rw[f2.1];exact bF
       show World.cell? _ _=some ((arr[i*sz+j]?).getD undef)
       rw[Array.getElem?_eq_getElem this]
       show World.cell? (w.alloc (.cells arr e)) ⟨w.heap.size,i*sz+j,none⟩=_
       rw[World.cell?_alloc_new]
       exact Array.getElem?_eq_getElem this
   · have df:=(f2.2 i ab).1
     have bF:=ov ab (show j<sz by omega)
     have ag:i*sz+j<arr.size:=by rw[f2.1];exact bF
     show dy _ _ _ ((arr[i*sz+j]?).getD undef)
     rw[Array.getElem?_eq_getElem ag]
     refine dy.Gx (By.rep ((f2.2 i ab).2 j aO ag)) ?_
     have:=f3 _ (List.getElem_mem ab)
     exact List.all_eq_true.1 this _ (List.getElem_mem aO)
theorem Px (H:cK base okin σ h w) (bG:ka G (bz base okin σ h) σ w F a) {r:Nat} (aU:σ r=none) {t:TypeId} {X Y:Operand} {lX:j7} (I:fN P (.makeSlice t X Y)=some lX) {bb:Nat} {v:J} {h':af} {c:dV}
 (he:evalOp bb r (a6.ev G F) h lX=some (v,h',c)):
 ∃bp cv a5,(Instr.makeSlice t (a.eval X) (a.eval Y)).run P w= .ok cv a5/\Prog base okin σ h w bp h' a5/\cK base okin bp h' a5/\bf a5 (bz base okin bp h') bp v cv/\∀id,id≠r->bp id=σ id:=by
 simp only[fN] at I
 split at I<;>try(cases I;done)
 rename_i e hu
 split at I<;>try(cases I;done)
 rename_i z sz bytes x y ay aE vH ae a2
 cases I
 simp only[evalOp] at he
 split at he<;>try(cases he;done)
 rename_i bL l cj dP aG nG
 split at he<;>try(cases he;done)
 rename_i nF
 obtain⟨dp,dr,gi,jV,GA,Py,Pz⟩:=nF
 cases he
 have rx:=bG.dX ae
 have ry:=bG.dX a2
 rw[aG] at rx;rw[nG] at ry
 rw[rx.jF,ry.jF]
 obtain⟨aH,eb,iZ,xP,_,i,ab,PA⟩:=tH (w:=w) (σ:=σ) (ok:=bz base okin σ h) ay
 have tI:i.size=sz:=by
  obtain⟨iY,au,ax⟩:=Option.map_eq_some_iff.1 aE
  rw[ab] at au;cases au;exact ax
 have Bz:i.bytes=bytes:=by
  obtain⟨iY,au,ax⟩:=Option.map_eq_some_iff.1 vH
  rw[ab] at au;cases au;exact ax
 have BA:dP<=dP*(bytes:Int):=by
  have lJ:(1:Int)<=bytes:=by omega
  have BB:0<=dP:=by omega
  have:=Int.mul_le_mul_of_nonneg_left lJ BB
  simpa using this
 have cw:=run_make (P:=P) w t e i aH hu ab PA bL cj l dP dp dr (by rw[Bz,Int.mul_comm];omega) (by omega)
 have M:=Gz (σ:=σ) iZ (by omega) dP.toNat
 rw[GA] at M
 have A:=H.alloc aU (List.replicate dP.toNat z) (madeCells aH.cells (dP.toNat*i.size)) e sz (fun k ag=>by
  refine⟨(M.2 k ag).1,fun j aO=>?_⟩
  rw[tI]
  have bF:k*sz+j<(madeCells aH.cells (dP.toNat*sz)).size:=by rw[M.1];exact ov ag (by have:=(M.2 k ag).1;omega)
  exact ⟨_,Array.getElem?_eq_getElem bF,(M.2 k ag).2 j aO bF⟩)
 refine⟨_,_,_,cw,A.2,A.1,?_,fun id bC=>by simp[aw,bC]⟩
 exact .ref r 0 l.toNat dP.toNat _ dP.toNat w.heap.size sz (by simp[aw]) (by omega) (Nat.le_refl _) (fun _=>⟨by simp,by
  rw[Bi];simp[madeCells,tI]⟩)
end
end Go.Eng
