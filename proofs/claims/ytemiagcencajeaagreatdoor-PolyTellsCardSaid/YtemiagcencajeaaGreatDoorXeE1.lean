import Derived.Orders
import Derived.Below
import Derived.Laws.CopyRow
import Derived.Laws.MakeOwn
set_option linter.unusedSimpArgs false
set_option linter.unusedVariables false
set_option linter.unusedSectionVars false
namespace Go.Eng
open Go
inductive I where
 | undef
 | kd
 | int (k:IntKind) (n:Int)
 | bool (b:Bool)
 | str (s:ByteArray)
 | sl (xs:List I) (ex:Bool)
 | ref (id off len cap:Nat)
 | ptr (id idx cu:Nat)
 | eK (v:I)
 | fn (f:FuncId) (first caps:List I)
 | nilfn
 | fR (id:Nat)
 | mp (acY:List (Int × FuncId))
 | agg (cs:List I)
 | bo (vs:List I)
 deriving Inhabited
def I.cells:I->List I
 | .agg cs=>cs
 | v=>[v]
def I.bW:I->Bool
 | .undef| .kd| .agg _| .bo _=>false
 | _=>true
def I.dk:I->Bool
 | .int .. | .bool _| .str _| .sl .. | .nilfn| .fn _ [] []=>true
 | _=>false
def I.dh (v:I):Bool:=v.cells.all I.dk
def partOf (bM:Bool) (cs:List I):Option I:=
 if bM then some (.agg cs) else match cs with
  | [c]=>if c.bW=true then some c else none
  | _=>none
def cut (cs:List I) (off sz:Nat):Option (List I):=if off+sz<=cs.length then some ((cs.drop off).take sz) else none
def eB (cs:List I) (off:Nat) (vs:List I):List I:=cs.take off++vs++cs.drop (off+vs.length)
inductive c0 where
 | normal
 | exit (id:Nat)
 | ret
inductive ff where
 | ready
 | busy
 | done (e:c0)
structure af where
 cells:Nat->Option (List I)
 shut:Nat->Bool
 next:Nat
 aS:Nat->Option ff:=fun _=>none
def an {α:Type} (f:Nat->α) (k:Nat) (v:α):Nat->α:=fun i=>if i=k then v else f i
structure aI where
 F:Nat->I
 h:af
inductive aQ where
 | t (n:Nat)
 | c (v:I)
 | g (i:Nat)
 | f (n:FuncId)
 deriving Inhabited
inductive jQ where
 | mv (x:aQ)
 | pick (c a b:aQ)
 | alloc (z:I)
 | box (x:aQ)
 | build (z:List I) (ps:List (Nat × Nat × aQ))
 | bsl (sz:Nat) (z:I) (n:Nat) (ps:List (Nat × aQ))
 | load (bM:Bool) (sz:Nat) (x:aQ)
 | store (sz:Nat) (a v:aQ)
 | bin (ty:Nat) (op:BinOp) (x y:aQ)
 | eqA (neg:Bool) (n:Nat) (x y:aQ)
 | un (op:UnOp) (x:aQ)
 | conv (k:IntKind) (x:aQ)
 | mkfn (f:FuncId) (first caps:List aQ)
 | mksl (z:I) (sz bytes:Nat) (l c:aQ)
 | slice (sz:Nat) (x:aQ) (b' ab jR:Option aQ)
 | faddr (bM:Bool) (off sz:Nat) (x:aQ)
 | field (bM:Bool) (off sz:Nat) (x:aQ)
 | iaddrS (sz:Nat) (x i:aQ)
 | iaddrA (bM:Bool) (n sz:Nat) (x i:aQ)
 | idxA (bM:Bool) (n sz:Nat) (x i:aQ)
 | idxS (x i:aQ)
 | extract (x:aQ) (i:Nat)
 | call (f:aQ) (args:List aQ)
 | len (str:Bool) (x:aQ)
 | mlook (x i:aQ)
 | isnil (neg:Bool) (x:aQ)
 | app (sz bytes:Nat) (x y:aQ)
 | min (xs:List aQ)
 | max (xs:List aQ)
 deriving Inhabited
def aQ.rd:aQ->List Nat
 | .t n=>[n]
 | _=>[]
def aQ.xj:Option aQ->List Nat
 | some x=>x.rd
 | none=>[]
def jQ.reads:jQ->List Nat
 | .mv x| .box x| .load _ _ x| .un _ x| .conv _ x| .faddr _ _ _ x| .field _ _ _ x| .extract x _| .len _ x| .isnil _ x=>x.rd
 | .pick c a b=>c.rd++a.rd++b.rd
 | .alloc _=>[]
 | .build _ ps=>ps.flatMap fun p=>p.2.2.rd
 | .bsl _ _ _ ps=>ps.flatMap fun p=>p.2.rd
 | .store _ a v=>a.rd++v.rd
 | .bin _ _ x y| .eqA _ _ x y| .mksl _ _ _ x y| .iaddrS _ x y| .iaddrA _ _ _ x y| .idxA _ _ _ x y| .idxS x y| .app _ _ x y| .mlook x y=>x.rd++y.rd
 | .mkfn _ a b=>a.flatMap aQ.rd++b.flatMap aQ.rd
 | .slice _ x b' ab jR=>x.rd++aQ.xj b'++aQ.xj ab++aQ.xj jR
 | .call f as=>f.rd++as.flatMap aQ.rd
 | .min xs| .max xs=>xs.flatMap aQ.rd
structure aU where
 dst:Option Nat
 op:jQ
 guard:Option (Nat × Bool)
 deriving Inhabited
abbrev aU.m (a b:Nat):aU:=⟨some a,.mv (.t b),none⟩
abbrev aU.o (a:Nat) (o:jQ):aU:=⟨some a,o,none⟩
abbrev aU.n (o:jQ):aU:=⟨none,o,none⟩
abbrev aU.g (a:Nat) (o:jQ) (t:Nat) (w:Bool):aU:=⟨some a,o,some (t,w)⟩
def aU.reads (e:aU):List Nat:=(match e.guard with
 | some (t,_)=>[t]
 | none=>[])++e.op.reads
def aU.apart (e f:aU):Bool:=
 (match e.dst with
  | some d=>!(f.reads.contains d)&&f.dst != some d
  | none=>true)&&
 (match f.dst with
  | some d=>!(e.reads.contains d)
  | none=>true)
inductive cU where
 | skip
 | region (draw:Bool) (ops:List aU) (eL:List Nat)
 | seq (a b:cU)
 | cond (c:aQ) (a b:cU)
 | block (id:Nat) (c:cU)
 | loop (c:cU)
 | kM (f:aQ) (ps:List Nat) (dm body:cU)
 | exit (id:Nat)
 | ret
 deriving Inhabited
inductive l9 where
 | tmp (t:Nat)
 | cell (t:Nat) (bM:Bool) (sz:Nat)
 deriving Inhabited
structure aM where
 body:cU
 res:List l9
 deriving Inhabited
inductive dy where
 | pure|rd|fg|wr
 | jj (id:Nat)
 | k2 (p':Nat->Bool)
mutual
def I.beq:I->I->Bool
 | .undef,.undef=>true
 | .kd,.kd=>true
 | .int k n,.int k' OD=>decide (k=k')&&decide (n=OD)
 | .bool a,.bool b=>decide (a=b)
 | .str a,.str b=>decide (a=b)
 | .sl xs e,.sl ys f=>mu xs ys&&decide (e=f)
 | .ref a b c d,.ref eh jS c' o2=>decide (a=eh)&&decide (b=jS)&&decide (c=c')&&decide (d=o2)
 | .ptr a b c,.ptr eh jS c'=>decide (a=eh)&&decide (b=jS)&&decide (c=c')
 | .eK a,.eK b=>I.beq a b
 | .fn f a b,.fn g c d=>decide (f=g)&&mu a c&&mu b d
 | .nilfn,.nilfn=>true
 | .fR a,.fR b=>decide (a=b)
 | .mp m,.mp k3=>decide (m=k3)
 | .agg a,.agg b=>mu a b
 | .bo a,.bo b=>mu a b
 | _,_=>false
def mu:List I->List I->Bool
 | [],[]=>true
 | x::xs,y::ys=>I.beq x y&&mu xs ys
 | _,_=>false
end
mutual
theorem I.beq_eq:∀(a b:I),I.beq a b=true->a=b
 | .undef,b,h=>by cases b<;>simp_all[I.beq]
 | .kd,b,h=>by cases b<;>simp_all[I.beq]
 | .int k n,b,h=>by cases b<;>simp_all[I.beq]
 | .bool a,b,h=>by cases b<;>simp_all[I.beq]
 | .str a,b,h=>by cases b<;>simp_all[I.beq]
 | .sl xs e,b,h=>by
   cases b<;>simp only[I.beq,Bool.and_eq_true,decide_eq_true_eq,Bool.false_eq_true] at h
   rw[rl _ _ h.1,h.2]
 | .ref a b c d,x,h=>by cases x<;>simp_all[I.beq]
 | .ptr a b c,x,h=>by cases x<;>simp_all[I.beq]
 | .eK a,b,h=>by
   cases b<;>simp only[I.beq,Bool.false_eq_true] at h
   rw[I.beq_eq _ _ h]
 | .fn f a b,x,h=>by
   cases x<;>simp only[I.beq,Bool.and_eq_true,decide_eq_true_eq,Bool.false_eq_true] at h
   rw[h.1.1,rl _ _ h.1.2,rl _ _ h.2]
 | .nilfn,b,h=>by cases b<;>simp_all[I.beq]
 | .fR a,b,h=>by cases b<;>simp_all[I.beq]
 | .mp m,b,h=>by cases b<;>simp_all[I.beq]
 | .agg a,b,h=>by
   cases b<;>simp only[I.beq,Bool.false_eq_true] at h
   rw[rl _ _ h]
 | .bo a,b,h=>by
   cases b<;>simp only[I.beq,Bool.false_eq_true] at h
   rw[rl _ _ h]
theorem rl:∀(a b:List I),mu a b=true->a=b
 | [],[],_=>rfl
 | [],_::_,h=>by simp[mu] at h
 | _::_,[],h=>by simp[mu] at h
 | x::xs,y::ys,h=>by
   simp only[mu,Bool.and_eq_true] at h
   rw[I.beq_eq _ _ h.1,rl _ _ h.2]
end
mutual
theorem I.beq_refl:∀(a:I),I.beq a a=true
 | .undef| .kd| .int _ _| .bool _| .str _| .ref _ _ _ _| .ptr _ _ _| .nilfn| .fR _| .mp _=>by simp[I.beq]
 | .sl xs e=>by simp[I.beq,o3 xs]
 | .eK a=>by simp[I.beq,I.beq_refl a]
 | .fn f a b=>by simp[I.beq,o3 a,o3 b]
 | .agg a=>by simp[I.beq,o3 a]
 | .bo a=>by simp[I.beq,o3 a]
theorem o3:∀(a:List I),mu a a=true
 | []=>rfl
 | x::xs=>by simp[mu,I.beq_refl x,o3 xs]
end
def xk:Option (List I)->Option (List I)->Bool
 | none,none=>true
 | some a,some b=>mu a b
 | _,_=>false
theorem OE {a b:Option (List I)} (h:xk a b=true):a=b:=by
 cases a<;>cases b<;>simp only[xk,Bool.false_eq_true] at h
 · rfl
 · rw[rl _ _ h]
theorem xl (a:Option (List I)):xk a a=true:=by
 cases a
 · rfl
 · exact o3 _
section eval
variable (G:Nat->Option I)
def aQ.ev (F:Nat->I):aQ->I
 | .t n=>F n
 | .c v=>v
 | .g i=>match G i with
   | some v=> .eK v
   | none=> .undef
 | .f n=> .fn n [] []
def iI (op:BinOp) (k:IntKind) (a b:Int):Option I:=
 match op with
 | .add=>some (.int k (k.wrap (a+b)))
 | .sub=>some (.int k (k.wrap (a - b)))
 | .mul=>some (.int k (k.wrap (a*b)))
 | .quo=>if b=0 then none else some (.int k (k.wrap (a.tdiv b)))
 | .rem=>if b=0 then none else some (.int k (a.tmod b))
 | .and=>some (.int k (k.wrap ((BitVec.ofInt k.bits a&&&BitVec.ofInt k.bits b).toNat)))
 | .or=>some (.int k (k.wrap ((BitVec.ofInt k.bits a|||BitVec.ofInt k.bits b).toNat)))
 | .xor=>some (.int k (k.wrap ((BitVec.ofInt k.bits a ^^^ BitVec.ofInt k.bits b).toNat)))
 | .andNot=>some (.int k (k.wrap ((BitVec.ofInt k.bits a&&& ~~~(BitVec.ofInt k.bits b)).toNat)))
 | .eql=>some (.bool (a == b))
 | .neq=>some (.bool (a != b))
 | .lss=>some (.bool (decide (a<b)))
 | .leq=>some (.bool (decide (a<=b)))
 | .gtr=>some (.bool (decide (a>b)))
 | .geq=>some (.bool (decide (a>=b)))
 | _=>none
def iJ (op:BinOp) (k:IntKind) (a b:Int):Option I:=
 if b<0 then none else
 match op with
 | .shl=>some (.int k (k.wrap (a*2^(Min.min b.toNat k.bits))))
 | .shr=>some (.int k (a.fdiv (2^(Min.min b.toNat k.bits))))
 | _=>none
def e7 (ty:Nat) (op:BinOp):I->I->Option I
 | .int k a,.int k' b=>if op= .shl\/op= .shr then iJ op k a b else if k=k' then iI op k a b else none
 | .bool a,.bool b=>if ty=1 then match op with
   | .eql=>some (.bool (a == b))
   | .neq=>some (.bool (!(a == b)))
   | _=>none else none
 | .str a,.str b=>match op with
   | .eql=>some (.bool (a.toList == b.toList))
   | .neq=>some (.bool (!(a.toList == b.toList)))
   | _=>none
 | _,_=>none
def e8 (op:UnOp):I->Option I
 | .int k n=>match op with
   | .neg=>some (.int k (k.wrap (0 - n)))
   | .xor=>some (.int k (k.wrap ((BitVec.ofInt k.bits (if k.signed then -1 else k.max) ^^^ BitVec.ofInt k.bits n).toNat)))
   | _=>none
 | .bool b=>match op with
   | .not=>some (.bool !b)
   | _=>none
 | _=>none
def eC:List I->List I->Option Bool
 | [],[]=>some true
 | .int k a::xs,.int k' b::ys=>if k=k' then (eC xs ys).map fun r=>(a == b)&&r else none
 | _,_=>none
def eD (cells:List I) (a5:aQ->I):List (Nat × Nat × aQ)->Option (List I)
 | []=>some cells
 | (off,size,x)::rest=>
   if (a5 x).cells.length=size/\off+size<=cells.length/\((a5 x).cells.all I.bW)=true then eD (eB cells off (a5 x).cells) a5 rest else none
def eE (sz:Nat) (es:List I) (a5:aQ->I):List (Nat × aQ)->Option (List I)
 | []=>some es
 | (i,x)::rest=>
   if (a5 x).cells.length=sz/\i<es.length/\(a5 x).dh=true then eE sz (es.set i (a5 x)) a5 rest else none
def bound (d:Nat) (a5:aQ->I):Option aQ->Option Nat
 | none=>some d
 | some x=>match a5 x with
   | .int _ n=>if 0<=n then some n.toNat else none
   | _=>none
def elems (h:af):I->Option (List I)
 | .sl xs _=>some xs
 | .ref id off len _=>match h.cells id with
   | some blk=>if off+len<=blk.length then some ((blk.drop off).take len) else none
   | none=>none
 | _=>none
def sizedB (sz:Nat):Option (List I)->Bool
 | some blk=>decide (0<blk.length)&&blk.all fun e=>e.cells.length == sz
 | none=>false
def j1:I->Bool
 | .sl .. =>true
 | _=>false
def df (h:af):I->Option (I × List Nat)
 | .ref id off len _=>match h.cells id with
   | some blk=>if off+len<=blk.length/\(blk.all I.dh)=true then some (.sl ((blk.drop off).take len) false,[id]) else none
   | none=>none
 | .int k n=>some (.int k n,[])
 | .bool b=>some (.bool b,[])
 | .str s=>some (.str s,[])
 | .sl xs e=>some (.sl xs e,[])
 | .nilfn=>some (.nilfn,[])
 | .mp m=>some (.mp m,[])
 | _=>none
def dM (h:af):List I->Option (List I × List Nat)
 | []=>some ([],[])
 | v::vs=>match df h v,dM h vs with
   | some (jT,a),some (l_,b)=>some (jT::l_,a++b)
   | _,_=>none
def ib (h:af):I->Option (I × List Nat)
 | .agg cs=>(dM h cs).map fun(jk,a)=>(.agg jk,a)
 | v=>df h v
def dC (h:af):List I->Option (List I × List Nat)
 | []=>some ([],[])
 | v::vs=>match ib h v,dC h vs with
   | some (jT,a),some (l_,b)=>some (jT::l_,a++b)
   | _,_=>none
def iY (h:af):I->Option (I × List Nat)
 | .bo vs=>(dC h vs).map fun(l_,a)=>(.bo l_,a)
 | v=>ib h v
def af.close (h:af) (ids:List Nat):af:={h with shut:=fun k=>h.shut k||ids.contains k}
def af.new (h:af) (r:Nat) (blk:List I):af:={h with cells:=an h.cells r (some blk)}
def jy (f:Int->Int->Int):List I->Option I
 | [.int k a]=>some (.int k a)
 | .int k a:: .int k' b::rest=>if k=k' then jy f (.int k (f a b)::rest) else none
 | _=>none
termination_by l=>l.length
def evalOp (aX r:Nat) (a5:aQ->I) (h:af):jQ->Option (I × af × dy)
 | .mv x=>some (a5 x,h,.pure)
 | .pick c a b=>match a5 c with
   | .bool t=>some (if t then a5 a else a5 b,h,.pure)
   | _=>none
 | .alloc z=>some (.ptr r 0 0,h.new r [z],.fg)
 | .box x=>if (a5 x).cells.all I.bW then some (.ptr r 0 0,h.new r [a5 x],.fg) else none
 | .build z ps=>(eD z a5 ps).map fun cs=>(.agg cs,h,.pure)
 | .bsl sz z n ps=>if z.cells.length=sz/\0<sz/\z.dh=true then (eE sz (List.replicate n z) a5 ps).map fun es=>(.sl es true,h,.pure) else none
 | .load bM sz x=>match a5 x with
   | .eK v=>(cut v.cells 0 sz).bind fun cs=>(partOf bM cs).map fun u=>(u,h,.pure)
   | .ptr id idx cu=>(h.cells id).bind fun blk=>(blk[idx]?).bind fun e=>(cut e.cells cu sz).bind fun cs=>(partOf bM cs).map fun u=>(u,h,if id<aX then .jj id else .wr)
   | _=>none
 | .store sz a v=>match a5 a with
   | .ptr id idx cu=>
     if h.shut id=true then none else
     (h.cells id).bind fun blk=>(blk[idx]?).bind fun e=>
       if (a5 v).cells.length=sz/\cu+sz<=e.cells.length/\((a5 v).cells.all I.bW)=true then
        match e with
        | .agg cs=>some (.undef,h.new id (blk.set idx (.agg (eB cs cu (a5 v).cells))),.wr)
        | _=>match (a5 v).cells with
          | [u]=>some (.undef,h.new id (blk.set idx u),.wr)
          | _=>none
       else none
   | _=>none
 | .bin ty op x y=>(e7 ty op (a5 x) (a5 y)).map fun v=>(v,h,.pure)
 | .eqA neg n x y=>match a5 x,a5 y with
   | .agg xs,.agg ys=>if xs.length=n then (eC xs ys).map fun b=>(.bool (b != neg),h,.pure) else none
   | _,_=>none
 | .un op x=>(e8 op (a5 x)).map fun v=>(v,h,.pure)
 | .conv k x=>match a5 x with
   | .int _ n=>some (.int k (k.wrap n),h,.pure)
   | _=>none
 | .mkfn f first caps=>some (.fn f (first.map a5) (caps.map a5),h,.pure)
 | .mksl z sz bytes l c=>match a5 l,a5 c with
   | .int _ a,.int _ b=>
     if 0<=a/\a<=b/\b*bytes<=140737488355328/\0<bytes/\z.cells.length=sz/\0<sz/\(z.cells.all I.bW)=true
     then some (.ref r 0 a.toNat b.toNat,h.new r (List.replicate b.toNat z),.fg) else none
   | _,_=>none
 | .slice sz x b' ab jR=>match a5 x with
   | .ref id off len cap=>match bound 0 a5 b',bound len a5 ab,bound cap a5 jR with
     | some l,some u,some m=>if l<=u/\u<=m/\m<=cap/\(l=0\/sizedB sz (h.cells id)=true) then some (.ref id (off+l) (u - l) (m - l),h,if id<aX then .rd else .wr) else none
     | _,_,_=>none
   | .sl xs ex=>match bound 0 a5 b',bound xs.length a5 ab,bound xs.length a5 jR with
     | some l,some u,some m=>if l<=u/\u<=m/\m<=xs.length/\(l=0\/(xs.all fun e=>e.cells.length == sz)=true) then some (.sl ((xs.drop l).take (u - l)) ((jR.isSome||ex)&&m == u),h,.pure) else none
     | _,_,_=>none
   | _=>none
 | .faddr bM off sz x=>match a5 x with
   | .eK v=>(cut v.cells off sz).bind fun cs=>(partOf bM cs).map fun u=>(.eK u,h,.pure)
   | .ptr id idx cu=>some (.ptr id idx (cu+off),h,.pure)
   | _=>none
 | .field bM off sz x=>match a5 x with
   | .agg cs=>(cut cs off sz).bind fun cs=>(partOf bM cs).map fun u=>(u,h,.pure)
   | _=>none
 | .iaddrS sz x i=>match a5 x,a5 i with
   | .sl xs _,.int _ n=>if 0<=n then (xs[n.toNat]?).bind fun e=>if e.cells.length=sz then some (.eK e,h,.pure) else none else none
   | .ref id off len _,.int _ n=>if 0<=n/\n<len/\sizedB sz (h.cells id)=true then some (.ptr id (off+n.toNat) 0,h,if id<aX then .rd else .wr) else none
   | _,_=>none
 | .iaddrA bM n sz x i=>match a5 x,a5 i with
   | .eK v,.int _ j=>if 0<=j/\j<n then (cut v.cells (j.toNat*sz) sz).bind fun cs=>(partOf bM cs).map fun u=>(.eK u,h,.pure) else none
   | .ptr id idx cu,.int _ j=>if 0<=j/\j<n then some (.ptr id idx (cu+j.toNat*sz),h,.pure) else none
   | _,_=>none
 | .idxA bM n sz x i=>match a5 x,a5 i with
   | .agg cs,.int _ j=>if 0<=j/\j<n then (cut cs (j.toNat*sz) sz).bind fun cs=>(partOf bM cs).map fun u=>(u,h,.pure) else none
   | _,_=>none
 | .idxS x i=>match a5 x,a5 i with
   | .str s,.int _ j=>if 0<=j then (s[j.toNat]?).map fun b=>(.int .u8 b.toNat,h,.pure) else none
   | _,_=>none
 | .extract x i=>match a5 x with
   | .bo vs=>(vs[i]?).map fun v=>(v,h,.pure)
   | _=>none
 | .len str x=>match a5 x with
   | .sl xs _=>if str=false then some (.int .i64 xs.length,h,.pure) else none
   | .ref _ _ len _=>if str=false then some (.int .i64 len,h,.pure) else none
   | .str s=>if str=true then some (.int .i64 s.size,h,.pure) else none
   | _=>none
 | .mlook x i=>match a5 x,a5 i with
   | .mp m,.int .i64 n=>some (.bo [match m.lookup n with
     | some f=> .fn f [] []
     | none=> .nilfn,.bool (m.lookup n).isSome],h,.pure)
   | _,_=>none
 | .isnil neg x=>match a5 x with
   | .sl xs _=>if 0<xs.length then some (.bool neg,h,.pure) else none
   | .ref _ _ len cap=>if 0<len\/0<cap then some (.bool neg,h,.pure) else none
   | _=>none
 | .app sz bytes x y=>(elems h (a5 y)).bind fun ys=>
   if 0<sz/\0<bytes/\(ys.all fun e=>e.cells.length == sz&&e.cells.all I.bW)=true then
    match a5 x with
    | .sl xs ex=>if ys.length=0 then some (.sl xs ex,h,if j1 (a5 y) then .pure else .wr) else if ex=true/\(xs.length+ys.length)*bytes<=35184372088832/\0<ys.length/\(xs.all fun e=>e.cells.length == sz)=true
        then some (.ref r 0 (xs.length+ys.length) (xs.length+ys.length),h.new r (xs++ys),if j1 (a5 y) then .fg else .wr) else none
    | .ref id off len cap=>if ys.length=0 then some (.ref id off len cap,h,if j1 (a5 y) then .pure else .wr) else if h.shut id=true then none else (h.cells id).bind fun blk=>
        if off+len<=blk.length/\(len+ys.length)*bytes<=35184372088832/\0<ys.length/\(blk.all fun e=>e.cells.length == sz)=true then
         if len+ys.length<=cap then
          if off+cap<=blk.length then some (.ref id off (len+ys.length) cap,h.new id (blk.take (off+len)++ys++blk.drop (off+len+ys.length)),.wr) else none
         else if off=0/\0<len then some (.ref r 0 (len+ys.length) (len+ys.length),{h with cells:=an (an h.cells id none) r (some (blk.take len++ys))},.wr) else none
        else none
    | _=>none
   else none
 | .min xs=>(jy (fun a b=>if b<a then b else a) (xs.map a5)).map fun v=>(v,h,.pure)
 | .max xs=>(jy (fun a b=>if a<b then b else a) (xs.map a5)).map fun v=>(v,h,.pure)
 | .call .. =>none
end eval
def cg (F:Nat->I) (d:Option Nat) (v:I):Nat->I:=
 match d with
 | some t=>an F t v
 | none=>F
def qa (aX:Nat) (h h':af):Nat->Bool:=fun id=>decide (id<aX)&&xk (h.cells id) (h'.cells id)
def ke:dy->dy->Bool
 | .pure,_|_,.pure=>true
 | .jj id,.k2 k| .k2 k,.jj id=>k id
 | .k2 _,.fg=>true
 | .wr,_|_,.wr=>false
 | .k2 _,_|_,.k2 _=>false
 | _,_=>true
def te (cs:List dy) (rm:List Nat):Bool:=
 cs.zipIdx.all fun(c,j)=>cs.zipIdx.all fun(d,i)=>!(decide (i<j))||(rm.getD j 0).testBit i||ke d c
section exec
variable (G:Nat->Option I) (Φ:FuncId->Option aM) (tab:FuncId->Option (List I->Option I))
def ds (args:List I):Nat->I:=fun i=>args.getD i .undef
def eF (h:af) (F:Nat->I):l9->Option I
 | .tmp t=>some (F t)
 | .cell t bM sz=>match F t with
   | .ptr id idx cu=>(h.cells id).bind fun blk=>(blk[idx]?).bind fun e=>(cut e.cells cu sz).bind fun cs=>partOf bM cs
   | _=>none
def dz (h:af) (F:Nat->I) (rs:List l9):Option I:=
 (rs.mapM (eF h F)).map fun
   | [v]=>v
   | vs=> .bo vs
inductive ku where
 | fn (f:FuncId)
 | k4 (id:Nat)
def cM (b5:ku->List I->af->Option (I × af)) (aX r:Nat) (e:aU) (s:aI):Option (aI × dy):=
 match e.op with
 | .call f args=>match f.ev G s.F with
   | .fn n first caps=>match tab n with
     | some T=>match dC s.h (first++args.map (aQ.ev G s.F)++caps) with
       | some (vs,ids)=>(T vs).map fun v=>(⟨cg s.F e.dst v,s.h.close ids⟩,if ids.isEmpty then .pure else if ids.all (fun i=>decide (i<aX)) then .rd else .wr)
       | none=>none
     | none=>(b5 (.fn n) (first++args.map (aQ.ev G s.F)++caps) s.h).map fun(v,h')=>(⟨cg s.F e.dst v,h'⟩,.k2 (qa aX s.h h'))
   | .fR id=>(b5 (.k4 id) (args.map (aQ.ev G s.F)) s.h).map fun(v,h')=>(⟨cg s.F e.dst v,h'⟩,.wr)
   | _=>none
 | op=>(evalOp aX r (aQ.ev G s.F) s.h op).map fun(v,h',c)=>(⟨cg s.F e.dst v,h'⟩,c)
def ch (b5:ku->List I->af->Option (I × af)) (aX r:Nat) (e:aU) (s:aI):Option (aI × dy):=
 match e.guard with
 | none=>cM G tab b5 aX r e s
 | some (t,want)=>match s.F t with
   | .bool b=>if b=want then cM G tab b5 aX r e s else some (⟨cg s.F e.dst .kd,s.h⟩,.pure)
   | .kd=>some (⟨cg s.F e.dst .kd,s.h⟩,.pure)
   | _=>none
def cE (b5:ku->List I->af->Option (I × af)) (aX:Nat):List (aU × Nat)->aI->Option (aI × List dy)
 | [],s=>some (s,[])
 | (e,i)::es,s=>match ch G tab b5 aX (aX+i) e s with
   | some (aj,c)=>(cE b5 aX es aj).map fun(AV,cs)=>(AV,c::cs)
   | none=>none
def dN (b5:ku->List I->af->Option (I × af)) (draw:Bool) (ops:List aU) (eL:List Nat) (s:aI):Option aI:=
 match cE G tab b5 s.h.next ops.zipIdx ⟨s.F,{s.h with next:=s.h.next+ops.length}⟩ with
 | some (aj,cs)=>if !draw||te cs eL then some aj else none
 | none=>none
structure cF where
 id:Nat
 F:Nat->I
 ps:List Nat
 dm:cU
 body:cU
def n8 (id:Nat):List cF->Option (cF × List cF)
 | []=>none
 | L::Y=>if L.id=id then some (L,Y) else n8 id Y
def mW (F:Nat->I):List Nat->List I->(Nat->I)
 | p::ps,v::vs=>mW (an F p v) ps vs
 | _,_=>F
def af.set (h:af) (id:Nat) (p:Option ff):af:={h with aS:=an h.aS id p}
def exec:Nat->List cF->cU->aI->Option (c0 × aI)
 | 0,_,_,_=>none
 | n+1,Y,c,s=>match c with
   | .skip=>some (.normal,s)
   | .ret=>some (.ret,s)
   | .exit id=>some (.exit id,s)
   | .region draw ops eL=>(dN G tab
       (fun t args h=>match t with
         | .fn f=>match Φ f with
           | some fn=>match exec n Y fn.body ⟨ds args,h⟩ with
             | some (.normal,aj)|some (.ret,aj)=>(dz aj.h aj.F fn.res).map fun v=>(v,aj.h)
             | _=>none
           | none=>none
         | .k4 id=>match n8 id Y with
           | some (L,Y')=>if L.ps.length=args.length then
              match exec n Y' L.dm ⟨mW L.F L.ps args,h⟩ with
              | some (.normal,s1)=>match s1.h.aS id with
                | some .ready=>match exec n Y' L.body ⟨s1.F,s1.h.set id (some .busy)⟩ with
                  | some (e,aj)=>match aj.h.aS id with
                    | some .busy=>match e with
                      | .normal=>some (.bool true,aj.h.set id (some .ready))
                      | e=>some (.bool false,aj.h.set id (some (.done e)))
                    | _=>none
                  | none=>none
                | _=>none
              | _=>none
             else none
           | none=>none) draw ops eL s).map fun aj=>(.normal,aj)
   | .seq a b=>match exec n Y a s with
     | some (.normal,aj)=>exec n Y b aj
     | r=>r
   | .cond x a b=>match x.ev G s.F with
     | .bool t=>if t then exec n Y a s else exec n Y b s
     | _=>none
   | .block id b=>match exec n Y b s with
     | some (.exit i,aj)=>if i=id then some (.normal,aj) else some (.exit i,aj)
     | r=>r
   | .loop b=>match exec n Y b s with
     | some (.normal,aj)=>exec n Y (.loop b) aj
     | r=>r
   | .kM f ps dm body=>match f.ev G s.F with
     | .fn g first caps=>match Φ g with
       | some fn=>match exec n (⟨s.h.next,s.F,ps,dm,body⟩::Y) fn.body ⟨ds (first++ [.fR s.h.next]++caps),{s.h with next:=s.h.next+1,aS:=an s.h.aS s.h.next (some .ready)}⟩ with
         | some (.normal,aj)|some (.ret,aj)=>match dz aj.h aj.F fn.res with
           | some _=>match aj.h.aS s.h.next with
             | some .ready=>some (.normal,⟨s.F,aj.h.set s.h.next none⟩)
             | some (.done e)=>some (e,⟨s.F,aj.h.set s.h.next none⟩)
             | _=>none
           | none=>none
         | _=>none
       | none=>none
     | _=>none
def xm (n:Nat) (Y:List cF) (f:FuncId) (args:List I) (h:af):Option (I × af):=
 match Φ f with
 | some fn=>match exec G Φ tab n Y fn.body ⟨ds args,h⟩ with
   | some (.normal,aj)|some (.ret,aj)=>(dz aj.h aj.F fn.res).map fun v=>(v,aj.h)
   | _=>none
 | none=>none
def aD:af:={cells:=fun _=>none,shut:=fun _=>false,next:=0}
def l' (n:Nat) (f:FuncId) (args:List I):Option I:=
 (xm G Φ tab n [] f args aD).bind fun(v,h)=>(iY h v).map (·.1)
end exec
end Go.Eng
namespace Go.Eng
open Go
def qb:Value->Option I
 | .int k n=>some (.int k n)
 | .bool b=>some (.bool b)
 | .string s=>some (.str s)
 | .slice none 0 0=>some (.sl [] true)
 | .nilFunc=>some .nilfn
 | _=>none
def xn:List Value->Option (List I)
 | []=>some []
 | v::vs=>match qb v,xn vs with
   | some a,some as=>some (a::as)
   | _,_=>none
def qc:Value->Option I
 | .agg cs=>(xn cs.toList).map .agg
 | v=>qb v
def dK:Operand->Option aQ
 | .tmp t=>some (.t t)
 | .const v=>(qc v).map .c
 | .global g=>some (.g g)
 | .func f=>some (.f f)
def o4:List Operand->Option (List aQ)
 | []=>some []
 | x::xs=>match dK x,o4 xs with
   | some a,some as=>some (a::as)
   | _,_=>none
def rn:Option Operand->Option (Option aQ)
 | none=>some none
 | some x=>(dK x).map some
section
variable (P:Program)
def iQ (t:TypeId):Option Nat:=(P.info? t).map (·.size)
def AW (t:TypeId):Option Nat:=(P.info? t).map (·.bytes)
def zeroOf (t:TypeId):Option I:=(P.info? t).bind fun i=>i.zero.bind qc
def mw (t:TypeId):Option Bool:=
 match P.underlying t with
 | some (.struct _)|some (.array _ _)=>some true
 | some _=>some false
 | none=>none
def xo (bT:Array Field):List (Nat × Operand)->Option (List (Nat × Nat × aQ))
 | []=>some []
 | (i,x)::r=>match bT[i]?,dK x,xo bT r with
   | some f,some y,some ps=>match iQ P f.type with
     | some s=>some ((f.offset,s,y)::ps)
     | none=>none
   | _,_,_=>none
def AX (bT:List Field):Bool:=bT.all fun f=>(iQ P f.type).isSome
def xp (s:Nat):List (Nat × Operand)->Option (List (Nat × Nat × aQ))
 | []=>some []
 | (i,x)::r=>match dK x,xp s r with
   | some y,some ps=>some ((i*s,s,y)::ps)
   | _,_=>none
def xq:List (Nat × Operand)->Option (List (Nat × aQ))
 | []=>some []
 | (i,x)::r=>match dK x,xq r with
   | some y,some ps=>some ((i,y)::ps)
   | _,_=>none
def fF:Op->Option jQ
 | .move x| .assign x=>(dK x).map .mv
 | .pick c a b=>match dK c,dK a,dK b with
   | some c,some a,some b=>some (.pick c a b)
   | _,_,_=>none
 | .alloc e=>(zeroOf P e).map .alloc
 | .box _ x=>(dK x).map .box
 | .build t ps=>match P.underlying t,zeroOf P t with
   | some (.struct bT),some z=>if AX P bT.toList then (xo P bT ps.toList).map (.build z.cells) else none
   | some (.array _ e),some z=>match iQ P e with
     | some s=>(xp s ps.toList).map (.build z.cells)
     | none=>none
   | _,_=>none
 | .buildSlice t n ps=>match P.underlying t with
   | some (.slice e)=>match iQ P e,zeroOf P e,xq ps.toList with
     | some s,some z,some ps=>if n*s<=2^24 then some (.bsl s z n ps) else none
     | _,_,_=>none
   | _=>none
 | .load t x=>match mw P t,iQ P t,dK x with
   | some bM,some s,some x=>if bM||s == 1 then some (.load bM s x) else none
   | _,_,_=>none
 | .store t a v=>match iQ P t,dK a,dK v with
   | some s,some a,some v=>some (.store s a v)
   | _,_,_=>none
 | .binOp op t x y _=>match dK x,dK y with
   | some kf,some n9=>match P.underlying t with
     | some (.int _)=>some (.bin 0 op kf n9)
     | some .bool=>some (.bin 1 op kf n9)
     | some .string=>some (.bin 2 op kf n9)
     | some (.array n e)=>match P.underlying e,iQ P e with
       | some (.int _),some 1=>if op= .eql then some (.eqA false n kf n9) else if op= .neq then some (.eqA true n kf n9) else none
       | _,_=>none
     | some (.slice _)=>match n9 with
       | .c (.sl [] true)=>if op= .eql then some (.isnil false kf) else if op= .neq then some (.isnil true kf) else none
       | _=>none
     | _=>none
   | _,_=>none
 | .lookup t x i true=>match P.underlying t with
   | some (.map k e)=>match P.underlying k,zeroOf P e,dK x,dK i with
     | some (.int .i64),some .nilfn,some x,some i=>some (.mlook x i)
     | _,_,_,_=>none
   | _=>none
 | .unOp op _ x=>(dK x).map (.un op)
 | .convert s d x=>match P.underlying s,P.underlying d,dK x with
   | some (.int _),some (.int k),some x=>some (.conv k x)
   | _,_,_=>none
 | .makeFunc (.func f) first caps=>match o4 first.toList,o4 caps.toList with
   | some a,some b=>some (.mkfn f a b)
   | _,_=>none
 | .makeSlice t l c=>match P.underlying t with
   | some (.slice e)=>match zeroOf P e,iQ P e,AW P e,dK l,dK c with
     | some z,some s,some b,some l,some c=>some (.mksl z s b l c)
     | _,_,_,_,_=>none
   | _=>none
 | .slice t x b' ab jR=>match P.underlying t with
   | some (.slice e)=>match iQ P e,dK x,rn b',rn ab,rn jR with
     | some s,some x,some b',some ab,some jR=>if jR.isSome&&ab.isNone then none else some (.slice s x b' ab jR)
     | _,_,_,_,_=>none
   | _=>none
 | .fieldAddr s x f=>match P.underlying s with
   | some (.struct bT)=>match bT[f]? with
     | some f=>match mw P f.type,iQ P f.type,dK x with
       | some bM,some sz,some x=>if sz=0 then none else some (.faddr bM f.offset sz x)
       | _,_,_=>none
     | none=>none
   | _=>none
 | .field s x f=>match P.underlying s with
   | some (.struct bT)=>match bT[f]? with
     | some f=>match mw P f.type,iQ P f.type,dK x with
       | some bM,some sz,some x=>if bM||sz == 1 then some (.field bM f.offset sz x) else none
       | _,_,_=>none
     | none=>none
   | _=>none
 | .indexAddr t x i=>match P.underlying t with
   | some (.slice e)=>match iQ P e,dK x,dK i with
     | some s,some x,some i=>some (.iaddrS s x i)
     | _,_,_=>none
   | some (.array n e)=>match mw P e,iQ P e,dK x,dK i with
     | some bM,some s,some x,some i=>some (.iaddrA bM n s x i)
     | _,_,_,_=>none
   | _=>none
 | .index t x i=>match P.underlying t with
   | some (.array n e)=>match mw P e,iQ P e,dK x,dK i with
     | some bM,some s,some x,some i=>if bM||s == 1 then some (.idxA bM n s x i) else none
     | _,_,_,_=>none
   | some .string=>match dK x,dK i with
     | some x,some i=>some (.idxS x i)
     | _,_=>none
   | _=>none
 | .extract x i=>(dK x).map fun x=> .extract x i
 | .panic _=>some (.extract (.c .undef) 0)
 | .call {callee:= .value f,args,..}=>match dK f,o4 args.toList with
   | some f,some as=>some (.call f as)
   | _,_=>none
 | .call {callee:= .builtin .len,args,argTypes}=>match argTypes[0]?,args.toList with
   | some t,[x]=>match P.underlying t,dK x with
     | some (.slice _),some x=>some (.len false x)
     | some .string,some x=>some (.len true x)
     | _,_=>none
   | _,_=>none
 | .call {callee:= .builtin .append,args,argTypes}=>match argTypes.toList,args.toList with
   | [t,u],[x,y]=>match P.underlying t,P.underlying u with
     | some (.slice e),some (.slice _)=>match iQ P e,AW P e,zeroOf P e,dK x,dK y with
       | some s,some b,some z,some x,some y=>if z.cells.length=s then some (.app s b x y) else none
       | _,_,_,_,_=>none
     | _,_=>none
   | _,_=>none
 | .call {callee:= .builtin .min,args,..}=>(o4 args.toList).map .min
 | .call {callee:= .builtin .max,args,..}=>(o4 args.toList).map .max
 | _=>none
def o5 (N:Nat) (ops:Array Oper) (o:Oper):Option aU:=
 if o.dst.all (fun d=>decide (d<N)) then
  match fF P o.op with
  | some op=>match o.guard with
    | none=>some ⟨o.dst,op,none⟩
    | some (j,w)=>match (ops[j]?).bind (·.dst) with
      | some d=>some ⟨o.dst,op,some (d,w)⟩
      | none=>none
  | none=>none
 else none
def u' (N:Nat) (ops:Array Oper):List Oper->Option (List aU)
 | []=>some []
 | o::os=>match o5 P N ops o,u' N ops os with
   | some e,some es=>some (e::es)
   | _,_=>none
def OF (es:List aU) (b:List Nat):Bool:=
 es.zipIdx.all fun(e,j)=>es.zipIdx.all fun(f,i)=>!(decide (i<j))||(b.getD j 0).testBit i||f.apart e
def xr (ops:Array Oper):Bool:=ops.toList.zipIdx.all fun(o,i)=>o.after.all fun e=>!Region.binds .any e||decide (e.on<i)
def xt (ops:Array Oper) (b:List Nat):Bool:=
 ops.toList.zipIdx.all fun(o,i)=>(List.range i).all fun k=>!((b.getD i 0).testBit k)||o.after.any fun e=>Region.binds .any e&&(e.on == k||(decide (k<e.on)&&(b.getD e.on 0).testBit k))
def fS (N:Nat):Code->Option cU
 | .skip=>some .skip
 | .region _ ops draw=>match u' P N ops ops.toList with
   | some es=>if draw then
      (let b:=(Region.before ops).toList
       if OF es b&&xr ops&&xt ops b&&Region.noSelect ops then some (.region true es b) else none)
     else some (.region false es [])
   | none=>none
 | .seq a b=>match fS N a,fS N b with
   | some a,some b=>some (.seq a b)
   | _,_=>none
 | .cond c a b=>match dK c,fS N a,fS N b with
   | some c,some a,some b=>some (.cond c a b)
   | _,_,_=>none
 | .block id c=>(fS N c).map (.block id)
 | .loop c=>(fS N c).map .loop
 | .rangeFunc f ps dm body=>match dK f,fS N dm,fS N body with
   | some f,some a,some b=>if ps.toList.all (fun p=>decide (p<N)) then some (.kM f ps.toList a b) else none
   | _,_,_=>none
 | .exit id=>some (.exit id)
 | .ret=>some .ret
 | .scope c=>(fS N c).map (.seq .skip)
 | .label _=>some .skip
 | _=>none
def AY:ResultVar->Option l9
 | .tmp t=>some (.tmp t)
 | .cell a t=>match mw P t,iQ P t with
   | some bM,some s=>if bM||s == 1 then some (.cell a bM s) else none
   | _,_=>none
def rp:List ResultVar->Option (List l9)
 | []=>some []
 | r::rs=>match AY P r,rp rs with
   | some a,some as=>some (a::as)
   | _,_=>none
def AZ (fn:Func):Option aM:=
 if fn.name == "runtime.NumGoroutine" then none else
 match fn.body with
 | some c=>match fS P fn.ntmps c,rp P fn.results.toList with
   | some b,some rs=>some ⟨b,rs⟩
   | _,_=>none
 | none=>none
def aE (f:FuncId):Option aM:=(P.funcs[f]?).bind (AZ P)
end
end Go.Eng
namespace Go.Eng
open Go Go.RowKit
inductive db (w:World) (ok:Nat->Prop):I->Value->Prop
 | int (k:IntKind) (n:Int):db w ok (.int k n) (.int k n)
 | bool (b:Bool):db w ok (.bool b) (.bool b)
 | str (s:ByteArray):db w ok (.str s) (.string s)
 | nilfn:db w ok .nilfn .nilFunc
 | fn (f:FuncId):db w ok (.fn f [] []) (.func (.func f) #[] #[])
 | mp (m:List (Int × FuncId)) (r:Nat) (es:Array MapEntry) (clock:Nat):ok r->w.heap[r]? =some (.map es clock)->es.size=m.length->
    (∀i (h:i<m.length) (h':i<es.size),es[i].key= .int .i64 m[i].1/\es[i].val= .func (.func m[i].2) #[] #[])->db w ok (.mp m) (.map (some r))
 | sl (xs:List I) (ex:Bool) (A:Option Addr) (c sz:Nat) (dO:Nat->Nat->Value):
    xs.length<=c->(ex=true->c=xs.length)->
    (∀i (h:i<xs.length),xs[i].cells.length=sz)->
    (∀i j,i<xs.length->j<sz->∃cb,A=some cb/\ok cb.block/\w.cell? (cb.add (i*sz+j))=some (dO i j))->
    (0<xs.length->A.isSome=true)->
    (∀i (h:i<xs.length) j (aA:j<xs[i].cells.length),db w ok (xs[i].cells[j]) (dO i j))->
    db w ok (.sl xs ex) (.slice A xs.length c)
 | agg (cs:List I) (vs:Array Value):vs.size=cs.length->
    (∀i (h:i<cs.length) (h':i<vs.size),db w ok cs[i] vs[i])->db w ok (.agg cs) (.agg vs)
 | bo (cs:List I) (vs:Array Value):vs.size=cs.length->
    (∀i (h:i<cs.length) (h':i<vs.size),db w ok cs[i] vs[i])->db w ok (.bo cs) (.tuple vs)
theorem Addr.qd (a:Addr) (n:Nat):(a.add n).block=a.block:=by unfold Addr.add;split<;>rfl
def tf (w aN:World) (ok n_:Nat->Prop):Prop:=∀b o,w.heap[b]? =some o->((∃arr ty e,o= .cells arr ty e)\/∃es clock,o= .map es clock)->ok b->n_ b/\aN.heap[b]? =w.heap[b]?
theorem cells_of_cell {w:World} {cb:Addr} {v:Value} (h:w.cell? cb=some v):∃arr ty e,w.heap[cb.block]? =some (.cells arr ty e):=by
 unfold World.cell? at h
 split at h
 · rename_i arr ty e he;exact ⟨_,_,_,he⟩
 · cases h
theorem db.mono {w aN:World} {ok n_:Nat->Prop} (ag:tf w aN ok n_)
 {v:I} {cv:Value} (h:db w ok v cv):db aN n_ v cv:=by
 induction h with
 | int k n=>exact .int k n
 | bool b=>exact .bool b
 | str s=>exact .str s
 | nilfn=>exact .nilfn
 | fn f=>exact .fn f
 | mp m r es clock U h2 az aT=>
   obtain⟨b9,ei⟩:=ag _ _ h2 (.inr ⟨_,_,rfl⟩) U
   exact .mp m r es clock b9 (ei.trans h2) az aT
 | sl xs ex A c sz dO U h2 az aT b9 ei a6=>
   refine .sl xs ex A c sz dO U h2 az (fun i j ab aA=>?_) b9 a6
   obtain⟨cb,e,ay,J⟩:=aT i j ab aA
   obtain⟨arr,ty,ao,ma⟩:=cells_of_cell J
   rw[Addr.qd] at ma
   obtain⟨nm,he⟩:=ag _ _ ma (.inl ⟨_,_,_,rfl⟩) ay
   refine⟨cb,e,nm,?_⟩
   rw[<-J]
   exact World.cell?_of_block (w:=w) (by rw[Addr.qd];exact he)
 | agg cs vs aw h a6=>exact .agg cs vs aw a6
 | bo cs vs aw h a6=>exact .bo cs vs aw a6
theorem db.rq {w:World} {ok n_:Nat->Prop} (ag:∀b,b<w.heap.size->ok b->n_ b) {v:I} {cv:Value} (h:db w ok v cv):db w n_ v cv:=
 h.mono fun b o aa _ ay=>⟨ag b (by by_cases bq:b<w.heap.size;exact bq;rw[Array.getElem?_eq_none (by omega)] at aa;cases aa) ay,rfl⟩
def iv (w:World) (b:Nat):Nat:=match w.heap[b]? with
 | some (.cells arr _ _)=>arr.size
 | _=>0
inductive a2 (w:World) (ok:Nat->Prop) (σ:Nat->Option (Nat × Nat)):I->Value->Prop
 | undef (cv:Value):a2 w ok σ .undef cv
 | kd:a2 w ok σ .kd Go.undef
 | val (v:I) (cv:Value):db w ok v cv->a2 w ok σ v cv
 | ref (id off len cap:Nat) (A:Option Addr) (c b sz:Nat):σ id=some (b,sz)->len<=c->cap<=c->
    (0<c->A=some ⟨b,off*sz,none⟩/\(off+c)*sz<=iv w b)->a2 w ok σ (.ref id off len cap) (.slice A len c)
 | ptr (id idx cu b sz:Nat):σ id=some (b,sz)->a2 w ok σ (.ptr id idx cu) (.pointer (some ⟨b,idx*sz+cu,none⟩))
 | eK (v:I) (cb:Addr) (dO:Nat->Value):
    (∀j,j<v.cells.length->ok cb.block/\w.cell? (cb.add j)=some (dO j))->
    (∀j (h:j<v.cells.length),db w ok (v.cells[j]) (dO j))->a2 w ok σ (.eK v) (.pointer (some cb))
 | fR (id l s:Nat):σ id=some (l,s)->a2 w ok σ (.fR id) (.func (.yield l) #[] #[])
 | fn (f:FuncId) (first caps:List I) (eV cv:Array Value):eV.size=first.length->cv.size=caps.length->
    (∀i (h:i<first.length) (h':i<eV.size),a2 w ok σ first[i] eV[i])->
    (∀i (h:i<caps.length) (h':i<cv.size),a2 w ok σ caps[i] cv[i])->a2 w ok σ (.fn f first caps) (.func (.func f) eV cv)
 | agg (cs:List I) (vs:Array Value):vs.size=cs.length->
    (∀i (h:i<cs.length) (h':i<vs.size),a2 w ok σ cs[i] vs[i])->a2 w ok σ (.agg cs) (.agg vs)
 | bo (cs:List I) (vs:Array Value):vs.size=cs.length->
    (∀i (h:i<cs.length) (h':i<vs.size),a2 w ok σ cs[i] vs[i])->a2 w ok σ (.bo cs) (.tuple vs)
theorem a2.mono {w aN:World} {ok n_:Nat->Prop} {σ ba:Nat->Option (Nat × Nat)}
 (ag:tf w aN ok n_) (au:∀id x,σ id=some x->ba id=some x)
 (ar:∀b,iv w b<=iv aN b) {v:I} {cv:Value} (h:a2 w ok σ v cv):a2 aN n_ ba v cv:=by
 induction h with
 | undef cv=>exact .undef cv
 | kd=>exact .kd
 | val v cv h=>exact .val _ _ (h.mono ag)
 | ref id off len cap A c b sz U h2 az aT=>exact .ref id off len cap A c b sz (au _ _ U) h2 az (fun J=>⟨(aT J).1,Nat.le_trans (aT J).2 (ar b)⟩)
 | ptr id idx cu b sz U=>exact .ptr id idx cu b sz (au _ _ U)
 | fR id l s U=>exact .fR id l s (au _ _ U)
 | eK v cb dO U h2=>
   refine .eK v cb dO (fun j aA=>?_) (fun j aA=>(h2 j aA).mono ag)
   obtain⟨ay,J⟩:=U j aA
   obtain⟨arr,ty,ao,ma⟩:=cells_of_cell J
   rw[Addr.qd] at ma
   obtain⟨nm,he⟩:=ag _ _ ma (.inl ⟨_,_,_,rfl⟩) ay
   exact ⟨nm,by rw[<-J];exact World.cell?_of_block (w:=w) (by rw[Addr.qd];exact he)⟩
 | fn f first caps eV cv U h2 az aT OG OH=>exact .fn f first caps eV cv U h2 OG OH
 | agg cs vs aw h a6=>exact .agg cs vs aw a6
 | bo cs vs aw h a6=>exact .bo cs vs aw a6
section inversion
variable {w:World} {ok:Nat->Prop} {σ:Nat->Option (Nat × Nat)}
theorem a2.jl {k:IntKind} {n:Int} {cv:Value} (h:a2 w ok σ (.int k n) cv):cv= .int k n:=by
 cases h with
 | val _ _ h=>cases h;rfl
theorem a2.qe {b:Bool} {cv:Value} (h:a2 w ok σ (.bool b) cv):cv= .bool b:=by
 cases h with
 | val _ _ h=>cases h;rfl
theorem a2.va {s:ByteArray} {cv:Value} (h:a2 w ok σ (.str s) cv):cv= .string s:=by
 cases h with
 | val _ _ h=>cases h;rfl
theorem a2.OI {cv:Value} (h:a2 w ok σ .kd cv):cv=Go.undef:=by
 cases h with
 | val _ _ h=>cases h
 | kd=>rfl
theorem a2.OJ {cv:Value} (h:a2 w ok σ .nilfn cv):cv= .nilFunc:=by
 cases h with
 | val _ _ h=>cases h;rfl
theorem a2.FH {m:List (Int × FuncId)} {cv:Value} (h:a2 w ok σ (.mp m) cv):db w ok (.mp m) cv:=by
 cases h with
 | val _ _ h=>exact h
theorem a2.qf {xs:List I} {ex:Bool} {cv:Value} (h:a2 w ok σ (.sl xs ex) cv):db w ok (.sl xs ex) cv:=by
 cases h with
 | val _ _ h=>exact h
theorem a2.qg {id off len cap:Nat} {cv:Value} (h:a2 w ok σ (.ref id off len cap) cv):
 ∃A c b sz,cv= .slice A len c/\σ id=some (b,sz)/\len<=c/\cap<=c/\(0<c->A=some ⟨b,off*sz,none⟩/\(off+c)*sz<=iv w b):=by
 cases h with
 | val _ _ h=>cases h
 | ref _ _ _ _ A c b sz U h2 az aT=>exact ⟨A,c,b,sz,rfl,U,h2,az,aT⟩
theorem a2.vb {id idx cu:Nat} {cv:Value} (h:a2 w ok σ (.ptr id idx cu) cv):
 ∃b sz,cv= .pointer (some ⟨b,idx*sz+cu,none⟩)/\σ id=some (b,sz):=by
 cases h with
 | val _ _ h=>cases h
 | ptr _ _ _ b sz U=>exact ⟨b,sz,rfl,U⟩
theorem a2.xu {v:I} {cv:Value} (h:a2 w ok σ (.eK v) cv):
 ∃(cb:Addr) (dO:Nat->Value),cv= .pointer (some cb)/\(∀j,j<v.cells.length->ok cb.block/\w.cell? (cb.add j)=some (dO j))/\(∀j (h:j<v.cells.length),db w ok (v.cells[j]) (dO j)):=by
 cases h with
 | val _ _ h=>cases h
 | eK _ cb dO U h2=>exact ⟨cb,dO,rfl,U,h2⟩
theorem a2.FI {f:FuncId} {first caps:List I} {v:Value} (h:a2 w ok σ (.fn f first caps) v):
 ∃eV cv,v= .func (.func f) eV cv/\eV.size=first.length/\cv.size=caps.length/\
  (∀i (h:i<first.length) (h':i<eV.size),a2 w ok σ first[i] eV[i])/\(∀i (h:i<caps.length) (h':i<cv.size),a2 w ok σ caps[i] cv[i]):=by
 cases h with
 | val _ _ h=>cases h;exact ⟨#[],#[],rfl,rfl,rfl,fun i h=>absurd h (Nat.not_lt_zero i),fun i h=>absurd h (Nat.not_lt_zero i)⟩
 | fn _ _ _ eV cv U h2 az aT=>exact ⟨eV,cv,rfl,U,h2,az,aT⟩
theorem a2.OK {id:Nat} {cv:Value} (h:a2 w ok σ (.fR id) cv):∃l s,cv= .func (.yield l) #[] #[]/\σ id=some (l,s):=by
 cases h with
 | val _ _ h=>cases h
 | fR _ l s U=>exact ⟨l,s,rfl,U⟩
theorem a2.tg {cs:List I} {v:Value} (h:a2 w ok σ (.agg cs) v):
 ∃vs,v= .agg vs/\vs.size=cs.length/\(∀i (h:i<cs.length) (h':i<vs.size),a2 w ok σ cs[i] vs[i]):=by
 cases h with
 | val _ _ h=>cases h with
   | agg _ vs U h2=>exact ⟨vs,rfl,U,fun i h h'=> .val _ _ (h2 i h h')⟩
 | agg _ vs U h2=>exact ⟨vs,rfl,U,h2⟩
theorem a2.FJ {cs:List I} {v:Value} (h:a2 w ok σ (.bo cs) v):
 ∃vs,v= .tuple vs/\vs.size=cs.length/\(∀i (h:i<cs.length) (h':i<vs.size),a2 w ok σ cs[i] vs[i]):=by
 cases h with
 | val _ _ h=>cases h with
   | bo _ vs U h2=>exact ⟨vs,rfl,U,fun i h h'=> .val _ _ (h2 i h h')⟩
 | bo _ vs U h2=>exact ⟨vs,rfl,U,h2⟩
theorem a2.vc {v:I} {cv:Value} (h:a2 w ok σ v cv) (au:v.bW=true):cv.oneCell'=true:=by
 cases h with
 | undef=>simp[I.bW] at au
 | kd=>simp[I.bW] at au
 | val _ _ h=>cases h<;>first|rfl|simp[I.bW] at au
 | agg=>simp[I.bW] at au
 | bo=>simp[I.bW] at au
 | _=>rfl
theorem a2.cells {v:I} {cv:Value} (h:a2 w ok σ v cv) (hu:v.cells.all I.bW=true\/∃cs,v= .agg cs):
 cv.cells.size=v.cells.length/\∀i (h:i<v.cells.length) (h':i<cv.cells.size),a2 w ok σ v.cells[i] cv.cells[i]:=by
 by_cases aK:∃cs,v= .agg cs
 · obtain⟨cs,rfl⟩:=aK
   obtain⟨vs,rfl,U,h2⟩:=h.tg
   exact ⟨U,h2⟩
 · have av:v.cells= [v]:=by
    cases v<;>first|rfl|exact absurd ⟨_,rfl⟩ aK
   have au:v.bW=true:=by
    rcases hu with hu|hu
    · rw[av] at hu;simpa using hu
    · exact absurd hu aK
   have J:cv.cells= #[cv]:=by
    have:=h.vc au
    cases cv<;>first|rfl|simp[Value.oneCell'] at this
   rw[av,J]
   refine⟨rfl,fun i U h2=>?_⟩
   have:i=0:=by simpa using U
   subst this
   exact h
end inversion
def bk (base:Nat) (okin:Nat->Prop) (σ:Nat->Option (Nat × Nat)) (h:af) (b:Nat):Prop:=
 (b<base/\okin b)\/(base<=b/\∀id sz,σ id=some (b,sz)->(h.cells id).isSome=true->h.shut id=true)
structure cn (base:Nat) (okin:Nat->Prop) (σ:Nat->Option (Nat × Nat)) (h:af) (w:World):Prop where
 val:∀id b sz,σ id=some (b,sz)->base<=b/\b<w.heap.size
 blk:∀id blk,h.cells id=some blk->∃b sz arr ty,σ id=some (b,sz)/\w.heap[b]? =some (.cells arr ty (0,0))/\
  ∀i (ab:i<blk.length),blk[i].cells.length=sz/\∀j (aA:j<blk[i].cells.length),∃v,arr[i*sz+j]? =some v/\a2 w (bk base okin σ h) σ (blk[i].cells[j]) v
 inj:∀id h4 b sz fG,(h.cells id).isSome=true->(h.cells h4).isSome=true->σ id=some (b,sz)->σ h4=some (b,fG)->id=h4
 base:base<=w.heap.size
structure Prog (base:Nat) (okin:Nat->Prop) (σ:Nat->Option (Nat × Nat)) (h:af) (w:World) (ba:Nat->Option (Nat × Nat)) (h':af) (aN:World):Prop where
 sub:∀id x,σ id=some x->ba id=some x
 p':∀b,b<w.heap.size->bk base okin σ h b->bk base okin ba h' b/\aN.heap[b]? =w.heap[b]?
 below:Below base w aN
 grow:∀b,iv w b<=iv aN b
theorem Prog.refl (base:Nat) (okin:Nat->Prop) (σ:Nat->Option (Nat × Nat)) (h:af) (w:World):Prog base okin σ h w σ h w:=
 ⟨fun _ _ h=>h,fun _ _ h=>⟨h,rfl⟩,Below.refl _ _,fun _=>Nat.le_refl _⟩
theorem Prog.trans {base:Nat} {okin:Nat->Prop} {σ iZ o6:Nat->Option (Nat × Nat)} {h U h2:af} {w bP cy:World}
 (p:Prog base okin σ h w iZ U bP) (q:Prog base okin iZ U bP o6 h2 cy):Prog base okin σ h w o6 h2 cy:=
 ⟨fun id x ae=>q.sub id x (p.sub id x ae),fun b aa ay=>by
   obtain⟨jz,al⟩:=p.p' b aa ay
   obtain⟨dD,ao⟩:=q.p' b (Nat.lt_of_lt_of_le aa p.below.size) jz
   exact ⟨dD,ao.trans al⟩,p.below.trans q.below,fun b=>Nat.le_trans (p.grow b) (q.grow b)⟩
theorem Prog.still {base:Nat} {okin:Nat->Prop} {σ ba:Nat->Option (Nat × Nat)} {h h':af} {w aN:World} (p:Prog base okin σ h w ba h' aN):tf w aN (bk base okin σ h) (bk base okin ba h'):=
 fun b o aa _ ay=>p.p' b (by by_cases bq:b<w.heap.size;exact bq;rw[Array.getElem?_eq_none (by omega)] at aa;cases aa) ay
theorem Prog.rep {base:Nat} {okin:Nat->Prop} {σ ba:Nat->Option (Nat × Nat)} {h h':af} {w aN:World} (p:Prog base okin σ h w ba h' aN)
 {v:I} {cv:Value} (r:a2 w (bk base okin σ h) σ v cv):a2 aN (bk base okin ba h') ba v cv:=r.mono p.still p.sub p.grow
end Go.Eng
namespace Go.Eng
open Go Go.RowKit
theorem FK (w:World) (o:Obj) (b:Nat):iv w b<=iv (w.alloc o) b:=by
 by_cases h:b<w.heap.size
 · unfold iv;rw[Below.heap_alloc _ _ _ h];exact Nat.le_refl _
 · unfold iv;rw[Array.getElem?_eq_none (by omega)];exact Nat.zero_le _
theorem A0 (w:World) (arr:Array Value) (ty:TypeId):iv (w.alloc (.cells arr ty)) w.heap.size=arr.size:=by
 have:(w.alloc (.cells arr ty)).heap[w.heap.size]? =some (.cells arr ty):=by show (w.heap.push _)[w.heap.size]? =_;simp
 unfold iv;rw[this]
theorem FL (w:World) (g:Nat) (arr arr':Array Value) (ty:TypeId) (br:Nat × Nat) (aW:w.heap[g]? =some (.cells arr ty br)) (aw:arr.size<=arr'.size) (b:Nat):iv w b<=iv (w.setRow g arr') b:=by
 by_cases h:b=g
 · subst h;unfold iv;rw[aW,setRow_heap _ _ _ _ _ _ aW];exact aw
 · unfold iv;rw[setRow_other _ _ _ _ h];exact Nat.le_refl _
theorem OL {w aN:World} (h:Below w.heap.size w aN) (b:Nat):iv w b<=iv aN b:=by
 by_cases aa:b<w.heap.size
 · unfold iv;rw[h.block b aa];exact Nat.le_refl _
 · unfold iv;rw[Array.getElem?_eq_none (by omega)];exact Nat.zero_le _
section
variable {base:Nat} {okin:Nat->Prop} {σ:Nat->Option (Nat × Nat)} {h:af} {w:World}
theorem cn.A1 (H:cn base okin σ h w) {r:Nat} (aH:σ r=none):h.cells r=none:=by
 cases J:h.cells r with
 | none=>rfl
 | some blk=>
   obtain⟨b,sz,_,_,e,_⟩:=H.blk r blk J
   rw[aH] at e;cases e
theorem cn.alloc (H:cn base okin σ h w) {r:Nat} (aH:σ r=none) (blk:List I) (arr:Array Value) (ty:TypeId) (sz:Nat)
 (aa:∀i (ab:i<blk.length),blk[i].cells.length=sz/\∀j (aA:j<blk[i].cells.length),∃v,arr[i*sz+j]? =some v/\a2 w (bk base okin σ h) σ (blk[i].cells[j]) v):
 cn base okin (an σ r (some (w.heap.size,sz))) (h.new r blk) (w.alloc (.cells arr ty))/\
 Prog base okin σ h w (an σ r (some (w.heap.size,sz))) (h.new r blk) (w.alloc (.cells arr ty)):=by
 have OM:=H.A1 aH
 have sub:∀id x,σ id=some x->an σ r (some (w.heap.size,sz)) id=some x:=by
  intro id x ae
  unfold an
  by_cases e:id=r
  · subst e;rw[aH] at ae;cases ae
  · rw[if_neg e];exact ae
 have P:Prog base okin σ h w (an σ r (some (w.heap.size,sz))) (h.new r blk) (w.alloc (.cells arr ty)):=by
  refine⟨sub,fun b aa ay=>⟨?_,Below.heap_alloc _ _ _ aa⟩,(Below.refl _ _).alloc H.base _,FK w _⟩
  rcases ay with ay|⟨U,h2⟩
  · exact .inl ay
  · refine .inr ⟨U,fun id s au aw=>?_⟩
    unfold an at au
    by_cases e:id=r
    · rw[if_pos e] at au
      have:w.heap.size=b:=by injection au with au;injection au
      omega
    · rw[if_neg e] at au
      refine h2 id s au ?_
      simpa[af.new,an,e] using aw
 refine⟨⟨?_,?_,?_,?_⟩,P⟩
 · intro id b s au
   unfold an at au
   by_cases e:id=r
   · rw[if_pos e] at au
     injection au with au;injection au with U h2
     subst U
     exact ⟨H.base,by simp⟩
   · rw[if_neg e] at au
     obtain⟨a1,eO⟩:=H.val id b s au
     exact ⟨a1,by simp;omega⟩
 · intro id fT iw
   by_cases e:id=r
   · subst e
     have:blk=fT:=by simpa[af.new,an] using iw
     subst this
     refine⟨w.heap.size,sz,arr,ty,by simp[an],by show (w.heap.push _)[w.heap.size]? =_;simp,fun i ab=>⟨(aa i ab).1,fun j aA=>?_⟩⟩
     obtain⟨v,al,ao⟩:=(aa i ab).2 j aA
     exact ⟨v,al,P.rep ao⟩
   · have o7:h.cells id=some fT:=by simpa[af.new,an,e] using iw
     obtain⟨b,s,a,t,al,ao,aV⟩:=H.blk id fT o7
     refine⟨b,s,a,t,sub _ _ al,?_,fun i ab=>⟨(aV i ab).1,fun j aA=>?_⟩⟩
     · rw[Below.heap_alloc _ _ _ (H.val _ _ _ al).2];exact ao
     · obtain⟨v,f1,f2⟩:=(aV i ab).2 j aA
       exact ⟨v,f1,P.rep f2⟩
 · intro id h4 b s aj U h2 al ao
   by_cases e:id=r<;>by_cases e':h4=r
   · rw[e,e']
   · exfalso
     simp only[an,e,e',if_true,if_false] at al ao
     injection al with al;injection al with al _
     have:=(H.val _ _ _ ao).2
     omega
   · exfalso
     simp only[an,e,e',if_true,if_false] at al ao
     injection ao with ao;injection ao with ao _
     have:=(H.val _ _ _ al).2
     omega
   · simp only[an,e,e',if_false] at al ao
     exact H.inj id h4 b s aj (by simpa[af.new,an,e] using U) (by simpa[af.new,an,e'] using h2) al ao
 · simp;have:=H.base;omega
theorem cn.write (H:cn base okin σ h w) {id:Nat} {blk blk':List I} {b sz:Nat} {arr arr':Array Value} {ty:TypeId} (J:h.cells id=some blk) (au:h.shut id=false)
 (he:σ id=some (b,sz)) (aK:w.heap[b]? =some (.cells arr ty (0,0))) (rr:arr.size<=arr'.size)
 (aa:∀i (ab:i<blk'.length),blk'[i].cells.length=sz/\∀j (aA:j<blk'[i].cells.length),∃v,arr'[i*sz+j]? =some v/\a2 w (bk base okin σ h) σ (blk'[i].cells[j]) v):
 cn base okin σ (h.new id blk') (w.setRow b arr')/\Prog base okin σ h w σ (h.new id blk') (w.setRow b arr'):=by
 have xv:∀i,(((h.new id blk').cells i).isSome=true)↔((h.cells i).isSome=true):=by
  intro i
  by_cases e:i=id
  · subst e;simp[af.new,an,J]
  · simp[af.new,an,e]
 have jU:∀k,bk base okin σ h k↔bk base okin σ (h.new id blk') k:=by
  intro k
  unfold bk
  constructor
  · rintro (a|⟨a,c⟩)
    · exact .inl a
    · exact .inr ⟨a,fun i s ab aw=>c i s ab ((xv i).1 aw)⟩
  · rintro (a|⟨a,c⟩)
    · exact .inl a
    · exact .inr ⟨a,fun i s ab aw=>c i s ab ((xv i).2 aw)⟩
 have vd:=H.val _ _ _ he
 have P:Prog base okin σ h w σ (h.new id blk') (w.setRow b arr'):=by
  refine⟨fun _ _ x=>x,fun k ag ay=>⟨(jU k).1 ay,?_⟩,⟨rfl,rfl,rfl,by simp,fun k ag=>setRow_other _ _ _ _ (by omega)⟩,FL _ _ _ _ _ _ aK rr⟩
  refine setRow_other _ _ _ _ ?_
  rintro rfl
  rcases ay with⟨a,_⟩|⟨_,c⟩
  · omega
  · have:=c id sz he (by simp[J])
    rw[au] at this;cases this
 refine⟨⟨?_,?_,?_,?_⟩,P⟩
 · intro i k s ab
   have:=H.val i k s ab
   exact ⟨this.1,by simpa using this.2⟩
 · intro i fT iw
   by_cases e:i=id
   · subst e
     have:blk'=fT:=by simpa[af.new,an] using iw
     subst this
     refine⟨b,sz,arr',ty,he,setRow_heap _ _ _ _ _ _ aK,fun i ab=>⟨(aa i ab).1,fun j aA=>?_⟩⟩
     obtain⟨v,al,ao⟩:=(aa i ab).2 j aA
     exact ⟨v,al,P.rep ao⟩
   · have o7:h.cells i=some fT:=by simpa[af.new,an,e] using iw
     obtain⟨jS,s,a,t,al,ao,aV⟩:=H.blk i fT o7
     refine⟨jS,s,a,t,al,?_,fun i ab=>⟨(aV i ab).1,fun j aA=>?_⟩⟩
     · rw[setRow_other]
       · exact ao
       · rintro rfl
         exact e (H.inj i id _ _ _ (by simp[o7]) (by simp[J]) al he)
     · obtain⟨v,f1,f2⟩:=(aV i ab).2 j aA
       exact ⟨v,f1,P.rep f2⟩
 · intro i iK k s aj U h2 al ao
   exact H.inj i iK k s aj ((xv i).1 U) ((xv iK).1 h2) al ao
 · simpa using H.base
theorem cn.close (H:cn base okin σ h w) (ids:List Nat):cn base okin σ (h.close ids) w/\Prog base okin σ h w σ (h.close ids) w:=by
 have P:Prog base okin σ h w σ (h.close ids) w:=by
  refine⟨fun _ _ x=>x,fun b aa ay=>⟨?_,rfl⟩,Below.refl _ _,fun _=>Nat.le_refl _⟩
  rcases ay with ay|⟨U,h2⟩
  · exact .inl ay
  · exact .inr ⟨U,fun id s au aw=>by simp[af.close,h2 id s au aw]⟩
 refine⟨⟨H.val,fun id fT iw=>?_,H.inj,H.base⟩,P⟩
 obtain⟨b,s,a,t,al,ao,aV⟩:=H.blk id fT iw
 refine⟨b,s,a,t,al,ao,fun i ab=>⟨(aV i ab).1,fun j aA=>?_⟩⟩
 obtain⟨v,f1,f2⟩:=(aV i ab).2 j aA
 exact ⟨v,f1,P.rep f2⟩
theorem cn.rename (H:cn base okin σ h w) {id r:Nat} {blk blk':List I} {b sz:Nat} {arr arr':Array Value} {ty:TypeId} (J:h.cells id=some blk) (au:h.shut id=false) (aH:σ r=none)
 (he:σ id=some (b,sz)) (aK:w.heap[b]? =some (.cells arr ty (0,0))) (rr:arr.size<=arr'.size)
 (aa:∀i (ab:i<blk'.length),blk'[i].cells.length=sz/\∀j (aA:j<blk'[i].cells.length),∃v,arr'[i*sz+j]? =some v/\a2 w (bk base okin σ h) σ (blk'[i].cells[j]) v):
 cn base okin (an σ r (some (b,sz))) {h with cells:=an (an h.cells id none) r (some blk')} (w.setRow b arr')/\
 Prog base okin σ h w (an σ r (some (b,sz))) {h with cells:=an (an h.cells id none) r (some blk')} (w.setRow b arr'):=by
 have bG:id≠r:=by rintro rfl;rw[aH] at he;cases he
 have OM:=H.A1 aH
 have vd:=H.val _ _ _ he
 have sub:∀i x,σ i=some x->an σ r (some (b,sz)) i=some x:=by
  intro i x ae
  unfold an
  by_cases e:i=r
  · subst e;rw[aH] at ae;cases ae
  · rw[if_neg e];exact ae
 have P:Prog base okin σ h w (an σ r (some (b,sz))) {h with cells:=an (an h.cells id none) r (some blk')} (w.setRow b arr'):=by
  have FM:∀k,bk base okin σ h k->k≠b:=by
   rintro k ay rfl
   rcases ay with⟨a,_⟩|⟨_,c⟩
   · omega
   · have:=c id sz he (by simp[J])
     rw[au] at this;cases this
  refine⟨sub,fun k ag ay=>⟨?_,setRow_other _ _ _ _ (FM k ay)⟩,⟨rfl,rfl,rfl,by simp,fun k ag=>setRow_other _ _ _ _ (by omega)⟩,FL _ _ _ _ _ _ aK rr⟩
  have ON:=FM k ay
  rcases ay with ay|⟨U,h2⟩
  · exact .inl ay
  · refine .inr ⟨U,fun i s ab aw=>?_⟩
    by_cases e:i=r
    · simp only[an,e,if_true] at ab
      injection ab with ab;injection ab with ab _
      exact absurd ab.symm ON
    · simp only[an,e,if_false] at ab aw
      by_cases e':i=id
      · simp[e'] at aw
      · exact h2 i s ab (by simpa[e'] using aw)
 refine⟨⟨?_,?_,?_,?_⟩,P⟩
 · intro i k s ab
   by_cases e:i=r
   · simp only[an,e,if_true] at ab
     injection ab with ab;injection ab with U h2
     subst U
     exact ⟨vd.1,by simpa using vd.2⟩
   · simp only[an,e,if_false] at ab
     have:=H.val i k s ab
     exact ⟨this.1,by simpa using this.2⟩
 · intro i fT iw
   by_cases e:i=r
   · subst e
     have:blk'=fT:=by simpa[an] using iw
     subst this
     refine⟨b,sz,arr',ty,by simp[an],setRow_heap _ _ _ _ _ _ aK,fun i ab=>⟨(aa i ab).1,fun j aA=>?_⟩⟩
     obtain⟨v,al,ao⟩:=(aa i ab).2 j aA
     exact ⟨v,al,P.rep ao⟩
   · by_cases e':i=id
     · simp[an,e'] at iw
       exact absurd iw.1 bG
     · have o7:h.cells i=some fT:=by simpa[an,e,e'] using iw
       obtain⟨jS,s,a,t,al,ao,aV⟩:=H.blk i fT o7
       refine⟨jS,s,a,t,sub _ _ al,?_,fun i ab=>⟨(aV i ab).1,fun j aA=>?_⟩⟩
       · rw[setRow_other]
         · exact ao
         · rintro rfl
           exact e' (H.inj i id _ _ _ (by simp[o7]) (by simp[J]) al he)
       · obtain⟨v,f1,f2⟩:=(aV i ab).2 j aA
         exact ⟨v,f1,P.rep f2⟩
 · intro i iK k s aj U h2 al ao
   by_cases e:i=r<;>by_cases e':iK=r
   · rw[e,e']
   · exfalso
     simp only[an,e,e',if_true,if_false] at al ao h2
     by_cases ru:iK=id
     · simp[ru] at h2
     · rw[if_neg ru] at h2
       injection al with al;injection al with al _;subst al
       exact ru (H.inj iK id _ _ _ h2 (by simp[J]) ao he)
   · exfalso
     simp only[an,e,e',if_true,if_false] at al ao U
     by_cases ru:i=id
     · simp[ru] at U
     · rw[if_neg ru] at U
       injection ao with ao;injection ao with ao _;subst ao
       exact ru (H.inj i id _ _ _ U (by simp[J]) al he)
   · simp only[an,e,e',if_false] at al ao U h2
     by_cases f:i=id
     · simp[f] at U
     · by_cases o8:iK=id
       · simp[o8] at h2
       · rw[if_neg f] at U;rw[if_neg o8] at h2
         exact H.inj i iK k s aj U h2 al ao
 · simpa using H.base
end
section consts
variable {w:World} {ok:Nat->Prop}
theorem FN {v:Value} {a:I} (h:qb v=some a):db w ok a v/\v.cells= #[v]/\a.cells= [a]:=by
 unfold qb at h
 split at h<;>try(cases h;done)
 · cases h;exact ⟨.int _ _,rfl,rfl⟩
 · cases h;exact ⟨.bool _,rfl,rfl⟩
 · cases h;exact ⟨.str _,rfl,rfl⟩
 · cases h
   refine⟨?_,rfl,rfl⟩
   exact .sl [] true none 0 0 (fun _ _=>undef) (by simp) (by simp) (fun i h=>absurd h (by simp)) (fun i j h=>absurd h (by simp)) (by simp) (fun i h=>absurd h (by simp))
 · cases h;exact ⟨.nilfn,rfl,rfl⟩
theorem FO:∀ {vs:List Value} {as:List I},xn vs=some as->as.length=vs.length/\∀i (h:i<as.length) (h':i<vs.length),db w ok as[i] vs[i]/\as[i].bW=true
 | [],as,h=>by cases h;exact ⟨rfl,fun i h=>absurd h (by simp)⟩
 | v::vs,as,h=>by
   simp only[xn] at h
   split at h<;>try(cases h;done)
   rename_i a A2 U h2
   cases h
   obtain⟨l,r⟩:=FO h2
   refine⟨by simp[l],fun i ab bI=>?_⟩
   cases i with
   | zero=>
     refine⟨(FN U).1,?_⟩
     unfold qb at U
     split at U<;>first|(cases U;done)|(cases U;rfl)
   | succ i=>exact r i (by simpa using ab) (by simpa using bI)
theorem FP {v:Value} {a:I} (h:qc v=some a):db w ok a v/\a.cells.all I.bW=true/\a.cells.length=v.cells.size:=by
 unfold qc at h
 split at h
 · rename_i cs
   obtain⟨as,U,rfl⟩:=Option.map_eq_some_iff.1 h
   obtain⟨l,r⟩:=FO (w:=w) (ok:=ok) U
   refine⟨.agg as cs (by simpa using l.symm) (fun i ab bI=>(r i ab (by simpa using bI)).1),?_,by simpa[I.cells,Value.cells] using l⟩
   simp only[I.cells,List.all_eq_true]
   intro x ae
   obtain⟨i,ab,rfl⟩:=List.getElem_of_mem ae
   exact (r i ab (by omega)).2
 · obtain⟨al,ao,aV⟩:=FN (w:=w) (ok:=ok) h
   refine⟨al,?_,by rw[ao,aV];rfl⟩
   rw[aV]
   unfold qb at h
   split at h<;>first|(cases h;done)|(cases h;rfl)
end consts
structure jV (G:Nat->Option I) (ok:Nat->Prop) (σ:Nat->Option (Nat × Nat)) (w:World) (F:Nat->I) (a:Act):Prop where
 slot:∀t,a2 w ok σ (F t) (a.tmps.getD t undef)
 mx:∀g v,G g=some v->a2 w ok σ (.eK v) (.pointer (some ⟨g,0,none⟩))
theorem jV.dA {G:Nat->Option I} {ok:Nat->Prop} {σ:Nat->Option (Nat × Nat)} {w:World} {F:Nat->I} {a:Act} (h:jV G ok σ w F a)
 {x:Operand} {y:aQ} (ae:dK x=some y):a2 w ok σ (y.ev G F) (a.eval x):=by
 cases x with
 | tmp t=>cases ae;exact h.slot t
 | const v=>
   obtain⟨c,U,rfl⟩:=Option.map_eq_some_iff.1 ae
   exact .val _ _ (FP U).1
 | global g=>
   cases ae
   simp only[aQ.ev,Act.eval]
   split
   · exact h.mx _ _ ‹_›
   · exact .undef _
 | func f=>cases ae;exact .fn f [] [] #[] #[] rfl rfl (fun i h=>absurd h (by simp)) (fun i h=>absurd h (by simp))
end Go.Eng
namespace Go.Eng
open Go Go.RowKit
section runs
variable {P:Program} {w:World} {t:TypeId}
theorem ve {b:Bool} (h:mw P t=some b):(isAgg t).run P w= .ok b w:=by
 unfold mw at h
 unfold isAgg
 cases hu:P.underlying t with
 | none=>rw[hu] at h;cases h
 | some d=>
   rw[hu] at h
   simp only[Sem.run_bind,run_underlying hu,Result.andThen_ok]
   cases d<;>simp at h<;>subst h<;>rfl
theorem run_typeInfo {i:TypeInfo} (h:P.info? t=some i):(typeInfo t).run P w= .ok i w:=by
 simp[typeInfo,h]
theorem run_sizeOf {s:Nat} (h:iQ P t=some s):(sizeOf t).run P w= .ok s w:=by
 obtain⟨i,ab,rfl⟩:=Option.map_eq_some_iff.1 h
 simp[sizeOf,run_typeInfo ab]
theorem FQ {a:I} (h:zeroOf P t=some a):∃z,(zeroValue t).run P w= .ok z w/\qc z=some a/\∃i,P.info? t=some i/\i.zero=some z:=by
 unfold zeroOf at h
 obtain⟨i,ab,h⟩:=Option.bind_eq_some_iff.1 h
 obtain⟨z,ar,h⟩:=Option.bind_eq_some_iff.1 h
 exact ⟨z,by simp[zeroValue,run_typeInfo ab,ar],h,i,ab,ar⟩
end runs
theorem I.vf (cs:List I):(I.agg cs).cells=cs:=rfl
theorem th {cs jk:List I} {off sz:Nat} (h:cut cs off sz=some jk):off+sz<=cs.length/\jk.length=sz/\∀j (aA:j<jk.length) (j2:off+j<cs.length),jk[j]=cs[off+j]:=by
 unfold cut at h
 split at h
 · cases h
   refine⟨‹_›,by simp;omega,fun j aA j2=>by simp⟩
 · cases h
theorem A3 {bM:Bool} {cs:List I} {u:I} (h:partOf bM cs=some u):(bM=true/\u= .agg cs)\/(bM=false/\cs= [u]/\u.bW=true):=by
 unfold partOf at h
 cases bM with
 | true=>exact .inl ⟨rfl,by simpa using h.symm⟩
 | false=>
   simp only[Bool.false_eq_true,if_false] at h
   split at h
   · split at h
     · cases h;exact .inr ⟨rfl,rfl,‹_›⟩
     · cases h
   · cases h
theorem o9 (b x j:Nat):(⟨b,x,none⟩:Addr).add j=⟨b,x+j,none⟩:=by
 unfold Addr.add;split<;>simp_all
theorem add_add (a:Addr) (i j:Nat) (h:a.spot=none\/0<i+j):(a.add i).add j=a.add (i+j):=by
 cases a with
 | mk b o s=>
   unfold Addr.add
   by_cases ab:i=0<;>by_cases aA:j=0<;>simp_all<;>omega
section ops
variable {P:Program} {base:Nat} {okin:Nat->Prop} {σ:Nat->Option (Nat × Nat)} {h:af} {w:World}
def ti (base:Nat) (okin:Nat->Prop) (σ:Nat->Option (Nat × Nat)) (h:af) (w:World) (r:Nat) (v:I) (h':af) (res:Result Next):Prop:=
 ∃ba cv aN,(res= .ok (.value cv) aN\/(res= .ok .skip aN/\cv=undef))/\Prog base okin σ h w ba h' aN/\cn base okin ba h' aN/\
  a2 aN (bk base okin ba h') ba v cv/\∀id,id≠r->ba id=σ id
theorem ti.pure (H:cn base okin σ h w) {r:Nat} {v:I} {cv:Value} {res:Result Next} (e:res= .ok (.value cv) w) (aH:a2 w (bk base okin σ h) σ v cv):
 ti base okin σ h w r v h res:=⟨σ,cv,w,.inl e,Prog.refl ..,H,aH,fun _ _=>rfl⟩
theorem A4 {ok:Nat->Prop} {t:TypeId} {bM:Bool} {sz:Nat} (di:mw P t=some bM) (c7:iQ P t=some sz) (U:(bM||sz == 1)=true) (cb:Addr) (dO:Nat->Value)
 (J:∀j,j<sz->w.cell? (cb.add j)=some (dO j)) {cs:List I} (aw:cs.length=sz) (aH:∀j (aA:j<cs.length),a2 w ok σ cs[j] (dO j)) {u:I} (aF:partOf bM cs=some u):
 ∃cv,(loadVar t cb).run P w= .ok cv w/\a2 w ok σ u cv:=by
 rcases A3 aF with⟨rfl,rfl⟩|⟨rfl,rfl,_⟩
 · refine⟨.agg ((List.range sz).map dO).toArray,?_,?_⟩
   · simp[loadVar,ve di,run_sizeOf c7,run_loadCells w cb sz dO J]
   · refine .agg _ _ (by simp[aw]) (fun i ab bI=>?_)
     simpa using aH i ab
 · have:sz=1:=by simpa using aw.symm
   subst this
   refine⟨dO 0,?_,aH 0 (by simp)⟩
   have:=J 0 (by omega)
   have e:cb.add 0=cb:=by unfold Addr.add;simp
   rw[e] at this
   simp[loadVar,ve di,this]
theorem cn.elem (H:cn base okin σ h w) {id idx cu sz b bQ:Nat} {blk:List I} {e:I} (aa:h.cells id=some blk) (he:blk[idx]? =some e) (au:σ id=some (b,bQ))
 {cs:List I} (J:cut e.cells cu sz=some cs):
 ∃dO:Nat->Value,(∀j,j<sz->w.cell? ((⟨b,idx*bQ+cu,none⟩:Addr).add j)=some (dO j))/\(∀j (aA:j<cs.length),a2 w (bk base okin σ h) σ cs[j] (dO j)):=by
 obtain⟨jS,fG,arr,ty,al,ao,aV⟩:=H.blk id blk aa
 rw[au] at al;cases al
 obtain⟨ab,rfl⟩:=List.getElem?_eq_some_iff.1 he
 obtain⟨b7,bX,cW⟩:=th J
 have hlen:=(aV idx ab).1
 refine⟨fun j=>(arr[idx*bQ+(cu+j)]?).getD undef,fun j aA=>?_,fun j aA=>?_⟩
 · obtain⟨v,f1,_⟩:=(aV idx ab).2 (cu+j) (by omega)
   rw[o9]
   simp only[World.cell?,ao,Option.isSome_none,Bool.false_eq_true,if_false]
   rw[Nat.add_assoc,f1];rfl
 · obtain⟨v,f1,f2⟩:=(aV idx ab).2 (cu+j) (by omega)
   rw[cW j aA (by omega)]
   show a2 w _ σ _ ((arr[idx*bQ+(cu+j)]?).getD undef)
   rw[f1]
   exact f2
theorem OO (H:cn base okin σ h w) {aX r:Nat} {t:TypeId} {bM:Bool} {sz:Nat} (di:mw P t=some bM) (c7:iQ P t=some sz) (U:(bM||sz == 1)=true)
 {G:Nat->Option I} {F:Nat->I} {x:aQ} {i_:Value} (ae:a2 w (bk base okin σ h) σ (x.ev G F) i_) {v:I} {h':af} {c:dy}
 (he:evalOp aX r (aQ.ev G F) h (.load bM sz x)=some (v,h',c)):
 h'=h/\∃cv,(Instr.loadAt t i_).run P w= .ok cv w/\a2 w (bk base okin σ h) σ v cv:=by
 simp only[evalOp] at he
 split at he
 · rename_i u hu
   rw[hu] at ae
   obtain⟨cb,dO,rfl,bE,cp⟩:=ae.xu
   obtain⟨cs,J,he⟩:=Option.bind_eq_some_iff.1 he
   obtain⟨p,aF,he⟩:=Option.map_eq_some_iff.1 he
   cases he
   obtain⟨b7,bX,cW⟩:=th J
   refine⟨rfl,?_⟩
   obtain⟨cv,al,ao⟩:=A4 (P:=P) (w:=w) (σ:=σ) (ok:=bk base okin σ h) di c7 U cb dO (fun j aA=>(bE j (by omega)).2) bX
    (fun j aA=>by rw[cW j aA (by omega)];simpa using a2.val _ _ (cp j (by omega))) aF
   exact ⟨cv,by simpa[Instr.loadAt,Instr.sureAddr] using al,ao⟩
 · rename_i id idx cu hu
   rw[hu] at ae
   obtain⟨b,bQ,rfl,au⟩:=ae.vb
   obtain⟨blk,aa,he⟩:=Option.bind_eq_some_iff.1 he
   obtain⟨e,kv,he⟩:=Option.bind_eq_some_iff.1 he
   obtain⟨cs,J,he⟩:=Option.bind_eq_some_iff.1 he
   obtain⟨p,aF,he⟩:=Option.map_eq_some_iff.1 he
   cases he
   obtain⟨b7,bX,cW⟩:=th J
   obtain⟨dO,bE,cp⟩:=H.elem aa kv au J
   refine⟨rfl,?_⟩
   obtain⟨cv,al,ao⟩:=A4 (P:=P) (w:=w) (σ:=σ) (ok:=bk base okin σ h) di c7 U _ dO bE bX cp aF
   exact ⟨cv,by simpa[Instr.loadAt,Instr.sureAddr] using al,ao⟩
 · cases he
theorem a2.vg {ok:Nat->Prop} {v:I} {cv:Value} (aH:a2 w ok σ v cv) (hu:v.cells.all I.bW=true):
 cv.cells.toList.length=v.cells.length/\(∀j (aA:j<v.cells.length) (j2:j<cv.cells.toList.length),a2 w ok σ v.cells[j] cv.cells.toList[j])/\∀x∈cv.cells.toList,x.oneCell'=true:=by
 obtain⟨al,ao⟩:=aH.cells (.inl hu)
 refine⟨by simpa using al,fun j aA j2=>by simpa using ao j aA (by simpa using j2),fun x ae=>?_⟩
 obtain⟨i,ab,rfl⟩:=List.getElem_of_mem ae
 have bI:i<v.cells.length:=by simp at ab;omega
 refine(ao i bI (by simpa using ab)).vc ?_
 exact List.all_eq_true.1 hu _ (List.getElem_mem bI)
theorem xw {cs vs:List I} {off:Nat} (h:off+vs.length<=cs.length):(eB cs off vs).length=cs.length:=by
 simp[eB];omega
theorem qh {α:Type} {cs vs:List α} {off:Nat} (h:off+vs.length<=cs.length) (j:Nat) (aA:j<(cs.take off++vs++cs.drop (off+vs.length)).length) (j2:j<cs.length):
 (cs.take off++vs++cs.drop (off+vs.length))[j]=if cw:off<=j/\j<off+vs.length then vs[j - off]'(by omega) else cs[j]:=by
 by_cases U:j<off
 · rw[List.getElem_append_left (by simp;omega),List.getElem_append_left (by simp;omega),dif_neg (by omega)]
   simp
 · by_cases h2:j<off+vs.length
   · rw[List.getElem_append_left (by simp;omega),List.getElem_append_right (by simp;omega),dif_pos (by omega)]
     simp[Nat.min_eq_left (show off<=cs.length by omega)]
   · rw[List.getElem_append_right (by simp;omega),dif_neg (by omega)]
     have e:off+vs.length+(j -(min off cs.length+vs.length))=j:=by rw[Nat.min_eq_left (by omega)];omega
     simp[e]
theorem OP (H:cn base okin σ h w) {aX r:Nat} {t:TypeId} {sz:Nat} (c7:iQ P t=some sz)
 {G:Nat->Option I} {F:Nat->I} {x y:aQ} {i_ iR:Value} (ae:a2 w (bk base okin σ h) σ (x.ev G F) i_) (aO:a2 w (bk base okin σ h) σ (y.ev G F) iR) {v:I} {h':af} {c:dy}
 (he:evalOp aX r (aQ.ev G F) h (.store sz x y)=some (v,h',c)):
 v= .undef/\∃aN,(Instr.storeAt t i_ iR).run P w= .ok () aN/\Prog base okin σ h w σ h' aN/\cn base okin σ h' aN:=by
 simp only[evalOp] at he
 split at he
 · rename_i id idx cu hu
   rw[hu] at ae
   obtain⟨b,bQ,rfl,au⟩:=ae.vb
   split at he
   · cases he
   · rename_i bV
     have bV:h.shut id=false:=by simpa using bV
     obtain⟨blk,aa,he⟩:=Option.bind_eq_some_iff.1 he
     obtain⟨e,kv,he⟩:=Option.bind_eq_some_iff.1 he
     split at he
     · rename_i nn
       obtain⟨bx,bZ,cX⟩:=nn
       obtain⟨c1,en,A5⟩:=aO.vg cX
       obtain⟨jS,fG,arr,ty,al,ao,aV⟩:=H.blk id blk aa
       rw[au] at al;cases al
       obtain⟨ab,rfl⟩:=List.getElem?_eq_some_iff.1 kv
       have hlen:=(aV idx ab).1
       have o_:idx*bQ+(cu+sz)<=arr.size:=by
        by_cases ar:cu+sz=0
        · by_cases OQ:bQ=0
          · simp[OQ,ar]
          · obtain⟨v0,f1,_⟩:=(aV idx ab).2 0 (by omega)
            have:=(Array.getElem?_eq_some_iff.1 f1).1
            omega
        · obtain⟨v0,f1,_⟩:=(aV idx ab).2 (cu+sz - 1) (by omega)
          have:=(Array.getElem?_eq_some_iff.1 f1).1
          omega
       have ca:(Instr.storeAt t (.pointer (some ⟨b,idx*bQ+cu,none⟩)) iR).run P w= .ok () (w.setRow b (arr.toList.take (idx*bQ+cu)++iR.cells.toList++arr.toList.drop (idx*bQ+cu+iR.cells.toList.length)).toArray):=by
        have h2:=run_storeCells_at (P:=P) b (idx*bQ+cu) ty iR.cells.toList 0 arr w ao (by simp only[Nat.add_zero];rw[c1,bx];omega) A5
        simp only[Nat.add_zero] at h2
        have bG:iR.cells.size=sz:=by rw[<-bx,<-c1];simp
        simp[Instr.storeAt,Instr.sureAddr,storeVar,run_sizeOf c7,bG,h2]
       have key:∀e',e'.cells.length=bQ->(∀j (aA:j<e'.cells.length),∃lq,(arr.toList.take (idx*bQ+cu)++iR.cells.toList++arr.toList.drop (idx*bQ+cu+iR.cells.toList.length)).toArray[idx*bQ+j]? =some lq/\a2 w (bk base okin σ h) σ (e'.cells[j]) lq)->
        Prog base okin σ h w σ (h.new id (blk.set idx e')) (w.setRow b (arr.toList.take (idx*bQ+cu)++iR.cells.toList++arr.toList.drop (idx*bQ+cu+iR.cells.toList.length)).toArray)/\
        cn base okin σ (h.new id (blk.set idx e')) (w.setRow b (arr.toList.take (idx*bQ+cu)++iR.cells.toList++arr.toList.drop (idx*bQ+cu+iR.cells.toList.length)).toArray):=by
        intro e' qi mX
        have:=H.write (blk':=blk.set idx e') (arr':=(arr.toList.take (idx*bQ+cu)++iR.cells.toList++arr.toList.drop (idx*bQ+cu+iR.cells.toList.length)).toArray) aa bV au ao (by simp;omega) ?_
        · exact ⟨this.2,this.1⟩
        · intro i bI
          have A6:i<blk.length:=by simpa using bI
          by_cases vh:i=idx
          · subst vh
            simp only[List.getElem_set_self]
            exact ⟨qi,mX⟩
          · have bG:(blk.set idx e')[i]=blk[i]:=by rw[List.getElem_set_ne (Ne.symm vh)]
            rw[bG]
            refine⟨(aV i A6).1,fun j aA=>?_⟩
            obtain⟨v0,f1,f2⟩:=(aV i A6).2 j aA
            refine⟨v0,?_,f2⟩
            have bq:=(Array.getElem?_eq_some_iff.1 f1).1
            have lr:=(Array.getElem?_eq_some_iff.1 f1).2
            have rv:j<bQ:=by have:=(aV i A6).1;omega
            have my:¬(idx*bQ+cu<=i*bQ+j/\i*bQ+j<idx*bQ+cu+iR.cells.toList.length):=by
             rw[c1,bx]
             rintro ⟨c8,c_⟩
             rcases Nat.lt_or_gt_of_ne vh with q|q
             · have:(i+1)*bQ<=idx*bQ:=Nat.mul_le_mul_right _ q
               rw[Nat.add_mul] at this;omega
             · have:(idx+1)*bQ<=i*bQ:=Nat.mul_le_mul_right _ q
               rw[Nat.add_mul] at this;omega
            have hle:idx*bQ+cu+iR.cells.toList.length<=arr.toList.length:=by rw[c1,bx];simp;omega
            rw[List.getElem?_toArray,List.getElem?_eq_getElem (by simp;omega),qh hle _ _ (by simpa using bq),dif_neg my]
            simpa using lr
       have hle:idx*bQ+cu+iR.cells.toList.length<=arr.toList.length:=by rw[c1,bx];simp;omega
       have FR:∀j (aA:j<bQ),∃lq,(arr.toList.take (idx*bQ+cu)++iR.cells.toList++arr.toList.drop (idx*bQ+cu+iR.cells.toList.length)).toArray[idx*bQ+j]? =some lq/\
        (∀(cw:cu<=j/\j<cu+sz),a2 w (bk base okin σ h) σ ((y.ev G F).cells[j - cu]'(by omega)) lq)/\(¬(cu<=j/\j<cu+sz)->a2 w (bk base okin σ h) σ (blk[idx].cells[j]'(by omega)) lq):=by
        intro j aA
        obtain⟨v0,f1,f2⟩:=(aV idx ab).2 j (by omega)
        have bq:=(Array.getElem?_eq_some_iff.1 f1).1
        have lr:=(Array.getElem?_eq_some_iff.1 f1).2
        rw[List.getElem?_toArray,List.getElem?_eq_getElem (by simp;omega)]
        refine⟨_,rfl,fun cw=>?_,fun cw=>?_⟩
        · rw[qh hle _ _ (by simpa using bq),dif_pos (by rw[c1,bx];omega)]
          have:=en (j - cu) (by omega) (by omega)
          have e:idx*bQ+j -(idx*bQ+cu)=j - cu:=by omega
          simpa[e] using this
        · rw[qh hle _ _ (by simpa using bq),dif_neg (by rw[c1,bx];omega)]
          simp only[Array.getElem_toList]
          rw[lr];exact f2
       split at he
       · rename_i cs FT
         cases he
         refine⟨rfl,_,ca,?_⟩
         rw[FT] at hlen
         simp only[I.vf] at hlen
         have jm:cu+(y.ev G F).cells.length<=cs.length:=by omega
         refine key _ (by simp only[I.vf];rw[xw jm];exact hlen) (fun j aA=>?_)
         have j2:j<bQ:=by simp only[I.vf] at aA;rw[xw jm] at aA;omega
         obtain⟨lq,k5,k6,A7⟩:=FR j j2
         refine⟨lq,k5,?_⟩
         simp only[I.vf,eB]
         rw[qh jm j _ (by omega)]
         split
         · rename_i cw;exact k6 (by omega)
         · rename_i cw
           have:=A7 (by omega)
           simpa[FT,I.vf] using this
       · rename_i OR
         split at he
         · rename_i u A8
           cases he
           refine⟨rfl,_,ca,?_⟩
           have ma:blk[idx].cells.length=1:=by
            cases cw:blk[idx]<;>first|rfl|exact absurd cw (OR _)
           have vi:sz=1:=by rw[<-bx,A8];rfl
           have A9:u.bW=true:=by rw[A8] at cX;simpa using cX
           have A_:u.cells= [u]:=by cases u<;>first|rfl|simp[I.bW] at A9
           refine key u (by rw[A_];simp;omega) (fun j aA=>?_)
           have OS:j=0:=by rw[A_] at aA;simpa using aA
           subst OS
           obtain⟨lq,k5,k6,_⟩:=FR 0 (by omega)
           refine⟨lq,k5,?_⟩
           have:=k6 (by omega)
           simpa[A_,A8] using this
         · cases he
     · cases he
 · cases he
end ops
end Go.Eng
namespace Go.Eng
open Go Go.RowKit
section ops
variable {P:Program} {base:Nat} {okin:Nat->Prop} {σ:Nat->Option (Nat × Nat)} {h:af} {w:World} {G:Nat->Option I} {F:Nat->I} {a:Act}
theorem rz (br:jV G (bk base okin σ h) σ w F a):∀ {xs:List Operand} {ys:List aQ},o4 xs=some ys->
 ys.length=xs.length/\∀i (ab:i<ys.length) (bI:i<xs.length),a2 w (bk base okin σ h) σ (ys[i].ev G F) (a.eval xs[i])
 | [],ys,e=>by cases e;exact ⟨rfl,fun i ab=>absurd ab (by simp)⟩
 | x::xs,ys,e=>by
   simp only[o4] at e
   split at e<;>try(cases e;done)
   rename_i y acZ U h2
   cases e
   obtain⟨l,r⟩:=rz br h2
   refine⟨by simp[l],fun i ab bI=>?_⟩
   cases i with
   | zero=>exact br.dA U
   | succ i=>exact r i (by simpa using ab) (by simpa using bI)
theorem FU {ok:Nat->Prop} {t:TypeId} {bM:Bool} {sz off:Nat} (di:mw P t=some bM) (c7:iQ P t=some sz) (U:(bM||sz == 1)=true) {cs:List I} {vs:Array Value}
 (aw:vs.size=cs.length) (aH:∀i (h:i<cs.length) (h':i<vs.size),a2 w ok σ cs[i] vs[i]) {jk:List I} (J:cut cs off sz=some jk) {u:I} (aF:partOf bM jk=some u):
 ∃cv,(part t vs off).run P w= .ok cv w/\a2 w ok σ u cv:=by
 obtain⟨b7,bX,cW⟩:=th J
 rcases A3 aF with⟨rfl,rfl⟩|⟨rfl,rfl,_⟩
 · refine⟨.agg (vs.extract off (off+sz)),by simp[part,ve di,run_sizeOf c7],?_⟩
   refine .agg _ _ (by simp;omega) (fun i ab bI=>?_)
   rw[cW i ab (by omega)]
   simpa using aH (off+i) (by omega) (by omega)
 · have n':sz=1:=by simpa using bX.symm
   have bq:off<vs.size:=by omega
   refine⟨vs[off],by simp[part,ve di,bq],?_⟩
   have:=aH off (by omega) bq
   have e:=cW 0 (by simp) (by omega)
   simp only[List.getElem_cons_zero,Nat.add_zero] at e
   rw[e];exact this
def xx (op:BinOp) (k:IntKind) (x y:Int):Sem Value:=
 match op with
 | .add| .sub| .mul=>Op.intArith op k x y
 | .quo| .rem=>Op.intDiv op k x y
 | .and| .or| .xor| .andNot=>Op.intBits op k x y
 | _=>Op.intCmp op x y
theorem OT (op:BinOp) (k:IntKind) (x y:Int) {v:I} (aa:iI op k x y=some v):
 ∃cv,(xx op k x y).run P w= .ok cv w/\∀ok σ,a2 w ok σ v cv:=by
 cases op<;>simp only[iI] at aa<;>first
  | (cases aa;done)
  | (cases aa;exact ⟨_,rfl,fun _ _=> .val _ _ (.int _ _)⟩)
  | (cases aa;exact ⟨_,rfl,fun _ _=> .val _ _ (.bool _)⟩)
  | (split at aa
     · cases aa
     · cases aa;rename_i ar;exact ⟨_,by simp[xx,Op.intDiv,ar],fun _ _=> .val _ _ (.int _ _)⟩)
theorem A' (ty:Nat) (op:BinOp) (t:TypeId) (X Y:Operand) {u v r:I} {mY cv:Value} {ok:Nat->Prop} (hu:a2 w ok σ u mY) (av:a2 w ok σ v cv) (aa:e7 ty op u v=some r)
 (au:ty=1->P.underlying t=some .bool):
 ∃mZ,(do eqGuard op t X Y mY cv;binOp op t mY cv:Sem Value).run P w= .ok mZ w/\a2 w ok σ r mZ:=by
 have aW:∀ {a b:Value},(∀c,a≠ .nilIface/\a≠ .agg c)->(eqGuard op t X Y a b).run P w= .ok () w:=by
  intro a b aK
  cases a<;>first|exact absurd rfl (aK #[]).1|exact absurd rfl (aK _).2|(cases op<;>rfl)
 unfold e7 at aa
 split at aa
 · rename_i k x k' y
   obtain rfl:=hu.jl
   obtain rfl:=av.jl
   simp only[Sem.run_bind,aW (a:= .int k x) (b:= .int k' y) (fun c=>⟨by simp,by simp⟩),Result.andThen_ok]
   split at aa
   · rename_i cq
     unfold iJ at aa
     split at aa
     · cases aa
     · rename_i FV
       rcases cq with rfl|rfl
       · cases aa
         exact ⟨_,by simp[binOp,Op.shift,FV],.val _ _ (.int _ _)⟩
       · cases aa
         exact ⟨_,by simp[binOp,Op.shift,FV],.val _ _ (.int _ _)⟩
   · rename_i cq
     split at aa
     · rename_i ag
       subst ag
       obtain⟨mZ,al,ao⟩:=OT (P:=P) (w:=w) op k x y aa
       refine⟨mZ,?_,ao _ _⟩
       have:binOp op t (.int k x) (.int k y)=xx op k x y:=by
        cases op<;>first|exact absurd (.inl rfl) cq|exact absurd (.inr rfl) cq|simp[binOp,xx]
       rw[this];exact al
     · cases aa
 · rename_i x y
   obtain rfl:=hu.qe
   obtain rfl:=av.qe
   split at aa<;>try(cases aa;done)
   rename_i OU
   have Ba:=au OU
   have heq:(Op.equal t (.bool x) (.bool y)).run P w= .ok (x == y) w:=by
    show (Op.equalIn (9999+1) t (.bool x) (.bool y)).run P w=_
    unfold Op.equalIn
    simp[run_underlying Ba]
   simp only[Sem.run_bind,aW (a:= .bool x) (b:= .bool y) (fun c=>⟨by simp,by simp⟩),Result.andThen_ok]
   split at aa
   · cases aa
     refine⟨.bool (x == y),?_,.val _ _ (.bool _)⟩
     show (do pure (.bool (<-Op.equal t (.bool x) (.bool y))):Sem Value).run P w=_
     simp[heq]
   · cases aa
     refine⟨.bool (!(x == y)),?_,.val _ _ (.bool _)⟩
     show (do pure (.bool !(<-Op.equal t (.bool x) (.bool y))):Sem Value).run P w=_
     simp[heq]
   · cases aa
 · rename_i x y
   obtain rfl:=hu.va
   obtain rfl:=av.va
   simp only[Sem.run_bind,aW (a:= .string x) (b:= .string y) (fun c=>⟨by simp,by simp⟩),Result.andThen_ok]
   split at aa
   · cases aa
     exact ⟨.bool (x.toList == y.toList),by rw[show binOp .eql t (.string x) (.string y)=Op.stringOp .eql x y by simp[binOp]];simp[Op.stringOp],.val _ _ (.bool _)⟩
   · cases aa
     exact ⟨.bool (!(x.toList == y.toList)),by rw[show binOp .neq t (.string x) (.string y)=Op.stringOp .neq x y by simp[binOp]];simp[Op.stringOp],.val _ _ (.bool _)⟩
   · cases aa
 · cases aa
theorem OV (op:UnOp) {u r:I} {mY:Value} {ok:Nat->Prop} (hu:a2 w ok σ u mY) (aa:e8 op u=some r):
 ∃mZ,(Op.unary op mY).run P w= .ok mZ w/\a2 w ok σ r mZ:=by
 unfold e8 at aa
 split at aa
 · obtain rfl:=hu.jl
   split at aa
   · cases aa;exact ⟨_,rfl,.val _ _ (.int _ _)⟩
   · cases aa;exact ⟨_,rfl,.val _ _ (.int _ _)⟩
   · cases aa
 · obtain rfl:=hu.qe
   split at aa
   · cases aa;exact ⟨_,rfl,.val _ _ (.bool _)⟩
   · cases aa
 · cases aa
theorem tj {ok:Nat->Prop} {d y:Nat} {X:Operand} {x:aQ} {l:Nat} (ae:a2 w ok σ (x.ev G F) (a.eval X)) (aa:bound d (aQ.ev G F) (some x)=some l) (aw:l<=y) (code:BoundsCode):
 (Instr.sliceBound (a.eval X) y code).run P w= .ok l w:=by
 unfold bound at aa
 simp only at aa
 split at aa
 · rename_i k n hu
   rw[hu] at ae
   rw[ae.jl]
   split at aa
   · rename_i aq
     cases aa
     have:n<=(y:Int):=by omega
     simp[Instr.sliceBound,asIntOf,aq,this]
   · cases aa
 · cases aa
theorem tk (br:jV G (bk base okin σ h) σ w F a) {X:Option Operand} {x:Option aQ} (e:rn X=some x):
 (X=none/\x=none)\/∃pa kf,X=some pa/\x=some kf/\a2 w (bk base okin σ h) σ (kf.ev G F) (a.eval pa):=by
 cases X with
 | none=>cases e;exact .inl ⟨rfl,rfl⟩
 | some pa=>
   obtain⟨kf,U,rfl⟩:=Option.map_eq_some_iff.1 e
   exact .inr ⟨pa,kf,rfl,rfl,br.dA U⟩
theorem FW (br:jV G (bk base okin σ h) σ w F a) {b' ab jR:Option Operand} {tl bI kg:Option aQ} (al:rn b'=some tl) (ao:rn ab=some bI) (aV:rn jR=some kg)
 (tm:(kg.isSome&&bI.isNone)=false) (len cap tn:Nat) (m0:cap<=tn) (ac0:kg=none->len<=tn) {l u m:Nat} (b1:bound 0 (aQ.ev G F) tl=some l) (dL:bound len (aQ.ev G F) bI=some u) (kx:bound cap (aQ.ev G F) kg=some m)
 (c8:l<=u) (c_:u<=m) (h5:m<=cap) (OW:Bool):
 (Instr.sliceBounds OW len tn (b'.map a.eval) (ab.map a.eval) (jR.map a.eval)).run P w= .ok (l,u,if kg.isSome then m else tn) w:=by
 unfold Instr.sliceBounds
 rcases tk br aV with⟨rfl,rfl⟩|⟨M,k3,rfl,rfl,dn⟩
 · have em:m=cap:=by cases kx;rfl
   rcases tk br ao with⟨rfl,rfl⟩|⟨OX,h',rfl,rfl,Bb⟩
   · have FX:u=len:=by cases dL;rfl
     rcases tk br al with⟨rfl,rfl⟩|⟨L,lu,rfl,rfl,h6⟩
     · have el:l=0:=by cases b1;rfl
       simp[FX,el]
     · have:=tj (P:=P) (a:=a) (y:=len) h6 b1 (by omega) .sliceB
       simp[this,FX]
   · have cw:=fun c=>tj (P:=P) (a:=a) (y:=tn) Bb dL (by omega) c
     rcases tk br al with⟨rfl,rfl⟩|⟨L,lu,rfl,rfl,h6⟩
     · have el:l=0:=by cases b1;rfl
       simp[cw,el]
     · have:=tj (P:=P) (a:=a) (y:=u) h6 b1 (by omega) .sliceB
       simp[this,cw]
 · have hm:=fun c=>tj (P:=P) (a:=a) (y:=tn) dn kx (by omega) c
   rcases tk br ao with⟨rfl,rfl⟩|⟨OX,h',rfl,rfl,Bb⟩
   · simp at tm
   · have cw:=fun c=>tj (P:=P) (a:=a) (y:=m) Bb dL (by omega) c
     rcases tk br al with⟨rfl,rfl⟩|⟨L,lu,rfl,rfl,h6⟩
     · have el:l=0:=by cases b1;rfl
       simp[hm,cw,el]
     · have:=tj (P:=P) (a:=a) (y:=u) h6 b1 (by omega) .slice3C
       simp[hm,cw,this]
end ops
end Go.Eng
namespace Go.Eng
open Go Go.RowKit
section fill
variable {P:Program} {base:Nat} {okin:Nat->Prop} {σ:Nat->Option (Nat × Nat)} {h:af} {w:World} {G:Nat->Option I} {F:Nat->I} {a:Act}
def setFrom (cs:Array Value) (off:Nat) (l:List Value):Array Value:=(l.zipIdx 0).foldl (fun cs (c,j)=>cs.setIfInBounds (off+j) c) cs
theorem FY (l:List Value):∀(s off:Nat) (cs:Array Value),((l.zipIdx s).foldl (fun cs (c,j)=>cs.setIfInBounds (off+j) c) cs).size=cs.size/\
 ∀k (ag:k<cs.size) (jA:k<((l.zipIdx s).foldl (fun cs (c,j)=>cs.setIfInBounds (off+j) c) cs).size),
  ((l.zipIdx s).foldl (fun cs (c,j)=>cs.setIfInBounds (off+j) c) cs)[k]=if cw:off+s<=k/\k<off+s+l.length then l[k -(off+s)]'(by omega) else cs[k]:=by
 induction l with
 | nil=>intro s off cs;exact ⟨rfl,fun k ag jA=>by
   rw[dif_neg (fun cw=>by simp at cw;omega)]
   simp[List.zipIdx]⟩
 | cons v l a6=>
   intro s off cs
   have:=a6 (s+1) off (cs.setIfInBounds (off+s) v)
   refine⟨by simpa[List.zipIdx_cons] using this.1,fun k ag jA=>?_⟩
   have e:=this.2 k (by simpa using ag) (by simpa[List.zipIdx_cons] using jA)
   simp only[List.zipIdx_cons,List.foldl_cons]
   rw[e]
   by_cases U:k=off+s
   · subst U
     rw[dif_neg (by omega),dif_pos (by simp)]
     simp
   · by_cases h2:off+s<=k/\k<off+s+(v::l).length
     · have hlen:(v::l).length=l.length+1:=rfl
       rw[dif_pos (by omega),dif_pos h2]
       have:k -(off+s)=(k -(off+(s+1)))+1:=by omega
       simp[this]
     · have hlen:(v::l).length=l.length+1:=rfl
       rw[dif_neg (by omega),dif_neg h2]
       rw[Array.getElem_setIfInBounds_ne (h:=by omega)]
theorem fold_eq (cs:Array Value) (off:Nat) (v:Array Value):v.zipIdx.foldl (fun cs (c,j)=>cs.setIfInBounds (off+j) c) cs=setFrom cs off v.toList:=by
 rw[<-Array.foldl_toList,Array.toList_zipIdx];rfl
def rA (w:World) (ok:Nat->Prop) (σ:Nat->Option (Nat × Nat)) (cs:List I) (vs:Array Value):Prop:=vs.size=cs.length/\∀i (h:i<cs.length) (h':i<vs.size),a2 w ok σ cs[i] vs[i]
theorem rA.eB {ok:Nat->Prop} {cs:List I} {arr:Array Value} (J:rA w ok σ cs arr) {v:I} {cv:Value} (av:a2 w ok σ v cv) (au:v.cells.all I.bW=true) {off:Nat} (ay:off+v.cells.length<=cs.length):
 rA w ok σ (Eng.eB cs off v.cells) (setFrom arr off cv.cells.toList):=by
 obtain⟨c1,en,_⟩:=av.vg au
 obtain⟨cc,ed⟩:=J
 have A:=FY cv.cells.toList 0 off arr
 refine⟨by rw[xw ay,<-cc];exact A.1,fun i ab bI=>?_⟩
 have ab:i<cs.length:=by rw[xw ay] at ab;exact ab
 have e:=A.2 i (by omega) bI
 show a2 w ok σ _ (((cv.cells.toList.zipIdx 0).foldl (fun cs (c,j)=>cs.setIfInBounds (off+j) c) arr)[i])
 rw[e]
 simp only[Eng.eB]
 rw[qh ay i _ ab]
 by_cases cw:off<=i/\i<off+v.cells.length
 · rw[dif_pos cw,dif_pos (by omega)]
   exact en _ (by omega) (by omega)
 · rw[dif_neg cw,dif_neg (by omega)]
   exact ed i ab (by omega)
theorem Bc (br:jV G (bk base okin σ h) σ w F a) (place:Nat->Option (Nat × Nat)):∀(ps:List (Nat × Operand)) (e0:List (Nat × Nat × aQ)),
 (e0.length=ps.length/\∀k (ag:k<e0.length) (jA:k<ps.length),place (ps[k].1)=some (e0[k].1,e0[k].2.1)/\dK (ps[k].2)=some (e0[k].2.2))->
 ∀(cs:List I) (arr:Array Value) (jk:List I),rA w (bk base okin σ h) σ cs arr->eD cs (aQ.ev G F) e0=some jk->
  ∃arr',Instr.fill place arr (ps.map fun(i,x)=>(i,a.eval x))=some arr'/\rA w (bk base okin σ h) σ jk arr'
 | [],[],_,cs,arr,jk,J,bg=>by
   simp only[eD] at bg;cases bg
   exact ⟨arr,rfl,J⟩
 | [],_::_,aF,_,_,_,_,_=>by simp at aF
 | _::_,[],aF,_,_,_,_,_=>by simp at aF
 | (i,x)::ps,(off,size,y)::e0,aF,cs,arr,jk,J,bg=>by
   simp only[eD] at bg
   split at bg<;>try(cases bg;done)
   rename_i nn
   obtain⟨bx,bZ,cX⟩:=nn
   obtain⟨bd,bs⟩:=aF
   have q:=bs 0 (by simp) (by simp)
   simp only[List.getElem_cons_zero] at q
   have av:=br.dA q.2
   obtain⟨c1,en,_⟩:=av.vg cX
   have c7:(a.eval x).cells.size=size:=by rw[<-bx,<-c1];simp
   obtain⟨arr',al,ao⟩:=Bc br place ps e0 ⟨by simpa using bd,fun k ag jA=>by
    have:=bs (k+1) (by simp;omega) (by simp;omega)
    simpa using this⟩ _ _ jk (J.eB av cX (by omega)) bg
   refine⟨arr',?_,ao⟩
   simp only[List.map_cons,Instr.fill,q.1]
   rw[if_neg (by simp[c7];have:=J.1;omega),fold_eq]
   exact al
theorem FZ {bT:Array Field}:∀ {ps:List (Nat × Operand)} {e0:List (Nat × Nat × aQ)},xo P bT ps=some e0->
 e0.length=ps.length/\∀k (ag:k<e0.length) (jA:k<ps.length),((bT[ps[k].1]?).bind fun f=>(iQ P f.type).map fun s=>(f.offset,s))=some (e0[k].1,e0[k].2.1)/\dK (ps[k].2)=some (e0[k].2.2)
 | [],e0,e=>by cases e;exact ⟨rfl,fun k ag=>absurd ag (by simp)⟩
 | (i,x)::r,e0,e=>by
   simp only[xo] at e
   split at e<;>try(cases e;done)
   rename_i f y Bd U h2 az
   split at e<;>try(cases e;done)
   rename_i s au
   cases e
   obtain⟨l,q⟩:=FZ az
   refine⟨by simp[l],fun k ag jA=>?_⟩
   cases k with
   | zero=>simp[U,h2,au]
   | succ k=>exact q k (by simpa using ag) (by simpa using jA)
theorem F0 {s:Nat}:∀ {ps:List (Nat × Operand)} {e0:List (Nat × Nat × aQ)},xp s ps=some e0->
 e0.length=ps.length/\∀k (ag:k<e0.length) (jA:k<ps.length),(some (ps[k].1*s,s):Option (Nat × Nat))=some (e0[k].1,e0[k].2.1)/\dK (ps[k].2)=some (e0[k].2.2)
 | [],e0,e=>by cases e;exact ⟨rfl,fun k ag=>absurd ag (by simp)⟩
 | (i,x)::r,e0,e=>by
   simp only[xp] at e
   split at e<;>try(cases e;done)
   rename_i y Bd U h2
   cases e
   obtain⟨l,q⟩:=F0 h2
   refine⟨by simp[l],fun k ag jA=>?_⟩
   cases k with
   | zero=>simp[U]
   | succ k=>exact q k (by simpa using ag) (by simpa using jA)
theorem tp {ok:Nat->Prop} {t:TypeId} {z:I} (ar:zeroOf P t=some z):∃ax,(zeroValue t).run P w= .ok ax w/\rA w ok σ z.cells ax.cells/\z.cells.all I.bW=true/\db w ok z ax/\∃i,P.info? t=some i/\i.zero=some ax:=by
 obtain⟨ax,al,ao,aV⟩:=FQ (w:=w) ar
 obtain⟨f1,f2,f3⟩:=FP (w:=w) (ok:=ok) ao
 refine⟨ax,al,?_,f2,f1,aV⟩
 exact (a2.val (σ:=σ) _ _ f1).cells (.inl f2)
theorem OY (bT:List Field) (bg:AX P bT=true):∃pl:List (Nat × Nat),(bT.mapM (fun f=>do pure (f.offset,<-sizeOf f.type):Field->Sem (Nat × Nat))).run P w= .ok pl w/\
 ∀i:Nat,pl[i]? =(bT[i]?).bind fun f=>(iQ P f.type).map fun s=>(f.offset,s):=by
 induction bT with
 | nil=>exact ⟨[],by simp,fun i=>by simp⟩
 | cons f bT a6=>
   simp only[AX,List.all_cons,Bool.and_eq_true] at bg
   obtain⟨s,au⟩:=Option.isSome_iff_exists.1 bg.1
   obtain⟨pl,al,ao⟩:=a6 bg.2
   refine⟨(f.offset,s)::pl,by simp[List.mapM_cons,run_sizeOf au] at al|-;simp[al],fun i=>?_⟩
   cases i with
   | zero=>simp[au]
   | succ i=>simpa using ao i
theorem OZ (br:jV G (bk base okin σ h) σ w F a) {t:TypeId} {ps:Array (Nat × Operand)} {lK:jQ} (J:fF P (.build t ps)=some lK) {aX r:Nat} {v:I} {h':af} {c:dy}
 (he:evalOp aX r (aQ.ev G F) h lK=some (v,h',c)):
 h'=h/\∃cv,(Instr.build t (ps.map fun(i,x)=>(i,a.eval x))).run P w= .ok cv w/\a2 w (bk base okin σ h) σ v cv:=by
 simp only[fF] at J
 split at J
 · rename_i bT z hu ar
   split at J<;>try(cases J;done)
   rename_i O0
   obtain⟨e0,aF,rfl⟩:=Option.map_eq_some_iff.1 J
   simp only[evalOp] at he
   obtain⟨cs,bg,he⟩:=Option.map_eq_some_iff.1 he
   cases he
   obtain⟨ax,dE,iL,_⟩:=tp (w:=w) (σ:=σ) (ok:=bk base okin σ h) ar
   obtain⟨pl,al,ao⟩:=OY (w:=w) bT.toList O0
   obtain⟨arr',f1,f2⟩:=Bc br (fun x=>pl[x]?) ps.toList e0 (by
    obtain⟨l,q⟩:=FZ aF
    exact ⟨l,fun k ag jA=>by have:=q k ag jA;refine⟨?_,this.2⟩;rw[ao];simpa using this.1⟩) _ _ cs iL bg
   refine⟨rfl,.agg arr',?_,.agg _ _ f2.1 f2.2⟩
   have O1:(bT.mapM (fun f=>do pure (f.offset,<-sizeOf f.type):Field->Sem (Nat × Nat))).run P w= .ok pl.toArray w:=by
    rw[Array.mapM_eq_mapM_toList,Sem.run_map,al];rfl
   simp only[Instr.build,Sem.run_bind,dE,Result.andThen_ok,run_underlying hu,O1]
   have:(fun x:Nat=>pl.toArray[x]?)=fun x=>pl[x]? :=by funext x;simp
   simp only[this,Array.toList_map,f1]
   simp
 · rename_i n e z hu ar
   split at J<;>try(cases J;done)
   rename_i s au
   obtain⟨e0,aF,rfl⟩:=Option.map_eq_some_iff.1 J
   simp only[evalOp] at he
   obtain⟨cs,bg,he⟩:=Option.map_eq_some_iff.1 he
   cases he
   obtain⟨ax,dE,iL,_⟩:=tp (w:=w) (σ:=σ) (ok:=bk base okin σ h) ar
   obtain⟨arr',f1,f2⟩:=Bc br (fun i=>some (i*s,s)) ps.toList e0 (F0 aF) _ _ cs iL bg
   refine⟨rfl,.agg arr',?_,.agg _ _ f2.1 f2.2⟩
   simp only[Instr.build,Sem.run_bind,dE,Result.andThen_ok,run_underlying hu,run_sizeOf au,Array.toList_map,f1]
   simp
 · cases J
end fill
end Go.Eng
namespace Go.Eng
open Go Go.RowKit
section
variable {P:Program} {base:Nat} {okin:Nat->Prop} {σ:Nat->Option (Nat × Nat)} {h:af} {w:World} {G:Nat->Option I} {F:Nat->I} {a:Act}
theorem F1 (H:cn base okin σ h w) {r:Nat} (aH:σ r=none) {t:TypeId} {z:I} {ax:Value} (ar:a2 w (bk base okin σ h) σ z ax) (au:z.cells.all I.bW=true):
 ∃ba aN,(newVar t ax).run P w= .ok ⟨w.heap.size,0,none⟩ aN/\Prog base okin σ h w ba (h.new r [z]) aN/\cn base okin ba (h.new r [z]) aN/\
  a2 aN (bk base okin ba (h.new r [z])) ba (.ptr r 0 0) (.pointer (some ⟨w.heap.size,0,none⟩))/\∀id,id≠r->ba id=σ id:=by
 obtain⟨b7,bX⟩:=ar.cells (.inl au)
 have A:=H.alloc aH [z] ax.cells t z.cells.length (fun i ab=>by
  have:i=0:=by simpa using ab
  subst this
  refine⟨rfl,fun j aA=>?_⟩
  have j2:j<z.cells.length:=aA
  refine⟨ax.cells[j]'(by omega),?_,bX j j2 (by omega)⟩
  rw[Nat.zero_mul,Nat.zero_add]
  exact Array.getElem?_eq_getElem (by omega))
 refine⟨_,_,?_,A.2,A.1,?_,?_⟩
 · simp[newVar,newRow]
 · have:=a2.ptr (w:=w.alloc (.cells ax.cells t)) (ok:=bk base okin (an σ r (some (w.heap.size,z.cells.length))) (h.new r [z])) (σ:=an σ r (some (w.heap.size,z.cells.length))) r 0 0 w.heap.size z.cells.length (by simp[an])
   simpa using this
 · intro id bn;simp[an,bn]
theorem db.F2 {ok:Nat->Prop} {v:I} {cv:Value} (aH:a2 w ok σ v cv) (aa:v.dk=true):db w ok v cv:=by
 cases aH with
 | undef=>simp[I.dk] at aa
 | kd=>simp[I.dk] at aa
 | val _ _ h=>exact h
 | agg=>simp[I.dk] at aa
 | bo=>simp[I.dk] at aa
 | ref=>simp[I.dk] at aa
 | ptr=>simp[I.dk] at aa
 | eK=>simp[I.dk] at aa
 | fn f first caps eV cv U h2=>
   cases first with
   | cons=>simp[I.dk] at aa
   | nil=>
     cases caps with
     | cons=>simp[I.dk] at aa
     | nil=>
       obtain rfl:=Array.eq_empty_of_size_eq_zero U
       obtain rfl:=Array.eq_empty_of_size_eq_zero h2
       exact .fn f
 | fR=>simp[I.dk] at aa
theorem I.O2 {v:I} (h:v.dk=true):v.bW=true:=by
 cases v<;>first|rfl|simp[I.dk] at h
theorem I.O3 {v:I} (h:v.dh=true):v.cells.all I.bW=true:=by
 simp only[I.dh,List.all_eq_true] at h|-
 exact fun x ae=>I.O2 (h x ae)
def lL (w:World) (ok:Nat->Prop) (σ:Nat->Option (Nat × Nat)) (sz:Nat) (es:List I) (arr:Array Value):Prop:=
 arr.size=es.length*sz/\∀i (ab:i<es.length),es[i].cells.length=sz/\∀j (aA:j<es[i].cells.length) (ag:i*sz+j<arr.size),a2 w ok σ es[i].cells[j] arr[i*sz+j]
theorem oa {i j n sz:Nat} (ab:i<n) (aA:j<sz):i*sz+j<n*sz:=by
 have:(i+1)*sz<=n*sz:=Nat.mul_le_mul_right _ ab
 rw[Nat.add_mul] at this;omega
theorem lL.set {ok:Nat->Prop} {sz:Nat} {es:List I} {arr:Array Value} (H:lL w ok σ sz es arr) {i:Nat} {v:I} {cv:Value} (av:a2 w ok σ v cv) (au:v.cells.all I.bW=true) (aw:v.cells.length=sz) (ab:i<es.length):
 lL w ok σ sz (es.set i v) (setFrom arr (i*sz) cv.cells.toList):=by
 obtain⟨c1,en,_⟩:=av.vg au
 obtain⟨cc,ed⟩:=H
 have A:=FY cv.cells.toList 0 (i*sz) arr
 have rr:(setFrom arr (i*sz) cv.cells.toList).size=arr.size:=A.1
 refine⟨by rw[rr,cc];simp,fun k ag=>?_⟩
 have jA:k<es.length:=by simpa using ag
 by_cases lM:k=i
 · subst lM
   simp only[List.getElem_set_self]
   refine⟨aw,fun j aA pb=>?_⟩
   have bq:k*sz+j<arr.size:=by rw[rr] at pb;exact pb
   have e:=A.2 (k*sz+j) bq pb
   show a2 w ok σ _ (((cv.cells.toList.zipIdx 0).foldl (fun cs (c,j)=>cs.setIfInBounds (k*sz+j) c) arr)[k*sz+j])
   rw[e,dif_pos (by omega)]
   have ao:k*sz+j -(k*sz+0)=j:=by omega
   simp only[ao]
   exact en j (by omega) (by omega)
 · have bG:(es.set i v)[k]=es[k]:=by rw[List.getElem_set_ne (Ne.symm lM)]
   rw[bG]
   refine⟨(ed k jA).1,fun j aA pb=>?_⟩
   have bq:k*sz+j<arr.size:=by rw[rr] at pb;exact pb
   have O4:j<sz:=by have:=(ed k jA).1;omega
   have e:=A.2 (k*sz+j) bq pb
   show a2 w ok σ _ (((cv.cells.toList.zipIdx 0).foldl (fun cs (c,j)=>cs.setIfInBounds (i*sz+j) c) arr)[k*sz+j])
   rw[e,dif_neg]
   · exact (ed k jA).2 j aA bq
   · rw[c1,aw]
     rintro ⟨c8,c_⟩
     rcases Nat.lt_or_gt_of_ne lM with q|q
     · have:=oa q O4;omega
     · have:=oa (i:=i) (n:=k) q (j:=0) (sz:=sz) (by omega)
       have:(i+1)*sz<=k*sz:=Nat.mul_le_mul_right _ q
       rw[Nat.add_mul] at this;omega
theorem F3 (br:jV G (bk base okin σ h) σ w F a) {sz:Nat}:∀(ps:List (Nat × Operand)) (e0:List (Nat × aQ)),xq ps=some e0->
 ∀(es:List I) (arr:Array Value) (qj:List I),lL w (bk base okin σ h) σ sz es arr->(∀e∈es,e.dh=true)->eE sz es (aQ.ev G F) e0=some qj->
  ∃arr',Instr.fill (fun i=>some (i*sz,sz)) arr (ps.map fun(i,x)=>(i,a.eval x))=some arr'/\lL w (bk base okin σ h) σ sz qj arr'/\(∀e∈qj,e.dh=true)/\qj.length=es.length
 | [],e0,aF,es,arr,qj,H,aa,bg=>by
   cases aF
   simp only[eE] at bg;cases bg
   exact ⟨arr,rfl,H,aa,rfl⟩
 | (i,x)::ps,e0,aF,es,arr,qj,H,aa,bg=>by
   simp only[xq] at aF
   split at aF<;>try(cases aF;done)
   rename_i y Bd U h2
   cases aF
   simp only[eE] at bg
   split at bg<;>try(cases bg;done)
   rename_i nn
   obtain⟨bx,bZ,cX⟩:=nn
   have av:=br.dA U
   have qk:=I.O3 cX
   obtain⟨c1,_,_⟩:=av.vg qk
   have c7:(a.eval x).cells.size=sz:=by rw[<-bx,<-c1];simp
   obtain⟨arr',al,ao,aV,bJ⟩:=F3 br ps Bd h2 _ _ qj (H.set av qk bx bZ) (fun e he=>by
    rcases List.mem_or_eq_of_mem_set he with he|rfl
    · exact aa e he
    · exact cX) bg
   refine⟨arr',?_,ao,aV,by simpa using bJ⟩
   simp only[List.map_cons,Instr.fill]
   rw[if_neg,fold_eq]
   · exact al
   · simp only[c7,ne_eq,not_true_eq_false,decide_false,Bool.false_or,decide_eq_true_eq,Nat.not_lt]
     rw[H.1]
     have:(i+1)*sz<=es.length*sz:=Nat.mul_le_mul_right _ bZ
     rw[Nat.add_mul] at this;omega
theorem F4 {ok:Nat->Prop} {z:I} {ax:Value} (ar:rA w ok σ z.cells ax.cells) (ac1:0<z.cells.length) (n:Nat):
 lL w ok σ z.cells.length (List.replicate n z) (madeCells ax.cells (n*z.cells.length)):=by
 refine⟨by simp[madeCells],fun i ab=>?_⟩
 have bI:i<n:=by simpa using ab
 simp only[List.getElem_replicate]
 refine⟨trivial,fun j aA ag=>?_⟩
 have e:(madeCells ax.cells (n*z.cells.length))[i*z.cells.length+j]=ax.cells[j]'(by rw[ar.1];exact aA):=by
  simp only[madeCells,Array.getElem_map,Array.getElem_range]
  have:(i*z.cells.length+j)%ax.cells.size=j:=by
   rw[ar.1,Nat.add_comm,Nat.add_mul_mod_self_right];exact Nat.mod_eq_of_lt aA
  rw[this]
  exact getElem!_pos _ _ _
 rw[e]
 exact ar.2 j aA _
theorem O5 (H:cn base okin σ h w) (br:jV G (bk base okin σ h) σ w F a) {t:TypeId} {n:Nat} {ps:Array (Nat × Operand)} {lK:jQ} (J:fF P (.buildSlice t n ps)=some lK) {aX r:Nat} {v:I} {h':af} {c:dy}
 (he:evalOp aX r (aQ.ev G F) h lK=some (v,h',c)):
 h'=h/\∃cv aN,(Instr.buildSlice t n (ps.map fun(i,x)=>(i,a.eval x))).run P w= .ok cv aN/\Prog base okin σ h w σ h aN/\cn base okin σ h aN/\a2 aN (bk base okin σ h) σ v cv:=by
 simp only[fF] at J
 split at J<;>try(cases J;done)
 rename_i e hu
 split at J<;>try(cases J;done)
 rename_i sz z e0 au ar aF
 split at J<;>try(cases J;done)
 rename_i rB
 cases J
 simp only[evalOp] at he
 split at he<;>try(cases he;done)
 rename_i nn
 obtain⟨bx,bZ,cX⟩:=nn
 obtain⟨es,bg,he⟩:=Option.map_eq_some_iff.1 he
 cases he
 obtain⟨ax,dE,iL,xy,_,_⟩:=tp (w:=w) (σ:=σ) (ok:=bk base okin σ h) ar
 have M:=F4 (σ:=σ) iL (by omega) n
 rw[bx] at M
 obtain⟨arr,f1,f2,f3,f4⟩:=F3 br ps.toList e0 aF _ _ es M (fun e he=>by rw[List.eq_of_mem_replicate he];exact cX) bg
 have Be:Prog base okin σ h w σ h (w.alloc (.cells arr e)):=⟨fun _ _ x=>x,fun b aa ay=>⟨ay,Below.heap_alloc _ _ _ aa⟩,(Below.refl _ _).alloc H.base _,FK w _⟩
 have H1:cn base okin σ h (w.alloc (.cells arr e)):=by
  refine⟨fun id b s ab=>?_,fun id fT iw=>?_,H.inj,by simp;have:=H.base;omega⟩
  · have:=H.val id b s ab;exact ⟨this.1,by simp;omega⟩
  · obtain⟨b,s,ql,ty,al,ao,aV⟩:=H.blk id fT iw
    refine⟨b,s,ql,ty,al,by rw[Below.heap_alloc _ _ _ (H.val _ _ _ al).2];exact ao,fun i ab=>⟨(aV i ab).1,fun j aA=>?_⟩⟩
    obtain⟨lq,bE,cp⟩:=(aV i ab).2 j aA
    exact ⟨lq,bE,Be.rep cp⟩
 have hlen:es.length=n:=by simpa using f4
 refine⟨rfl,.slice (some ⟨w.heap.size,0,none⟩) n n,_,?_,Be,H1,?_⟩
 · have O6:¬2^24<n*sz:=by omega
   have vj:Instr.fill (fun i=>some (i*sz,sz)) (madeCells ax.cells (n*sz)) (List.map (fun x=>(x.fst,a.eval x.snd)) ps.toList)=some arr:=f1
   unfold madeCells at vj
   by_cases aD:n*sz=0
   · have bz:Array.range (n*sz)= #[]:=by rw[aD];rfl
     rw[bz] at vj
     simp only[List.map_toArray,List.map_nil] at vj
     simp[Instr.buildSlice,run_underlying hu,run_sizeOf au,aD,newRow,Array.range_zero',vj]
   · simp[Instr.buildSlice,run_underlying hu,run_sizeOf au,O6,aD,dE,vj,newRow]
 · refine .val _ _ ?_
   have:=db.sl (w:=w.alloc (.cells arr e)) (ok:=bk base okin σ h) es true (some ⟨w.heap.size,0,none⟩) es.length sz (fun i j=>(arr[i*sz+j]?).getD undef) (Nat.le_refl _) (fun _=>rfl) (fun i ab=>(f2.2 i ab).1)
    (fun i j ab aA=>?_) (fun _=>rfl) (fun i ab j aA=>?_)
   · rw[hlen] at this;exact this
   · refine⟨_,rfl,.inr ⟨H.base,fun id s rC aw=>?_⟩,?_⟩
     · have:=(H.val _ _ _ rC).2;simp at this
     · rw[o9,Nat.zero_add]
       have bq:=oa ab aA
       have:i*sz+j<arr.size:=by rw[f2.1];exact bq
       show World.cell? _ _=some ((arr[i*sz+j]?).getD undef)
       rw[Array.getElem?_eq_getElem this]
       show World.cell? (w.alloc (.cells arr e)) ⟨w.heap.size,i*sz+j,none⟩=_
       rw[World.cell?_alloc_new]
       exact Array.getElem?_eq_getElem this
   · have c7:=(f2.2 i ab).1
     have bq:=oa ab (show j<sz by omega)
     have ag:i*sz+j<arr.size:=by rw[f2.1];exact bq
     show db _ _ _ ((arr[i*sz+j]?).getD undef)
     rw[Array.getElem?_eq_getElem ag]
     refine db.F2 (Be.rep ((f2.2 i ab).2 j aA ag)) ?_
     have:=f3 _ (List.getElem_mem ab)
     exact List.all_eq_true.1 this _ (List.getElem_mem aA)
theorem O7 (H:cn base okin σ h w) (br:jV G (bk base okin σ h) σ w F a) {r:Nat} (aH:σ r=none) {t:TypeId} {X Y:Operand} {lK:jQ} (J:fF P (.makeSlice t X Y)=some lK) {aX:Nat} {v:I} {h':af} {c:dy}
 (he:evalOp aX r (aQ.ev G F) h lK=some (v,h',c)):
 ∃ba cv aN,(Instr.makeSlice t (a.eval X) (a.eval Y)).run P w= .ok cv aN/\Prog base okin σ h w ba h' aN/\cn base okin ba h' aN/\a2 aN (bk base okin ba h') ba v cv/\∀id,id≠r->ba id=σ id:=by
 simp only[fF] at J
 split at J<;>try(cases J;done)
 rename_i e hu
 split at J<;>try(cases J;done)
 rename_i z sz bytes x y ar au vk ae aO
 cases J
 simp only[evalOp] at he
 split at he<;>try(cases he;done)
 rename_i bx l bZ dt aw np
 split at he<;>try(cases he;done)
 rename_i nn
 obtain⟨c8,c_,h5,jB,F5,O8,O9⟩:=nn
 cases he
 have rx:=br.dA ae
 have ry:=br.dA aO
 rw[aw] at rx;rw[np] at ry
 rw[rx.jl,ry.jl]
 obtain⟨ax,dE,iL,xy,_,i,ab,O_⟩:=tp (w:=w) (σ:=σ) (ok:=bk base okin σ h) ar
 have tq:i.size=sz:=by
  obtain⟨iK,al,ao⟩:=Option.map_eq_some_iff.1 au
  rw[ab] at al;cases al;exact ao
 have Bf:i.bytes=bytes:=by
  obtain⟨iK,al,ao⟩:=Option.map_eq_some_iff.1 vk
  rw[ab] at al;cases al;exact ao
 have Bg:dt<=dt*(bytes:Int):=by
  have lv:(1:Int)<=bytes:=by omega
  have Bh:0<=dt:=by omega
  have:=Int.mul_le_mul_of_nonneg_left lv Bh
  simpa using this
 have ca:=run_make (P:=P) w t e i ax hu ab O_ bx bZ l dt c8 c_ (by rw[Bf,Int.mul_comm];omega) (by omega)
 have M:=F4 (σ:=σ) iL (by omega) dt.toNat
 rw[F5] at M
 have A:=H.alloc aH (List.replicate dt.toNat z) (madeCells ax.cells (dt.toNat*i.size)) e sz (fun k ag=>by
  refine⟨(M.2 k ag).1,fun j aA=>?_⟩
  rw[tq]
  have bq:k*sz+j<(madeCells ax.cells (dt.toNat*sz)).size:=by rw[M.1];exact oa ag (by have:=(M.2 k ag).1;omega)
  exact ⟨_,Array.getElem?_eq_getElem bq,(M.2 k ag).2 j aA bq⟩)
 refine⟨_,_,_,ca,A.2,A.1,?_,fun id bn=>by simp[an,bn]⟩
 exact .ref r 0 l.toNat dt.toNat _ dt.toNat w.heap.size sz (by simp[an]) (by omega) (Nat.le_refl _) (fun _=>⟨by simp,by
  rw[A0];simp[madeCells,tq]⟩)
end
end Go.Eng
