import Derived.Orders
import Derived.Below
import Derived.Laws.CopyRow
import Derived.Laws.MakeOwn
set_option linter.unusedSimpArgs false
set_option linter.unusedVariables false
set_option linter.unusedSectionVars false
namespace Go.Eng
open Go
inductive I where
 | undef
 | kB
 | int (k:IntKind) (n:Int)
 | bool (b:Bool)
 | str (s:ByteArray)
 | sl (xs:List I) (ex:Bool)
 | ref (id off len cap:Nat)
 | ptr (id idx cN:Nat)
 | e2 (v:I)
 | fn (f:FuncId) (first caps:List I)
 | nilfn
 | ie (id:Nat)
 | mp (aiZ:List (Int × FuncId))
 | agg (cs:List I)
 | bL (vs:List I)
 deriving Inhabited
def I.cells:I->List I
 | .agg cs=>cs
 | v=>[v]
def I.ca:I->Bool
 | .undef| .kB| .agg _| .bL _=>false
 | _=>true
def I.dK:I->Bool
 | .int .. | .bool _| .str _| .sl .. | .nilfn| .fn _ [] []=>true
 | _=>false
def I.dQ (v:I):Bool:=v.cells.all I.dK
def partOf (bT:Bool) (cs:List I):Option I:=
 if bT then some (.agg cs) else match cs with
  | [c]=>if c.ca=true then some c else none
  | _=>none
def cut (cs:List I) (off sz:Nat):Option (List I):=if off+sz<=cs.length then some ((cs.drop off).take sz) else none
def eP (cs:List I) (off:Nat) (vs:List I):List I:=cs.take off++vs++cs.drop (off+vs.length)
inductive dd where
 | normal
 | exit (id:Nat)
 | ret
inductive fX where
 | ready
 | busy
 | done (e:dd)
structure ah where
 cells:Nat->Option (List I)
 shut:Nat->Bool
 next:Nat
 aV:Nat->Option fX:=fun _=>none
def au {α:Type} (f:Nat->α) (k:Nat) (v:α):Nat->α:=fun i=>if i=k then v else f i
structure aL where
 F:Nat->I
 h:ah
inductive aT where
 | t (n:Nat)
 | c (v:I)
 | g (i:Nat)
 | f (n:FuncId)
 deriving Inhabited
inductive kf where
 | mv (x:aT)
 | pick (c a b:aT)
 | alloc (z:I)
 | box (x:aT)
 | build (z:List I) (ps:List (Nat × Nat × aT))
 | bsl (sz:Nat) (z:I) (n:Nat) (ps:List (Nat × aT))
 | load (bT:Bool) (sz:Nat) (x:aT)
 | store (sz:Nat) (a v:aT)
 | bin (ty:Nat) (op:BinOp) (x y:aT)
 | eqA (neg:Bool) (n:Nat) (x y:aT)
 | un (op:UnOp) (x:aT)
 | conv (k:IntKind) (x:aT)
 | mkfn (f:FuncId) (first caps:List aT)
 | mksl (z:I) (sz bytes:Nat) (l c:aT)
 | slice (sz:Nat) (x:aT) (cr ab jO:Option aT)
 | faddr (bT:Bool) (off sz:Nat) (x:aT)
 | field (bT:Bool) (off sz:Nat) (x:aT)
 | iaddrS (sz:Nat) (x i:aT)
 | iaddrA (bT:Bool) (n sz:Nat) (x i:aT)
 | idxA (bT:Bool) (n sz:Nat) (x i:aT)
 | idxS (x i:aT)
 | extract (x:aT) (i:Nat)
 | call (f:aT) (args:List aT)
 | len (str:Bool) (x:aT)
 | mlook (x i:aT)
 | isnil (neg:Bool) (x:aT)
 | app (sz bytes:Nat) (x y:aT)
 | min (xs:List aT)
 | max (xs:List aT)
 deriving Inhabited
def aT.rd:aT->List Nat
 | .t n=>[n]
 | _=>[]
def aT.yP:Option aT->List Nat
 | some x=>x.rd
 | none=>[]
def kf.reads:kf->List Nat
 | .mv x| .box x| .load _ _ x| .un _ x| .conv _ x| .faddr _ _ _ x| .field _ _ _ x| .extract x _| .len _ x| .isnil _ x=>x.rd
 | .pick c a b=>c.rd++a.rd++b.rd
 | .alloc _=>[]
 | .build _ ps=>ps.flatMap fun p=>p.2.2.rd
 | .bsl _ _ _ ps=>ps.flatMap fun p=>p.2.rd
 | .store _ a v=>a.rd++v.rd
 | .bin _ _ x y| .eqA _ _ x y| .mksl _ _ _ x y| .iaddrS _ x y| .iaddrA _ _ _ x y| .idxA _ _ _ x y| .idxS x y| .app _ _ x y| .mlook x y=>x.rd++y.rd
 | .mkfn _ a b=>a.flatMap aT.rd++b.flatMap aT.rd
 | .slice _ x cr ab jO=>x.rd++aT.yP cr++aT.yP ab++aT.yP jO
 | .call f as=>f.rd++as.flatMap aT.rd
 | .min xs| .max xs=>xs.flatMap aT.rd
structure aU where
 dst:Option Nat
 op:kf
 guard:Option (Nat × Bool)
 deriving Inhabited
abbrev aU.m (a b:Nat):aU:=⟨some a,.mv (.t b),none⟩
abbrev aU.o (a:Nat) (o:kf):aU:=⟨some a,o,none⟩
abbrev aU.n (o:kf):aU:=⟨none,o,none⟩
abbrev aU.g (a:Nat) (o:kf) (t:Nat) (w:Bool):aU:=⟨some a,o,some (t,w)⟩
def aU.reads (e:aU):List Nat:=(match e.guard with
 | some (t,_)=>[t]
 | none=>[])++e.op.reads
def aU.apart (e f:aU):Bool:=
 (match e.dst with
  | some d=>!(f.reads.contains d)&&f.dst != some d
  | none=>true)&&
 (match f.dst with
  | some d=>!(e.reads.contains d)
  | none=>true)
inductive c5 where
 | skip
 | region (draw:Bool) (ops:List aU) (e3:List Nat)
 | seq (a b:c5)
 | cond (c:aT) (a b:c5)
 | block (id:Nat) (c:c5)
 | loop (c:c5)
 | lj (f:aT) (ps:List Nat) (dL body:c5)
 | exit (id:Nat)
 | ret
 deriving Inhabited
inductive mO where
 | tmp (t:Nat)
 | cell (t:Nat) (bT:Bool) (sz:Nat)
 deriving Inhabited
structure aP where
 body:c5
 res:List mO
 deriving Inhabited
inductive eb where
 | pure|rd|jv|wr
 | lN (id:Nat)
 | ly (qX:Nat->Bool)
mutual
def I.beq:I->I->Bool
 | .undef,.undef=>true
 | .kB,.kB=>true
 | .int k n,.int k' Rz=>decide (k=k')&&decide (n=Rz)
 | .bool a,.bool b=>decide (a=b)
 | .str a,.str b=>decide (a=b)
 | .sl xs e,.sl ys f=>na xs ys&&decide (e=f)
 | .ref a b c d,.ref eF kg c' o0=>decide (a=eF)&&decide (b=kg)&&decide (c=c')&&decide (d=o0)
 | .ptr a b c,.ptr eF kg c'=>decide (a=eF)&&decide (b=kg)&&decide (c=c')
 | .e2 a,.e2 b=>I.beq a b
 | .fn f a b,.fn g c d=>decide (f=g)&&na a c&&na b d
 | .nilfn,.nilfn=>true
 | .ie a,.ie b=>decide (a=b)
 | .mp m,.mp nb=>decide (m=nb)
 | .agg a,.agg b=>na a b
 | .bL a,.bL b=>na a b
 | _,_=>false
def na:List I->List I->Bool
 | [],[]=>true
 | x::xs,y::ys=>I.beq x y&&na xs ys
 | _,_=>false
end
mutual
theorem I.beq_eq:∀(a b:I),I.beq a b=true->a=b
 | .undef,b,h=>by cases b<;>simp_all[I.beq]
 | .kB,b,h=>by cases b<;>simp_all[I.beq]
 | .int k n,b,h=>by cases b<;>simp_all[I.beq]
 | .bool a,b,h=>by cases b<;>simp_all[I.beq]
 | .str a,b,h=>by cases b<;>simp_all[I.beq]
 | .sl xs e,b,h=>by
   cases b<;>simp only[I.beq,Bool.and_eq_true,decide_eq_true_eq,Bool.false_eq_true] at h
   rw[sf _ _ h.1,h.2]
 | .ref a b c d,x,h=>by cases x<;>simp_all[I.beq]
 | .ptr a b c,x,h=>by cases x<;>simp_all[I.beq]
 | .e2 a,b,h=>by
   cases b<;>simp only[I.beq,Bool.false_eq_true] at h
   rw[I.beq_eq _ _ h]
 | .fn f a b,x,h=>by
   cases x<;>simp only[I.beq,Bool.and_eq_true,decide_eq_true_eq,Bool.false_eq_true] at h
   rw[h.1.1,sf _ _ h.1.2,sf _ _ h.2]
 | .nilfn,b,h=>by cases b<;>simp_all[I.beq]
 | .ie a,b,h=>by cases b<;>simp_all[I.beq]
 | .mp m,b,h=>by cases b<;>simp_all[I.beq]
 | .agg a,b,h=>by
   cases b<;>simp only[I.beq,Bool.false_eq_true] at h
   rw[sf _ _ h]
 | .bL a,b,h=>by
   cases b<;>simp only[I.beq,Bool.false_eq_true] at h
   rw[sf _ _ h]
theorem sf:∀(a b:List I),na a b=true->a=b
 | [],[],_=>rfl
 | [],_::_,h=>by simp[na] at h
 | _::_,[],h=>by simp[na] at h
 | x::xs,y::ys,h=>by
   simp only[na,Bool.and_eq_true] at h
   rw[I.beq_eq _ _ h.1,sf _ _ h.2]
end
mutual
theorem I.beq_refl:∀(a:I),I.beq a a=true
 | .undef| .kB| .int _ _| .bool _| .str _| .ref _ _ _ _| .ptr _ _ _| .nilfn| .ie _| .mp _=>by simp[I.beq]
 | .sl xs e=>by simp[I.beq,o1 xs]
 | .e2 a=>by simp[I.beq,I.beq_refl a]
 | .fn f a b=>by simp[I.beq,o1 a,o1 b]
 | .agg a=>by simp[I.beq,o1 a]
 | .bL a=>by simp[I.beq,o1 a]
theorem o1:∀(a:List I),na a a=true
 | []=>rfl
 | x::xs=>by simp[na,I.beq_refl x,o1 xs]
end
def yQ:Option (List I)->Option (List I)->Bool
 | none,none=>true
 | some a,some b=>na a b
 | _,_=>false
theorem RA {a b:Option (List I)} (h:yQ a b=true):a=b:=by
 cases a<;>cases b<;>simp only[yQ,Bool.false_eq_true] at h
 · rfl
 · rw[sf _ _ h]
theorem yR (a:Option (List I)):yQ a a=true:=by
 cases a
 · rfl
 · exact o1 _
section eval
variable (G:Nat->Option I)
def aT.ev (F:Nat->I):aT->I
 | .t n=>F n
 | .c v=>v
 | .g i=>match G i with
   | some v=> .e2 v
   | none=> .undef
 | .f n=> .fn n [] []
def iZ (op:BinOp) (k:IntKind) (a b:Int):Option I:=
 match op with
 | .add=>some (.int k (k.wrap (a+b)))
 | .sub=>some (.int k (k.wrap (a - b)))
 | .mul=>some (.int k (k.wrap (a*b)))
 | .quo=>if b=0 then none else some (.int k (k.wrap (a.tdiv b)))
 | .rem=>if b=0 then none else some (.int k (a.tmod b))
 | .and=>some (.int k (k.wrap ((BitVec.ofInt k.bits a&&&BitVec.ofInt k.bits b).toNat)))
 | .or=>some (.int k (k.wrap ((BitVec.ofInt k.bits a|||BitVec.ofInt k.bits b).toNat)))
 | .xor=>some (.int k (k.wrap ((BitVec.ofInt k.bits a ^^^ BitVec.ofInt k.bits b).toNat)))
 | .andNot=>some (.int k (k.wrap ((BitVec.ofInt k.bits a&&& ~~~(BitVec.ofInt k.bits b)).toNat)))
 | .eql=>some (.bool (a == b))
 | .neq=>some (.bool (a != b))
 | .lss=>some (.bool (decide (a<b)))
 | .leq=>some (.bool (decide (a<=b)))
 | .gtr=>some (.bool (decide (a>b)))
 | .geq=>some (.bool (decide (a>=b)))
 | _=>none
def iA (op:BinOp) (k:IntKind) (a b:Int):Option I:=
 if b<0 then none else
 match op with
 | .shl=>some (.int k (k.wrap (a*2^(Min.min b.toNat k.bits))))
 | .shr=>some (.int k (a.fdiv (2^(Min.min b.toNat k.bits))))
 | _=>none
def fi (ty:Nat) (op:BinOp):I->I->Option I
 | .int k a,.int k' b=>if op= .shl\/op= .shr then iA op k a b else if k=k' then iZ op k a b else none
 | .bool a,.bool b=>if ty=1 then match op with
   | .eql=>some (.bool (a == b))
   | .neq=>some (.bool (!(a == b)))
   | _=>none else none
 | .str a,.str b=>match op with
   | .eql=>some (.bool (a.toList == b.toList))
   | .neq=>some (.bool (!(a.toList == b.toList)))
   | _=>none
 | _,_=>none
def fj (op:UnOp):I->Option I
 | .int k n=>match op with
   | .neg=>some (.int k (k.wrap (0 - n)))
   | .xor=>some (.int k (k.wrap ((BitVec.ofInt k.bits (if k.signed then -1 else k.max) ^^^ BitVec.ofInt k.bits n).toNat)))
   | _=>none
 | .bool b=>match op with
   | .not=>some (.bool !b)
   | _=>none
 | _=>none
def eQ:List I->List I->Option Bool
 | [],[]=>some true
 | .int k a::xs,.int k' b::ys=>if k=k' then (eQ xs ys).map fun r=>(a == b)&&r else none
 | _,_=>none
def eR (cells:List I) (a_:aT->I):List (Nat × Nat × aT)->Option (List I)
 | []=>some cells
 | (off,size,x)::rest=>
   if (a_ x).cells.length=size/\off+size<=cells.length/\((a_ x).cells.all I.ca)=true then eR (eP cells off (a_ x).cells) a_ rest else none
def eS (sz:Nat) (es:List I) (a_:aT->I):List (Nat × aT)->Option (List I)
 | []=>some es
 | (i,x)::rest=>
   if (a_ x).cells.length=sz/\i<es.length/\(a_ x).dQ=true then eS sz (es.set i (a_ x)) a_ rest else none
def bound (d:Nat) (a_:aT->I):Option aT->Option Nat
 | none=>some d
 | some x=>match a_ x with
   | .int _ n=>if 0<=n then some n.toNat else none
   | _=>none
def elems (h:ah):I->Option (List I)
 | .sl xs _=>some xs
 | .ref id off len _=>match h.cells id with
   | some blk=>if off+len<=blk.length then some ((blk.drop off).take len) else none
   | none=>none
 | _=>none
def sizedB (sz:Nat):Option (List I)->Bool
 | some blk=>decide (0<blk.length)&&blk.all fun e=>e.cells.length == sz
 | none=>false
def kC:I->Bool
 | .sl .. =>true
 | _=>false
def dD (h:ah):I->Option (I × List Nat)
 | .ref id off len _=>match h.cells id with
   | some blk=>if off+len<=blk.length/\(blk.all I.dQ)=true then some (.sl ((blk.drop off).take len) false,[id]) else none
   | none=>none
 | .int k n=>some (.int k n,[])
 | .bool b=>some (.bool b,[])
 | .str s=>some (.str s,[])
 | .sl xs e=>some (.sl xs e,[])
 | .nilfn=>some (.nilfn,[])
 | .mp m=>some (.mp m,[])
 | _=>none
def ei (h:ah):List I->Option (List I × List Nat)
 | []=>some ([],[])
 | v::vs=>match dD h v,ei h vs with
   | some (kh,a),some (mP,b)=>some (kh::mP,a++b)
   | _,_=>none
def iR (h:ah):I->Option (I × List Nat)
 | .agg cs=>(ei h cs).map fun(jP,a)=>(.agg jP,a)
 | v=>dD h v
def ec (h:ah):List I->Option (List I × List Nat)
 | []=>some ([],[])
 | v::vs=>match iR h v,ec h vs with
   | some (kh,a),some (mP,b)=>some (kh::mP,a++b)
   | _,_=>none
def jw (h:ah):I->Option (I × List Nat)
 | .bL vs=>(ec h vs).map fun(mP,a)=>(.bL mP,a)
 | v=>iR h v
def ah.close (h:ah) (ids:List Nat):ah:={h with shut:=fun k=>h.shut k||ids.contains k}
def ah.new (h:ah) (r:Nat) (blk:List I):ah:={h with cells:=au h.cells r (some blk)}
def j6 (f:Int->Int->Int):List I->Option I
 | [.int k a]=>some (.int k a)
 | .int k a:: .int k' b::rest=>if k=k' then j6 f (.int k (f a b)::rest) else none
 | _=>none
termination_by l=>l.length
def evalOp (aZ r:Nat) (a_:aT->I) (h:ah):kf->Option (I × ah × eb)
 | .mv x=>some (a_ x,h,.pure)
 | .pick c a b=>match a_ c with
   | .bool t=>some (if t then a_ a else a_ b,h,.pure)
   | _=>none
 | .alloc z=>some (.ptr r 0 0,h.new r [z],.jv)
 | .box x=>if (a_ x).cells.all I.ca then some (.ptr r 0 0,h.new r [a_ x],.jv) else none
 | .build z ps=>(eR z a_ ps).map fun cs=>(.agg cs,h,.pure)
 | .bsl sz z n ps=>if z.cells.length=sz/\0<sz/\z.dQ=true then (eS sz (List.replicate n z) a_ ps).map fun es=>(.sl es true,h,.pure) else none
 | .load bT sz x=>match a_ x with
   | .e2 v=>(cut v.cells 0 sz).bind fun cs=>(partOf bT cs).map fun u=>(u,h,.pure)
   | .ptr id idx cN=>(h.cells id).bind fun blk=>(blk[idx]?).bind fun e=>(cut e.cells cN sz).bind fun cs=>(partOf bT cs).map fun u=>(u,h,if id<aZ then .lN id else .wr)
   | _=>none
 | .store sz a v=>match a_ a with
   | .ptr id idx cN=>
     if h.shut id=true then none else
     (h.cells id).bind fun blk=>(blk[idx]?).bind fun e=>
       if (a_ v).cells.length=sz/\cN+sz<=e.cells.length/\((a_ v).cells.all I.ca)=true then
        match e with
        | .agg cs=>some (.undef,h.new id (blk.set idx (.agg (eP cs cN (a_ v).cells))),.wr)
        | _=>match (a_ v).cells with
          | [u]=>some (.undef,h.new id (blk.set idx u),.wr)
          | _=>none
       else none
   | _=>none
 | .bin ty op x y=>(fi ty op (a_ x) (a_ y)).map fun v=>(v,h,.pure)
 | .eqA neg n x y=>match a_ x,a_ y with
   | .agg xs,.agg ys=>if xs.length=n then (eQ xs ys).map fun b=>(.bool (b != neg),h,.pure) else none
   | _,_=>none
 | .un op x=>(fj op (a_ x)).map fun v=>(v,h,.pure)
 | .conv k x=>match a_ x with
   | .int _ n=>some (.int k (k.wrap n),h,.pure)
   | _=>none
 | .mkfn f first caps=>some (.fn f (first.map a_) (caps.map a_),h,.pure)
 | .mksl z sz bytes l c=>match a_ l,a_ c with
   | .int _ a,.int _ b=>
     if 0<=a/\a<=b/\b*bytes<=140737488355328/\0<bytes/\z.cells.length=sz/\0<sz/\(z.cells.all I.ca)=true
     then some (.ref r 0 a.toNat b.toNat,h.new r (List.replicate b.toNat z),.jv) else none
   | _,_=>none
 | .slice sz x cr ab jO=>match a_ x with
   | .ref id off len cap=>match bound 0 a_ cr,bound len a_ ab,bound cap a_ jO with
     | some l,some u,some m=>if l<=u/\u<=m/\m<=cap/\(l=0\/sizedB sz (h.cells id)=true) then some (.ref id (off+l) (u - l) (m - l),h,if id<aZ then .rd else .wr) else none
     | _,_,_=>none
   | .sl xs ex=>match bound 0 a_ cr,bound xs.length a_ ab,bound xs.length a_ jO with
     | some l,some u,some m=>if l<=u/\u<=m/\m<=xs.length/\(l=0\/(xs.all fun e=>e.cells.length == sz)=true) then some (.sl ((xs.drop l).take (u - l)) ((jO.isSome||ex)&&m == u),h,.pure) else none
     | _,_,_=>none
   | _=>none
 | .faddr bT off sz x=>match a_ x with
   | .e2 v=>(cut v.cells off sz).bind fun cs=>(partOf bT cs).map fun u=>(.e2 u,h,.pure)
   | .ptr id idx cN=>some (.ptr id idx (cN+off),h,.pure)
   | _=>none
 | .field bT off sz x=>match a_ x with
   | .agg cs=>(cut cs off sz).bind fun cs=>(partOf bT cs).map fun u=>(u,h,.pure)
   | _=>none
 | .iaddrS sz x i=>match a_ x,a_ i with
   | .sl xs _,.int _ n=>if 0<=n then (xs[n.toNat]?).bind fun e=>if e.cells.length=sz then some (.e2 e,h,.pure) else none else none
   | .ref id off len _,.int _ n=>if 0<=n/\n<len/\sizedB sz (h.cells id)=true then some (.ptr id (off+n.toNat) 0,h,if id<aZ then .rd else .wr) else none
   | _,_=>none
 | .iaddrA bT n sz x i=>match a_ x,a_ i with
   | .e2 v,.int _ j=>if 0<=j/\j<n then (cut v.cells (j.toNat*sz) sz).bind fun cs=>(partOf bT cs).map fun u=>(.e2 u,h,.pure) else none
   | .ptr id idx cN,.int _ j=>if 0<=j/\j<n then some (.ptr id idx (cN+j.toNat*sz),h,.pure) else none
   | _,_=>none
 | .idxA bT n sz x i=>match a_ x,a_ i with
   | .agg cs,.int _ j=>if 0<=j/\j<n then (cut cs (j.toNat*sz) sz).bind fun cs=>(partOf bT cs).map fun u=>(u,h,.pure) else none
   | _,_=>none
 | .idxS x i=>match a_ x,a_ i with
   | .str s,.int _ j=>if 0<=j then (s[j.toNat]?).map fun b=>(.int .u8 b.toNat,h,.pure) else none
   | _,_=>none
 | .extract x i=>match a_ x with
   | .bL vs=>(vs[i]?).map fun v=>(v,h,.pure)
   | _=>none
 | .len str x=>match a_ x with
   | .sl xs _=>if str=false then some (.int .i64 xs.length,h,.pure) else none
   | .ref _ _ len _=>if str=false then some (.int .i64 len,h,.pure) else none
   | .str s=>if str=true then some (.int .i64 s.size,h,.pure) else none
   | _=>none
 | .mlook x i=>match a_ x,a_ i with
   | .mp m,.int .i64 n=>some (.bL [match m.lookup n with
     | some f=> .fn f [] []
     | none=> .nilfn,.bool (m.lookup n).isSome],h,.pure)
   | _,_=>none
 | .isnil neg x=>match a_ x with
   | .sl xs _=>if 0<xs.length then some (.bool neg,h,.pure) else none
   | .ref _ _ len cap=>if 0<len\/0<cap then some (.bool neg,h,.pure) else none
   | _=>none
 | .app sz bytes x y=>(elems h (a_ y)).bind fun ys=>
   if 0<sz/\0<bytes/\(ys.all fun e=>e.cells.length == sz&&e.cells.all I.ca)=true then
    match a_ x with
    | .sl xs ex=>if ys.length=0 then some (.sl xs ex,h,if kC (a_ y) then .pure else .wr) else if ex=true/\(xs.length+ys.length)*bytes<=35184372088832/\0<ys.length/\(xs.all fun e=>e.cells.length == sz)=true
        then some (.ref r 0 (xs.length+ys.length) (xs.length+ys.length),h.new r (xs++ys),if kC (a_ y) then .jv else .wr) else none
    | .ref id off len cap=>if ys.length=0 then some (.ref id off len cap,h,if kC (a_ y) then .pure else .wr) else if h.shut id=true then none else (h.cells id).bind fun blk=>
        if off+len<=blk.length/\(len+ys.length)*bytes<=35184372088832/\0<ys.length/\(blk.all fun e=>e.cells.length == sz)=true then
         if len+ys.length<=cap then
          if off+cap<=blk.length then some (.ref id off (len+ys.length) cap,h.new id (blk.take (off+len)++ys++blk.drop (off+len+ys.length)),.wr) else none
         else if off=0/\0<len then some (.ref r 0 (len+ys.length) (len+ys.length),{h with cells:=au (au h.cells id none) r (some (blk.take len++ys))},.wr) else none
        else none
    | _=>none
   else none
 | .min xs=>(j6 (fun a b=>if b<a then b else a) (xs.map a_)).map fun v=>(v,h,.pure)
 | .max xs=>(j6 (fun a b=>if a<b then b else a) (xs.map a_)).map fun v=>(v,h,.pure)
 | .call .. =>none
end eval
def cw (F:Nat->I) (d:Option Nat) (v:I):Nat->I:=
 match d with
 | some t=>au F t v
 | none=>F
def qY (aZ:Nat) (h h':ah):Nat->Bool:=fun id=>decide (id<aZ)&&yQ (h.cells id) (h'.cells id)
def kD:eb->eb->Bool
 | .pure,_|_,.pure=>true
 | .lN id,.ly k| .ly k,.lN id=>k id
 | .ly _,.jv=>true
 | .wr,_|_,.wr=>false
 | .ly _,_|_,.ly _=>false
 | _,_=>true
def uk (cs:List eb) (sg:List Nat):Bool:=
 cs.zipIdx.all fun(c,j)=>cs.zipIdx.all fun(d,i)=>!(decide (i<j))||(sg.getD j 0).testBit i||kD d c
section exec
variable (G:Nat->Option I) (Φ:FuncId->Option aP) (tab:FuncId->Option (List I->Option I))
def dM (args:List I):Nat->I:=fun i=>args.getD i .undef
def eT (h:ah) (F:Nat->I):mO->Option I
 | .tmp t=>some (F t)
 | .cell t bT sz=>match F t with
   | .ptr id idx cN=>(h.cells id).bind fun blk=>(blk[idx]?).bind fun e=>(cut e.cells cN sz).bind fun cs=>partOf bT cs
   | _=>none
def dE (h:ah) (F:Nat->I) (rs:List mO):Option I:=
 (rs.mapM (eT h F)).map fun
   | [v]=>v
   | vs=> .bL vs
inductive kV where
 | fn (f:FuncId)
 | lk (id:Nat)
def cW (ch:kV->List I->ah->Option (I × ah)) (aZ r:Nat) (e:aU) (s:aL):Option (aL × eb):=
 match e.op with
 | .call f args=>match f.ev G s.F with
   | .fn n first caps=>match tab n with
     | some T=>match ec s.h (first++args.map (aT.ev G s.F)++caps) with
       | some (vs,ids)=>(T vs).map fun v=>(⟨cw s.F e.dst v,s.h.close ids⟩,if ids.isEmpty then .pure else if ids.all (fun i=>decide (i<aZ)) then .rd else .wr)
       | none=>none
     | none=>(ch (.fn n) (first++args.map (aT.ev G s.F)++caps) s.h).map fun(v,h')=>(⟨cw s.F e.dst v,h'⟩,.ly (qY aZ s.h h'))
   | .ie id=>(ch (.lk id) (args.map (aT.ev G s.F)) s.h).map fun(v,h')=>(⟨cw s.F e.dst v,h'⟩,.wr)
   | _=>none
 | op=>(evalOp aZ r (aT.ev G s.F) s.h op).map fun(v,h',c)=>(⟨cw s.F e.dst v,h'⟩,c)
def cx (ch:kV->List I->ah->Option (I × ah)) (aZ r:Nat) (e:aU) (s:aL):Option (aL × eb):=
 match e.guard with
 | none=>cW G tab ch aZ r e s
 | some (t,want)=>match s.F t with
   | .bool b=>if b=want then cW G tab ch aZ r e s else some (⟨cw s.F e.dst .kB,s.h⟩,.pure)
   | .kB=>some (⟨cw s.F e.dst .kB,s.h⟩,.pure)
   | _=>none
def cR (ch:kV->List I->ah->Option (I × ah)) (aZ:Nat):List (aU × Nat)->aL->Option (aL × List eb)
 | [],s=>some (s,[])
 | (e,i)::es,s=>match cx G tab ch aZ (aZ+i) e s with
   | some (ar,c)=>(cR ch aZ es ar).map fun(CJ,cs)=>(CJ,c::cs)
   | none=>none
def ej (ch:kV->List I->ah->Option (I × ah)) (draw:Bool) (ops:List aU) (e3:List Nat) (s:aL):Option aL:=
 match cR G tab ch s.h.next ops.zipIdx ⟨s.F,{s.h with next:=s.h.next+ops.length}⟩ with
 | some (ar,cs)=>if !draw||uk cs e3 then some ar else none
 | none=>none
structure cy where
 id:Nat
 F:Nat->I
 ps:List Nat
 dL:c5
 body:c5
def oe (id:Nat):List cy->Option (cy × List cy)
 | []=>none
 | L::Y=>if L.id=id then some (L,Y) else oe id Y
def nc (F:Nat->I):List Nat->List I->(Nat->I)
 | p::ps,v::vs=>nc (au F p v) ps vs
 | _,_=>F
def ah.set (h:ah) (id:Nat) (p:Option fX):ah:={h with aV:=au h.aV id p}
def exec:Nat->List cy->c5->aL->Option (dd × aL)
 | 0,_,_,_=>none
 | n+1,Y,c,s=>match c with
   | .skip=>some (.normal,s)
   | .ret=>some (.ret,s)
   | .exit id=>some (.exit id,s)
   | .region draw ops e3=>(ej G tab
       (fun t args h=>match t with
         | .fn f=>match Φ f with
           | some fn=>match exec n Y fn.body ⟨dM args,h⟩ with
             | some (.normal,ar)|some (.ret,ar)=>(dE ar.h ar.F fn.res).map fun v=>(v,ar.h)
             | _=>none
           | none=>none
         | .lk id=>match oe id Y with
           | some (L,Y')=>if L.ps.length=args.length then
              match exec n Y' L.dL ⟨nc L.F L.ps args,h⟩ with
              | some (.normal,s1)=>match s1.h.aV id with
                | some .ready=>match exec n Y' L.body ⟨s1.F,s1.h.set id (some .busy)⟩ with
                  | some (e,ar)=>match ar.h.aV id with
                    | some .busy=>match e with
                      | .normal=>some (.bool true,ar.h.set id (some .ready))
                      | e=>some (.bool false,ar.h.set id (some (.done e)))
                    | _=>none
                  | none=>none
                | _=>none
              | _=>none
             else none
           | none=>none) draw ops e3 s).map fun ar=>(.normal,ar)
   | .seq a b=>match exec n Y a s with
     | some (.normal,ar)=>exec n Y b ar
     | r=>r
   | .cond x a b=>match x.ev G s.F with
     | .bool t=>if t then exec n Y a s else exec n Y b s
     | _=>none
   | .block id b=>match exec n Y b s with
     | some (.exit i,ar)=>if i=id then some (.normal,ar) else some (.exit i,ar)
     | r=>r
   | .loop b=>match exec n Y b s with
     | some (.normal,ar)=>exec n Y (.loop b) ar
     | r=>r
   | .lj f ps dL body=>match f.ev G s.F with
     | .fn g first caps=>match Φ g with
       | some fn=>match exec n (⟨s.h.next,s.F,ps,dL,body⟩::Y) fn.body ⟨dM (first++ [.ie s.h.next]++caps),{s.h with next:=s.h.next+1,aV:=au s.h.aV s.h.next (some .ready)}⟩ with
         | some (.normal,ar)|some (.ret,ar)=>match dE ar.h ar.F fn.res with
           | some _=>match ar.h.aV s.h.next with
             | some .ready=>some (.normal,⟨s.F,ar.h.set s.h.next none⟩)
             | some (.done e)=>some (e,⟨s.F,ar.h.set s.h.next none⟩)
             | _=>none
           | none=>none
         | _=>none
       | none=>none
     | _=>none
def yS (n:Nat) (Y:List cy) (f:FuncId) (args:List I) (h:ah):Option (I × ah):=
 match Φ f with
 | some fn=>match exec G Φ tab n Y fn.body ⟨dM args,h⟩ with
   | some (.normal,ar)|some (.ret,ar)=>(dE ar.h ar.F fn.res).map fun v=>(v,ar.h)
   | _=>none
 | none=>none
def aD:ah:={cells:=fun _=>none,shut:=fun _=>false,next:=0}
def mQ (n:Nat) (f:FuncId) (args:List I):Option I:=
 (yS G Φ tab n [] f args aD).bind fun(v,h)=>(jw h v).map (·.1)
end exec
end Go.Eng
namespace Go.Eng
open Go
def qZ:Value->Option I
 | .int k n=>some (.int k n)
 | .bool b=>some (.bool b)
 | .string s=>some (.str s)
 | .slice none 0 0=>some (.sl [] true)
 | .nilFunc=>some .nilfn
 | _=>none
def yT:List Value->Option (List I)
 | []=>some []
 | v::vs=>match qZ v,yT vs with
   | some a,some as=>some (a::as)
   | _,_=>none
def q0:Value->Option I
 | .agg cs=>(yT cs.toList).map .agg
 | v=>qZ v
def ek:Operand->Option aT
 | .tmp t=>some (.t t)
 | .const v=>(q0 v).map .c
 | .global g=>some (.g g)
 | .func f=>some (.f f)
def pY:List Operand->Option (List aT)
 | []=>some []
 | x::xs=>match ek x,pY xs with
   | some a,some as=>some (a::as)
   | _,_=>none
def sh:Option Operand->Option (Option aT)
 | none=>some none
 | some x=>(ek x).map some
section
variable (P:Program)
def jl (t:TypeId):Option Nat:=(P.info? t).map (·.size)
def CK (t:TypeId):Option Nat:=(P.info? t).map (·.bytes)
def zeroOf (t:TypeId):Option I:=(P.info? t).bind fun i=>i.zero.bind q0
def nd (t:TypeId):Option Bool:=
 match P.underlying t with
 | some (.struct _)|some (.array _ _)=>some true
 | some _=>some false
 | none=>none
def yU (b9:Array Field):List (Nat × Operand)->Option (List (Nat × Nat × aT))
 | []=>some []
 | (i,x)::r=>match b9[i]?,ek x,yU b9 r with
   | some f,some y,some ps=>match jl P f.type with
     | some s=>some ((f.offset,s,y)::ps)
     | none=>none
   | _,_,_=>none
def CL (b9:List Field):Bool:=b9.all fun f=>(jl P f.type).isSome
def yV (s:Nat):List (Nat × Operand)->Option (List (Nat × Nat × aT))
 | []=>some []
 | (i,x)::r=>match ek x,yV s r with
   | some y,some ps=>some ((i*s,s,y)::ps)
   | _,_=>none
def yW:List (Nat × Operand)->Option (List (Nat × aT))
 | []=>some []
 | (i,x)::r=>match ek x,yW r with
   | some y,some ps=>some ((i,y)::ps)
   | _,_=>none
def fY:Op->Option kf
 | .move x| .assign x=>(ek x).map .mv
 | .pick c a b=>match ek c,ek a,ek b with
   | some c,some a,some b=>some (.pick c a b)
   | _,_,_=>none
 | .alloc e=>(zeroOf P e).map .alloc
 | .box _ x=>(ek x).map .box
 | .build t ps=>match P.underlying t,zeroOf P t with
   | some (.struct b9),some z=>if CL P b9.toList then (yU P b9 ps.toList).map (.build z.cells) else none
   | some (.array _ e),some z=>match jl P e with
     | some s=>(yV s ps.toList).map (.build z.cells)
     | none=>none
   | _,_=>none
 | .buildSlice t n ps=>match P.underlying t with
   | some (.slice e)=>match jl P e,zeroOf P e,yW ps.toList with
     | some s,some z,some ps=>if n*s<=2^24 then some (.bsl s z n ps) else none
     | _,_,_=>none
   | _=>none
 | .load t x=>match nd P t,jl P t,ek x with
   | some bT,some s,some x=>if bT||s == 1 then some (.load bT s x) else none
   | _,_,_=>none
 | .store t a v=>match jl P t,ek a,ek v with
   | some s,some a,some v=>some (.store s a v)
   | _,_,_=>none
 | .binOp op t x y _=>match ek x,ek y with
   | some kE,some o2=>match P.underlying t with
     | some (.int _)=>some (.bin 0 op kE o2)
     | some .bool=>some (.bin 1 op kE o2)
     | some .string=>some (.bin 2 op kE o2)
     | some (.array n e)=>match P.underlying e,jl P e with
       | some (.int _),some 1=>if op= .eql then some (.eqA false n kE o2) else if op= .neq then some (.eqA true n kE o2) else none
       | _,_=>none
     | some (.slice _)=>match o2 with
       | .c (.sl [] true)=>if op= .eql then some (.isnil false kE) else if op= .neq then some (.isnil true kE) else none
       | _=>none
     | _=>none
   | _,_=>none
 | .lookup t x i true=>match P.underlying t with
   | some (.map k e)=>match P.underlying k,zeroOf P e,ek x,ek i with
     | some (.int .i64),some .nilfn,some x,some i=>some (.mlook x i)
     | _,_,_,_=>none
   | _=>none
 | .unOp op _ x=>(ek x).map (.un op)
 | .convert s d x=>match P.underlying s,P.underlying d,ek x with
   | some (.int _),some (.int k),some x=>some (.conv k x)
   | _,_,_=>none
 | .makeFunc (.func f) first caps=>match pY first.toList,pY caps.toList with
   | some a,some b=>some (.mkfn f a b)
   | _,_=>none
 | .makeSlice t l c=>match P.underlying t with
   | some (.slice e)=>match zeroOf P e,jl P e,CK P e,ek l,ek c with
     | some z,some s,some b,some l,some c=>some (.mksl z s b l c)
     | _,_,_,_,_=>none
   | _=>none
 | .slice t x cr ab jO=>match P.underlying t with
   | some (.slice e)=>match jl P e,ek x,sh cr,sh ab,sh jO with
     | some s,some x,some cr,some ab,some jO=>if jO.isSome&&ab.isNone then none else some (.slice s x cr ab jO)
     | _,_,_,_,_=>none
   | _=>none
 | .fieldAddr s x f=>match P.underlying s with
   | some (.struct b9)=>match b9[f]? with
     | some f=>match nd P f.type,jl P f.type,ek x with
       | some bT,some sz,some x=>if sz=0 then none else some (.faddr bT f.offset sz x)
       | _,_,_=>none
     | none=>none
   | _=>none
 | .field s x f=>match P.underlying s with
   | some (.struct b9)=>match b9[f]? with
     | some f=>match nd P f.type,jl P f.type,ek x with
       | some bT,some sz,some x=>if bT||sz == 1 then some (.field bT f.offset sz x) else none
       | _,_,_=>none
     | none=>none
   | _=>none
 | .indexAddr t x i=>match P.underlying t with
   | some (.slice e)=>match jl P e,ek x,ek i with
     | some s,some x,some i=>some (.iaddrS s x i)
     | _,_,_=>none
   | some (.array n e)=>match nd P e,jl P e,ek x,ek i with
     | some bT,some s,some x,some i=>some (.iaddrA bT n s x i)
     | _,_,_,_=>none
   | _=>none
 | .index t x i=>match P.underlying t with
   | some (.array n e)=>match nd P e,jl P e,ek x,ek i with
     | some bT,some s,some x,some i=>if bT||s == 1 then some (.idxA bT n s x i) else none
     | _,_,_,_=>none
   | some .string=>match ek x,ek i with
     | some x,some i=>some (.idxS x i)
     | _,_=>none
   | _=>none
 | .extract x i=>(ek x).map fun x=> .extract x i
 | .panic _=>some (.extract (.c .undef) 0)
 | .call {callee:= .value f,args,..}=>match ek f,pY args.toList with
   | some f,some as=>some (.call f as)
   | _,_=>none
 | .call {callee:= .builtin .len,args,argTypes}=>match argTypes[0]?,args.toList with
   | some t,[x]=>match P.underlying t,ek x with
     | some (.slice _),some x=>some (.len false x)
     | some .string,some x=>some (.len true x)
     | _,_=>none
   | _,_=>none
 | .call {callee:= .builtin .append,args,argTypes}=>match argTypes.toList,args.toList with
   | [t,u],[x,y]=>match P.underlying t,P.underlying u with
     | some (.slice e),some (.slice _)=>match jl P e,CK P e,zeroOf P e,ek x,ek y with
       | some s,some b,some z,some x,some y=>if z.cells.length=s then some (.app s b x y) else none
       | _,_,_,_,_=>none
     | _,_=>none
   | _,_=>none
 | .call {callee:= .builtin .min,args,..}=>(pY args.toList).map .min
 | .call {callee:= .builtin .max,args,..}=>(pY args.toList).map .max
 | _=>none
def pZ (N:Nat) (ops:Array Oper) (o:Oper):Option aU:=
 if o.dst.all (fun d=>decide (d<N)) then
  match fY P o.op with
  | some op=>match o.guard with
    | none=>some ⟨o.dst,op,none⟩
    | some (j,w)=>match (ops[j]?).bind (·.dst) with
      | some d=>some ⟨o.dst,op,some (d,w)⟩
      | none=>none
  | none=>none
 else none
def wA (N:Nat) (ops:Array Oper):List Oper->Option (List aU)
 | []=>some []
 | o::os=>match pZ P N ops o,wA N ops os with
   | some e,some es=>some (e::es)
   | _,_=>none
def RB (es:List aU) (b:List Nat):Bool:=
 es.zipIdx.all fun(e,j)=>es.zipIdx.all fun(f,i)=>!(decide (i<j))||(b.getD j 0).testBit i||f.apart e
def yX (ops:Array Oper):Bool:=ops.toList.zipIdx.all fun(o,i)=>o.after.all fun e=>!Region.binds .any e||decide (e.on<i)
def yY (ops:Array Oper) (b:List Nat):Bool:=
 ops.toList.zipIdx.all fun(o,i)=>(List.range i).all fun k=>!((b.getD i 0).testBit k)||o.after.any fun e=>Region.binds .any e&&(e.on == k||(decide (k<e.on)&&(b.getD e.on 0).testBit k))
def ig (N:Nat):Code->Option c5
 | .skip=>some .skip
 | .region _ ops draw=>match wA P N ops ops.toList with
   | some es=>if draw then
      (let b:=(Region.before ops).toList
       if RB es b&&yX ops&&yY ops b&&Region.noSelect ops then some (.region true es b) else none)
     else some (.region false es [])
   | none=>none
 | .seq a b=>match ig N a,ig N b with
   | some a,some b=>some (.seq a b)
   | _,_=>none
 | .cond c a b=>match ek c,ig N a,ig N b with
   | some c,some a,some b=>some (.cond c a b)
   | _,_,_=>none
 | .block id c=>(ig N c).map (.block id)
 | .loop c=>(ig N c).map .loop
 | .rangeFunc f ps dL body=>match ek f,ig N dL,ig N body with
   | some f,some a,some b=>if ps.toList.all (fun p=>decide (p<N)) then some (.lj f ps.toList a b) else none
   | _,_,_=>none
 | .exit id=>some (.exit id)
 | .ret=>some .ret
 | .scope c=>(ig N c).map (.seq .skip)
 | .label _=>some .skip
 | _=>none
def CM:ResultVar->Option mO
 | .tmp t=>some (.tmp t)
 | .cell a t=>match nd P t,jl P t with
   | some bT,some s=>if bT||s == 1 then some (.cell a bT s) else none
   | _,_=>none
def si:List ResultVar->Option (List mO)
 | []=>some []
 | r::rs=>match CM P r,si rs with
   | some a,some as=>some (a::as)
   | _,_=>none
def CN (fn:Func):Option aP:=
 if fn.name == "runtime.NumGoroutine" then none else
 match fn.body with
 | some c=>match ig P fn.ntmps c,si P fn.results.toList with
   | some b,some rs=>some ⟨b,rs⟩
   | _,_=>none
 | none=>none
def aI (f:FuncId):Option aP:=(P.funcs[f]?).bind (CN P)
end
end Go.Eng
namespace Go.Eng
open Go Go.RowKit
inductive dq (w:World) (ok:Nat->Prop):I->Value->Prop
 | int (k:IntKind) (n:Int):dq w ok (.int k n) (.int k n)
 | bool (b:Bool):dq w ok (.bool b) (.bool b)
 | str (s:ByteArray):dq w ok (.str s) (.string s)
 | nilfn:dq w ok .nilfn .nilFunc
 | fn (f:FuncId):dq w ok (.fn f [] []) (.func (.func f) #[] #[])
 | mp (m:List (Int × FuncId)) (r:Nat) (es:Array MapEntry) (clock:Nat):ok r->w.heap[r]? =some (.map es clock)->es.size=m.length->
    (∀i (h:i<m.length) (h':i<es.size),es[i].key= .int .i64 m[i].1/\es[i].val= .func (.func m[i].2) #[] #[])->dq w ok (.mp m) (.map (some r))
 | sl (xs:List I) (ex:Bool) (A:Option Addr) (c sz:Nat) (ep:Nat->Nat->Value):
    xs.length<=c->(ex=true->c=xs.length)->
    (∀i (h:i<xs.length),xs[i].cells.length=sz)->
    (∀i j,i<xs.length->j<sz->∃cq,A=some cq/\ok cq.block/\w.cell? (cq.add (i*sz+j))=some (ep i j))->
    (0<xs.length->A.isSome=true)->
    (∀i (h:i<xs.length) j (aC:j<xs[i].cells.length),dq w ok (xs[i].cells[j]) (ep i j))->
    dq w ok (.sl xs ex) (.slice A xs.length c)
 | agg (cs:List I) (vs:Array Value):vs.size=cs.length->
    (∀i (h:i<cs.length) (h':i<vs.size),dq w ok cs[i] vs[i])->dq w ok (.agg cs) (.agg vs)
 | bL (cs:List I) (vs:Array Value):vs.size=cs.length->
    (∀i (h:i<cs.length) (h':i<vs.size),dq w ok cs[i] vs[i])->dq w ok (.bL cs) (.tuple vs)
theorem Addr.q1 (a:Addr) (n:Nat):(a.add n).block=a.block:=by unfold Addr.add;split<;>rfl
def um (w aQ:World) (ok o3:Nat->Prop):Prop:=∀b o,w.heap[b]? =some o->((∃arr ty e,o= .cells arr ty e)\/∃es clock,o= .map es clock)->ok b->o3 b/\aQ.heap[b]? =w.heap[b]?
theorem cells_of_cell {w:World} {cq:Addr} {v:Value} (h:w.cell? cq=some v):∃arr ty e,w.heap[cq.block]? =some (.cells arr ty e):=by
 unfold World.cell? at h
 split at h
 · rename_i arr ty e he;exact ⟨_,_,_,he⟩
 · cases h
theorem dq.mono {w aQ:World} {ok o3:Nat->Prop} (ag:um w aQ ok o3)
 {v:I} {cv:Value} (h:dq w ok v cv):dq aQ o3 v cv:=by
 induction h with
 | int k n=>exact .int k n
 | bool b=>exact .bool b
 | str s=>exact .str s
 | nilfn=>exact .nilfn
 | fn f=>exact .fn f
 | mp m r es clock U h2 aB aS=>
   obtain⟨cd,ee⟩:=ag _ _ h2 (.inr ⟨_,_,rfl⟩) U
   exact .mp m r es clock cd (ee.trans h2) aB aS
 | sl xs ex A c sz ep U h2 aB aS cd ee a8=>
   refine .sl xs ex A c sz ep U h2 aB (fun i j ab aC=>?_) cd a8
   obtain⟨cq,e,az,J⟩:=aS i j ab aC
   obtain⟨arr,ty,av,nL⟩:=cells_of_cell J
   rw[Addr.q1] at nL
   obtain⟨p0,he⟩:=ag _ _ nL (.inl ⟨_,_,_,rfl⟩) az
   refine⟨cq,e,p0,?_⟩
   rw[<-J]
   exact World.cell?_of_block (w:=w) (by rw[Addr.q1];exact he)
 | agg cs vs ay h a8=>exact .agg cs vs ay a8
 | bL cs vs ay h a8=>exact .bL cs vs ay a8
theorem dq.sj {w:World} {ok o3:Nat->Prop} (ag:∀b,b<w.heap.size->ok b->o3 b) {v:I} {cv:Value} (h:dq w ok v cv):dq w o3 v cv:=
 h.mono fun b o ad _ az=>⟨ag b (by by_cases bG:b<w.heap.size;exact bG;rw[Array.getElem?_eq_none (by omega)] at ad;cases ad) az,rfl⟩
def iI (w:World) (b:Nat):Nat:=match w.heap[b]? with
 | some (.cells arr _ _)=>arr.size
 | _=>0
inductive a5 (w:World) (ok:Nat->Prop) (σ:Nat->Option (Nat × Nat)):I->Value->Prop
 | undef (cv:Value):a5 w ok σ .undef cv
 | kB:a5 w ok σ .kB Go.undef
 | val (v:I) (cv:Value):dq w ok v cv->a5 w ok σ v cv
 | ref (id off len cap:Nat) (A:Option Addr) (c b sz:Nat):σ id=some (b,sz)->len<=c->cap<=c->
    (0<c->A=some ⟨b,off*sz,none⟩/\(off+c)*sz<=iI w b)->a5 w ok σ (.ref id off len cap) (.slice A len c)
 | ptr (id idx cN b sz:Nat):σ id=some (b,sz)->a5 w ok σ (.ptr id idx cN) (.pointer (some ⟨b,idx*sz+cN,none⟩))
 | e2 (v:I) (cq:Addr) (ep:Nat->Value):
    (∀j,j<v.cells.length->ok cq.block/\w.cell? (cq.add j)=some (ep j))->
    (∀j (h:j<v.cells.length),dq w ok (v.cells[j]) (ep j))->a5 w ok σ (.e2 v) (.pointer (some cq))
 | ie (id l s:Nat):σ id=some (l,s)->a5 w ok σ (.ie id) (.func (.yield l) #[] #[])
 | fn (f:FuncId) (first caps:List I) (fc cv:Array Value):fc.size=first.length->cv.size=caps.length->
    (∀i (h:i<first.length) (h':i<fc.size),a5 w ok σ first[i] fc[i])->
    (∀i (h:i<caps.length) (h':i<cv.size),a5 w ok σ caps[i] cv[i])->a5 w ok σ (.fn f first caps) (.func (.func f) fc cv)
 | agg (cs:List I) (vs:Array Value):vs.size=cs.length->
    (∀i (h:i<cs.length) (h':i<vs.size),a5 w ok σ cs[i] vs[i])->a5 w ok σ (.agg cs) (.agg vs)
 | bL (cs:List I) (vs:Array Value):vs.size=cs.length->
    (∀i (h:i<cs.length) (h':i<vs.size),a5 w ok σ cs[i] vs[i])->a5 w ok σ (.bL cs) (.tuple vs)
theorem a5.mono {w aQ:World} {ok o3:Nat->Prop} {σ bg:Nat->Option (Nat × Nat)}
 (ag:um w aQ ok o3) (aw:∀id x,σ id=some x->bg id=some x)
 (aq:∀b,iI w b<=iI aQ b) {v:I} {cv:Value} (h:a5 w ok σ v cv):a5 aQ o3 bg v cv:=by
 induction h with
 | undef cv=>exact .undef cv
 | kB=>exact .kB
 | val v cv h=>exact .val _ _ (h.mono ag)
 | ref id off len cap A c b sz U h2 aB aS=>exact .ref id off len cap A c b sz (aw _ _ U) h2 aB (fun J=>⟨(aS J).1,Nat.le_trans (aS J).2 (aq b)⟩)
 | ptr id idx cN b sz U=>exact .ptr id idx cN b sz (aw _ _ U)
 | ie id l s U=>exact .ie id l s (aw _ _ U)
 | e2 v cq ep U h2=>
   refine .e2 v cq ep (fun j aC=>?_) (fun j aC=>(h2 j aC).mono ag)
   obtain⟨az,J⟩:=U j aC
   obtain⟨arr,ty,av,nL⟩:=cells_of_cell J
   rw[Addr.q1] at nL
   obtain⟨p0,he⟩:=ag _ _ nL (.inl ⟨_,_,_,rfl⟩) az
   exact ⟨p0,by rw[<-J];exact World.cell?_of_block (w:=w) (by rw[Addr.q1];exact he)⟩
 | fn f first caps fc cv U h2 aB aS RC RD=>exact .fn f first caps fc cv U h2 RC RD
 | agg cs vs ay h a8=>exact .agg cs vs ay a8
 | bL cs vs ay h a8=>exact .bL cs vs ay a8
section inversion
variable {w:World} {ok:Nat->Prop} {σ:Nat->Option (Nat × Nat)}
theorem a5.jQ {k:IntKind} {n:Int} {cv:Value} (h:a5 w ok σ (.int k n) cv):cv= .int k n:=by
 cases h with
 | val _ _ h=>cases h;rfl
theorem a5.q2 {b:Bool} {cv:Value} (h:a5 w ok σ (.bool b) cv):cv= .bool b:=by
 cases h with
 | val _ _ h=>cases h;rfl
theorem a5.wB {s:ByteArray} {cv:Value} (h:a5 w ok σ (.str s) cv):cv= .string s:=by
 cases h with
 | val _ _ h=>cases h;rfl
theorem a5.RE {cv:Value} (h:a5 w ok σ .kB cv):cv=Go.undef:=by
 cases h with
 | val _ _ h=>cases h
 | kB=>rfl
theorem a5.RF {cv:Value} (h:a5 w ok σ .nilfn cv):cv= .nilFunc:=by
 cases h with
 | val _ _ h=>cases h;rfl
theorem a5.HP {m:List (Int × FuncId)} {cv:Value} (h:a5 w ok σ (.mp m) cv):dq w ok (.mp m) cv:=by
 cases h with
 | val _ _ h=>exact h
theorem a5.q3 {xs:List I} {ex:Bool} {cv:Value} (h:a5 w ok σ (.sl xs ex) cv):dq w ok (.sl xs ex) cv:=by
 cases h with
 | val _ _ h=>exact h
theorem a5.q4 {id off len cap:Nat} {cv:Value} (h:a5 w ok σ (.ref id off len cap) cv):
 ∃A c b sz,cv= .slice A len c/\σ id=some (b,sz)/\len<=c/\cap<=c/\(0<c->A=some ⟨b,off*sz,none⟩/\(off+c)*sz<=iI w b):=by
 cases h with
 | val _ _ h=>cases h
 | ref _ _ _ _ A c b sz U h2 aB aS=>exact ⟨A,c,b,sz,rfl,U,h2,aB,aS⟩
theorem a5.wC {id idx cN:Nat} {cv:Value} (h:a5 w ok σ (.ptr id idx cN) cv):
 ∃b sz,cv= .pointer (some ⟨b,idx*sz+cN,none⟩)/\σ id=some (b,sz):=by
 cases h with
 | val _ _ h=>cases h
 | ptr _ _ _ b sz U=>exact ⟨b,sz,rfl,U⟩
theorem a5.yZ {v:I} {cv:Value} (h:a5 w ok σ (.e2 v) cv):
 ∃(cq:Addr) (ep:Nat->Value),cv= .pointer (some cq)/\(∀j,j<v.cells.length->ok cq.block/\w.cell? (cq.add j)=some (ep j))/\(∀j (h:j<v.cells.length),dq w ok (v.cells[j]) (ep j)):=by
 cases h with
 | val _ _ h=>cases h
 | e2 _ cq ep U h2=>exact ⟨cq,ep,rfl,U,h2⟩
theorem a5.HQ {f:FuncId} {first caps:List I} {v:Value} (h:a5 w ok σ (.fn f first caps) v):
 ∃fc cv,v= .func (.func f) fc cv/\fc.size=first.length/\cv.size=caps.length/\
  (∀i (h:i<first.length) (h':i<fc.size),a5 w ok σ first[i] fc[i])/\(∀i (h:i<caps.length) (h':i<cv.size),a5 w ok σ caps[i] cv[i]):=by
 cases h with
 | val _ _ h=>cases h;exact ⟨#[],#[],rfl,rfl,rfl,fun i h=>absurd h (Nat.not_lt_zero i),fun i h=>absurd h (Nat.not_lt_zero i)⟩
 | fn _ _ _ fc cv U h2 aB aS=>exact ⟨fc,cv,rfl,U,h2,aB,aS⟩
theorem a5.RG {id:Nat} {cv:Value} (h:a5 w ok σ (.ie id) cv):∃l s,cv= .func (.yield l) #[] #[]/\σ id=some (l,s):=by
 cases h with
 | val _ _ h=>cases h
 | ie _ l s U=>exact ⟨l,s,rfl,U⟩
theorem a5.uo {cs:List I} {v:Value} (h:a5 w ok σ (.agg cs) v):
 ∃vs,v= .agg vs/\vs.size=cs.length/\(∀i (h:i<cs.length) (h':i<vs.size),a5 w ok σ cs[i] vs[i]):=by
 cases h with
 | val _ _ h=>cases h with
   | agg _ vs U h2=>exact ⟨vs,rfl,U,fun i h h'=> .val _ _ (h2 i h h')⟩
 | agg _ vs U h2=>exact ⟨vs,rfl,U,h2⟩
theorem a5.HR {cs:List I} {v:Value} (h:a5 w ok σ (.bL cs) v):
 ∃vs,v= .tuple vs/\vs.size=cs.length/\(∀i (h:i<cs.length) (h':i<vs.size),a5 w ok σ cs[i] vs[i]):=by
 cases h with
 | val _ _ h=>cases h with
   | bL _ vs U h2=>exact ⟨vs,rfl,U,fun i h h'=> .val _ _ (h2 i h h')⟩
 | bL _ vs U h2=>exact ⟨vs,rfl,U,h2⟩
theorem a5.wD {v:I} {cv:Value} (h:a5 w ok σ v cv) (aw:v.ca=true):cv.oneCell'=true:=by
 cases h with
 | undef=>simp[I.ca] at aw
 | kB=>simp[I.ca] at aw
 | val _ _ h=>cases h<;>first|rfl|simp[I.ca] at aw
 | agg=>simp[I.ca] at aw
 | bL=>simp[I.ca] at aw
 | _=>rfl
theorem a5.cells {v:I} {cv:Value} (h:a5 w ok σ v cv) (hu:v.cells.all I.ca=true\/∃cs,v= .agg cs):
 cv.cells.size=v.cells.length/\∀i (h:i<v.cells.length) (h':i<cv.cells.size),a5 w ok σ v.cells[i] cv.cells[i]:=by
 by_cases aA:∃cs,v= .agg cs
 · obtain⟨cs,rfl⟩:=aA
   obtain⟨vs,rfl,U,h2⟩:=h.uo
   exact ⟨U,h2⟩
 · have al:v.cells= [v]:=by
    cases v<;>first|rfl|exact absurd ⟨_,rfl⟩ aA
   have aw:v.ca=true:=by
    rcases hu with hu|hu
    · rw[al] at hu;simpa using hu
    · exact absurd hu aA
   have J:cv.cells= #[cv]:=by
    have:=h.wD aw
    cases cv<;>first|rfl|simp[Value.oneCell'] at this
   rw[al,J]
   refine⟨rfl,fun i U h2=>?_⟩
   have:i=0:=by simpa using U
   subst this
   exact h
end inversion
def bt (base:Nat) (okin:Nat->Prop) (σ:Nat->Option (Nat × Nat)) (h:ah) (b:Nat):Prop:=
 (b<base/\okin b)\/(base<=b/\∀id sz,σ id=some (b,sz)->(h.cells id).isSome=true->h.shut id=true)
structure cJ (base:Nat) (okin:Nat->Prop) (σ:Nat->Option (Nat × Nat)) (h:ah) (w:World):Prop where
 val:∀id b sz,σ id=some (b,sz)->base<=b/\b<w.heap.size
 blk:∀id blk,h.cells id=some blk->∃b sz arr ty,σ id=some (b,sz)/\w.heap[b]? =some (.cells arr ty (0,0))/\
  ∀i (ab:i<blk.length),blk[i].cells.length=sz/\∀j (aC:j<blk[i].cells.length),∃v,arr[i*sz+j]? =some v/\a5 w (bt base okin σ h) σ (blk[i].cells[j]) v
 inj:∀id ix b sz fZ,(h.cells id).isSome=true->(h.cells ix).isSome=true->σ id=some (b,sz)->σ ix=some (b,fZ)->id=ix
 base:base<=w.heap.size
structure Prog (base:Nat) (okin:Nat->Prop) (σ:Nat->Option (Nat × Nat)) (h:ah) (w:World) (bg:Nat->Option (Nat × Nat)) (h':ah) (aQ:World):Prop where
 sub:∀id x,σ id=some x->bg id=some x
 qX:∀b,b<w.heap.size->bt base okin σ h b->bt base okin bg h' b/\aQ.heap[b]? =w.heap[b]?
 below:Below base w aQ
 grow:∀b,iI w b<=iI aQ b
theorem Prog.refl (base:Nat) (okin:Nat->Prop) (σ:Nat->Option (Nat × Nat)) (h:ah) (w:World):Prog base okin σ h w σ h w:=
 ⟨fun _ _ h=>h,fun _ _ h=>⟨h,rfl⟩,Below.refl _ _,fun _=>Nat.le_refl _⟩
theorem Prog.trans {base:Nat} {okin:Nat->Prop} {σ jx p1:Nat->Option (Nat × Nat)} {h U h2:ah} {w b7 c4:World}
 (p:Prog base okin σ h w jx U b7) (q:Prog base okin jx U b7 p1 h2 c4):Prog base okin σ h w p1 h2 c4:=
 ⟨fun id x ae=>q.sub id x (p.sub id x ae),fun b ad az=>by
   obtain⟨j7,ao⟩:=p.qX b ad az
   obtain⟨du,av⟩:=q.qX b (Nat.lt_of_lt_of_le ad p.below.size) j7
   exact ⟨du,av.trans ao⟩,p.below.trans q.below,fun b=>Nat.le_trans (p.grow b) (q.grow b)⟩
theorem Prog.still {base:Nat} {okin:Nat->Prop} {σ bg:Nat->Option (Nat × Nat)} {h h':ah} {w aQ:World} (p:Prog base okin σ h w bg h' aQ):um w aQ (bt base okin σ h) (bt base okin bg h'):=
 fun b o ad _ az=>p.qX b (by by_cases bG:b<w.heap.size;exact bG;rw[Array.getElem?_eq_none (by omega)] at ad;cases ad) az
theorem Prog.rep {base:Nat} {okin:Nat->Prop} {σ bg:Nat->Option (Nat × Nat)} {h h':ah} {w aQ:World} (p:Prog base okin σ h w bg h' aQ)
 {v:I} {cv:Value} (r:a5 w (bt base okin σ h) σ v cv):a5 aQ (bt base okin bg h') bg v cv:=r.mono p.still p.sub p.grow
end Go.Eng
namespace Go.Eng
open Go Go.RowKit
theorem HS (w:World) (o:Obj) (b:Nat):iI w b<=iI (w.alloc o) b:=by
 by_cases h:b<w.heap.size
 · unfold iI;rw[Below.heap_alloc _ _ _ h];exact Nat.le_refl _
 · unfold iI;rw[Array.getElem?_eq_none (by omega)];exact Nat.zero_le _
theorem CO (w:World) (arr:Array Value) (ty:TypeId):iI (w.alloc (.cells arr ty)) w.heap.size=arr.size:=by
 have:(w.alloc (.cells arr ty)).heap[w.heap.size]? =some (.cells arr ty):=by show (w.heap.push _)[w.heap.size]? =_;simp
 unfold iI;rw[this]
theorem HT (w:World) (g:Nat) (arr arr':Array Value) (ty:TypeId) (bI:Nat × Nat) (aX:w.heap[g]? =some (.cells arr ty bI)) (ay:arr.size<=arr'.size) (b:Nat):iI w b<=iI (w.setRow g arr') b:=by
 by_cases h:b=g
 · subst h;unfold iI;rw[aX,setRow_heap _ _ _ _ _ _ aX];exact ay
 · unfold iI;rw[setRow_other _ _ _ _ h];exact Nat.le_refl _
theorem RH {w aQ:World} (h:Below w.heap.size w aQ) (b:Nat):iI w b<=iI aQ b:=by
 by_cases ad:b<w.heap.size
 · unfold iI;rw[h.block b ad];exact Nat.le_refl _
 · unfold iI;rw[Array.getElem?_eq_none (by omega)];exact Nat.zero_le _
section
variable {base:Nat} {okin:Nat->Prop} {σ:Nat->Option (Nat × Nat)} {h:ah} {w:World}
theorem cJ.CP (H:cJ base okin σ h w) {r:Nat} (aR:σ r=none):h.cells r=none:=by
 cases J:h.cells r with
 | none=>rfl
 | some blk=>
   obtain⟨b,sz,_,_,e,_⟩:=H.blk r blk J
   rw[aR] at e;cases e
theorem cJ.alloc (H:cJ base okin σ h w) {r:Nat} (aR:σ r=none) (blk:List I) (arr:Array Value) (ty:TypeId) (sz:Nat)
 (ad:∀i (ab:i<blk.length),blk[i].cells.length=sz/\∀j (aC:j<blk[i].cells.length),∃v,arr[i*sz+j]? =some v/\a5 w (bt base okin σ h) σ (blk[i].cells[j]) v):
 cJ base okin (au σ r (some (w.heap.size,sz))) (h.new r blk) (w.alloc (.cells arr ty))/\
 Prog base okin σ h w (au σ r (some (w.heap.size,sz))) (h.new r blk) (w.alloc (.cells arr ty)):=by
 have RI:=H.CP aR
 have sub:∀id x,σ id=some x->au σ r (some (w.heap.size,sz)) id=some x:=by
  intro id x ae
  unfold au
  by_cases e:id=r
  · subst e;rw[aR] at ae;cases ae
  · rw[if_neg e];exact ae
 have P:Prog base okin σ h w (au σ r (some (w.heap.size,sz))) (h.new r blk) (w.alloc (.cells arr ty)):=by
  refine⟨sub,fun b ad az=>⟨?_,Below.heap_alloc _ _ _ ad⟩,(Below.refl _ _).alloc H.base _,HS w _⟩
  rcases az with az|⟨U,h2⟩
  · exact .inl az
  · refine .inr ⟨U,fun id s aw ay=>?_⟩
    unfold au at aw
    by_cases e:id=r
    · rw[if_pos e] at aw
      have:w.heap.size=b:=by injection aw with aw;injection aw
      omega
    · rw[if_neg e] at aw
      refine h2 id s aw ?_
      simpa[ah.new,au,e] using ay
 refine⟨⟨?_,?_,?_,?_⟩,P⟩
 · intro id b s aw
   unfold au at aw
   by_cases e:id=r
   · rw[if_pos e] at aw
     injection aw with aw;injection aw with U h2
     subst U
     exact ⟨H.base,by simp⟩
   · rw[if_neg e] at aw
     obtain⟨a1,eX⟩:=H.val id b s aw
     exact ⟨a1,by simp;omega⟩
 · intro id ih iJ
   by_cases e:id=r
   · subst e
     have:blk=ih:=by simpa[ah.new,au] using iJ
     subst this
     refine⟨w.heap.size,sz,arr,ty,by simp[au],by show (w.heap.push _)[w.heap.size]? =_;simp,fun i ab=>⟨(ad i ab).1,fun j aC=>?_⟩⟩
     obtain⟨v,ao,av⟩:=(ad i ab).2 j aC
     exact ⟨v,ao,P.rep av⟩
   · have p2:h.cells id=some ih:=by simpa[ah.new,au,e] using iJ
     obtain⟨b,s,a,t,ao,av,aW⟩:=H.blk id ih p2
     refine⟨b,s,a,t,sub _ _ ao,?_,fun i ab=>⟨(aW i ab).1,fun j aC=>?_⟩⟩
     · rw[Below.heap_alloc _ _ _ (H.val _ _ _ ao).2];exact av
     · obtain⟨v,f1,f2⟩:=(aW i ab).2 j aC
       exact ⟨v,f1,P.rep f2⟩
 · intro id ix b s ar U h2 ao av
   by_cases e:id=r<;>by_cases e':ix=r
   · rw[e,e']
   · exfalso
     simp only[au,e,e',if_true,if_false] at ao av
     injection ao with ao;injection ao with ao _
     have:=(H.val _ _ _ av).2
     omega
   · exfalso
     simp only[au,e,e',if_true,if_false] at ao av
     injection av with av;injection av with av _
     have:=(H.val _ _ _ ao).2
     omega
   · simp only[au,e,e',if_false] at ao av
     exact H.inj id ix b s ar (by simpa[ah.new,au,e] using U) (by simpa[ah.new,au,e'] using h2) ao av
 · simp;have:=H.base;omega
theorem cJ.write (H:cJ base okin σ h w) {id:Nat} {blk blk':List I} {b sz:Nat} {arr arr':Array Value} {ty:TypeId} (J:h.cells id=some blk) (aw:h.shut id=false)
 (he:σ id=some (b,sz)) (aA:w.heap[b]? =some (.cells arr ty (0,0))) (sk:arr.size<=arr'.size)
 (ad:∀i (ab:i<blk'.length),blk'[i].cells.length=sz/\∀j (aC:j<blk'[i].cells.length),∃v,arr'[i*sz+j]? =some v/\a5 w (bt base okin σ h) σ (blk'[i].cells[j]) v):
 cJ base okin σ (h.new id blk') (w.setRow b arr')/\Prog base okin σ h w σ (h.new id blk') (w.setRow b arr'):=by
 have y2:∀i,(((h.new id blk').cells i).isSome=true)↔((h.cells i).isSome=true):=by
  intro i
  by_cases e:i=id
  · subst e;simp[ah.new,au,J]
  · simp[ah.new,au,e]
 have i_:∀k,bt base okin σ h k↔bt base okin σ (h.new id blk') k:=by
  intro k
  unfold bt
  constructor
  · rintro (a|⟨a,c⟩)
    · exact .inl a
    · exact .inr ⟨a,fun i s ab ay=>c i s ab ((y2 i).1 ay)⟩
  · rintro (a|⟨a,c⟩)
    · exact .inl a
    · exact .inr ⟨a,fun i s ab ay=>c i s ab ((y2 i).2 ay)⟩
 have wE:=H.val _ _ _ he
 have P:Prog base okin σ h w σ (h.new id blk') (w.setRow b arr'):=by
  refine⟨fun _ _ x=>x,fun k ag az=>⟨(i_ k).1 az,?_⟩,⟨rfl,rfl,rfl,by simp,fun k ag=>setRow_other _ _ _ _ (by omega)⟩,HT _ _ _ _ _ _ aA sk⟩
  refine setRow_other _ _ _ _ ?_
  rintro rfl
  rcases az with⟨a,_⟩|⟨_,c⟩
  · omega
  · have:=c id sz he (by simp[J])
    rw[aw] at this;cases this
 refine⟨⟨?_,?_,?_,?_⟩,P⟩
 · intro i k s ab
   have:=H.val i k s ab
   exact ⟨this.1,by simpa using this.2⟩
 · intro i ih iJ
   by_cases e:i=id
   · subst e
     have:blk'=ih:=by simpa[ah.new,au] using iJ
     subst this
     refine⟨b,sz,arr',ty,he,setRow_heap _ _ _ _ _ _ aA,fun i ab=>⟨(ad i ab).1,fun j aC=>?_⟩⟩
     obtain⟨v,ao,av⟩:=(ad i ab).2 j aC
     exact ⟨v,ao,P.rep av⟩
   · have p2:h.cells i=some ih:=by simpa[ah.new,au,e] using iJ
     obtain⟨kg,s,a,t,ao,av,aW⟩:=H.blk i ih p2
     refine⟨kg,s,a,t,ao,?_,fun i ab=>⟨(aW i ab).1,fun j aC=>?_⟩⟩
     · rw[setRow_other]
       · exact av
       · rintro rfl
         exact e (H.inj i id _ _ _ (by simp[p2]) (by simp[J]) ao he)
     · obtain⟨v,f1,f2⟩:=(aW i ab).2 j aC
       exact ⟨v,f1,P.rep f2⟩
 · intro i i' k s ar U h2 ao av
   exact H.inj i i' k s ar ((y2 i).1 U) ((y2 i').1 h2) ao av
 · simpa using H.base
theorem cJ.close (H:cJ base okin σ h w) (ids:List Nat):cJ base okin σ (h.close ids) w/\Prog base okin σ h w σ (h.close ids) w:=by
 have P:Prog base okin σ h w σ (h.close ids) w:=by
  refine⟨fun _ _ x=>x,fun b ad az=>⟨?_,rfl⟩,Below.refl _ _,fun _=>Nat.le_refl _⟩
  rcases az with az|⟨U,h2⟩
  · exact .inl az
  · exact .inr ⟨U,fun id s aw ay=>by simp[ah.close,h2 id s aw ay]⟩
 refine⟨⟨H.val,fun id ih iJ=>?_,H.inj,H.base⟩,P⟩
 obtain⟨b,s,a,t,ao,av,aW⟩:=H.blk id ih iJ
 refine⟨b,s,a,t,ao,av,fun i ab=>⟨(aW i ab).1,fun j aC=>?_⟩⟩
 obtain⟨v,f1,f2⟩:=(aW i ab).2 j aC
 exact ⟨v,f1,P.rep f2⟩
theorem cJ.rename (H:cJ base okin σ h w) {id r:Nat} {blk blk':List I} {b sz:Nat} {arr arr':Array Value} {ty:TypeId} (J:h.cells id=some blk) (aw:h.shut id=false) (aR:σ r=none)
 (he:σ id=some (b,sz)) (aA:w.heap[b]? =some (.cells arr ty (0,0))) (sk:arr.size<=arr'.size)
 (ad:∀i (ab:i<blk'.length),blk'[i].cells.length=sz/\∀j (aC:j<blk'[i].cells.length),∃v,arr'[i*sz+j]? =some v/\a5 w (bt base okin σ h) σ (blk'[i].cells[j]) v):
 cJ base okin (au σ r (some (b,sz))) {h with cells:=au (au h.cells id none) r (some blk')} (w.setRow b arr')/\
 Prog base okin σ h w (au σ r (some (b,sz))) {h with cells:=au (au h.cells id none) r (some blk')} (w.setRow b arr'):=by
 have bP:id≠r:=by rintro rfl;rw[aR] at he;cases he
 have RI:=H.CP aR
 have wE:=H.val _ _ _ he
 have sub:∀i x,σ i=some x->au σ r (some (b,sz)) i=some x:=by
  intro i x ae
  unfold au
  by_cases e:i=r
  · subst e;rw[aR] at ae;cases ae
  · rw[if_neg e];exact ae
 have P:Prog base okin σ h w (au σ r (some (b,sz))) {h with cells:=au (au h.cells id none) r (some blk')} (w.setRow b arr'):=by
  have HU:∀k,bt base okin σ h k->k≠b:=by
   rintro k az rfl
   rcases az with⟨a,_⟩|⟨_,c⟩
   · omega
   · have:=c id sz he (by simp[J])
     rw[aw] at this;cases this
  refine⟨sub,fun k ag az=>⟨?_,setRow_other _ _ _ _ (HU k az)⟩,⟨rfl,rfl,rfl,by simp,fun k ag=>setRow_other _ _ _ _ (by omega)⟩,HT _ _ _ _ _ _ aA sk⟩
  have RJ:=HU k az
  rcases az with az|⟨U,h2⟩
  · exact .inl az
  · refine .inr ⟨U,fun i s ab ay=>?_⟩
    by_cases e:i=r
    · simp only[au,e,if_true] at ab
      injection ab with ab;injection ab with ab _
      exact absurd ab.symm RJ
    · simp only[au,e,if_false] at ab ay
      by_cases e':i=id
      · simp[e'] at ay
      · exact h2 i s ab (by simpa[e'] using ay)
 refine⟨⟨?_,?_,?_,?_⟩,P⟩
 · intro i k s ab
   by_cases e:i=r
   · simp only[au,e,if_true] at ab
     injection ab with ab;injection ab with U h2
     subst U
     exact ⟨wE.1,by simpa using wE.2⟩
   · simp only[au,e,if_false] at ab
     have:=H.val i k s ab
     exact ⟨this.1,by simpa using this.2⟩
 · intro i ih iJ
   by_cases e:i=r
   · subst e
     have:blk'=ih:=by simpa[au] using iJ
     subst this
     refine⟨b,sz,arr',ty,by simp[au],setRow_heap _ _ _ _ _ _ aA,fun i ab=>⟨(ad i ab).1,fun j aC=>?_⟩⟩
     obtain⟨v,ao,av⟩:=(ad i ab).2 j aC
     exact ⟨v,ao,P.rep av⟩
   · by_cases e':i=id
     · simp[au,e'] at iJ
       exact absurd iJ.1 bP
     · have p2:h.cells i=some ih:=by simpa[au,e,e'] using iJ
       obtain⟨kg,s,a,t,ao,av,aW⟩:=H.blk i ih p2
       refine⟨kg,s,a,t,sub _ _ ao,?_,fun i ab=>⟨(aW i ab).1,fun j aC=>?_⟩⟩
       · rw[setRow_other]
         · exact av
         · rintro rfl
           exact e' (H.inj i id _ _ _ (by simp[p2]) (by simp[J]) ao he)
       · obtain⟨v,f1,f2⟩:=(aW i ab).2 j aC
         exact ⟨v,f1,P.rep f2⟩
 · intro i i' k s ar U h2 ao av
   by_cases e:i=r<;>by_cases e':i'=r
   · rw[e,e']
   · exfalso
     simp only[au,e,e',if_true,if_false] at ao av h2
     by_cases sm:i'=id
     · simp[sm] at h2
     · rw[if_neg sm] at h2
       injection ao with ao;injection ao with ao _;subst ao
       exact sm (H.inj i' id _ _ _ h2 (by simp[J]) av he)
   · exfalso
     simp only[au,e,e',if_true,if_false] at ao av U
     by_cases sm:i=id
     · simp[sm] at U
     · rw[if_neg sm] at U
       injection av with av;injection av with av _;subst av
       exact sm (H.inj i id _ _ _ U (by simp[J]) ao he)
   · simp only[au,e,e',if_false] at ao av U h2
     by_cases f:i=id
     · simp[f] at U
     · by_cases p3:i'=id
       · simp[p3] at h2
       · rw[if_neg f] at U;rw[if_neg p3] at h2
         exact H.inj i i' k s ar U h2 ao av
 · simpa using H.base
end
section consts
variable {w:World} {ok:Nat->Prop}
theorem HV {v:Value} {a:I} (h:qZ v=some a):dq w ok a v/\v.cells= #[v]/\a.cells= [a]:=by
 unfold qZ at h
 split at h<;>try(cases h;done)
 · cases h;exact ⟨.int _ _,rfl,rfl⟩
 · cases h;exact ⟨.bool _,rfl,rfl⟩
 · cases h;exact ⟨.str _,rfl,rfl⟩
 · cases h
   refine⟨?_,rfl,rfl⟩
   exact .sl [] true none 0 0 (fun _ _=>undef) (by simp) (by simp) (fun i h=>absurd h (by simp)) (fun i j h=>absurd h (by simp)) (by simp) (fun i h=>absurd h (by simp))
 · cases h;exact ⟨.nilfn,rfl,rfl⟩
theorem HW:∀ {vs:List Value} {as:List I},yT vs=some as->as.length=vs.length/\∀i (h:i<as.length) (h':i<vs.length),dq w ok as[i] vs[i]/\as[i].ca=true
 | [],as,h=>by cases h;exact ⟨rfl,fun i h=>absurd h (by simp)⟩
 | v::vs,as,h=>by
   simp only[yT] at h
   split at h<;>try(cases h;done)
   rename_i a CQ U h2
   cases h
   obtain⟨l,r⟩:=HW h2
   refine⟨by simp[l],fun i ab bY=>?_⟩
   cases i with
   | zero=>
     refine⟨(HV U).1,?_⟩
     unfold qZ at U
     split at U<;>first|(cases U;done)|(cases U;rfl)
   | succ i=>exact r i (by simpa using ab) (by simpa using bY)
theorem HX {v:Value} {a:I} (h:q0 v=some a):dq w ok a v/\a.cells.all I.ca=true/\a.cells.length=v.cells.size:=by
 unfold q0 at h
 split at h
 · rename_i cs
   obtain⟨as,U,rfl⟩:=Option.map_eq_some_iff.1 h
   obtain⟨l,r⟩:=HW (w:=w) (ok:=ok) U
   refine⟨.agg as cs (by simpa using l.symm) (fun i ab bY=>(r i ab (by simpa using bY)).1),?_,by simpa[I.cells,Value.cells] using l⟩
   simp only[I.cells,List.all_eq_true]
   intro x ae
   obtain⟨i,ab,rfl⟩:=List.getElem_of_mem ae
   exact (r i ab (by omega)).2
 · obtain⟨ao,av,aW⟩:=HV (w:=w) (ok:=ok) h
   refine⟨ao,?_,by rw[av,aW];rfl⟩
   rw[aW]
   unfold qZ at h
   split at h<;>first|(cases h;done)|(cases h;rfl)
end consts
structure ki (G:Nat->Option I) (ok:Nat->Prop) (σ:Nat->Option (Nat × Nat)) (w:World) (F:Nat->I) (a:Act):Prop where
 slot:∀t,a5 w ok σ (F t) (a.tmps.getD t undef)
 nf:∀g v,G g=some v->a5 w ok σ (.e2 v) (.pointer (some ⟨g,0,none⟩))
theorem ki.ed {G:Nat->Option I} {ok:Nat->Prop} {σ:Nat->Option (Nat × Nat)} {w:World} {F:Nat->I} {a:Act} (h:ki G ok σ w F a)
 {x:Operand} {y:aT} (ae:ek x=some y):a5 w ok σ (y.ev G F) (a.eval x):=by
 cases x with
 | tmp t=>cases ae;exact h.slot t
 | const v=>
   obtain⟨c,U,rfl⟩:=Option.map_eq_some_iff.1 ae
   exact .val _ _ (HX U).1
 | global g=>
   cases ae
   simp only[aT.ev,Act.eval]
   split
   · exact h.nf _ _ ‹_›
   · exact .undef _
 | func f=>cases ae;exact .fn f [] [] #[] #[] rfl rfl (fun i h=>absurd h (by simp)) (fun i h=>absurd h (by simp))
end Go.Eng
namespace Go.Eng
open Go Go.RowKit
section runs
variable {P:Program} {w:World} {t:TypeId}
theorem wF {b:Bool} (h:nd P t=some b):(isAgg t).run P w= .ok b w:=by
 unfold nd at h
 unfold isAgg
 cases hu:P.underlying t with
 | none=>rw[hu] at h;cases h
 | some d=>
   rw[hu] at h
   simp only[Sem.run_bind,run_underlying hu,Result.andThen_ok]
   cases d<;>simp at h<;>subst h<;>rfl
theorem run_typeInfo {i:TypeInfo} (h:P.info? t=some i):(typeInfo t).run P w= .ok i w:=by
 simp[typeInfo,h]
theorem run_sizeOf {s:Nat} (h:jl P t=some s):(sizeOf t).run P w= .ok s w:=by
 obtain⟨i,ab,rfl⟩:=Option.map_eq_some_iff.1 h
 simp[sizeOf,run_typeInfo ab]
theorem HY {a:I} (h:zeroOf P t=some a):∃z,(zeroValue t).run P w= .ok z w/\q0 z=some a/\∃i,P.info? t=some i/\i.zero=some z:=by
 unfold zeroOf at h
 obtain⟨i,ab,h⟩:=Option.bind_eq_some_iff.1 h
 obtain⟨z,aq,h⟩:=Option.bind_eq_some_iff.1 h
 exact ⟨z,by simp[zeroValue,run_typeInfo ab,aq],h,i,ab,aq⟩
end runs
theorem I.wG (cs:List I):(I.agg cs).cells=cs:=rfl
theorem uq {cs jP:List I} {off sz:Nat} (h:cut cs off sz=some jP):off+sz<=cs.length/\jP.length=sz/\∀j (aC:j<jP.length) (kr:off+j<cs.length),jP[j]=cs[off+j]:=by
 unfold cut at h
 split at h
 · cases h
   refine⟨‹_›,by simp;omega,fun j aC kr=>by simp⟩
 · cases h
theorem CR {bT:Bool} {cs:List I} {u:I} (h:partOf bT cs=some u):(bT=true/\u= .agg cs)\/(bT=false/\cs= [u]/\u.ca=true):=by
 unfold partOf at h
 cases bT with
 | true=>exact .inl ⟨rfl,by simpa using h.symm⟩
 | false=>
   simp only[Bool.false_eq_true,if_false] at h
   split at h
   · split at h
     · cases h;exact .inr ⟨rfl,rfl,‹_›⟩
     · cases h
   · cases h
theorem p4 (b x j:Nat):(⟨b,x,none⟩:Addr).add j=⟨b,x+j,none⟩:=by
 unfold Addr.add;split<;>simp_all
theorem add_add (a:Addr) (i j:Nat) (h:a.spot=none\/0<i+j):(a.add i).add j=a.add (i+j):=by
 cases a with
 | mk b o s=>
   unfold Addr.add
   by_cases ab:i=0<;>by_cases aC:j=0<;>simp_all<;>omega
section ops
variable {P:Program} {base:Nat} {okin:Nat->Prop} {σ:Nat->Option (Nat × Nat)} {h:ah} {w:World}
def ur (base:Nat) (okin:Nat->Prop) (σ:Nat->Option (Nat × Nat)) (h:ah) (w:World) (r:Nat) (v:I) (h':ah) (res:Result Next):Prop:=
 ∃bg cv aQ,(res= .ok (.value cv) aQ\/(res= .ok .skip aQ/\cv=undef))/\Prog base okin σ h w bg h' aQ/\cJ base okin bg h' aQ/\
  a5 aQ (bt base okin bg h') bg v cv/\∀id,id≠r->bg id=σ id
theorem ur.pure (H:cJ base okin σ h w) {r:Nat} {v:I} {cv:Value} {res:Result Next} (e:res= .ok (.value cv) w) (aR:a5 w (bt base okin σ h) σ v cv):
 ur base okin σ h w r v h res:=⟨σ,cv,w,.inl e,Prog.refl ..,H,aR,fun _ _=>rfl⟩
theorem CS {ok:Nat->Prop} {t:TypeId} {bT:Bool} {sz:Nat} (dF:nd P t=some bT) (c6:jl P t=some sz) (U:(bT||sz == 1)=true) (cq:Addr) (ep:Nat->Value)
 (J:∀j,j<sz->w.cell? (cq.add j)=some (ep j)) {cs:List I} (ay:cs.length=sz) (aR:∀j (aC:j<cs.length),a5 w ok σ cs[j] (ep j)) {u:I} (aF:partOf bT cs=some u):
 ∃cv,(loadVar t cq).run P w= .ok cv w/\a5 w ok σ u cv:=by
 rcases CR aF with⟨rfl,rfl⟩|⟨rfl,rfl,_⟩
 · refine⟨.agg ((List.range sz).map ep).toArray,?_,?_⟩
   · simp[loadVar,wF dF,run_sizeOf c6,run_loadCells w cq sz ep J]
   · refine .agg _ _ (by simp[ay]) (fun i ab bY=>?_)
     simpa using aR i ab
 · have:sz=1:=by simpa using ay.symm
   subst this
   refine⟨ep 0,?_,aR 0 (by simp)⟩
   have:=J 0 (by omega)
   have e:cq.add 0=cq:=by unfold Addr.add;simp
   rw[e] at this
   simp[loadVar,wF dF,this]
theorem cJ.elem (H:cJ base okin σ h w) {id idx cN sz b b_:Nat} {blk:List I} {e:I} (ad:h.cells id=some blk) (he:blk[idx]? =some e) (aw:σ id=some (b,b_))
 {cs:List I} (J:cut e.cells cN sz=some cs):
 ∃ep:Nat->Value,(∀j,j<sz->w.cell? ((⟨b,idx*b_+cN,none⟩:Addr).add j)=some (ep j))/\(∀j (aC:j<cs.length),a5 w (bt base okin σ h) σ cs[j] (ep j)):=by
 obtain⟨kg,fZ,arr,ty,ao,av,aW⟩:=H.blk id blk ad
 rw[aw] at ao;cases ao
 obtain⟨ab,rfl⟩:=List.getElem?_eq_some_iff.1 he
 obtain⟨b8,bQ,cE⟩:=uq J
 have hlen:=(aW idx ab).1
 refine⟨fun j=>(arr[idx*b_+(cN+j)]?).getD undef,fun j aC=>?_,fun j aC=>?_⟩
 · obtain⟨v,f1,_⟩:=(aW idx ab).2 (cN+j) (by omega)
   rw[p4]
   simp only[World.cell?,av,Option.isSome_none,Bool.false_eq_true,if_false]
   rw[Nat.add_assoc,f1];rfl
 · obtain⟨v,f1,f2⟩:=(aW idx ab).2 (cN+j) (by omega)
   rw[cE j aC (by omega)]
   show a5 w _ σ _ ((arr[idx*b_+(cN+j)]?).getD undef)
   rw[f1]
   exact f2
theorem RK (H:cJ base okin σ h w) {aZ r:Nat} {t:TypeId} {bT:Bool} {sz:Nat} (dF:nd P t=some bT) (c6:jl P t=some sz) (U:(bT||sz == 1)=true)
 {G:Nat->Option I} {F:Nat->I} {x:aT} {jy:Value} (ae:a5 w (bt base okin σ h) σ (x.ev G F) jy) {v:I} {h':ah} {c:eb}
 (he:evalOp aZ r (aT.ev G F) h (.load bT sz x)=some (v,h',c)):
 h'=h/\∃cv,(Instr.loadAt t jy).run P w= .ok cv w/\a5 w (bt base okin σ h) σ v cv:=by
 simp only[evalOp] at he
 split at he
 · rename_i u hu
   rw[hu] at ae
   obtain⟨cq,ep,rfl,bM,cn⟩:=ae.yZ
   obtain⟨cs,J,he⟩:=Option.bind_eq_some_iff.1 he
   obtain⟨p,aF,he⟩:=Option.map_eq_some_iff.1 he
   cases he
   obtain⟨b8,bQ,cE⟩:=uq J
   refine⟨rfl,?_⟩
   obtain⟨cv,ao,av⟩:=CS (P:=P) (w:=w) (σ:=σ) (ok:=bt base okin σ h) dF c6 U cq ep (fun j aC=>(bM j (by omega)).2) bQ
    (fun j aC=>by rw[cE j aC (by omega)];simpa using a5.val _ _ (cn j (by omega))) aF
   exact ⟨cv,by simpa[Instr.loadAt,Instr.sureAddr] using ao,av⟩
 · rename_i id idx cN hu
   rw[hu] at ae
   obtain⟨b,b_,rfl,aw⟩:=ae.wC
   obtain⟨blk,ad,he⟩:=Option.bind_eq_some_iff.1 he
   obtain⟨e,kW,he⟩:=Option.bind_eq_some_iff.1 he
   obtain⟨cs,J,he⟩:=Option.bind_eq_some_iff.1 he
   obtain⟨p,aF,he⟩:=Option.map_eq_some_iff.1 he
   cases he
   obtain⟨b8,bQ,cE⟩:=uq J
   obtain⟨ep,bM,cn⟩:=H.elem ad kW aw J
   refine⟨rfl,?_⟩
   obtain⟨cv,ao,av⟩:=CS (P:=P) (w:=w) (σ:=σ) (ok:=bt base okin σ h) dF c6 U _ ep bM bQ cn aF
   exact ⟨cv,by simpa[Instr.loadAt,Instr.sureAddr] using ao,av⟩
 · cases he
theorem a5.wH {ok:Nat->Prop} {v:I} {cv:Value} (aR:a5 w ok σ v cv) (hu:v.cells.all I.ca=true):
 cv.cells.toList.length=v.cells.length/\(∀j (aC:j<v.cells.length) (kr:j<cv.cells.toList.length),a5 w ok σ v.cells[j] cv.cells.toList[j])/\∀x∈cv.cells.toList,x.oneCell'=true:=by
 obtain⟨ao,av⟩:=aR.cells (.inl hu)
 refine⟨by simpa using ao,fun j aC kr=>by simpa using av j aC (by simpa using kr),fun x ae=>?_⟩
 obtain⟨i,ab,rfl⟩:=List.getElem_of_mem ae
 have bY:i<v.cells.length:=by simp at ab;omega
 refine(av i bY (by simpa using ab)).wD ?_
 exact List.all_eq_true.1 hu _ (List.getElem_mem bY)
theorem y3 {cs vs:List I} {off:Nat} (h:off+vs.length<=cs.length):(eP cs off vs).length=cs.length:=by
 simp[eP];omega
theorem q5 {α:Type} {cs vs:List α} {off:Nat} (h:off+vs.length<=cs.length) (j:Nat) (aC:j<(cs.take off++vs++cs.drop (off+vs.length)).length) (kr:j<cs.length):
 (cs.take off++vs++cs.drop (off+vs.length))[j]=if cX:off<=j/\j<off+vs.length then vs[j - off]'(by omega) else cs[j]:=by
 by_cases U:j<off
 · rw[List.getElem_append_left (by simp;omega),List.getElem_append_left (by simp;omega),dif_neg (by omega)]
   simp
 · by_cases h2:j<off+vs.length
   · rw[List.getElem_append_left (by simp;omega),List.getElem_append_right (by simp;omega),dif_pos (by omega)]
     simp[Nat.min_eq_left (show off<=cs.length by omega)]
   · rw[List.getElem_append_right (by simp;omega),dif_neg (by omega)]
     have e:off+vs.length+(j -(min off cs.length+vs.length))=j:=by rw[Nat.min_eq_left (by omega)];omega
     simp[e]
theorem RL (H:cJ base okin σ h w) {aZ r:Nat} {t:TypeId} {sz:Nat} (c6:jl P t=some sz)
 {G:Nat->Option I} {F:Nat->I} {x y:aT} {jy jR:Value} (ae:a5 w (bt base okin σ h) σ (x.ev G F) jy) (aN:a5 w (bt base okin σ h) σ (y.ev G F) jR) {v:I} {h':ah} {c:eb}
 (he:evalOp aZ r (aT.ev G F) h (.store sz x y)=some (v,h',c)):
 v= .undef/\∃aQ,(Instr.storeAt t jy jR).run P w= .ok () aQ/\Prog base okin σ h w σ h' aQ/\cJ base okin σ h' aQ:=by
 simp only[evalOp] at he
 split at he
 · rename_i id idx cN hu
   rw[hu] at ae
   obtain⟨b,b_,rfl,aw⟩:=ae.wC
   split at he
   · cases he
   · rename_i cZ
     have cZ:h.shut id=false:=by simpa using cZ
     obtain⟨blk,ad,he⟩:=Option.bind_eq_some_iff.1 he
     obtain⟨e,kW,he⟩:=Option.bind_eq_some_iff.1 he
     split at he
     · rename_i og
       obtain⟨bp,cb,c7⟩:=og
       obtain⟨cS,dA,ng⟩:=aN.wH c7
       obtain⟨kg,fZ,arr,ty,ao,av,aW⟩:=H.blk id blk ad
       rw[aw] at ao;cases ao
       obtain⟨ab,rfl⟩:=List.getElem?_eq_some_iff.1 kW
       have hlen:=(aW idx ab).1
       have p5:idx*b_+(cN+sz)<=arr.size:=by
        by_cases aq:cN+sz=0
        · by_cases RM:b_=0
          · simp[RM,aq]
          · obtain⟨v0,f1,_⟩:=(aW idx ab).2 0 (by omega)
            have:=(Array.getElem?_eq_some_iff.1 f1).1
            omega
        · obtain⟨v0,f1,_⟩:=(aW idx ab).2 (cN+sz - 1) (by omega)
          have:=(Array.getElem?_eq_some_iff.1 f1).1
          omega
       have ct:(Instr.storeAt t (.pointer (some ⟨b,idx*b_+cN,none⟩)) jR).run P w= .ok () (w.setRow b (arr.toList.take (idx*b_+cN)++jR.cells.toList++arr.toList.drop (idx*b_+cN+jR.cells.toList.length)).toArray):=by
        have h2:=run_storeCells_at (P:=P) b (idx*b_+cN) ty jR.cells.toList 0 arr w av (by simp only[Nat.add_zero];rw[cS,bp];omega) ng
        simp only[Nat.add_zero] at h2
        have bP:jR.cells.size=sz:=by rw[<-bp,<-cS];simp
        simp[Instr.storeAt,Instr.sureAddr,storeVar,run_sizeOf c6,bP,h2]
       have key:∀e',e'.cells.length=b_->(∀j (aC:j<e'.cells.length),∃lO,(arr.toList.take (idx*b_+cN)++jR.cells.toList++arr.toList.drop (idx*b_+cN+jR.cells.toList.length)).toArray[idx*b_+j]? =some lO/\a5 w (bt base okin σ h) σ (e'.cells[j]) lO)->
        Prog base okin σ h w σ (h.new id (blk.set idx e')) (w.setRow b (arr.toList.take (idx*b_+cN)++jR.cells.toList++arr.toList.drop (idx*b_+cN+jR.cells.toList.length)).toArray)/\
        cJ base okin σ (h.new id (blk.set idx e')) (w.setRow b (arr.toList.take (idx*b_+cN)++jR.cells.toList++arr.toList.drop (idx*b_+cN+jR.cells.toList.length)).toArray):=by
        intro e' q6 nh
        have:=H.write (blk':=blk.set idx e') (arr':=(arr.toList.take (idx*b_+cN)++jR.cells.toList++arr.toList.drop (idx*b_+cN+jR.cells.toList.length)).toArray) ad cZ aw av (by simp;omega) ?_
        · exact ⟨this.2,this.1⟩
        · intro i bY
          have CT:i<blk.length:=by simpa using bY
          by_cases wI:i=idx
          · subst wI
            simp only[List.getElem_set_self]
            exact ⟨q6,nh⟩
          · have bP:(blk.set idx e')[i]=blk[i]:=by rw[List.getElem_set_ne (Ne.symm wI)]
            rw[bP]
            refine⟨(aW i CT).1,fun j aC=>?_⟩
            obtain⟨v0,f1,f2⟩:=(aW i CT).2 j aC
            refine⟨v0,?_,f2⟩
            have bG:=(Array.getElem?_eq_some_iff.1 f1).1
            have lP:=(Array.getElem?_eq_some_iff.1 f1).2
            have sn:j<b_:=by have:=(aW i CT).1;omega
            have ni:¬(idx*b_+cN<=i*b_+j/\i*b_+j<idx*b_+cN+jR.cells.toList.length):=by
             rw[cS,bp]
             rintro ⟨da,db⟩
             rcases Nat.lt_or_gt_of_ne wI with q|q
             · have:(i+1)*b_<=idx*b_:=Nat.mul_le_mul_right _ q
               rw[Nat.add_mul] at this;omega
             · have:(idx+1)*b_<=i*b_:=Nat.mul_le_mul_right _ q
               rw[Nat.add_mul] at this;omega
            have hle:idx*b_+cN+jR.cells.toList.length<=arr.toList.length:=by rw[cS,bp];simp;omega
            rw[List.getElem?_toArray,List.getElem?_eq_getElem (by simp;omega),q5 hle _ _ (by simpa using bG),dif_neg ni]
            simpa using lP
       have hle:idx*b_+cN+jR.cells.toList.length<=arr.toList.length:=by rw[cS,bp];simp;omega
       have HZ:∀j (aC:j<b_),∃lO,(arr.toList.take (idx*b_+cN)++jR.cells.toList++arr.toList.drop (idx*b_+cN+jR.cells.toList.length)).toArray[idx*b_+j]? =some lO/\
        (∀(cX:cN<=j/\j<cN+sz),a5 w (bt base okin σ h) σ ((y.ev G F).cells[j - cN]'(by omega)) lO)/\(¬(cN<=j/\j<cN+sz)->a5 w (bt base okin σ h) σ (blk[idx].cells[j]'(by omega)) lO):=by
        intro j aC
        obtain⟨v0,f1,f2⟩:=(aW idx ab).2 j (by omega)
        have bG:=(Array.getElem?_eq_some_iff.1 f1).1
        have lP:=(Array.getElem?_eq_some_iff.1 f1).2
        rw[List.getElem?_toArray,List.getElem?_eq_getElem (by simp;omega)]
        refine⟨_,rfl,fun cX=>?_,fun cX=>?_⟩
        · rw[q5 hle _ _ (by simpa using bG),dif_pos (by rw[cS,bp];omega)]
          have:=dA (j - cN) (by omega) (by omega)
          have e:idx*b_+j -(idx*b_+cN)=j - cN:=by omega
          simpa[e] using this
        · rw[q5 hle _ _ (by simpa using bG),dif_neg (by rw[cS,bp];omega)]
          simp only[Array.getElem_toList]
          rw[lP];exact f2
       split at he
       · rename_i cs H0
         cases he
         refine⟨rfl,_,ct,?_⟩
         rw[H0] at hlen
         simp only[I.wG] at hlen
         have jm:cN+(y.ev G F).cells.length<=cs.length:=by omega
         refine key _ (by simp only[I.wG];rw[y3 jm];exact hlen) (fun j aC=>?_)
         have kr:j<b_:=by simp only[I.wG] at aC;rw[y3 jm] at aC;omega
         obtain⟨lO,lz,l',CU⟩:=HZ j kr
         refine⟨lO,lz,?_⟩
         simp only[I.wG,eP]
         rw[q5 jm j _ (by omega)]
         split
         · rename_i cX;exact l' (by omega)
         · rename_i cX
           have:=CU (by omega)
           simpa[H0,I.wG] using this
       · rename_i RN
         split at he
         · rename_i u CV
           cases he
           refine⟨rfl,_,ct,?_⟩
           have nL:blk[idx].cells.length=1:=by
            cases cX:blk[idx]<;>first|rfl|exact absurd cX (RN _)
           have wJ:sz=1:=by rw[<-bp,CV];rfl
           have CW:u.ca=true:=by rw[CV] at c7;simpa using c7
           have CX:u.cells= [u]:=by cases u<;>first|rfl|simp[I.ca] at CW
           refine key u (by rw[CX];simp;omega) (fun j aC=>?_)
           have RO:j=0:=by rw[CX] at aC;simpa using aC
           subst RO
           obtain⟨lO,lz,l',_⟩:=HZ 0 (by omega)
           refine⟨lO,lz,?_⟩
           have:=l' (by omega)
           simpa[CX,CV] using this
         · cases he
     · cases he
 · cases he
end ops
end Go.Eng
namespace Go.Eng
open Go Go.RowKit
section ops
variable {P:Program} {base:Nat} {okin:Nat->Prop} {σ:Nat->Option (Nat × Nat)} {h:ah} {w:World} {G:Nat->Option I} {F:Nat->I} {a:Act}
theorem so (bI:ki G (bt base okin σ h) σ w F a):∀ {xs:List Operand} {ys:List aT},pY xs=some ys->
 ys.length=xs.length/\∀i (ab:i<ys.length) (bY:i<xs.length),a5 w (bt base okin σ h) σ (ys[i].ev G F) (a.eval xs[i])
 | [],ys,e=>by cases e;exact ⟨rfl,fun i ab=>absurd ab (by simp)⟩
 | x::xs,ys,e=>by
   simp only[pY] at e
   split at e<;>try(cases e;done)
   rename_i y ai0 U h2
   cases e
   obtain⟨l,r⟩:=so bI h2
   refine⟨by simp[l],fun i ab bY=>?_⟩
   cases i with
   | zero=>exact bI.ed U
   | succ i=>exact r i (by simpa using ab) (by simpa using bY)
theorem H2 {ok:Nat->Prop} {t:TypeId} {bT:Bool} {sz off:Nat} (dF:nd P t=some bT) (c6:jl P t=some sz) (U:(bT||sz == 1)=true) {cs:List I} {vs:Array Value}
 (ay:vs.size=cs.length) (aR:∀i (h:i<cs.length) (h':i<vs.size),a5 w ok σ cs[i] vs[i]) {jP:List I} (J:cut cs off sz=some jP) {u:I} (aF:partOf bT jP=some u):
 ∃cv,(part t vs off).run P w= .ok cv w/\a5 w ok σ u cv:=by
 obtain⟨b8,bQ,cE⟩:=uq J
 rcases CR aF with⟨rfl,rfl⟩|⟨rfl,rfl,_⟩
 · refine⟨.agg (vs.extract off (off+sz)),by simp[part,wF dF,run_sizeOf c6],?_⟩
   refine .agg _ _ (by simp;omega) (fun i ab bY=>?_)
   rw[cE i ab (by omega)]
   simpa using aR (off+i) (by omega) (by omega)
 · have o4:sz=1:=by simpa using bQ.symm
   have bG:off<vs.size:=by omega
   refine⟨vs[off],by simp[part,wF dF,bG],?_⟩
   have:=aR off (by omega) bG
   have e:=cE 0 (by simp) (by omega)
   simp only[List.getElem_cons_zero,Nat.add_zero] at e
   rw[e];exact this
def y4 (op:BinOp) (k:IntKind) (x y:Int):Sem Value:=
 match op with
 | .add| .sub| .mul=>Op.intArith op k x y
 | .quo| .rem=>Op.intDiv op k x y
 | .and| .or| .xor| .andNot=>Op.intBits op k x y
 | _=>Op.intCmp op x y
theorem RP (op:BinOp) (k:IntKind) (x y:Int) {v:I} (ad:iZ op k x y=some v):
 ∃cv,(y4 op k x y).run P w= .ok cv w/\∀ok σ,a5 w ok σ v cv:=by
 cases op<;>simp only[iZ] at ad<;>first
  | (cases ad;done)
  | (cases ad;exact ⟨_,rfl,fun _ _=> .val _ _ (.int _ _)⟩)
  | (cases ad;exact ⟨_,rfl,fun _ _=> .val _ _ (.bool _)⟩)
  | (split at ad
     · cases ad
     · cases ad;rename_i aq;exact ⟨_,by simp[y4,Op.intDiv,aq],fun _ _=> .val _ _ (.int _ _)⟩)
theorem CY (ty:Nat) (op:BinOp) (t:TypeId) (X Y:Operand) {u v r:I} {nM cv:Value} {ok:Nat->Prop} (hu:a5 w ok σ u nM) (al:a5 w ok σ v cv) (ad:fi ty op u v=some r)
 (aw:ty=1->P.underlying t=some .bool):
 ∃sq,(do eqGuard op t X Y nM cv;binOp op t nM cv:Sem Value).run P w= .ok sq w/\a5 w ok σ r sq:=by
 have aX:∀ {a b:Value},(∀c,a≠ .nilIface/\a≠ .agg c)->(eqGuard op t X Y a b).run P w= .ok () w:=by
  intro a b aA
  cases a<;>first|exact absurd rfl (aA #[]).1|exact absurd rfl (aA _).2|(cases op<;>rfl)
 unfold fi at ad
 split at ad
 · rename_i k x k' y
   obtain rfl:=hu.jQ
   obtain rfl:=al.jQ
   simp only[Sem.run_bind,aX (a:= .int k x) (b:= .int k' y) (fun c=>⟨by simp,by simp⟩),Result.andThen_ok]
   split at ad
   · rename_i cK
     unfold iA at ad
     split at ad
     · cases ad
     · rename_i H3
       rcases cK with rfl|rfl
       · cases ad
         exact ⟨_,by simp[binOp,Op.shift,H3],.val _ _ (.int _ _)⟩
       · cases ad
         exact ⟨_,by simp[binOp,Op.shift,H3],.val _ _ (.int _ _)⟩
   · rename_i cK
     split at ad
     · rename_i ag
       subst ag
       obtain⟨sq,ao,av⟩:=RP (P:=P) (w:=w) op k x y ad
       refine⟨sq,?_,av _ _⟩
       have:binOp op t (.int k x) (.int k y)=y4 op k x y:=by
        cases op<;>first|exact absurd (.inl rfl) cK|exact absurd (.inr rfl) cK|simp[binOp,y4]
       rw[this];exact ao
     · cases ad
 · rename_i x y
   obtain rfl:=hu.q2
   obtain rfl:=al.q2
   split at ad<;>try(cases ad;done)
   rename_i RQ
   have CZ:=aw RQ
   have heq:(Op.equal t (.bool x) (.bool y)).run P w= .ok (x == y) w:=by
    show (Op.equalIn (9999+1) t (.bool x) (.bool y)).run P w=_
    unfold Op.equalIn
    simp[run_underlying CZ]
   simp only[Sem.run_bind,aX (a:= .bool x) (b:= .bool y) (fun c=>⟨by simp,by simp⟩),Result.andThen_ok]
   split at ad
   · cases ad
     refine⟨.bool (x == y),?_,.val _ _ (.bool _)⟩
     show (do pure (.bool (<-Op.equal t (.bool x) (.bool y))):Sem Value).run P w=_
     simp[heq]
   · cases ad
     refine⟨.bool (!(x == y)),?_,.val _ _ (.bool _)⟩
     show (do pure (.bool !(<-Op.equal t (.bool x) (.bool y))):Sem Value).run P w=_
     simp[heq]
   · cases ad
 · rename_i x y
   obtain rfl:=hu.wB
   obtain rfl:=al.wB
   simp only[Sem.run_bind,aX (a:= .string x) (b:= .string y) (fun c=>⟨by simp,by simp⟩),Result.andThen_ok]
   split at ad
   · cases ad
     exact ⟨.bool (x.toList == y.toList),by rw[show binOp .eql t (.string x) (.string y)=Op.stringOp .eql x y by simp[binOp]];simp[Op.stringOp],.val _ _ (.bool _)⟩
   · cases ad
     exact ⟨.bool (!(x.toList == y.toList)),by rw[show binOp .neq t (.string x) (.string y)=Op.stringOp .neq x y by simp[binOp]];simp[Op.stringOp],.val _ _ (.bool _)⟩
   · cases ad
 · cases ad
theorem RR (op:UnOp) {u r:I} {nM:Value} {ok:Nat->Prop} (hu:a5 w ok σ u nM) (ad:fj op u=some r):
 ∃sq,(Op.unary op nM).run P w= .ok sq w/\a5 w ok σ r sq:=by
 unfold fj at ad
 split at ad
 · obtain rfl:=hu.jQ
   split at ad
   · cases ad;exact ⟨_,rfl,.val _ _ (.int _ _)⟩
   · cases ad;exact ⟨_,rfl,.val _ _ (.int _ _)⟩
   · cases ad
 · obtain rfl:=hu.q2
   split at ad
   · cases ad;exact ⟨_,rfl,.val _ _ (.bool _)⟩
   · cases ad
 · cases ad
theorem uu {ok:Nat->Prop} {d y:Nat} {X:Operand} {x:aT} {l:Nat} (ae:a5 w ok σ (x.ev G F) (a.eval X)) (ad:bound d (aT.ev G F) (some x)=some l) (ay:l<=y) (code:BoundsCode):
 (Instr.sliceBound (a.eval X) y code).run P w= .ok l w:=by
 unfold bound at ad
 simp only at ad
 split at ad
 · rename_i k n hu
   rw[hu] at ae
   rw[ae.jQ]
   split at ad
   · rename_i ai
     cases ad
     have:n<=(y:Int):=by omega
     simp[Instr.sliceBound,asIntOf,ai,this]
   · cases ad
 · cases ad
theorem uv (bI:ki G (bt base okin σ h) σ w F a) {X:Option Operand} {x:Option aT} (e:sh X=some x):
 (X=none/\x=none)\/∃p6 kE,X=some p6/\x=some kE/\a5 w (bt base okin σ h) σ (kE.ev G F) (a.eval p6):=by
 cases X with
 | none=>cases e;exact .inl ⟨rfl,rfl⟩
 | some p6=>
   obtain⟨kE,U,rfl⟩:=Option.map_eq_some_iff.1 e
   exact .inr ⟨p6,kE,rfl,rfl,bI.ed U⟩
theorem H4 (bI:ki G (bt base okin σ h) σ w F a) {cr ab jO:Option Operand} {uw bY kF:Option aT} (ao:sh cr=some uw) (av:sh ab=some bY) (aW:sh jO=some kF)
 (ux:(kF.isSome&&bY.isNone)=false) (len cap uy:Nat) (nN:cap<=uy) (ai1:kF=none->len<=uy) {l u m:Nat} (b1:bound 0 (aT.ev G F) uw=some l) (en:bound len (aT.ev G F) bY=some u) (kX:bound cap (aT.ev G F) kF=some m)
 (da:l<=u) (db:u<=m) (fI:m<=cap) (RS:Bool):
 (Instr.sliceBounds RS len uy (cr.map a.eval) (ab.map a.eval) (jO.map a.eval)).run P w= .ok (l,u,if kF.isSome then m else uy) w:=by
 unfold Instr.sliceBounds
 rcases uv bI aW with⟨rfl,rfl⟩|⟨M,nb,rfl,rfl,e8⟩
 · have em:m=cap:=by cases kX;rfl
   rcases uv bI av with⟨rfl,rfl⟩|⟨RT,h',rfl,rfl,C0⟩
   · have H5:u=len:=by cases en;rfl
     rcases uv bI ao with⟨rfl,rfl⟩|⟨L,lQ,rfl,rfl,mR⟩
     · have el:l=0:=by cases b1;rfl
       simp[H5,el]
     · have:=uu (P:=P) (a:=a) (y:=len) mR b1 (by omega) .sliceB
       simp[this,H5]
   · have cX:=fun c=>uu (P:=P) (a:=a) (y:=uy) C0 en (by omega) c
     rcases uv bI ao with⟨rfl,rfl⟩|⟨L,lQ,rfl,rfl,mR⟩
     · have el:l=0:=by cases b1;rfl
       simp[cX,el]
     · have:=uu (P:=P) (a:=a) (y:=u) mR b1 (by omega) .sliceB
       simp[this,cX]
 · have hm:=fun c=>uu (P:=P) (a:=a) (y:=uy) e8 kX (by omega) c
   rcases uv bI av with⟨rfl,rfl⟩|⟨RT,h',rfl,rfl,C0⟩
   · simp at ux
   · have cX:=fun c=>uu (P:=P) (a:=a) (y:=m) C0 en (by omega) c
     rcases uv bI ao with⟨rfl,rfl⟩|⟨L,lQ,rfl,rfl,mR⟩
     · have el:l=0:=by cases b1;rfl
       simp[hm,cX,el]
     · have:=uu (P:=P) (a:=a) (y:=u) mR b1 (by omega) .slice3C
       simp[hm,cX,this]
end ops
end Go.Eng
namespace Go.Eng
open Go Go.RowKit
section fill
variable {P:Program} {base:Nat} {okin:Nat->Prop} {σ:Nat->Option (Nat × Nat)} {h:ah} {w:World} {G:Nat->Option I} {F:Nat->I} {a:Act}
def setFrom (cs:Array Value) (off:Nat) (l:List Value):Array Value:=(l.zipIdx 0).foldl (fun cs (c,j)=>cs.setIfInBounds (off+j) c) cs
theorem H6 (l:List Value):∀(s off:Nat) (cs:Array Value),((l.zipIdx s).foldl (fun cs (c,j)=>cs.setIfInBounds (off+j) c) cs).size=cs.size/\
 ∀k (ag:k<cs.size) (j8:k<((l.zipIdx s).foldl (fun cs (c,j)=>cs.setIfInBounds (off+j) c) cs).size),
  ((l.zipIdx s).foldl (fun cs (c,j)=>cs.setIfInBounds (off+j) c) cs)[k]=if cX:off+s<=k/\k<off+s+l.length then l[k -(off+s)]'(by omega) else cs[k]:=by
 induction l with
 | nil=>intro s off cs;exact ⟨rfl,fun k ag j8=>by
   rw[dif_neg (fun cX=>by simp at cX;omega)]
   simp[List.zipIdx]⟩
 | cons v l a8=>
   intro s off cs
   have:=a8 (s+1) off (cs.setIfInBounds (off+s) v)
   refine⟨by simpa[List.zipIdx_cons] using this.1,fun k ag j8=>?_⟩
   have e:=this.2 k (by simpa using ag) (by simpa[List.zipIdx_cons] using j8)
   simp only[List.zipIdx_cons,List.foldl_cons]
   rw[e]
   by_cases U:k=off+s
   · subst U
     rw[dif_neg (by omega),dif_pos (by simp)]
     simp
   · by_cases h2:off+s<=k/\k<off+s+(v::l).length
     · have hlen:(v::l).length=l.length+1:=rfl
       rw[dif_pos (by omega),dif_pos h2]
       have:k -(off+s)=(k -(off+(s+1)))+1:=by omega
       simp[this]
     · have hlen:(v::l).length=l.length+1:=rfl
       rw[dif_neg (by omega),dif_neg h2]
       rw[Array.getElem_setIfInBounds_ne (h:=by omega)]
theorem fold_eq (cs:Array Value) (off:Nat) (v:Array Value):v.zipIdx.foldl (fun cs (c,j)=>cs.setIfInBounds (off+j) c) cs=setFrom cs off v.toList:=by
 rw[<-Array.foldl_toList,Array.toList_zipIdx];rfl
def sr (w:World) (ok:Nat->Prop) (σ:Nat->Option (Nat × Nat)) (cs:List I) (vs:Array Value):Prop:=vs.size=cs.length/\∀i (h:i<cs.length) (h':i<vs.size),a5 w ok σ cs[i] vs[i]
theorem sr.eP {ok:Nat->Prop} {cs:List I} {arr:Array Value} (J:sr w ok σ cs arr) {v:I} {cv:Value} (al:a5 w ok σ v cv) (aw:v.cells.all I.ca=true) {off:Nat} (az:off+v.cells.length<=cs.length):
 sr w ok σ (Eng.eP cs off v.cells) (setFrom arr off cv.cells.toList):=by
 obtain⟨cS,dA,_⟩:=al.wH aw
 obtain⟨bJ,dG⟩:=J
 have A:=H6 cv.cells.toList 0 off arr
 refine⟨by rw[y3 az,<-bJ];exact A.1,fun i ab bY=>?_⟩
 have ab:i<cs.length:=by rw[y3 az] at ab;exact ab
 have e:=A.2 i (by omega) bY
 show a5 w ok σ _ (((cv.cells.toList.zipIdx 0).foldl (fun cs (c,j)=>cs.setIfInBounds (off+j) c) arr)[i])
 rw[e]
 simp only[Eng.eP]
 rw[q5 az i _ ab]
 by_cases cX:off<=i/\i<off+v.cells.length
 · rw[dif_pos cX,dif_pos (by omega)]
   exact dA _ (by omega) (by omega)
 · rw[dif_neg cX,dif_neg (by omega)]
   exact dG i ab (by omega)
theorem C1 (bI:ki G (bt base okin σ h) σ w F a) (place:Nat->Option (Nat × Nat)):∀(ps:List (Nat × Operand)) (fk:List (Nat × Nat × aT)),
 (fk.length=ps.length/\∀k (ag:k<fk.length) (j8:k<ps.length),place (ps[k].1)=some (fk[k].1,fk[k].2.1)/\ek (ps[k].2)=some (fk[k].2.2))->
 ∀(cs:List I) (arr:Array Value) (jP:List I),sr w (bt base okin σ h) σ cs arr->eR cs (aT.ev G F) fk=some jP->
  ∃arr',Instr.fill place arr (ps.map fun(i,x)=>(i,a.eval x))=some arr'/\sr w (bt base okin σ h) σ jP arr'
 | [],[],_,cs,arr,jP,J,bc=>by
   simp only[eR] at bc;cases bc
   exact ⟨arr,rfl,J⟩
 | [],_::_,aF,_,_,_,_,_=>by simp at aF
 | _::_,[],aF,_,_,_,_,_=>by simp at aF
 | (i,x)::ps,(off,size,y)::fk,aF,cs,arr,jP,J,bc=>by
   simp only[eR] at bc
   split at bc<;>try(cases bc;done)
   rename_i og
   obtain⟨bp,cb,c7⟩:=og
   obtain⟨bb,bw⟩:=aF
   have q:=bw 0 (by simp) (by simp)
   simp only[List.getElem_cons_zero] at q
   have al:=bI.ed q.2
   obtain⟨cS,dA,_⟩:=al.wH c7
   have c6:(a.eval x).cells.size=size:=by rw[<-bp,<-cS];simp
   obtain⟨arr',ao,av⟩:=C1 bI place ps fk ⟨by simpa using bb,fun k ag j8=>by
    have:=bw (k+1) (by simp;omega) (by simp;omega)
    simpa using this⟩ _ _ jP (J.eP al c7 (by omega)) bc
   refine⟨arr',?_,av⟩
   simp only[List.map_cons,Instr.fill,q.1]
   rw[if_neg (by simp[c6];have:=J.1;omega),fold_eq]
   exact ao
theorem H7 {b9:Array Field}:∀ {ps:List (Nat × Operand)} {fk:List (Nat × Nat × aT)},yU P b9 ps=some fk->
 fk.length=ps.length/\∀k (ag:k<fk.length) (j8:k<ps.length),((b9[ps[k].1]?).bind fun f=>(jl P f.type).map fun s=>(f.offset,s))=some (fk[k].1,fk[k].2.1)/\ek (ps[k].2)=some (fk[k].2.2)
 | [],fk,e=>by cases e;exact ⟨rfl,fun k ag=>absurd ag (by simp)⟩
 | (i,x)::r,fk,e=>by
   simp only[yU] at e
   split at e<;>try(cases e;done)
   rename_i f y C2 U h2 aB
   split at e<;>try(cases e;done)
   rename_i s aw
   cases e
   obtain⟨l,q⟩:=H7 aB
   refine⟨by simp[l],fun k ag j8=>?_⟩
   cases k with
   | zero=>simp[U,h2,aw]
   | succ k=>exact q k (by simpa using ag) (by simpa using j8)
theorem H8 {s:Nat}:∀ {ps:List (Nat × Operand)} {fk:List (Nat × Nat × aT)},yV s ps=some fk->
 fk.length=ps.length/\∀k (ag:k<fk.length) (j8:k<ps.length),(some (ps[k].1*s,s):Option (Nat × Nat))=some (fk[k].1,fk[k].2.1)/\ek (ps[k].2)=some (fk[k].2.2)
 | [],fk,e=>by cases e;exact ⟨rfl,fun k ag=>absurd ag (by simp)⟩
 | (i,x)::r,fk,e=>by
   simp only[yV] at e
   split at e<;>try(cases e;done)
   rename_i y C2 U h2
   cases e
   obtain⟨l,q⟩:=H8 h2
   refine⟨by simp[l],fun k ag j8=>?_⟩
   cases k with
   | zero=>simp[U]
   | succ k=>exact q k (by simpa using ag) (by simpa using j8)
theorem uz {ok:Nat->Prop} {t:TypeId} {z:I} (aq:zeroOf P t=some z):∃aj,(zeroValue t).run P w= .ok aj w/\sr w ok σ z.cells aj.cells/\z.cells.all I.ca=true/\dq w ok z aj/\∃i,P.info? t=some i/\i.zero=some aj:=by
 obtain⟨aj,ao,av,aW⟩:=HY (w:=w) aq
 obtain⟨f1,f2,f3⟩:=HX (w:=w) (ok:=ok) av
 refine⟨aj,ao,?_,f2,f1,aW⟩
 exact (a5.val (σ:=σ) _ _ f1).cells (.inl f2)
theorem RU (b9:List Field) (bc:CL P b9=true):∃pl:List (Nat × Nat),(b9.mapM (fun f=>do pure (f.offset,<-sizeOf f.type):Field->Sem (Nat × Nat))).run P w= .ok pl w/\
 ∀i:Nat,pl[i]? =(b9[i]?).bind fun f=>(jl P f.type).map fun s=>(f.offset,s):=by
 induction b9 with
 | nil=>exact ⟨[],by simp,fun i=>by simp⟩
 | cons f b9 a8=>
   simp only[CL,List.all_cons,Bool.and_eq_true] at bc
   obtain⟨s,aw⟩:=Option.isSome_iff_exists.1 bc.1
   obtain⟨pl,ao,av⟩:=a8 bc.2
   refine⟨(f.offset,s)::pl,by simp[List.mapM_cons,run_sizeOf aw] at ao|-;simp[ao],fun i=>?_⟩
   cases i with
   | zero=>simp[aw]
   | succ i=>simpa using av i
theorem RV (bI:ki G (bt base okin σ h) σ w F a) {t:TypeId} {ps:Array (Nat × Operand)} {ma:kf} (J:fY P (.build t ps)=some ma) {aZ r:Nat} {v:I} {h':ah} {c:eb}
 (he:evalOp aZ r (aT.ev G F) h ma=some (v,h',c)):
 h'=h/\∃cv,(Instr.build t (ps.map fun(i,x)=>(i,a.eval x))).run P w= .ok cv w/\a5 w (bt base okin σ h) σ v cv:=by
 simp only[fY] at J
 split at J
 · rename_i b9 z hu aq
   split at J<;>try(cases J;done)
   rename_i RW
   obtain⟨fk,aF,rfl⟩:=Option.map_eq_some_iff.1 J
   simp only[evalOp] at he
   obtain⟨cs,bc,he⟩:=Option.map_eq_some_iff.1 he
   cases he
   obtain⟨aj,dv,f_,_⟩:=uz (w:=w) (σ:=σ) (ok:=bt base okin σ h) aq
   obtain⟨pl,ao,av⟩:=RU (w:=w) b9.toList RW
   obtain⟨arr',f1,f2⟩:=C1 bI (fun x=>pl[x]?) ps.toList fk (by
    obtain⟨l,q⟩:=H7 aF
    exact ⟨l,fun k ag j8=>by have:=q k ag j8;refine⟨?_,this.2⟩;rw[av];simpa using this.1⟩) _ _ cs f_ bc
   refine⟨rfl,.agg arr',?_,.agg _ _ f2.1 f2.2⟩
   have RX:(b9.mapM (fun f=>do pure (f.offset,<-sizeOf f.type):Field->Sem (Nat × Nat))).run P w= .ok pl.toArray w:=by
    rw[Array.mapM_eq_mapM_toList,Sem.run_map,ao];rfl
   simp only[Instr.build,Sem.run_bind,dv,Result.andThen_ok,run_underlying hu,RX]
   have:(fun x:Nat=>pl.toArray[x]?)=fun x=>pl[x]? :=by funext x;simp
   simp only[this,Array.toList_map,f1]
   simp
 · rename_i n e z hu aq
   split at J<;>try(cases J;done)
   rename_i s aw
   obtain⟨fk,aF,rfl⟩:=Option.map_eq_some_iff.1 J
   simp only[evalOp] at he
   obtain⟨cs,bc,he⟩:=Option.map_eq_some_iff.1 he
   cases he
   obtain⟨aj,dv,f_,_⟩:=uz (w:=w) (σ:=σ) (ok:=bt base okin σ h) aq
   obtain⟨arr',f1,f2⟩:=C1 bI (fun i=>some (i*s,s)) ps.toList fk (H8 aF) _ _ cs f_ bc
   refine⟨rfl,.agg arr',?_,.agg _ _ f2.1 f2.2⟩
   simp only[Instr.build,Sem.run_bind,dv,Result.andThen_ok,run_underlying hu,run_sizeOf aw,Array.toList_map,f1]
   simp
 · cases J
end fill
end Go.Eng
namespace Go.Eng
open Go Go.RowKit
section
variable {P:Program} {base:Nat} {okin:Nat->Prop} {σ:Nat->Option (Nat × Nat)} {h:ah} {w:World} {G:Nat->Option I} {F:Nat->I} {a:Act}
theorem H9 (H:cJ base okin σ h w) {r:Nat} (aR:σ r=none) {t:TypeId} {z:I} {aj:Value} (aq:a5 w (bt base okin σ h) σ z aj) (aw:z.cells.all I.ca=true):
 ∃bg aQ,(newVar t aj).run P w= .ok ⟨w.heap.size,0,none⟩ aQ/\Prog base okin σ h w bg (h.new r [z]) aQ/\cJ base okin bg (h.new r [z]) aQ/\
  a5 aQ (bt base okin bg (h.new r [z])) bg (.ptr r 0 0) (.pointer (some ⟨w.heap.size,0,none⟩))/\∀id,id≠r->bg id=σ id:=by
 obtain⟨b8,bQ⟩:=aq.cells (.inl aw)
 have A:=H.alloc aR [z] aj.cells t z.cells.length (fun i ab=>by
  have:i=0:=by simpa using ab
  subst this
  refine⟨rfl,fun j aC=>?_⟩
  have kr:j<z.cells.length:=aC
  refine⟨aj.cells[j]'(by omega),?_,bQ j kr (by omega)⟩
  rw[Nat.zero_mul,Nat.zero_add]
  exact Array.getElem?_eq_getElem (by omega))
 refine⟨_,_,?_,A.2,A.1,?_,?_⟩
 · simp[newVar,newRow]
 · have:=a5.ptr (w:=w.alloc (.cells aj.cells t)) (ok:=bt base okin (au σ r (some (w.heap.size,z.cells.length))) (h.new r [z])) (σ:=au σ r (some (w.heap.size,z.cells.length))) r 0 0 w.heap.size z.cells.length (by simp[au])
   simpa using this
 · intro id bz;simp[au,bz]
theorem dq.H_ {ok:Nat->Prop} {v:I} {cv:Value} (aR:a5 w ok σ v cv) (ad:v.dK=true):dq w ok v cv:=by
 cases aR with
 | undef=>simp[I.dK] at ad
 | kB=>simp[I.dK] at ad
 | val _ _ h=>exact h
 | agg=>simp[I.dK] at ad
 | bL=>simp[I.dK] at ad
 | ref=>simp[I.dK] at ad
 | ptr=>simp[I.dK] at ad
 | e2=>simp[I.dK] at ad
 | fn f first caps fc cv U h2=>
   cases first with
   | cons=>simp[I.dK] at ad
   | nil=>
     cases caps with
     | cons=>simp[I.dK] at ad
     | nil=>
       obtain rfl:=Array.eq_empty_of_size_eq_zero U
       obtain rfl:=Array.eq_empty_of_size_eq_zero h2
       exact .fn f
 | ie=>simp[I.dK] at ad
theorem I.RY {v:I} (h:v.dK=true):v.ca=true:=by
 cases v<;>first|rfl|simp[I.dK] at h
theorem I.RZ {v:I} (h:v.dQ=true):v.cells.all I.ca=true:=by
 simp only[I.dQ,List.all_eq_true] at h|-
 exact fun x ae=>I.RY (h x ae)
def mb (w:World) (ok:Nat->Prop) (σ:Nat->Option (Nat × Nat)) (sz:Nat) (es:List I) (arr:Array Value):Prop:=
 arr.size=es.length*sz/\∀i (ab:i<es.length),es[i].cells.length=sz/\∀j (aC:j<es[i].cells.length) (ag:i*sz+j<arr.size),a5 w ok σ es[i].cells[j] arr[i*sz+j]
theorem o5 {i j n sz:Nat} (ab:i<n) (aC:j<sz):i*sz+j<n*sz:=by
 have:(i+1)*sz<=n*sz:=Nat.mul_le_mul_right _ ab
 rw[Nat.add_mul] at this;omega
theorem mb.set {ok:Nat->Prop} {sz:Nat} {es:List I} {arr:Array Value} (H:mb w ok σ sz es arr) {i:Nat} {v:I} {cv:Value} (al:a5 w ok σ v cv) (aw:v.cells.all I.ca=true) (ay:v.cells.length=sz) (ab:i<es.length):
 mb w ok σ sz (es.set i v) (setFrom arr (i*sz) cv.cells.toList):=by
 obtain⟨cS,dA,_⟩:=al.wH aw
 obtain⟨bJ,dG⟩:=H
 have A:=H6 cv.cells.toList 0 (i*sz) arr
 have sk:(setFrom arr (i*sz) cv.cells.toList).size=arr.size:=A.1
 refine⟨by rw[sk,bJ];simp,fun k ag=>?_⟩
 have j8:k<es.length:=by simpa using ag
 by_cases mc:k=i
 · subst mc
   simp only[List.getElem_set_self]
   refine⟨ay,fun j aC p7=>?_⟩
   have bG:k*sz+j<arr.size:=by rw[sk] at p7;exact p7
   have e:=A.2 (k*sz+j) bG p7
   show a5 w ok σ _ (((cv.cells.toList.zipIdx 0).foldl (fun cs (c,j)=>cs.setIfInBounds (k*sz+j) c) arr)[k*sz+j])
   rw[e,dif_pos (by omega)]
   have av:k*sz+j -(k*sz+0)=j:=by omega
   simp only[av]
   exact dA j (by omega) (by omega)
 · have bP:(es.set i v)[k]=es[k]:=by rw[List.getElem_set_ne (Ne.symm mc)]
   rw[bP]
   refine⟨(dG k j8).1,fun j aC p7=>?_⟩
   have bG:k*sz+j<arr.size:=by rw[sk] at p7;exact p7
   have R0:j<sz:=by have:=(dG k j8).1;omega
   have e:=A.2 (k*sz+j) bG p7
   show a5 w ok σ _ (((cv.cells.toList.zipIdx 0).foldl (fun cs (c,j)=>cs.setIfInBounds (i*sz+j) c) arr)[k*sz+j])
   rw[e,dif_neg]
   · exact (dG k j8).2 j aC bG
   · rw[cS,ay]
     rintro ⟨da,db⟩
     rcases Nat.lt_or_gt_of_ne mc with q|q
     · have:=o5 q R0;omega
     · have:=o5 (i:=i) (n:=k) q (j:=0) (sz:=sz) (by omega)
       have:(i+1)*sz<=k*sz:=Nat.mul_le_mul_right _ q
       rw[Nat.add_mul] at this;omega
theorem H' (bI:ki G (bt base okin σ h) σ w F a) {sz:Nat}:∀(ps:List (Nat × Operand)) (fk:List (Nat × aT)),yW ps=some fk->
 ∀(es:List I) (arr:Array Value) (q7:List I),mb w (bt base okin σ h) σ sz es arr->(∀e∈es,e.dQ=true)->eS sz es (aT.ev G F) fk=some q7->
  ∃arr',Instr.fill (fun i=>some (i*sz,sz)) arr (ps.map fun(i,x)=>(i,a.eval x))=some arr'/\mb w (bt base okin σ h) σ sz q7 arr'/\(∀e∈q7,e.dQ=true)/\q7.length=es.length
 | [],fk,aF,es,arr,q7,H,ad,bc=>by
   cases aF
   simp only[eS] at bc;cases bc
   exact ⟨arr,rfl,H,ad,rfl⟩
 | (i,x)::ps,fk,aF,es,arr,q7,H,ad,bc=>by
   simp only[yW] at aF
   split at aF<;>try(cases aF;done)
   rename_i y C2 U h2
   cases aF
   simp only[eS] at bc
   split at bc<;>try(cases bc;done)
   rename_i og
   obtain⟨bp,cb,c7⟩:=og
   have al:=bI.ed U
   have nO:=I.RZ c7
   obtain⟨cS,_,_⟩:=al.wH nO
   have c6:(a.eval x).cells.size=sz:=by rw[<-bp,<-cS];simp
   obtain⟨arr',ao,av,aW,bR⟩:=H' bI ps C2 h2 _ _ q7 (H.set al nO bp cb) (fun e he=>by
    rcases List.mem_or_eq_of_mem_set he with he|rfl
    · exact ad e he
    · exact c7) bc
   refine⟨arr',?_,av,aW,by simpa using bR⟩
   simp only[List.map_cons,Instr.fill]
   rw[if_neg,fold_eq]
   · exact ao
   · simp only[c6,ne_eq,not_true_eq_false,decide_false,Bool.false_or,decide_eq_true_eq,Nat.not_lt]
     rw[H.1]
     have:(i+1)*sz<=es.length*sz:=Nat.mul_le_mul_right _ cb
     rw[Nat.add_mul] at this;omega
theorem Ia {ok:Nat->Prop} {z:I} {aj:Value} (aq:sr w ok σ z.cells aj.cells) (ai2:0<z.cells.length) (n:Nat):
 mb w ok σ z.cells.length (List.replicate n z) (madeCells aj.cells (n*z.cells.length)):=by
 refine⟨by simp[madeCells],fun i ab=>?_⟩
 have bY:i<n:=by simpa using ab
 simp only[List.getElem_replicate]
 refine⟨trivial,fun j aC ag=>?_⟩
 have e:(madeCells aj.cells (n*z.cells.length))[i*z.cells.length+j]=aj.cells[j]'(by rw[aq.1];exact aC):=by
  simp only[madeCells,Array.getElem_map,Array.getElem_range]
  have:(i*z.cells.length+j)%aj.cells.size=j:=by
   rw[aq.1,Nat.add_comm,Nat.add_mul_mod_self_right];exact Nat.mod_eq_of_lt aC
  rw[this]
  exact getElem!_pos _ _ _
 rw[e]
 exact aq.2 j aC _
theorem R1 (H:cJ base okin σ h w) (bI:ki G (bt base okin σ h) σ w F a) {t:TypeId} {n:Nat} {ps:Array (Nat × Operand)} {ma:kf} (J:fY P (.buildSlice t n ps)=some ma) {aZ r:Nat} {v:I} {h':ah} {c:eb}
 (he:evalOp aZ r (aT.ev G F) h ma=some (v,h',c)):
 h'=h/\∃cv aQ,(Instr.buildSlice t n (ps.map fun(i,x)=>(i,a.eval x))).run P w= .ok cv aQ/\Prog base okin σ h w σ h aQ/\cJ base okin σ h aQ/\a5 aQ (bt base okin σ h) σ v cv:=by
 simp only[fY] at J
 split at J<;>try(cases J;done)
 rename_i e hu
 split at J<;>try(cases J;done)
 rename_i sz z fk aw aq aF
 split at J<;>try(cases J;done)
 rename_i su
 cases J
 simp only[evalOp] at he
 split at he<;>try(cases he;done)
 rename_i og
 obtain⟨bp,cb,c7⟩:=og
 obtain⟨es,bc,he⟩:=Option.map_eq_some_iff.1 he
 cases he
 obtain⟨aj,dv,f_,y5,_,_⟩:=uz (w:=w) (σ:=σ) (ok:=bt base okin σ h) aq
 have M:=Ia (σ:=σ) f_ (by omega) n
 rw[bp] at M
 obtain⟨arr,f1,f2,f3,f4⟩:=H' bI ps.toList fk aF _ _ es M (fun e he=>by rw[List.eq_of_mem_replicate he];exact c7) bc
 have C3:Prog base okin σ h w σ h (w.alloc (.cells arr e)):=⟨fun _ _ x=>x,fun b ad az=>⟨az,Below.heap_alloc _ _ _ ad⟩,(Below.refl _ _).alloc H.base _,HS w _⟩
 have H1:cJ base okin σ h (w.alloc (.cells arr e)):=by
  refine⟨fun id b s ab=>?_,fun id ih iJ=>?_,H.inj,by simp;have:=H.base;omega⟩
  · have:=H.val id b s ab;exact ⟨this.1,by simp;omega⟩
  · obtain⟨b,s,q8,ty,ao,av,aW⟩:=H.blk id ih iJ
    refine⟨b,s,q8,ty,ao,by rw[Below.heap_alloc _ _ _ (H.val _ _ _ ao).2];exact av,fun i ab=>⟨(aW i ab).1,fun j aC=>?_⟩⟩
    obtain⟨lO,bM,cn⟩:=(aW i ab).2 j aC
    exact ⟨lO,bM,C3.rep cn⟩
 have hlen:es.length=n:=by simpa using f4
 refine⟨rfl,.slice (some ⟨w.heap.size,0,none⟩) n n,_,?_,C3,H1,?_⟩
 · have R2:¬2^24<n*sz:=by omega
   have wK:Instr.fill (fun i=>some (i*sz,sz)) (madeCells aj.cells (n*sz)) (List.map (fun x=>(x.fst,a.eval x.snd)) ps.toList)=some arr:=f1
   unfold madeCells at wK
   by_cases aD:n*sz=0
   · have bK:Array.range (n*sz)= #[]:=by rw[aD];rfl
     rw[bK] at wK
     simp only[List.map_toArray,List.map_nil] at wK
     simp[Instr.buildSlice,run_underlying hu,run_sizeOf aw,aD,newRow,Array.range_zero',wK]
   · simp[Instr.buildSlice,run_underlying hu,run_sizeOf aw,R2,aD,dv,wK,newRow]
 · refine .val _ _ ?_
   have:=dq.sl (w:=w.alloc (.cells arr e)) (ok:=bt base okin σ h) es true (some ⟨w.heap.size,0,none⟩) es.length sz (fun i j=>(arr[i*sz+j]?).getD undef) (Nat.le_refl _) (fun _=>rfl) (fun i ab=>(f2.2 i ab).1)
    (fun i j ab aC=>?_) (fun _=>rfl) (fun i ab j aC=>?_)
   · rw[hlen] at this;exact this
   · refine⟨_,rfl,.inr ⟨H.base,fun id s nP ay=>?_⟩,?_⟩
     · have:=(H.val _ _ _ nP).2;simp at this
     · rw[p4,Nat.zero_add]
       have bG:=o5 ab aC
       have:i*sz+j<arr.size:=by rw[f2.1];exact bG
       show World.cell? _ _=some ((arr[i*sz+j]?).getD undef)
       rw[Array.getElem?_eq_getElem this]
       show World.cell? (w.alloc (.cells arr e)) ⟨w.heap.size,i*sz+j,none⟩=_
       rw[World.cell?_alloc_new]
       exact Array.getElem?_eq_getElem this
   · have c6:=(f2.2 i ab).1
     have bG:=o5 ab (show j<sz by omega)
     have ag:i*sz+j<arr.size:=by rw[f2.1];exact bG
     show dq _ _ _ ((arr[i*sz+j]?).getD undef)
     rw[Array.getElem?_eq_getElem ag]
     refine dq.H_ (C3.rep ((f2.2 i ab).2 j aC ag)) ?_
     have:=f3 _ (List.getElem_mem ab)
     exact List.all_eq_true.1 this _ (List.getElem_mem aC)
theorem R3 (H:cJ base okin σ h w) (bI:ki G (bt base okin σ h) σ w F a) {r:Nat} (aR:σ r=none) {t:TypeId} {X Y:Operand} {ma:kf} (J:fY P (.makeSlice t X Y)=some ma) {aZ:Nat} {v:I} {h':ah} {c:eb}
 (he:evalOp aZ r (aT.ev G F) h ma=some (v,h',c)):
 ∃bg cv aQ,(Instr.makeSlice t (a.eval X) (a.eval Y)).run P w= .ok cv aQ/\Prog base okin σ h w bg h' aQ/\cJ base okin bg h' aQ/\a5 aQ (bt base okin bg h') bg v cv/\∀id,id≠r->bg id=σ id:=by
 simp only[fY] at J
 split at J<;>try(cases J;done)
 rename_i e hu
 split at J<;>try(cases J;done)
 rename_i z sz bytes x y aq aw wL ae aN
 cases J
 simp only[evalOp] at he
 split at he<;>try(cases he;done)
 rename_i bp l cb e9 ay oh
 split at he<;>try(cases he;done)
 rename_i og
 obtain⟨da,db,fI,kj,wM,R4,R5⟩:=og
 cases he
 have rx:=bI.ed ae
 have ry:=bI.ed aN
 rw[ay] at rx;rw[oh] at ry
 rw[rx.jQ,ry.jQ]
 obtain⟨aj,dv,f_,y5,_,i,ab,R6⟩:=uz (w:=w) (σ:=σ) (ok:=bt base okin σ h) aq
 have uA:i.size=sz:=by
  obtain⟨i',ao,av⟩:=Option.map_eq_some_iff.1 aw
  rw[ab] at ao;cases ao;exact av
 have C4:i.bytes=bytes:=by
  obtain⟨i',ao,av⟩:=Option.map_eq_some_iff.1 wL
  rw[ab] at ao;cases ao;exact av
 have C5:e9<=e9*(bytes:Int):=by
  have ll:(1:Int)<=bytes:=by omega
  have C6:0<=e9:=by omega
  have:=Int.mul_le_mul_of_nonneg_left ll C6
  simpa using this
 have ct:=run_make (P:=P) w t e i aj hu ab R6 bp cb l e9 da db (by rw[C4,Int.mul_comm];omega) (by omega)
 have M:=Ia (σ:=σ) f_ (by omega) e9.toNat
 rw[wM] at M
 have A:=H.alloc aR (List.replicate e9.toNat z) (madeCells aj.cells (e9.toNat*i.size)) e sz (fun k ag=>by
  refine⟨(M.2 k ag).1,fun j aC=>?_⟩
  rw[uA]
  have bG:k*sz+j<(madeCells aj.cells (e9.toNat*sz)).size:=by rw[M.1];exact o5 ag (by have:=(M.2 k ag).1;omega)
  exact ⟨_,Array.getElem?_eq_getElem bG,(M.2 k ag).2 j aC bG⟩)
 refine⟨_,_,_,ct,A.2,A.1,?_,fun id bz=>by simp[au,bz]⟩
 exact .ref r 0 l.toNat e9.toNat _ e9.toNat w.heap.size sz (by simp[au]) (by omega) (Nat.le_refl _) (fun _=>⟨by simp,by
  rw[CO];simp[madeCells,uA]⟩)
end
end Go.Eng
