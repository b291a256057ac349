import Derived.Orders
import Derived.Below
import Derived.Laws.CopyRow
import Derived.Laws.MakeOwn
set_option linter.unusedSimpArgs false
set_option linter.unusedVariables false
set_option linter.unusedSectionVars false
namespace Go.Eng
open Go
inductive I where
 | undef
 | kF
 | int (k:IntKind) (n:Int)
 | bool (b:Bool)
 | str (s:ByteArray)
 | sl (xs:List I) (ex:Bool)
 | ref (id off len cap:Nat)
 | ptr (id idx cN:Nat)
 | e4 (v:I)
 | fn (f:FuncId) (first caps:List I)
 | nilfn
 | gi (id:Nat)
 | mp (aiZ:List (Int × FuncId))
 | agg (cs:List I)
 | bK (vs:List I)
 deriving Inhabited
def I.cells:I->List I
 | .agg cs=>cs
 | v=>[v]
def I.cd:I->Bool
 | .undef| .kF| .agg _| .bK _=>false
 | _=>true
def I.dP:I->Bool
 | .int .. | .bool _| .str _| .sl .. | .nilfn| .fn _ [] []=>true
 | _=>false
def I.ea (v:I):Bool:=v.cells.all I.dP
def partOf (bS:Bool) (cs:List I):Option I:=
 if bS then some (.agg cs) else match cs with
  | [c]=>if c.cd=true then some c else none
  | _=>none
def cut (cs:List I) (off sz:Nat):Option (List I):=if off+sz<=cs.length then some ((cs.drop off).take sz) else none
def eU (cs:List I) (off:Nat) (vs:List I):List I:=cs.take off++vs++cs.drop (off+vs.length)
inductive dg where
 | normal
 | exit (id:Nat)
 | ret
inductive fT where
 | ready
 | busy
 | done (e:dg)
structure ah where
 cells:Nat->Option (List I)
 shut:Nat->Bool
 next:Nat
 aV:Nat->Option fT:=fun _=>none
def au {α:Type} (f:Nat->α) (k:Nat) (v:α):Nat->α:=fun i=>if i=k then v else f i
structure aL where
 F:Nat->I
 h:ah
inductive aS where
 | t (n:Nat)
 | c (v:I)
 | g (i:Nat)
 | f (n:FuncId)
 deriving Inhabited
inductive ke where
 | mv (x:aS)
 | pick (c a b:aS)
 | alloc (z:I)
 | box (x:aS)
 | build (z:List I) (ps:List (Nat × Nat × aS))
 | bsl (sz:Nat) (z:I) (n:Nat) (ps:List (Nat × aS))
 | load (bS:Bool) (sz:Nat) (x:aS)
 | store (sz:Nat) (a v:aS)
 | bin (ty:Nat) (op:BinOp) (x y:aS)
 | eqA (neg:Bool) (n:Nat) (x y:aS)
 | un (op:UnOp) (x:aS)
 | conv (k:IntKind) (x:aS)
 | mkfn (f:FuncId) (first caps:List aS)
 | mksl (z:I) (sz bytes:Nat) (l c:aS)
 | slice (sz:Nat) (x:aS) (cw ab jN:Option aS)
 | faddr (bS:Bool) (off sz:Nat) (x:aS)
 | field (bS:Bool) (off sz:Nat) (x:aS)
 | iaddrS (sz:Nat) (x i:aS)
 | iaddrA (bS:Bool) (n sz:Nat) (x i:aS)
 | idxA (bS:Bool) (n sz:Nat) (x i:aS)
 | idxS (x i:aS)
 | extract (x:aS) (i:Nat)
 | call (f:aS) (args:List aS)
 | len (str:Bool) (x:aS)
 | mlook (x i:aS)
 | isnil (neg:Bool) (x:aS)
 | app (sz bytes:Nat) (x y:aS)
 | min (xs:List aS)
 | max (xs:List aS)
 deriving Inhabited
def aS.rd:aS->List Nat
 | .t n=>[n]
 | _=>[]
def aS.yU:Option aS->List Nat
 | some x=>x.rd
 | none=>[]
def ke.reads:ke->List Nat
 | .mv x| .box x| .load _ _ x| .un _ x| .conv _ x| .faddr _ _ _ x| .field _ _ _ x| .extract x _| .len _ x| .isnil _ x=>x.rd
 | .pick c a b=>c.rd++a.rd++b.rd
 | .alloc _=>[]
 | .build _ ps=>ps.flatMap fun p=>p.2.2.rd
 | .bsl _ _ _ ps=>ps.flatMap fun p=>p.2.rd
 | .store _ a v=>a.rd++v.rd
 | .bin _ _ x y| .eqA _ _ x y| .mksl _ _ _ x y| .iaddrS _ x y| .iaddrA _ _ _ x y| .idxA _ _ _ x y| .idxS x y| .app _ _ x y| .mlook x y=>x.rd++y.rd
 | .mkfn _ a b=>a.flatMap aS.rd++b.flatMap aS.rd
 | .slice _ x cw ab jN=>x.rd++aS.yU cw++aS.yU ab++aS.yU jN
 | .call f as=>f.rd++as.flatMap aS.rd
 | .min xs| .max xs=>xs.flatMap aS.rd
structure aU where
 dst:Option Nat
 op:ke
 guard:Option (Nat × Bool)
 deriving Inhabited
abbrev aU.m (a b:Nat):aU:=⟨some a,.mv (.t b),none⟩
abbrev aU.o (a:Nat) (o:ke):aU:=⟨some a,o,none⟩
abbrev aU.n (o:ke):aU:=⟨none,o,none⟩
abbrev aU.g (a:Nat) (o:ke) (t:Nat) (w:Bool):aU:=⟨some a,o,some (t,w)⟩
def aU.reads (e:aU):List Nat:=(match e.guard with
 | some (t,_)=>[t]
 | none=>[])++e.op.reads
def aU.apart (e f:aU):Bool:=
 (match e.dst with
  | some d=>!(f.reads.contains d)&&f.dst != some d
  | none=>true)&&
 (match f.dst with
  | some d=>!(e.reads.contains d)
  | none=>true)
inductive c2 where
 | skip
 | region (draw:Bool) (ops:List aU) (e5:List Nat)
 | seq (a b:c2)
 | cond (c:aS) (a b:c2)
 | block (id:Nat) (c:c2)
 | loop (c:c2)
 | lu (f:aS) (ps:List Nat) (dI body:c2)
 | exit (id:Nat)
 | ret
 deriving Inhabited
inductive mT where
 | tmp (t:Nat)
 | cell (t:Nat) (bS:Bool) (sz:Nat)
 deriving Inhabited
structure aO where
 body:c2
 res:List mT
 deriving Inhabited
inductive eb where
 | pure|rd|jv|wr
 | l0 (id:Nat)
 | lI (q2:Nat->Bool)
mutual
def I.beq:I->I->Bool
 | .undef,.undef=>true
 | .kF,.kF=>true
 | .int k n,.int k' Rt=>decide (k=k')&&decide (n=Rt)
 | .bool a,.bool b=>decide (a=b)
 | .str a,.str b=>decide (a=b)
 | .sl xs e,.sl ys f=>nf xs ys&&decide (e=f)
 | .ref a b c d,.ref eG kf c' o4=>decide (a=eG)&&decide (b=kf)&&decide (c=c')&&decide (d=o4)
 | .ptr a b c,.ptr eG kf c'=>decide (a=eG)&&decide (b=kf)&&decide (c=c')
 | .e4 a,.e4 b=>I.beq a b
 | .fn f a b,.fn g c d=>decide (f=g)&&nf a c&&nf b d
 | .nilfn,.nilfn=>true
 | .gi a,.gi b=>decide (a=b)
 | .mp m,.mp ng=>decide (m=ng)
 | .agg a,.agg b=>nf a b
 | .bK a,.bK b=>nf a b
 | _,_=>false
def nf:List I->List I->Bool
 | [],[]=>true
 | x::xs,y::ys=>I.beq x y&&nf xs ys
 | _,_=>false
end
mutual
theorem I.beq_eq:∀(a b:I),I.beq a b=true->a=b
 | .undef,b,h=>by cases b<;>simp_all[I.beq]
 | .kF,b,h=>by cases b<;>simp_all[I.beq]
 | .int k n,b,h=>by cases b<;>simp_all[I.beq]
 | .bool a,b,h=>by cases b<;>simp_all[I.beq]
 | .str a,b,h=>by cases b<;>simp_all[I.beq]
 | .sl xs e,b,h=>by
   cases b<;>simp only[I.beq,Bool.and_eq_true,decide_eq_true_eq,Bool.false_eq_true] at h
   rw[sm _ _ h.1,h.2]
 | .ref a b c d,x,h=>by cases x<;>simp_all[I.beq]
 | .ptr a b c,x,h=>by cases x<;>simp_all[I.beq]
 | .e4 a,b,h=>by
   cases b<;>simp only[I.beq,Bool.false_eq_true] at h
   rw[I.beq_eq _ _ h]
 | .fn f a b,x,h=>by
   cases x<;>simp only[I.beq,Bool.and_eq_true,decide_eq_true_eq,Bool.false_eq_true] at h
   rw[h.1.1,sm _ _ h.1.2,sm _ _ h.2]
 | .nilfn,b,h=>by cases b<;>simp_all[I.beq]
 | .gi a,b,h=>by cases b<;>simp_all[I.beq]
 | .mp m,b,h=>by cases b<;>simp_all[I.beq]
 | .agg a,b,h=>by
   cases b<;>simp only[I.beq,Bool.false_eq_true] at h
   rw[sm _ _ h]
 | .bK a,b,h=>by
   cases b<;>simp only[I.beq,Bool.false_eq_true] at h
   rw[sm _ _ h]
theorem sm:∀(a b:List I),nf a b=true->a=b
 | [],[],_=>rfl
 | [],_::_,h=>by simp[nf] at h
 | _::_,[],h=>by simp[nf] at h
 | x::xs,y::ys,h=>by
   simp only[nf,Bool.and_eq_true] at h
   rw[I.beq_eq _ _ h.1,sm _ _ h.2]
end
mutual
theorem I.beq_refl:∀(a:I),I.beq a a=true
 | .undef| .kF| .int _ _| .bool _| .str _| .ref _ _ _ _| .ptr _ _ _| .nilfn| .gi _| .mp _=>by simp[I.beq]
 | .sl xs e=>by simp[I.beq,o5 xs]
 | .e4 a=>by simp[I.beq,I.beq_refl a]
 | .fn f a b=>by simp[I.beq,o5 a,o5 b]
 | .agg a=>by simp[I.beq,o5 a]
 | .bK a=>by simp[I.beq,o5 a]
theorem o5:∀(a:List I),nf a a=true
 | []=>rfl
 | x::xs=>by simp[nf,I.beq_refl x,o5 xs]
end
def yV:Option (List I)->Option (List I)->Bool
 | none,none=>true
 | some a,some b=>nf a b
 | _,_=>false
theorem Ru {a b:Option (List I)} (h:yV a b=true):a=b:=by
 cases a<;>cases b<;>simp only[yV,Bool.false_eq_true] at h
 · rfl
 · rw[sm _ _ h]
theorem yW (a:Option (List I)):yV a a=true:=by
 cases a
 · rfl
 · exact o5 _
section eval
variable (G:Nat->Option I)
def aS.ev (F:Nat->I):aS->I
 | .t n=>F n
 | .c v=>v
 | .g i=>match G i with
   | some v=> .e4 v
   | none=> .undef
 | .f n=> .fn n [] []
def jb (op:BinOp) (k:IntKind) (a b:Int):Option I:=
 match op with
 | .add=>some (.int k (k.wrap (a+b)))
 | .sub=>some (.int k (k.wrap (a - b)))
 | .mul=>some (.int k (k.wrap (a*b)))
 | .quo=>if b=0 then none else some (.int k (k.wrap (a.tdiv b)))
 | .rem=>if b=0 then none else some (.int k (a.tmod b))
 | .and=>some (.int k (k.wrap ((BitVec.ofInt k.bits a&&&BitVec.ofInt k.bits b).toNat)))
 | .or=>some (.int k (k.wrap ((BitVec.ofInt k.bits a|||BitVec.ofInt k.bits b).toNat)))
 | .xor=>some (.int k (k.wrap ((BitVec.ofInt k.bits a ^^^ BitVec.ofInt k.bits b).toNat)))
 | .andNot=>some (.int k (k.wrap ((BitVec.ofInt k.bits a&&& ~~~(BitVec.ofInt k.bits b)).toNat)))
 | .eql=>some (.bool (a == b))
 | .neq=>some (.bool (a != b))
 | .lss=>some (.bool (decide (a<b)))
 | .leq=>some (.bool (decide (a<=b)))
 | .gtr=>some (.bool (decide (a>b)))
 | .geq=>some (.bool (decide (a>=b)))
 | _=>none
def iT (op:BinOp) (k:IntKind) (a b:Int):Option I:=
 if b<0 then none else
 match op with
 | .shl=>some (.int k (k.wrap (a*2^(Min.min b.toNat k.bits))))
 | .shr=>some (.int k (a.fdiv (2^(Min.min b.toNat k.bits))))
 | _=>none
def fw (ty:Nat) (op:BinOp):I->I->Option I
 | .int k a,.int k' b=>if op= .shl\/op= .shr then iT op k a b else if k=k' then jb op k a b else none
 | .bool a,.bool b=>if ty=1 then match op with
   | .eql=>some (.bool (a == b))
   | .neq=>some (.bool (!(a == b)))
   | _=>none else none
 | .str a,.str b=>match op with
   | .eql=>some (.bool (a.toList == b.toList))
   | .neq=>some (.bool (!(a.toList == b.toList)))
   | _=>none
 | _,_=>none
def fx (op:UnOp):I->Option I
 | .int k n=>match op with
   | .neg=>some (.int k (k.wrap (0 - n)))
   | .xor=>some (.int k (k.wrap ((BitVec.ofInt k.bits (if k.signed then -1 else k.max) ^^^ BitVec.ofInt k.bits n).toNat)))
   | _=>none
 | .bool b=>match op with
   | .not=>some (.bool !b)
   | _=>none
 | _=>none
def eV:List I->List I->Option Bool
 | [],[]=>some true
 | .int k a::xs,.int k' b::ys=>if k=k' then (eV xs ys).map fun r=>(a == b)&&r else none
 | _,_=>none
def eW (cells:List I) (a':aS->I):List (Nat × Nat × aS)->Option (List I)
 | []=>some cells
 | (off,size,x)::rest=>
   if (a' x).cells.length=size/\off+size<=cells.length/\((a' x).cells.all I.cd)=true then eW (eU cells off (a' x).cells) a' rest else none
def eX (sz:Nat) (es:List I) (a':aS->I):List (Nat × aS)->Option (List I)
 | []=>some es
 | (i,x)::rest=>
   if (a' x).cells.length=sz/\i<es.length/\(a' x).ea=true then eX sz (es.set i (a' x)) a' rest else none
def bound (d:Nat) (a':aS->I):Option aS->Option Nat
 | none=>some d
 | some x=>match a' x with
   | .int _ n=>if 0<=n then some n.toNat else none
   | _=>none
def elems (h:ah):I->Option (List I)
 | .sl xs _=>some xs
 | .ref id off len _=>match h.cells id with
   | some blk=>if off+len<=blk.length then some ((blk.drop off).take len) else none
   | none=>none
 | _=>none
def sizedB (sz:Nat):Option (List I)->Bool
 | some blk=>decide (0<blk.length)&&blk.all fun e=>e.cells.length == sz
 | none=>false
def kG:I->Bool
 | .sl .. =>true
 | _=>false
def dE (h:ah):I->Option (I × List Nat)
 | .ref id off len _=>match h.cells id with
   | some blk=>if off+len<=blk.length/\(blk.all I.ea)=true then some (.sl ((blk.drop off).take len) false,[id]) else none
   | none=>none
 | .int k n=>some (.int k n,[])
 | .bool b=>some (.bool b,[])
 | .str s=>some (.str s,[])
 | .sl xs e=>some (.sl xs e,[])
 | .nilfn=>some (.nilfn,[])
 | .mp m=>some (.mp m,[])
 | _=>none
def eu (h:ah):List I->Option (List I × List Nat)
 | []=>some ([],[])
 | v::vs=>match dE h v,eu h vs with
   | some (kg,a),some (mU,b)=>some (kg::mU,a++b)
   | _,_=>none
def iU (h:ah):I->Option (I × List Nat)
 | .agg cs=>(eu h cs).map fun(jO,a)=>(.agg jO,a)
 | v=>dE h v
def eh (h:ah):List I->Option (List I × List Nat)
 | []=>some ([],[])
 | v::vs=>match iU h v,eh h vs with
   | some (kg,a),some (mU,b)=>some (kg::mU,a++b)
   | _,_=>none
def jw (h:ah):I->Option (I × List Nat)
 | .bK vs=>(eh h vs).map fun(mU,a)=>(.bK mU,a)
 | v=>iU h v
def ah.close (h:ah) (ids:List Nat):ah:={h with shut:=fun k=>h.shut k||ids.contains k}
def ah.new (h:ah) (r:Nat) (blk:List I):ah:={h with cells:=au h.cells r (some blk)}
def j2 (f:Int->Int->Int):List I->Option I
 | [.int k a]=>some (.int k a)
 | .int k a:: .int k' b::rest=>if k=k' then j2 f (.int k (f a b)::rest) else none
 | _=>none
termination_by l=>l.length
def evalOp (aZ r:Nat) (a':aS->I) (h:ah):ke->Option (I × ah × eb)
 | .mv x=>some (a' x,h,.pure)
 | .pick c a b=>match a' c with
   | .bool t=>some (if t then a' a else a' b,h,.pure)
   | _=>none
 | .alloc z=>some (.ptr r 0 0,h.new r [z],.jv)
 | .box x=>if (a' x).cells.all I.cd then some (.ptr r 0 0,h.new r [a' x],.jv) else none
 | .build z ps=>(eW z a' ps).map fun cs=>(.agg cs,h,.pure)
 | .bsl sz z n ps=>if z.cells.length=sz/\0<sz/\z.ea=true then (eX sz (List.replicate n z) a' ps).map fun es=>(.sl es true,h,.pure) else none
 | .load bS sz x=>match a' x with
   | .e4 v=>(cut v.cells 0 sz).bind fun cs=>(partOf bS cs).map fun u=>(u,h,.pure)
   | .ptr id idx cN=>(h.cells id).bind fun blk=>(blk[idx]?).bind fun e=>(cut e.cells cN sz).bind fun cs=>(partOf bS cs).map fun u=>(u,h,if id<aZ then .l0 id else .wr)
   | _=>none
 | .store sz a v=>match a' a with
   | .ptr id idx cN=>
     if h.shut id=true then none else
     (h.cells id).bind fun blk=>(blk[idx]?).bind fun e=>
       if (a' v).cells.length=sz/\cN+sz<=e.cells.length/\((a' v).cells.all I.cd)=true then
        match e with
        | .agg cs=>some (.undef,h.new id (blk.set idx (.agg (eU cs cN (a' v).cells))),.wr)
        | _=>match (a' v).cells with
          | [u]=>some (.undef,h.new id (blk.set idx u),.wr)
          | _=>none
       else none
   | _=>none
 | .bin ty op x y=>(fw ty op (a' x) (a' y)).map fun v=>(v,h,.pure)
 | .eqA neg n x y=>match a' x,a' y with
   | .agg xs,.agg ys=>if xs.length=n then (eV xs ys).map fun b=>(.bool (b != neg),h,.pure) else none
   | _,_=>none
 | .un op x=>(fx op (a' x)).map fun v=>(v,h,.pure)
 | .conv k x=>match a' x with
   | .int _ n=>some (.int k (k.wrap n),h,.pure)
   | _=>none
 | .mkfn f first caps=>some (.fn f (first.map a') (caps.map a'),h,.pure)
 | .mksl z sz bytes l c=>match a' l,a' c with
   | .int _ a,.int _ b=>
     if 0<=a/\a<=b/\b*bytes<=140737488355328/\0<bytes/\z.cells.length=sz/\0<sz/\(z.cells.all I.cd)=true
     then some (.ref r 0 a.toNat b.toNat,h.new r (List.replicate b.toNat z),.jv) else none
   | _,_=>none
 | .slice sz x cw ab jN=>match a' x with
   | .ref id off len cap=>match bound 0 a' cw,bound len a' ab,bound cap a' jN with
     | some l,some u,some m=>if l<=u/\u<=m/\m<=cap/\(l=0\/sizedB sz (h.cells id)=true) then some (.ref id (off+l) (u - l) (m - l),h,if id<aZ then .rd else .wr) else none
     | _,_,_=>none
   | .sl xs ex=>match bound 0 a' cw,bound xs.length a' ab,bound xs.length a' jN with
     | some l,some u,some m=>if l<=u/\u<=m/\m<=xs.length/\(l=0\/(xs.all fun e=>e.cells.length == sz)=true) then some (.sl ((xs.drop l).take (u - l)) ((jN.isSome||ex)&&m == u),h,.pure) else none
     | _,_,_=>none
   | _=>none
 | .faddr bS off sz x=>match a' x with
   | .e4 v=>(cut v.cells off sz).bind fun cs=>(partOf bS cs).map fun u=>(.e4 u,h,.pure)
   | .ptr id idx cN=>some (.ptr id idx (cN+off),h,.pure)
   | _=>none
 | .field bS off sz x=>match a' x with
   | .agg cs=>(cut cs off sz).bind fun cs=>(partOf bS cs).map fun u=>(u,h,.pure)
   | _=>none
 | .iaddrS sz x i=>match a' x,a' i with
   | .sl xs _,.int _ n=>if 0<=n then (xs[n.toNat]?).bind fun e=>if e.cells.length=sz then some (.e4 e,h,.pure) else none else none
   | .ref id off len _,.int _ n=>if 0<=n/\n<len/\sizedB sz (h.cells id)=true then some (.ptr id (off+n.toNat) 0,h,if id<aZ then .rd else .wr) else none
   | _,_=>none
 | .iaddrA bS n sz x i=>match a' x,a' i with
   | .e4 v,.int _ j=>if 0<=j/\j<n then (cut v.cells (j.toNat*sz) sz).bind fun cs=>(partOf bS cs).map fun u=>(.e4 u,h,.pure) else none
   | .ptr id idx cN,.int _ j=>if 0<=j/\j<n then some (.ptr id idx (cN+j.toNat*sz),h,.pure) else none
   | _,_=>none
 | .idxA bS n sz x i=>match a' x,a' i with
   | .agg cs,.int _ j=>if 0<=j/\j<n then (cut cs (j.toNat*sz) sz).bind fun cs=>(partOf bS cs).map fun u=>(u,h,.pure) else none
   | _,_=>none
 | .idxS x i=>match a' x,a' i with
   | .str s,.int _ j=>if 0<=j then (s[j.toNat]?).map fun b=>(.int .u8 b.toNat,h,.pure) else none
   | _,_=>none
 | .extract x i=>match a' x with
   | .bK vs=>(vs[i]?).map fun v=>(v,h,.pure)
   | _=>none
 | .len str x=>match a' x with
   | .sl xs _=>if str=false then some (.int .i64 xs.length,h,.pure) else none
   | .ref _ _ len _=>if str=false then some (.int .i64 len,h,.pure) else none
   | .str s=>if str=true then some (.int .i64 s.size,h,.pure) else none
   | _=>none
 | .mlook x i=>match a' x,a' i with
   | .mp m,.int .i64 n=>some (.bK [match m.lookup n with
     | some f=> .fn f [] []
     | none=> .nilfn,.bool (m.lookup n).isSome],h,.pure)
   | _,_=>none
 | .isnil neg x=>match a' x with
   | .sl xs _=>if 0<xs.length then some (.bool neg,h,.pure) else none
   | .ref _ _ len cap=>if 0<len\/0<cap then some (.bool neg,h,.pure) else none
   | _=>none
 | .app sz bytes x y=>(elems h (a' y)).bind fun ys=>
   if 0<sz/\0<bytes/\(ys.all fun e=>e.cells.length == sz&&e.cells.all I.cd)=true then
    match a' x with
    | .sl xs ex=>if ys.length=0 then some (.sl xs ex,h,if kG (a' y) then .pure else .wr) else if ex=true/\(xs.length+ys.length)*bytes<=35184372088832/\0<ys.length/\(xs.all fun e=>e.cells.length == sz)=true
        then some (.ref r 0 (xs.length+ys.length) (xs.length+ys.length),h.new r (xs++ys),if kG (a' y) then .jv else .wr) else none
    | .ref id off len cap=>if ys.length=0 then some (.ref id off len cap,h,if kG (a' y) then .pure else .wr) else if h.shut id=true then none else (h.cells id).bind fun blk=>
        if off+len<=blk.length/\(len+ys.length)*bytes<=35184372088832/\0<ys.length/\(blk.all fun e=>e.cells.length == sz)=true then
         if len+ys.length<=cap then
          if off+cap<=blk.length then some (.ref id off (len+ys.length) cap,h.new id (blk.take (off+len)++ys++blk.drop (off+len+ys.length)),.wr) else none
         else if off=0/\0<len then some (.ref r 0 (len+ys.length) (len+ys.length),{h with cells:=au (au h.cells id none) r (some (blk.take len++ys))},.wr) else none
        else none
    | _=>none
   else none
 | .min xs=>(j2 (fun a b=>if b<a then b else a) (xs.map a')).map fun v=>(v,h,.pure)
 | .max xs=>(j2 (fun a b=>if a<b then b else a) (xs.map a')).map fun v=>(v,h,.pure)
 | .call .. =>none
end eval
def cA (F:Nat->I) (d:Option Nat) (v:I):Nat->I:=
 match d with
 | some t=>au F t v
 | none=>F
def q3 (aZ:Nat) (h h':ah):Nat->Bool:=fun id=>decide (id<aZ)&&yV (h.cells id) (h'.cells id)
def kH:eb->eb->Bool
 | .pure,_|_,.pure=>true
 | .l0 id,.lI k| .lI k,.l0 id=>k id
 | .lI _,.jv=>true
 | .wr,_|_,.wr=>false
 | .lI _,_|_,.lI _=>false
 | _,_=>true
def uo (cs:List eb) (sn:List Nat):Bool:=
 cs.zipIdx.all fun(c,j)=>cs.zipIdx.all fun(d,i)=>!(decide (i<j))||(sn.getD j 0).testBit i||kH d c
section exec
variable (G:Nat->Option I) (Φ:FuncId->Option aO) (tab:FuncId->Option (List I->Option I))
def dQ (args:List I):Nat->I:=fun i=>args.getD i .undef
def eY (h:ah) (F:Nat->I):mT->Option I
 | .tmp t=>some (F t)
 | .cell t bS sz=>match F t with
   | .ptr id idx cN=>(h.cells id).bind fun blk=>(blk[idx]?).bind fun e=>(cut e.cells cN sz).bind fun cs=>partOf bS cs
   | _=>none
def dJ (h:ah) (F:Nat->I) (rs:List mT):Option I:=
 (rs.mapM (eY h F)).map fun
   | [v]=>v
   | vs=> .bK vs
inductive k2 where
 | fn (f:FuncId)
 | lv (id:Nat)
def cX (ch:k2->List I->ah->Option (I × ah)) (aZ r:Nat) (e:aU) (s:aL):Option (aL × eb):=
 match e.op with
 | .call f args=>match f.ev G s.F with
   | .fn n first caps=>match tab n with
     | some T=>match eh s.h (first++args.map (aS.ev G s.F)++caps) with
       | some (vs,ids)=>(T vs).map fun v=>(⟨cA s.F e.dst v,s.h.close ids⟩,if ids.isEmpty then .pure else if ids.all (fun i=>decide (i<aZ)) then .rd else .wr)
       | none=>none
     | none=>(ch (.fn n) (first++args.map (aS.ev G s.F)++caps) s.h).map fun(v,h')=>(⟨cA s.F e.dst v,h'⟩,.lI (q3 aZ s.h h'))
   | .gi id=>(ch (.lv id) (args.map (aS.ev G s.F)) s.h).map fun(v,h')=>(⟨cA s.F e.dst v,h'⟩,.wr)
   | _=>none
 | op=>(evalOp aZ r (aS.ev G s.F) s.h op).map fun(v,h',c)=>(⟨cA s.F e.dst v,h'⟩,c)
def cB (ch:k2->List I->ah->Option (I × ah)) (aZ r:Nat) (e:aU) (s:aL):Option (aL × eb):=
 match e.guard with
 | none=>cX G tab ch aZ r e s
 | some (t,want)=>match s.F t with
   | .bool b=>if b=want then cX G tab ch aZ r e s else some (⟨cA s.F e.dst .kF,s.h⟩,.pure)
   | .kF=>some (⟨cA s.F e.dst .kF,s.h⟩,.pure)
   | _=>none
def cT (ch:k2->List I->ah->Option (I × ah)) (aZ:Nat):List (aU × Nat)->aL->Option (aL × List eb)
 | [],s=>some (s,[])
 | (e,i)::es,s=>match cB G tab ch aZ (aZ+i) e s with
   | some (ao,c)=>(cT ch aZ es ao).map fun(CM,cs)=>(CM,c::cs)
   | none=>none
def ew (ch:k2->List I->ah->Option (I × ah)) (draw:Bool) (ops:List aU) (e5:List Nat) (s:aL):Option aL:=
 match cT G tab ch s.h.next ops.zipIdx ⟨s.F,{s.h with next:=s.h.next+ops.length}⟩ with
 | some (ao,cs)=>if !draw||uo cs e5 then some ao else none
 | none=>none
structure cJ where
 id:Nat
 F:Nat->I
 ps:List Nat
 dI:c2
 body:c2
def om (id:Nat):List cJ->Option (cJ × List cJ)
 | []=>none
 | L::Y=>if L.id=id then some (L,Y) else om id Y
def nh (F:Nat->I):List Nat->List I->(Nat->I)
 | p::ps,v::vs=>nh (au F p v) ps vs
 | _,_=>F
def ah.set (h:ah) (id:Nat) (p:Option fT):ah:={h with aV:=au h.aV id p}
def exec:Nat->List cJ->c2->aL->Option (dg × aL)
 | 0,_,_,_=>none
 | n+1,Y,c,s=>match c with
   | .skip=>some (.normal,s)
   | .ret=>some (.ret,s)
   | .exit id=>some (.exit id,s)
   | .region draw ops e5=>(ew G tab
       (fun t args h=>match t with
         | .fn f=>match Φ f with
           | some fn=>match exec n Y fn.body ⟨dQ args,h⟩ with
             | some (.normal,ao)|some (.ret,ao)=>(dJ ao.h ao.F fn.res).map fun v=>(v,ao.h)
             | _=>none
           | none=>none
         | .lv id=>match om id Y with
           | some (L,Y')=>if L.ps.length=args.length then
              match exec n Y' L.dI ⟨nh L.F L.ps args,h⟩ with
              | some (.normal,s1)=>match s1.h.aV id with
                | some .ready=>match exec n Y' L.body ⟨s1.F,s1.h.set id (some .busy)⟩ with
                  | some (e,ao)=>match ao.h.aV id with
                    | some .busy=>match e with
                      | .normal=>some (.bool true,ao.h.set id (some .ready))
                      | e=>some (.bool false,ao.h.set id (some (.done e)))
                    | _=>none
                  | none=>none
                | _=>none
              | _=>none
             else none
           | none=>none) draw ops e5 s).map fun ao=>(.normal,ao)
   | .seq a b=>match exec n Y a s with
     | some (.normal,ao)=>exec n Y b ao
     | r=>r
   | .cond x a b=>match x.ev G s.F with
     | .bool t=>if t then exec n Y a s else exec n Y b s
     | _=>none
   | .block id b=>match exec n Y b s with
     | some (.exit i,ao)=>if i=id then some (.normal,ao) else some (.exit i,ao)
     | r=>r
   | .loop b=>match exec n Y b s with
     | some (.normal,ao)=>exec n Y (.loop b) ao
     | r=>r
   | .lu f ps dI body=>match f.ev G s.F with
     | .fn g first caps=>match Φ g with
       | some fn=>match exec n (⟨s.h.next,s.F,ps,dI,body⟩::Y) fn.body ⟨dQ (first++ [.gi s.h.next]++caps),{s.h with next:=s.h.next+1,aV:=au s.h.aV s.h.next (some .ready)}⟩ with
         | some (.normal,ao)|some (.ret,ao)=>match dJ ao.h ao.F fn.res with
           | some _=>match ao.h.aV s.h.next with
             | some .ready=>some (.normal,⟨s.F,ao.h.set s.h.next none⟩)
             | some (.done e)=>some (e,⟨s.F,ao.h.set s.h.next none⟩)
             | _=>none
           | none=>none
         | _=>none
       | none=>none
     | _=>none
def yX (n:Nat) (Y:List cJ) (f:FuncId) (args:List I) (h:ah):Option (I × ah):=
 match Φ f with
 | some fn=>match exec G Φ tab n Y fn.body ⟨dQ args,h⟩ with
   | some (.normal,ao)|some (.ret,ao)=>(dJ ao.h ao.F fn.res).map fun v=>(v,ao.h)
   | _=>none
 | none=>none
def aG:ah:={cells:=fun _=>none,shut:=fun _=>false,next:=0}
def mV (n:Nat) (f:FuncId) (args:List I):Option I:=
 (yX G Φ tab n [] f args aG).bind fun(v,h)=>(jw h v).map (·.1)
end exec
end Go.Eng
namespace Go.Eng
open Go
def q4:Value->Option I
 | .int k n=>some (.int k n)
 | .bool b=>some (.bool b)
 | .string s=>some (.str s)
 | .slice none 0 0=>some (.sl [] true)
 | .nilFunc=>some .nilfn
 | _=>none
def yY:List Value->Option (List I)
 | []=>some []
 | v::vs=>match q4 v,yY vs with
   | some a,some as=>some (a::as)
   | _,_=>none
def q5:Value->Option I
 | .agg cs=>(yY cs.toList).map .agg
 | v=>q4 v
def en:Operand->Option aS
 | .tmp t=>some (.t t)
 | .const v=>(q5 v).map .c
 | .global g=>some (.g g)
 | .func f=>some (.f f)
def pW:List Operand->Option (List aS)
 | []=>some []
 | x::xs=>match en x,pW xs with
   | some a,some as=>some (a::as)
   | _,_=>none
def so:Option Operand->Option (Option aS)
 | none=>some none
 | some x=>(en x).map some
section
variable (P:Program)
def jl (t:TypeId):Option Nat:=(P.info? t).map (·.size)
def CN (t:TypeId):Option Nat:=(P.info? t).map (·.bytes)
def zeroOf (t:TypeId):Option I:=(P.info? t).bind fun i=>i.zero.bind q5
def ni (t:TypeId):Option Bool:=
 match P.underlying t with
 | some (.struct _)|some (.array _ _)=>some true
 | some _=>some false
 | none=>none
def yZ (b9:Array Field):List (Nat × Operand)->Option (List (Nat × Nat × aS))
 | []=>some []
 | (i,x)::r=>match b9[i]?,en x,yZ b9 r with
   | some f,some y,some ps=>match jl P f.type with
     | some s=>some ((f.offset,s,y)::ps)
     | none=>none
   | _,_,_=>none
def CO (b9:List Field):Bool:=b9.all fun f=>(jl P f.type).isSome
def y2 (s:Nat):List (Nat × Operand)->Option (List (Nat × Nat × aS))
 | []=>some []
 | (i,x)::r=>match en x,y2 s r with
   | some y,some ps=>some ((i*s,s,y)::ps)
   | _,_=>none
def y3:List (Nat × Operand)->Option (List (Nat × aS))
 | []=>some []
 | (i,x)::r=>match en x,y3 r with
   | some y,some ps=>some ((i,y)::ps)
   | _,_=>none
def fU:Op->Option ke
 | .move x| .assign x=>(en x).map .mv
 | .pick c a b=>match en c,en a,en b with
   | some c,some a,some b=>some (.pick c a b)
   | _,_,_=>none
 | .alloc e=>(zeroOf P e).map .alloc
 | .box _ x=>(en x).map .box
 | .build t ps=>match P.underlying t,zeroOf P t with
   | some (.struct b9),some z=>if CO P b9.toList then (yZ P b9 ps.toList).map (.build z.cells) else none
   | some (.array _ e),some z=>match jl P e with
     | some s=>(y2 s ps.toList).map (.build z.cells)
     | none=>none
   | _,_=>none
 | .buildSlice t n ps=>match P.underlying t with
   | some (.slice e)=>match jl P e,zeroOf P e,y3 ps.toList with
     | some s,some z,some ps=>if n*s<=2^24 then some (.bsl s z n ps) else none
     | _,_,_=>none
   | _=>none
 | .load t x=>match ni P t,jl P t,en x with
   | some bS,some s,some x=>if bS||s == 1 then some (.load bS s x) else none
   | _,_,_=>none
 | .store t a v=>match jl P t,en a,en v with
   | some s,some a,some v=>some (.store s a v)
   | _,_,_=>none
 | .binOp op t x y _=>match en x,en y with
   | some kI,some o6=>match P.underlying t with
     | some (.int _)=>some (.bin 0 op kI o6)
     | some .bool=>some (.bin 1 op kI o6)
     | some .string=>some (.bin 2 op kI o6)
     | some (.array n e)=>match P.underlying e,jl P e with
       | some (.int _),some 1=>if op= .eql then some (.eqA false n kI o6) else if op= .neq then some (.eqA true n kI o6) else none
       | _,_=>none
     | some (.slice _)=>match o6 with
       | .c (.sl [] true)=>if op= .eql then some (.isnil false kI) else if op= .neq then some (.isnil true kI) else none
       | _=>none
     | _=>none
   | _,_=>none
 | .lookup t x i true=>match P.underlying t with
   | some (.map k e)=>match P.underlying k,zeroOf P e,en x,en i with
     | some (.int .i64),some .nilfn,some x,some i=>some (.mlook x i)
     | _,_,_,_=>none
   | _=>none
 | .unOp op _ x=>(en x).map (.un op)
 | .convert s d x=>match P.underlying s,P.underlying d,en x with
   | some (.int _),some (.int k),some x=>some (.conv k x)
   | _,_,_=>none
 | .makeFunc (.func f) first caps=>match pW first.toList,pW caps.toList with
   | some a,some b=>some (.mkfn f a b)
   | _,_=>none
 | .makeSlice t l c=>match P.underlying t with
   | some (.slice e)=>match zeroOf P e,jl P e,CN P e,en l,en c with
     | some z,some s,some b,some l,some c=>some (.mksl z s b l c)
     | _,_,_,_,_=>none
   | _=>none
 | .slice t x cw ab jN=>match P.underlying t with
   | some (.slice e)=>match jl P e,en x,so cw,so ab,so jN with
     | some s,some x,some cw,some ab,some jN=>if jN.isSome&&ab.isNone then none else some (.slice s x cw ab jN)
     | _,_,_,_,_=>none
   | _=>none
 | .fieldAddr s x f=>match P.underlying s with
   | some (.struct b9)=>match b9[f]? with
     | some f=>match ni P f.type,jl P f.type,en x with
       | some bS,some sz,some x=>if sz=0 then none else some (.faddr bS f.offset sz x)
       | _,_,_=>none
     | none=>none
   | _=>none
 | .field s x f=>match P.underlying s with
   | some (.struct b9)=>match b9[f]? with
     | some f=>match ni P f.type,jl P f.type,en x with
       | some bS,some sz,some x=>if bS||sz == 1 then some (.field bS f.offset sz x) else none
       | _,_,_=>none
     | none=>none
   | _=>none
 | .indexAddr t x i=>match P.underlying t with
   | some (.slice e)=>match jl P e,en x,en i with
     | some s,some x,some i=>some (.iaddrS s x i)
     | _,_,_=>none
   | some (.array n e)=>match ni P e,jl P e,en x,en i with
     | some bS,some s,some x,some i=>some (.iaddrA bS n s x i)
     | _,_,_,_=>none
   | _=>none
 | .index t x i=>match P.underlying t with
   | some (.array n e)=>match ni P e,jl P e,en x,en i with
     | some bS,some s,some x,some i=>if bS||s == 1 then some (.idxA bS n s x i) else none
     | _,_,_,_=>none
   | some .string=>match en x,en i with
     | some x,some i=>some (.idxS x i)
     | _,_=>none
   | _=>none
 | .extract x i=>(en x).map fun x=> .extract x i
 | .panic _=>some (.extract (.c .undef) 0)
 | .call {callee:= .value f,args,..}=>match en f,pW args.toList with
   | some f,some as=>some (.call f as)
   | _,_=>none
 | .call {callee:= .builtin .len,args,argTypes}=>match argTypes[0]?,args.toList with
   | some t,[x]=>match P.underlying t,en x with
     | some (.slice _),some x=>some (.len false x)
     | some .string,some x=>some (.len true x)
     | _,_=>none
   | _,_=>none
 | .call {callee:= .builtin .append,args,argTypes}=>match argTypes.toList,args.toList with
   | [t,u],[x,y]=>match P.underlying t,P.underlying u with
     | some (.slice e),some (.slice _)=>match jl P e,CN P e,zeroOf P e,en x,en y with
       | some s,some b,some z,some x,some y=>if z.cells.length=s then some (.app s b x y) else none
       | _,_,_,_,_=>none
     | _,_=>none
   | _,_=>none
 | .call {callee:= .builtin .min,args,..}=>(pW args.toList).map .min
 | .call {callee:= .builtin .max,args,..}=>(pW args.toList).map .max
 | _=>none
def pX (N:Nat) (ops:Array Oper) (o:Oper):Option aU:=
 if o.dst.all (fun d=>decide (d<N)) then
  match fU P o.op with
  | some op=>match o.guard with
    | none=>some ⟨o.dst,op,none⟩
    | some (j,w)=>match (ops[j]?).bind (·.dst) with
      | some d=>some ⟨o.dst,op,some (d,w)⟩
      | none=>none
  | none=>none
 else none
def wI (N:Nat) (ops:Array Oper):List Oper->Option (List aU)
 | []=>some []
 | o::os=>match pX P N ops o,wI N ops os with
   | some e,some es=>some (e::es)
   | _,_=>none
def Rv (es:List aU) (b:List Nat):Bool:=
 es.zipIdx.all fun(e,j)=>es.zipIdx.all fun(f,i)=>!(decide (i<j))||(b.getD j 0).testBit i||f.apart e
def y4 (ops:Array Oper):Bool:=ops.toList.zipIdx.all fun(o,i)=>o.after.all fun e=>!Region.binds .any e||decide (e.on<i)
def y5 (ops:Array Oper) (b:List Nat):Bool:=
 ops.toList.zipIdx.all fun(o,i)=>(List.range i).all fun k=>!((b.getD i 0).testBit k)||o.after.any fun e=>Region.binds .any e&&(e.on == k||(decide (k<e.on)&&(b.getD e.on 0).testBit k))
def gj (N:Nat):Code->Option c2
 | .skip=>some .skip
 | .region _ ops draw=>match wI P N ops ops.toList with
   | some es=>if draw then
      (let b:=(Region.before ops).toList
       if Rv es b&&y4 ops&&y5 ops b&&Region.noSelect ops then some (.region true es b) else none)
     else some (.region false es [])
   | none=>none
 | .seq a b=>match gj N a,gj N b with
   | some a,some b=>some (.seq a b)
   | _,_=>none
 | .cond c a b=>match en c,gj N a,gj N b with
   | some c,some a,some b=>some (.cond c a b)
   | _,_,_=>none
 | .block id c=>(gj N c).map (.block id)
 | .loop c=>(gj N c).map .loop
 | .rangeFunc f ps dI body=>match en f,gj N dI,gj N body with
   | some f,some a,some b=>if ps.toList.all (fun p=>decide (p<N)) then some (.lu f ps.toList a b) else none
   | _,_,_=>none
 | .exit id=>some (.exit id)
 | .ret=>some .ret
 | .scope c=>(gj N c).map (.seq .skip)
 | .label _=>some .skip
 | _=>none
def CP:ResultVar->Option mT
 | .tmp t=>some (.tmp t)
 | .cell a t=>match ni P t,jl P t with
   | some bS,some s=>if bS||s == 1 then some (.cell a bS s) else none
   | _,_=>none
def sq:List ResultVar->Option (List mT)
 | []=>some []
 | r::rs=>match CP P r,sq rs with
   | some a,some as=>some (a::as)
   | _,_=>none
def CQ (fn:Func):Option aO:=
 if fn.name == "runtime.NumGoroutine" then none else
 match fn.body with
 | some c=>match gj P fn.ntmps c,sq P fn.results.toList with
   | some b,some rs=>some ⟨b,rs⟩
   | _,_=>none
 | none=>none
def aI (f:FuncId):Option aO:=(P.funcs[f]?).bind (CQ P)
end
end Go.Eng
namespace Go.Eng
open Go Go.RowKit
inductive du (w:World) (ok:Nat->Prop):I->Value->Prop
 | int (k:IntKind) (n:Int):du w ok (.int k n) (.int k n)
 | bool (b:Bool):du w ok (.bool b) (.bool b)
 | str (s:ByteArray):du w ok (.str s) (.string s)
 | nilfn:du w ok .nilfn .nilFunc
 | fn (f:FuncId):du w ok (.fn f [] []) (.func (.func f) #[] #[])
 | mp (m:List (Int × FuncId)) (r:Nat) (es:Array MapEntry) (clock:Nat):ok r->w.heap[r]? =some (.map es clock)->es.size=m.length->
    (∀i (h:i<m.length) (h':i<es.size),es[i].key= .int .i64 m[i].1/\es[i].val= .func (.func m[i].2) #[] #[])->du w ok (.mp m) (.map (some r))
 | sl (xs:List I) (ex:Bool) (A:Option Addr) (c sz:Nat) (ey:Nat->Nat->Value):
    xs.length<=c->(ex=true->c=xs.length)->
    (∀i (h:i<xs.length),xs[i].cells.length=sz)->
    (∀i j,i<xs.length->j<sz->∃cp,A=some cp/\ok cp.block/\w.cell? (cp.add (i*sz+j))=some (ey i j))->
    (0<xs.length->A.isSome=true)->
    (∀i (h:i<xs.length) j (aB:j<xs[i].cells.length),du w ok (xs[i].cells[j]) (ey i j))->
    du w ok (.sl xs ex) (.slice A xs.length c)
 | agg (cs:List I) (vs:Array Value):vs.size=cs.length->
    (∀i (h:i<cs.length) (h':i<vs.size),du w ok cs[i] vs[i])->du w ok (.agg cs) (.agg vs)
 | bK (cs:List I) (vs:Array Value):vs.size=cs.length->
    (∀i (h:i<cs.length) (h':i<vs.size),du w ok cs[i] vs[i])->du w ok (.bK cs) (.tuple vs)
theorem Addr.q6 (a:Addr) (n:Nat):(a.add n).block=a.block:=by unfold Addr.add;split<;>rfl
def uq (w aP:World) (ok o7:Nat->Prop):Prop:=∀b o,w.heap[b]? =some o->((∃arr ty e,o= .cells arr ty e)\/∃es clock,o= .map es clock)->ok b->o7 b/\aP.heap[b]? =w.heap[b]?
theorem cells_of_cell {w:World} {cp:Addr} {v:Value} (h:w.cell? cp=some v):∃arr ty e,w.heap[cp.block]? =some (.cells arr ty e):=by
 unfold World.cell? at h
 split at h
 · rename_i arr ty e he;exact ⟨_,_,_,he⟩
 · cases h
theorem du.mono {w aP:World} {ok o7:Nat->Prop} (ag:uq w aP ok o7)
 {v:I} {cv:Value} (h:du w ok v cv):du aP o7 v cv:=by
 induction h with
 | int k n=>exact .int k n
 | bool b=>exact .bool b
 | str s=>exact .str s
 | nilfn=>exact .nilfn
 | fn f=>exact .fn f
 | mp m r es clock U h2 aA aT=>
   obtain⟨cj,ei⟩:=ag _ _ h2 (.inr ⟨_,_,rfl⟩) U
   exact .mp m r es clock cj (ei.trans h2) aA aT
 | sl xs ex A c sz ey U h2 aA aT cj ei a6=>
   refine .sl xs ex A c sz ey U h2 aA (fun i j ab aB=>?_) cj a6
   obtain⟨cp,e,ay,J⟩:=aT i j ab aB
   obtain⟨arr,ty,av,nR⟩:=cells_of_cell J
   rw[Addr.q6] at nR
   obtain⟨pY,he⟩:=ag _ _ nR (.inl ⟨_,_,_,rfl⟩) ay
   refine⟨cp,e,pY,?_⟩
   rw[<-J]
   exact World.cell?_of_block (w:=w) (by rw[Addr.q6];exact he)
 | agg cs vs az h a6=>exact .agg cs vs az a6
 | bK cs vs az h a6=>exact .bK cs vs az a6
theorem du.sr {w:World} {ok o7:Nat->Prop} (ag:∀b,b<w.heap.size->ok b->o7 b) {v:I} {cv:Value} (h:du w ok v cv):du w o7 v cv:=
 h.mono fun b o ad _ ay=>⟨ag b (by by_cases bF:b<w.heap.size;exact bF;rw[Array.getElem?_eq_none (by omega)] at ad;cases ad) ay,rfl⟩
def iK (w:World) (b:Nat):Nat:=match w.heap[b]? with
 | some (.cells arr _ _)=>arr.size
 | _=>0
inductive a4 (w:World) (ok:Nat->Prop) (σ:Nat->Option (Nat × Nat)):I->Value->Prop
 | undef (cv:Value):a4 w ok σ .undef cv
 | kF:a4 w ok σ .kF Go.undef
 | val (v:I) (cv:Value):du w ok v cv->a4 w ok σ v cv
 | ref (id off len cap:Nat) (A:Option Addr) (c b sz:Nat):σ id=some (b,sz)->len<=c->cap<=c->
    (0<c->A=some ⟨b,off*sz,none⟩/\(off+c)*sz<=iK w b)->a4 w ok σ (.ref id off len cap) (.slice A len c)
 | ptr (id idx cN b sz:Nat):σ id=some (b,sz)->a4 w ok σ (.ptr id idx cN) (.pointer (some ⟨b,idx*sz+cN,none⟩))
 | e4 (v:I) (cp:Addr) (ey:Nat->Value):
    (∀j,j<v.cells.length->ok cp.block/\w.cell? (cp.add j)=some (ey j))->
    (∀j (h:j<v.cells.length),du w ok (v.cells[j]) (ey j))->a4 w ok σ (.e4 v) (.pointer (some cp))
 | gi (id l s:Nat):σ id=some (l,s)->a4 w ok σ (.gi id) (.func (.yield l) #[] #[])
 | fn (f:FuncId) (first caps:List I) (fi cv:Array Value):fi.size=first.length->cv.size=caps.length->
    (∀i (h:i<first.length) (h':i<fi.size),a4 w ok σ first[i] fi[i])->
    (∀i (h:i<caps.length) (h':i<cv.size),a4 w ok σ caps[i] cv[i])->a4 w ok σ (.fn f first caps) (.func (.func f) fi cv)
 | agg (cs:List I) (vs:Array Value):vs.size=cs.length->
    (∀i (h:i<cs.length) (h':i<vs.size),a4 w ok σ cs[i] vs[i])->a4 w ok σ (.agg cs) (.agg vs)
 | bK (cs:List I) (vs:Array Value):vs.size=cs.length->
    (∀i (h:i<cs.length) (h':i<vs.size),a4 w ok σ cs[i] vs[i])->a4 w ok σ (.bK cs) (.tuple vs)
theorem a4.mono {w aP:World} {ok o7:Nat->Prop} {σ bd:Nat->Option (Nat × Nat)}
 (ag:uq w aP ok o7) (ax:∀id x,σ id=some x->bd id=some x)
 (ar:∀b,iK w b<=iK aP b) {v:I} {cv:Value} (h:a4 w ok σ v cv):a4 aP o7 bd v cv:=by
 induction h with
 | undef cv=>exact .undef cv
 | kF=>exact .kF
 | val v cv h=>exact .val _ _ (h.mono ag)
 | ref id off len cap A c b sz U h2 aA aT=>exact .ref id off len cap A c b sz (ax _ _ U) h2 aA (fun J=>⟨(aT J).1,Nat.le_trans (aT J).2 (ar b)⟩)
 | ptr id idx cN b sz U=>exact .ptr id idx cN b sz (ax _ _ U)
 | gi id l s U=>exact .gi id l s (ax _ _ U)
 | e4 v cp ey U h2=>
   refine .e4 v cp ey (fun j aB=>?_) (fun j aB=>(h2 j aB).mono ag)
   obtain⟨ay,J⟩:=U j aB
   obtain⟨arr,ty,av,nR⟩:=cells_of_cell J
   rw[Addr.q6] at nR
   obtain⟨pY,he⟩:=ag _ _ nR (.inl ⟨_,_,_,rfl⟩) ay
   exact ⟨pY,by rw[<-J];exact World.cell?_of_block (w:=w) (by rw[Addr.q6];exact he)⟩
 | fn f first caps fi cv U h2 aA aT Rw Rx=>exact .fn f first caps fi cv U h2 Rw Rx
 | agg cs vs az h a6=>exact .agg cs vs az a6
 | bK cs vs az h a6=>exact .bK cs vs az a6
section inversion
variable {w:World} {ok:Nat->Prop} {σ:Nat->Option (Nat × Nat)}
theorem a4.jP {k:IntKind} {n:Int} {cv:Value} (h:a4 w ok σ (.int k n) cv):cv= .int k n:=by
 cases h with
 | val _ _ h=>cases h;rfl
theorem a4.q7 {b:Bool} {cv:Value} (h:a4 w ok σ (.bool b) cv):cv= .bool b:=by
 cases h with
 | val _ _ h=>cases h;rfl
theorem a4.wJ {s:ByteArray} {cv:Value} (h:a4 w ok σ (.str s) cv):cv= .string s:=by
 cases h with
 | val _ _ h=>cases h;rfl
theorem a4.Ry {cv:Value} (h:a4 w ok σ .kF cv):cv=Go.undef:=by
 cases h with
 | val _ _ h=>cases h
 | kF=>rfl
theorem a4.Rz {cv:Value} (h:a4 w ok σ .nilfn cv):cv= .nilFunc:=by
 cases h with
 | val _ _ h=>cases h;rfl
theorem a4.HU {m:List (Int × FuncId)} {cv:Value} (h:a4 w ok σ (.mp m) cv):du w ok (.mp m) cv:=by
 cases h with
 | val _ _ h=>exact h
theorem a4.q8 {xs:List I} {ex:Bool} {cv:Value} (h:a4 w ok σ (.sl xs ex) cv):du w ok (.sl xs ex) cv:=by
 cases h with
 | val _ _ h=>exact h
theorem a4.q9 {id off len cap:Nat} {cv:Value} (h:a4 w ok σ (.ref id off len cap) cv):
 ∃A c b sz,cv= .slice A len c/\σ id=some (b,sz)/\len<=c/\cap<=c/\(0<c->A=some ⟨b,off*sz,none⟩/\(off+c)*sz<=iK w b):=by
 cases h with
 | val _ _ h=>cases h
 | ref _ _ _ _ A c b sz U h2 aA aT=>exact ⟨A,c,b,sz,rfl,U,h2,aA,aT⟩
theorem a4.wK {id idx cN:Nat} {cv:Value} (h:a4 w ok σ (.ptr id idx cN) cv):
 ∃b sz,cv= .pointer (some ⟨b,idx*sz+cN,none⟩)/\σ id=some (b,sz):=by
 cases h with
 | val _ _ h=>cases h
 | ptr _ _ _ b sz U=>exact ⟨b,sz,rfl,U⟩
theorem a4.y6 {v:I} {cv:Value} (h:a4 w ok σ (.e4 v) cv):
 ∃(cp:Addr) (ey:Nat->Value),cv= .pointer (some cp)/\(∀j,j<v.cells.length->ok cp.block/\w.cell? (cp.add j)=some (ey j))/\(∀j (h:j<v.cells.length),du w ok (v.cells[j]) (ey j)):=by
 cases h with
 | val _ _ h=>cases h
 | e4 _ cp ey U h2=>exact ⟨cp,ey,rfl,U,h2⟩
theorem a4.HV {f:FuncId} {first caps:List I} {v:Value} (h:a4 w ok σ (.fn f first caps) v):
 ∃fi cv,v= .func (.func f) fi cv/\fi.size=first.length/\cv.size=caps.length/\
  (∀i (h:i<first.length) (h':i<fi.size),a4 w ok σ first[i] fi[i])/\(∀i (h:i<caps.length) (h':i<cv.size),a4 w ok σ caps[i] cv[i]):=by
 cases h with
 | val _ _ h=>cases h;exact ⟨#[],#[],rfl,rfl,rfl,fun i h=>absurd h (Nat.not_lt_zero i),fun i h=>absurd h (Nat.not_lt_zero i)⟩
 | fn _ _ _ fi cv U h2 aA aT=>exact ⟨fi,cv,rfl,U,h2,aA,aT⟩
theorem a4.RA {id:Nat} {cv:Value} (h:a4 w ok σ (.gi id) cv):∃l s,cv= .func (.yield l) #[] #[]/\σ id=some (l,s):=by
 cases h with
 | val _ _ h=>cases h
 | gi _ l s U=>exact ⟨l,s,rfl,U⟩
theorem a4.ur {cs:List I} {v:Value} (h:a4 w ok σ (.agg cs) v):
 ∃vs,v= .agg vs/\vs.size=cs.length/\(∀i (h:i<cs.length) (h':i<vs.size),a4 w ok σ cs[i] vs[i]):=by
 cases h with
 | val _ _ h=>cases h with
   | agg _ vs U h2=>exact ⟨vs,rfl,U,fun i h h'=> .val _ _ (h2 i h h')⟩
 | agg _ vs U h2=>exact ⟨vs,rfl,U,h2⟩
theorem a4.HW {cs:List I} {v:Value} (h:a4 w ok σ (.bK cs) v):
 ∃vs,v= .tuple vs/\vs.size=cs.length/\(∀i (h:i<cs.length) (h':i<vs.size),a4 w ok σ cs[i] vs[i]):=by
 cases h with
 | val _ _ h=>cases h with
   | bK _ vs U h2=>exact ⟨vs,rfl,U,fun i h h'=> .val _ _ (h2 i h h')⟩
 | bK _ vs U h2=>exact ⟨vs,rfl,U,h2⟩
theorem a4.wL {v:I} {cv:Value} (h:a4 w ok σ v cv) (ax:v.cd=true):cv.oneCell'=true:=by
 cases h with
 | undef=>simp[I.cd] at ax
 | kF=>simp[I.cd] at ax
 | val _ _ h=>cases h<;>first|rfl|simp[I.cd] at ax
 | agg=>simp[I.cd] at ax
 | bK=>simp[I.cd] at ax
 | _=>rfl
theorem a4.cells {v:I} {cv:Value} (h:a4 w ok σ v cv) (hu:v.cells.all I.cd=true\/∃cs,v= .agg cs):
 cv.cells.size=v.cells.length/\∀i (h:i<v.cells.length) (h':i<cv.cells.size),a4 w ok σ v.cells[i] cv.cells[i]:=by
 by_cases aC:∃cs,v= .agg cs
 · obtain⟨cs,rfl⟩:=aC
   obtain⟨vs,rfl,U,h2⟩:=h.ur
   exact ⟨U,h2⟩
 · have an:v.cells= [v]:=by
    cases v<;>first|rfl|exact absurd ⟨_,rfl⟩ aC
   have ax:v.cd=true:=by
    rcases hu with hu|hu
    · rw[an] at hu;simpa using hu
    · exact absurd hu aC
   have J:cv.cells= #[cv]:=by
    have:=h.wL ax
    cases cv<;>first|rfl|simp[Value.oneCell'] at this
   rw[an,J]
   refine⟨rfl,fun i U h2=>?_⟩
   have:i=0:=by simpa using U
   subst this
   exact h
end inversion
def br (base:Nat) (okin:Nat->Prop) (σ:Nat->Option (Nat × Nat)) (h:ah) (b:Nat):Prop:=
 (b<base/\okin b)\/(base<=b/\∀id sz,σ id=some (b,sz)->(h.cells id).isSome=true->h.shut id=true)
structure cK (base:Nat) (okin:Nat->Prop) (σ:Nat->Option (Nat × Nat)) (h:ah) (w:World):Prop where
 val:∀id b sz,σ id=some (b,sz)->base<=b/\b<w.heap.size
 blk:∀id blk,h.cells id=some blk->∃b sz arr ty,σ id=some (b,sz)/\w.heap[b]? =some (.cells arr ty (0,0))/\
  ∀i (ab:i<blk.length),blk[i].cells.length=sz/\∀j (aB:j<blk[i].cells.length),∃v,arr[i*sz+j]? =some v/\a4 w (br base okin σ h) σ (blk[i].cells[j]) v
 inj:∀id iu b sz fV,(h.cells id).isSome=true->(h.cells iu).isSome=true->σ id=some (b,sz)->σ iu=some (b,fV)->id=iu
 base:base<=w.heap.size
structure Prog (base:Nat) (okin:Nat->Prop) (σ:Nat->Option (Nat × Nat)) (h:ah) (w:World) (bd:Nat->Option (Nat × Nat)) (h':ah) (aP:World):Prop where
 sub:∀id x,σ id=some x->bd id=some x
 q2:∀b,b<w.heap.size->br base okin σ h b->br base okin bd h' b/\aP.heap[b]? =w.heap[b]?
 below:Below base w aP
 grow:∀b,iK w b<=iK aP b
theorem Prog.refl (base:Nat) (okin:Nat->Prop) (σ:Nat->Option (Nat × Nat)) (h:ah) (w:World):Prog base okin σ h w σ h w:=
 ⟨fun _ _ h=>h,fun _ _ h=>⟨h,rfl⟩,Below.refl _ _,fun _=>Nat.le_refl _⟩
theorem Prog.trans {base:Nat} {okin:Nat->Prop} {σ jx pZ:Nat->Option (Nat × Nat)} {h U h2:ah} {w b7 c9:World}
 (p:Prog base okin σ h w jx U b7) (q:Prog base okin jx U b7 pZ h2 c9):Prog base okin σ h w pZ h2 c9:=
 ⟨fun id x ae=>q.sub id x (p.sub id x ae),fun b ad ay=>by
   obtain⟨j3,aq⟩:=p.q2 b ad ay
   obtain⟨dz,av⟩:=q.q2 b (Nat.lt_of_lt_of_le ad p.below.size) j3
   exact ⟨dz,av.trans aq⟩,p.below.trans q.below,fun b=>Nat.le_trans (p.grow b) (q.grow b)⟩
theorem Prog.still {base:Nat} {okin:Nat->Prop} {σ bd:Nat->Option (Nat × Nat)} {h h':ah} {w aP:World} (p:Prog base okin σ h w bd h' aP):uq w aP (br base okin σ h) (br base okin bd h'):=
 fun b o ad _ ay=>p.q2 b (by by_cases bF:b<w.heap.size;exact bF;rw[Array.getElem?_eq_none (by omega)] at ad;cases ad) ay
theorem Prog.rep {base:Nat} {okin:Nat->Prop} {σ bd:Nat->Option (Nat × Nat)} {h h':ah} {w aP:World} (p:Prog base okin σ h w bd h' aP)
 {v:I} {cv:Value} (r:a4 w (br base okin σ h) σ v cv):a4 aP (br base okin bd h') bd v cv:=r.mono p.still p.sub p.grow
end Go.Eng
namespace Go.Eng
open Go Go.RowKit
theorem HX (w:World) (o:Obj) (b:Nat):iK w b<=iK (w.alloc o) b:=by
 by_cases h:b<w.heap.size
 · unfold iK;rw[Below.heap_alloc _ _ _ h];exact Nat.le_refl _
 · unfold iK;rw[Array.getElem?_eq_none (by omega)];exact Nat.zero_le _
theorem CR (w:World) (arr:Array Value) (ty:TypeId):iK (w.alloc (.cells arr ty)) w.heap.size=arr.size:=by
 have:(w.alloc (.cells arr ty)).heap[w.heap.size]? =some (.cells arr ty):=by show (w.heap.push _)[w.heap.size]? =_;simp
 unfold iK;rw[this]
theorem HY (w:World) (g:Nat) (arr arr':Array Value) (ty:TypeId) (bI:Nat × Nat) (aY:w.heap[g]? =some (.cells arr ty bI)) (az:arr.size<=arr'.size) (b:Nat):iK w b<=iK (w.setRow g arr') b:=by
 by_cases h:b=g
 · subst h;unfold iK;rw[aY,setRow_heap _ _ _ _ _ _ aY];exact az
 · unfold iK;rw[setRow_other _ _ _ _ h];exact Nat.le_refl _
theorem RB {w aP:World} (h:Below w.heap.size w aP) (b:Nat):iK w b<=iK aP b:=by
 by_cases ad:b<w.heap.size
 · unfold iK;rw[h.block b ad];exact Nat.le_refl _
 · unfold iK;rw[Array.getElem?_eq_none (by omega)];exact Nat.zero_le _
section
variable {base:Nat} {okin:Nat->Prop} {σ:Nat->Option (Nat × Nat)} {h:ah} {w:World}
theorem cK.CS (H:cK base okin σ h w) {r:Nat} (aR:σ r=none):h.cells r=none:=by
 cases J:h.cells r with
 | none=>rfl
 | some blk=>
   obtain⟨b,sz,_,_,e,_⟩:=H.blk r blk J
   rw[aR] at e;cases e
theorem cK.alloc (H:cK base okin σ h w) {r:Nat} (aR:σ r=none) (blk:List I) (arr:Array Value) (ty:TypeId) (sz:Nat)
 (ad:∀i (ab:i<blk.length),blk[i].cells.length=sz/\∀j (aB:j<blk[i].cells.length),∃v,arr[i*sz+j]? =some v/\a4 w (br base okin σ h) σ (blk[i].cells[j]) v):
 cK base okin (au σ r (some (w.heap.size,sz))) (h.new r blk) (w.alloc (.cells arr ty))/\
 Prog base okin σ h w (au σ r (some (w.heap.size,sz))) (h.new r blk) (w.alloc (.cells arr ty)):=by
 have RC:=H.CS aR
 have sub:∀id x,σ id=some x->au σ r (some (w.heap.size,sz)) id=some x:=by
  intro id x ae
  unfold au
  by_cases e:id=r
  · subst e;rw[aR] at ae;cases ae
  · rw[if_neg e];exact ae
 have P:Prog base okin σ h w (au σ r (some (w.heap.size,sz))) (h.new r blk) (w.alloc (.cells arr ty)):=by
  refine⟨sub,fun b ad ay=>⟨?_,Below.heap_alloc _ _ _ ad⟩,(Below.refl _ _).alloc H.base _,HX w _⟩
  rcases ay with ay|⟨U,h2⟩
  · exact .inl ay
  · refine .inr ⟨U,fun id s ax az=>?_⟩
    unfold au at ax
    by_cases e:id=r
    · rw[if_pos e] at ax
      have:w.heap.size=b:=by injection ax with ax;injection ax
      omega
    · rw[if_neg e] at ax
      refine h2 id s ax ?_
      simpa[ah.new,au,e] using az
 refine⟨⟨?_,?_,?_,?_⟩,P⟩
 · intro id b s ax
   unfold au at ax
   by_cases e:id=r
   · rw[if_pos e] at ax
     injection ax with ax;injection ax with U h2
     subst U
     exact ⟨H.base,by simp⟩
   · rw[if_neg e] at ax
     obtain⟨a1,eZ⟩:=H.val id b s ax
     exact ⟨a1,by simp;omega⟩
 · intro id gk iL
   by_cases e:id=r
   · subst e
     have:blk=gk:=by simpa[ah.new,au] using iL
     subst this
     refine⟨w.heap.size,sz,arr,ty,by simp[au],by show (w.heap.push _)[w.heap.size]? =_;simp,fun i ab=>⟨(ad i ab).1,fun j aB=>?_⟩⟩
     obtain⟨v,aq,av⟩:=(ad i ab).2 j aB
     exact ⟨v,aq,P.rep av⟩
   · have p0:h.cells id=some gk:=by simpa[ah.new,au,e] using iL
     obtain⟨b,s,a,t,aq,av,aW⟩:=H.blk id gk p0
     refine⟨b,s,a,t,sub _ _ aq,?_,fun i ab=>⟨(aW i ab).1,fun j aB=>?_⟩⟩
     · rw[Below.heap_alloc _ _ _ (H.val _ _ _ aq).2];exact av
     · obtain⟨v,f1,f2⟩:=(aW i ab).2 j aB
       exact ⟨v,f1,P.rep f2⟩
 · intro id iu b s ao U h2 aq av
   by_cases e:id=r<;>by_cases e':iu=r
   · rw[e,e']
   · exfalso
     simp only[au,e,e',if_true,if_false] at aq av
     injection aq with aq;injection aq with aq _
     have:=(H.val _ _ _ av).2
     omega
   · exfalso
     simp only[au,e,e',if_true,if_false] at aq av
     injection av with av;injection av with av _
     have:=(H.val _ _ _ aq).2
     omega
   · simp only[au,e,e',if_false] at aq av
     exact H.inj id iu b s ao (by simpa[ah.new,au,e] using U) (by simpa[ah.new,au,e'] using h2) aq av
 · simp;have:=H.base;omega
theorem cK.write (H:cK base okin σ h w) {id:Nat} {blk blk':List I} {b sz:Nat} {arr arr':Array Value} {ty:TypeId} (J:h.cells id=some blk) (ax:h.shut id=false)
 (he:σ id=some (b,sz)) (aC:w.heap[b]? =some (.cells arr ty (0,0))) (su:arr.size<=arr'.size)
 (ad:∀i (ab:i<blk'.length),blk'[i].cells.length=sz/\∀j (aB:j<blk'[i].cells.length),∃v,arr'[i*sz+j]? =some v/\a4 w (br base okin σ h) σ (blk'[i].cells[j]) v):
 cK base okin σ (h.new id blk') (w.setRow b arr')/\Prog base okin σ h w σ (h.new id blk') (w.setRow b arr'):=by
 have y7:∀i,(((h.new id blk').cells i).isSome=true)↔((h.cells i).isSome=true):=by
  intro i
  by_cases e:i=id
  · subst e;simp[ah.new,au,J]
  · simp[ah.new,au,e]
 have kh:∀k,br base okin σ h k↔br base okin σ (h.new id blk') k:=by
  intro k
  unfold br
  constructor
  · rintro (a|⟨a,c⟩)
    · exact .inl a
    · exact .inr ⟨a,fun i s ab az=>c i s ab ((y7 i).1 az)⟩
  · rintro (a|⟨a,c⟩)
    · exact .inl a
    · exact .inr ⟨a,fun i s ab az=>c i s ab ((y7 i).2 az)⟩
 have wM:=H.val _ _ _ he
 have P:Prog base okin σ h w σ (h.new id blk') (w.setRow b arr'):=by
  refine⟨fun _ _ x=>x,fun k ag ay=>⟨(kh k).1 ay,?_⟩,⟨rfl,rfl,rfl,by simp,fun k ag=>setRow_other _ _ _ _ (by omega)⟩,HY _ _ _ _ _ _ aC su⟩
  refine setRow_other _ _ _ _ ?_
  rintro rfl
  rcases ay with⟨a,_⟩|⟨_,c⟩
  · omega
  · have:=c id sz he (by simp[J])
    rw[ax] at this;cases this
 refine⟨⟨?_,?_,?_,?_⟩,P⟩
 · intro i k s ab
   have:=H.val i k s ab
   exact ⟨this.1,by simpa using this.2⟩
 · intro i gk iL
   by_cases e:i=id
   · subst e
     have:blk'=gk:=by simpa[ah.new,au] using iL
     subst this
     refine⟨b,sz,arr',ty,he,setRow_heap _ _ _ _ _ _ aC,fun i ab=>⟨(ad i ab).1,fun j aB=>?_⟩⟩
     obtain⟨v,aq,av⟩:=(ad i ab).2 j aB
     exact ⟨v,aq,P.rep av⟩
   · have p0:h.cells i=some gk:=by simpa[ah.new,au,e] using iL
     obtain⟨kf,s,a,t,aq,av,aW⟩:=H.blk i gk p0
     refine⟨kf,s,a,t,aq,?_,fun i ab=>⟨(aW i ab).1,fun j aB=>?_⟩⟩
     · rw[setRow_other]
       · exact av
       · rintro rfl
         exact e (H.inj i id _ _ _ (by simp[p0]) (by simp[J]) aq he)
     · obtain⟨v,f1,f2⟩:=(aW i ab).2 j aB
       exact ⟨v,f1,P.rep f2⟩
 · intro i jc k s ao U h2 aq av
   exact H.inj i jc k s ao ((y7 i).1 U) ((y7 jc).1 h2) aq av
 · simpa using H.base
theorem cK.close (H:cK base okin σ h w) (ids:List Nat):cK base okin σ (h.close ids) w/\Prog base okin σ h w σ (h.close ids) w:=by
 have P:Prog base okin σ h w σ (h.close ids) w:=by
  refine⟨fun _ _ x=>x,fun b ad ay=>⟨?_,rfl⟩,Below.refl _ _,fun _=>Nat.le_refl _⟩
  rcases ay with ay|⟨U,h2⟩
  · exact .inl ay
  · exact .inr ⟨U,fun id s ax az=>by simp[ah.close,h2 id s ax az]⟩
 refine⟨⟨H.val,fun id gk iL=>?_,H.inj,H.base⟩,P⟩
 obtain⟨b,s,a,t,aq,av,aW⟩:=H.blk id gk iL
 refine⟨b,s,a,t,aq,av,fun i ab=>⟨(aW i ab).1,fun j aB=>?_⟩⟩
 obtain⟨v,f1,f2⟩:=(aW i ab).2 j aB
 exact ⟨v,f1,P.rep f2⟩
theorem cK.rename (H:cK base okin σ h w) {id r:Nat} {blk blk':List I} {b sz:Nat} {arr arr':Array Value} {ty:TypeId} (J:h.cells id=some blk) (ax:h.shut id=false) (aR:σ r=none)
 (he:σ id=some (b,sz)) (aC:w.heap[b]? =some (.cells arr ty (0,0))) (su:arr.size<=arr'.size)
 (ad:∀i (ab:i<blk'.length),blk'[i].cells.length=sz/\∀j (aB:j<blk'[i].cells.length),∃v,arr'[i*sz+j]? =some v/\a4 w (br base okin σ h) σ (blk'[i].cells[j]) v):
 cK base okin (au σ r (some (b,sz))) {h with cells:=au (au h.cells id none) r (some blk')} (w.setRow b arr')/\
 Prog base okin σ h w (au σ r (some (b,sz))) {h with cells:=au (au h.cells id none) r (some blk')} (w.setRow b arr'):=by
 have bP:id≠r:=by rintro rfl;rw[aR] at he;cases he
 have RC:=H.CS aR
 have wM:=H.val _ _ _ he
 have sub:∀i x,σ i=some x->au σ r (some (b,sz)) i=some x:=by
  intro i x ae
  unfold au
  by_cases e:i=r
  · subst e;rw[aR] at ae;cases ae
  · rw[if_neg e];exact ae
 have P:Prog base okin σ h w (au σ r (some (b,sz))) {h with cells:=au (au h.cells id none) r (some blk')} (w.setRow b arr'):=by
  have HZ:∀k,br base okin σ h k->k≠b:=by
   rintro k ay rfl
   rcases ay with⟨a,_⟩|⟨_,c⟩
   · omega
   · have:=c id sz he (by simp[J])
     rw[ax] at this;cases this
  refine⟨sub,fun k ag ay=>⟨?_,setRow_other _ _ _ _ (HZ k ay)⟩,⟨rfl,rfl,rfl,by simp,fun k ag=>setRow_other _ _ _ _ (by omega)⟩,HY _ _ _ _ _ _ aC su⟩
  have RD:=HZ k ay
  rcases ay with ay|⟨U,h2⟩
  · exact .inl ay
  · refine .inr ⟨U,fun i s ab az=>?_⟩
    by_cases e:i=r
    · simp only[au,e,if_true] at ab
      injection ab with ab;injection ab with ab _
      exact absurd ab.symm RD
    · simp only[au,e,if_false] at ab az
      by_cases e':i=id
      · simp[e'] at az
      · exact h2 i s ab (by simpa[e'] using az)
 refine⟨⟨?_,?_,?_,?_⟩,P⟩
 · intro i k s ab
   by_cases e:i=r
   · simp only[au,e,if_true] at ab
     injection ab with ab;injection ab with U h2
     subst U
     exact ⟨wM.1,by simpa using wM.2⟩
   · simp only[au,e,if_false] at ab
     have:=H.val i k s ab
     exact ⟨this.1,by simpa using this.2⟩
 · intro i gk iL
   by_cases e:i=r
   · subst e
     have:blk'=gk:=by simpa[au] using iL
     subst this
     refine⟨b,sz,arr',ty,by simp[au],setRow_heap _ _ _ _ _ _ aC,fun i ab=>⟨(ad i ab).1,fun j aB=>?_⟩⟩
     obtain⟨v,aq,av⟩:=(ad i ab).2 j aB
     exact ⟨v,aq,P.rep av⟩
   · by_cases e':i=id
     · simp[au,e'] at iL
       exact absurd iL.1 bP
     · have p0:h.cells i=some gk:=by simpa[au,e,e'] using iL
       obtain⟨kf,s,a,t,aq,av,aW⟩:=H.blk i gk p0
       refine⟨kf,s,a,t,sub _ _ aq,?_,fun i ab=>⟨(aW i ab).1,fun j aB=>?_⟩⟩
       · rw[setRow_other]
         · exact av
         · rintro rfl
           exact e' (H.inj i id _ _ _ (by simp[p0]) (by simp[J]) aq he)
       · obtain⟨v,f1,f2⟩:=(aW i ab).2 j aB
         exact ⟨v,f1,P.rep f2⟩
 · intro i jc k s ao U h2 aq av
   by_cases e:i=r<;>by_cases e':jc=r
   · rw[e,e']
   · exfalso
     simp only[au,e,e',if_true,if_false] at aq av h2
     by_cases sv:jc=id
     · simp[sv] at h2
     · rw[if_neg sv] at h2
       injection aq with aq;injection aq with aq _;subst aq
       exact sv (H.inj jc id _ _ _ h2 (by simp[J]) av he)
   · exfalso
     simp only[au,e,e',if_true,if_false] at aq av U
     by_cases sv:i=id
     · simp[sv] at U
     · rw[if_neg sv] at U
       injection av with av;injection av with av _;subst av
       exact sv (H.inj i id _ _ _ U (by simp[J]) aq he)
   · simp only[au,e,e',if_false] at aq av U h2
     by_cases f:i=id
     · simp[f] at U
     · by_cases p1:jc=id
       · simp[p1] at h2
       · rw[if_neg f] at U;rw[if_neg p1] at h2
         exact H.inj i jc k s ao U h2 aq av
 · simpa using H.base
end
section consts
variable {w:World} {ok:Nat->Prop}
theorem H0 {v:Value} {a:I} (h:q4 v=some a):du w ok a v/\v.cells= #[v]/\a.cells= [a]:=by
 unfold q4 at h
 split at h<;>try(cases h;done)
 · cases h;exact ⟨.int _ _,rfl,rfl⟩
 · cases h;exact ⟨.bool _,rfl,rfl⟩
 · cases h;exact ⟨.str _,rfl,rfl⟩
 · cases h
   refine⟨?_,rfl,rfl⟩
   exact .sl [] true none 0 0 (fun _ _=>undef) (by simp) (by simp) (fun i h=>absurd h (by simp)) (fun i j h=>absurd h (by simp)) (by simp) (fun i h=>absurd h (by simp))
 · cases h;exact ⟨.nilfn,rfl,rfl⟩
theorem H2:∀ {vs:List Value} {as:List I},yY vs=some as->as.length=vs.length/\∀i (h:i<as.length) (h':i<vs.length),du w ok as[i] vs[i]/\as[i].cd=true
 | [],as,h=>by cases h;exact ⟨rfl,fun i h=>absurd h (by simp)⟩
 | v::vs,as,h=>by
   simp only[yY] at h
   split at h<;>try(cases h;done)
   rename_i a CT U h2
   cases h
   obtain⟨l,r⟩:=H2 h2
   refine⟨by simp[l],fun i ab bV=>?_⟩
   cases i with
   | zero=>
     refine⟨(H0 U).1,?_⟩
     unfold q4 at U
     split at U<;>first|(cases U;done)|(cases U;rfl)
   | succ i=>exact r i (by simpa using ab) (by simpa using bV)
theorem H3 {v:Value} {a:I} (h:q5 v=some a):du w ok a v/\a.cells.all I.cd=true/\a.cells.length=v.cells.size:=by
 unfold q5 at h
 split at h
 · rename_i cs
   obtain⟨as,U,rfl⟩:=Option.map_eq_some_iff.1 h
   obtain⟨l,r⟩:=H2 (w:=w) (ok:=ok) U
   refine⟨.agg as cs (by simpa using l.symm) (fun i ab bV=>(r i ab (by simpa using bV)).1),?_,by simpa[I.cells,Value.cells] using l⟩
   simp only[I.cells,List.all_eq_true]
   intro x ae
   obtain⟨i,ab,rfl⟩:=List.getElem_of_mem ae
   exact (r i ab (by omega)).2
 · obtain⟨aq,av,aW⟩:=H0 (w:=w) (ok:=ok) h
   refine⟨aq,?_,by rw[av,aW];rfl⟩
   rw[aW]
   unfold q4 at h
   split at h<;>first|(cases h;done)|(cases h;rfl)
end consts
structure ki (G:Nat->Option I) (ok:Nat->Prop) (σ:Nat->Option (Nat × Nat)) (w:World) (F:Nat->I) (a:Act):Prop where
 slot:∀t,a4 w ok σ (F t) (a.tmps.getD t undef)
 nj:∀g v,G g=some v->a4 w ok σ (.e4 v) (.pointer (some ⟨g,0,none⟩))
theorem ki.ec {G:Nat->Option I} {ok:Nat->Prop} {σ:Nat->Option (Nat × Nat)} {w:World} {F:Nat->I} {a:Act} (h:ki G ok σ w F a)
 {x:Operand} {y:aS} (ae:en x=some y):a4 w ok σ (y.ev G F) (a.eval x):=by
 cases x with
 | tmp t=>cases ae;exact h.slot t
 | const v=>
   obtain⟨c,U,rfl⟩:=Option.map_eq_some_iff.1 ae
   exact .val _ _ (H3 U).1
 | global g=>
   cases ae
   simp only[aS.ev,Act.eval]
   split
   · exact h.nj _ _ ‹_›
   · exact .undef _
 | func f=>cases ae;exact .fn f [] [] #[] #[] rfl rfl (fun i h=>absurd h (by simp)) (fun i h=>absurd h (by simp))
end Go.Eng
namespace Go.Eng
open Go Go.RowKit
section runs
variable {P:Program} {w:World} {t:TypeId}
theorem wN {b:Bool} (h:ni P t=some b):(isAgg t).run P w= .ok b w:=by
 unfold ni at h
 unfold isAgg
 cases hu:P.underlying t with
 | none=>rw[hu] at h;cases h
 | some d=>
   rw[hu] at h
   simp only[Sem.run_bind,run_underlying hu,Result.andThen_ok]
   cases d<;>simp at h<;>subst h<;>rfl
theorem run_typeInfo {i:TypeInfo} (h:P.info? t=some i):(typeInfo t).run P w= .ok i w:=by
 simp[typeInfo,h]
theorem run_sizeOf {s:Nat} (h:jl P t=some s):(sizeOf t).run P w= .ok s w:=by
 obtain⟨i,ab,rfl⟩:=Option.map_eq_some_iff.1 h
 simp[sizeOf,run_typeInfo ab]
theorem H4 {a:I} (h:zeroOf P t=some a):∃z,(zeroValue t).run P w= .ok z w/\q5 z=some a/\∃i,P.info? t=some i/\i.zero=some z:=by
 unfold zeroOf at h
 obtain⟨i,ab,h⟩:=Option.bind_eq_some_iff.1 h
 obtain⟨z,ar,h⟩:=Option.bind_eq_some_iff.1 h
 exact ⟨z,by simp[zeroValue,run_typeInfo ab,ar],h,i,ab,ar⟩
end runs
theorem I.wO (cs:List I):(I.agg cs).cells=cs:=rfl
theorem uu {cs jO:List I} {off sz:Nat} (h:cut cs off sz=some jO):off+sz<=cs.length/\jO.length=sz/\∀j (aB:j<jO.length) (ks:off+j<cs.length),jO[j]=cs[off+j]:=by
 unfold cut at h
 split at h
 · cases h
   refine⟨‹_›,by simp;omega,fun j aB ks=>by simp⟩
 · cases h
theorem CU {bS:Bool} {cs:List I} {u:I} (h:partOf bS cs=some u):(bS=true/\u= .agg cs)\/(bS=false/\cs= [u]/\u.cd=true):=by
 unfold partOf at h
 cases bS with
 | true=>exact .inl ⟨rfl,by simpa using h.symm⟩
 | false=>
   simp only[Bool.false_eq_true,if_false] at h
   split at h
   · split at h
     · cases h;exact .inr ⟨rfl,rfl,‹_›⟩
     · cases h
   · cases h
theorem p2 (b x j:Nat):(⟨b,x,none⟩:Addr).add j=⟨b,x+j,none⟩:=by
 unfold Addr.add;split<;>simp_all
theorem add_add (a:Addr) (i j:Nat) (h:a.spot=none\/0<i+j):(a.add i).add j=a.add (i+j):=by
 cases a with
 | mk b o s=>
   unfold Addr.add
   by_cases ab:i=0<;>by_cases aB:j=0<;>simp_all<;>omega
section ops
variable {P:Program} {base:Nat} {okin:Nat->Prop} {σ:Nat->Option (Nat × Nat)} {h:ah} {w:World}
def uv (base:Nat) (okin:Nat->Prop) (σ:Nat->Option (Nat × Nat)) (h:ah) (w:World) (r:Nat) (v:I) (h':ah) (res:Result Next):Prop:=
 ∃bd cv aP,(res= .ok (.value cv) aP\/(res= .ok .skip aP/\cv=undef))/\Prog base okin σ h w bd h' aP/\cK base okin bd h' aP/\
  a4 aP (br base okin bd h') bd v cv/\∀id,id≠r->bd id=σ id
theorem uv.pure (H:cK base okin σ h w) {r:Nat} {v:I} {cv:Value} {res:Result Next} (e:res= .ok (.value cv) w) (aR:a4 w (br base okin σ h) σ v cv):
 uv base okin σ h w r v h res:=⟨σ,cv,w,.inl e,Prog.refl ..,H,aR,fun _ _=>rfl⟩
theorem CV {ok:Nat->Prop} {t:TypeId} {bS:Bool} {sz:Nat} (dF:ni P t=some bS) (c3:jl P t=some sz) (U:(bS||sz == 1)=true) (cp:Addr) (ey:Nat->Value)
 (J:∀j,j<sz->w.cell? (cp.add j)=some (ey j)) {cs:List I} (az:cs.length=sz) (aR:∀j (aB:j<cs.length),a4 w ok σ cs[j] (ey j)) {u:I} (aF:partOf bS cs=some u):
 ∃cv,(loadVar t cp).run P w= .ok cv w/\a4 w ok σ u cv:=by
 rcases CU aF with⟨rfl,rfl⟩|⟨rfl,rfl,_⟩
 · refine⟨.agg ((List.range sz).map ey).toArray,?_,?_⟩
   · simp[loadVar,wN dF,run_sizeOf c3,run_loadCells w cp sz ey J]
   · refine .agg _ _ (by simp[az]) (fun i ab bV=>?_)
     simpa using aR i ab
 · have:sz=1:=by simpa using az.symm
   subst this
   refine⟨ey 0,?_,aR 0 (by simp)⟩
   have:=J 0 (by omega)
   have e:cp.add 0=cp:=by unfold Addr.add;simp
   rw[e] at this
   simp[loadVar,wN dF,this]
theorem cK.elem (H:cK base okin σ h w) {id idx cN sz b b_:Nat} {blk:List I} {e:I} (ad:h.cells id=some blk) (he:blk[idx]? =some e) (ax:σ id=some (b,b_))
 {cs:List I} (J:cut e.cells cN sz=some cs):
 ∃ey:Nat->Value,(∀j,j<sz->w.cell? ((⟨b,idx*b_+cN,none⟩:Addr).add j)=some (ey j))/\(∀j (aB:j<cs.length),a4 w (br base okin σ h) σ cs[j] (ey j)):=by
 obtain⟨kf,fV,arr,ty,aq,av,aW⟩:=H.blk id blk ad
 rw[ax] at aq;cases aq
 obtain⟨ab,rfl⟩:=List.getElem?_eq_some_iff.1 he
 obtain⟨b8,bQ,cF⟩:=uu J
 have hlen:=(aW idx ab).1
 refine⟨fun j=>(arr[idx*b_+(cN+j)]?).getD undef,fun j aB=>?_,fun j aB=>?_⟩
 · obtain⟨v,f1,_⟩:=(aW idx ab).2 (cN+j) (by omega)
   rw[p2]
   simp only[World.cell?,av,Option.isSome_none,Bool.false_eq_true,if_false]
   rw[Nat.add_assoc,f1];rfl
 · obtain⟨v,f1,f2⟩:=(aW idx ab).2 (cN+j) (by omega)
   rw[cF j aB (by omega)]
   show a4 w _ σ _ ((arr[idx*b_+(cN+j)]?).getD undef)
   rw[f1]
   exact f2
theorem RE (H:cK base okin σ h w) {aZ r:Nat} {t:TypeId} {bS:Bool} {sz:Nat} (dF:ni P t=some bS) (c3:jl P t=some sz) (U:(bS||sz == 1)=true)
 {G:Nat->Option I} {F:Nat->I} {x:aS} {jy:Value} (ae:a4 w (br base okin σ h) σ (x.ev G F) jy) {v:I} {h':ah} {c:eb}
 (he:evalOp aZ r (aS.ev G F) h (.load bS sz x)=some (v,h',c)):
 h'=h/\∃cv,(Instr.loadAt t jy).run P w= .ok cv w/\a4 w (br base okin σ h) σ v cv:=by
 simp only[evalOp] at he
 split at he
 · rename_i u hu
   rw[hu] at ae
   obtain⟨cp,ey,rfl,bL,cq⟩:=ae.y6
   obtain⟨cs,J,he⟩:=Option.bind_eq_some_iff.1 he
   obtain⟨p,aF,he⟩:=Option.map_eq_some_iff.1 he
   cases he
   obtain⟨b8,bQ,cF⟩:=uu J
   refine⟨rfl,?_⟩
   obtain⟨cv,aq,av⟩:=CV (P:=P) (w:=w) (σ:=σ) (ok:=br base okin σ h) dF c3 U cp ey (fun j aB=>(bL j (by omega)).2) bQ
    (fun j aB=>by rw[cF j aB (by omega)];simpa using a4.val _ _ (cq j (by omega))) aF
   exact ⟨cv,by simpa[Instr.loadAt,Instr.sureAddr] using aq,av⟩
 · rename_i id idx cN hu
   rw[hu] at ae
   obtain⟨b,b_,rfl,ax⟩:=ae.wK
   obtain⟨blk,ad,he⟩:=Option.bind_eq_some_iff.1 he
   obtain⟨e,k3,he⟩:=Option.bind_eq_some_iff.1 he
   obtain⟨cs,J,he⟩:=Option.bind_eq_some_iff.1 he
   obtain⟨p,aF,he⟩:=Option.map_eq_some_iff.1 he
   cases he
   obtain⟨b8,bQ,cF⟩:=uu J
   obtain⟨ey,bL,cq⟩:=H.elem ad k3 ax J
   refine⟨rfl,?_⟩
   obtain⟨cv,aq,av⟩:=CV (P:=P) (w:=w) (σ:=σ) (ok:=br base okin σ h) dF c3 U _ ey bL bQ cq aF
   exact ⟨cv,by simpa[Instr.loadAt,Instr.sureAddr] using aq,av⟩
 · cases he
theorem a4.wP {ok:Nat->Prop} {v:I} {cv:Value} (aR:a4 w ok σ v cv) (hu:v.cells.all I.cd=true):
 cv.cells.toList.length=v.cells.length/\(∀j (aB:j<v.cells.length) (ks:j<cv.cells.toList.length),a4 w ok σ v.cells[j] cv.cells.toList[j])/\∀x∈cv.cells.toList,x.oneCell'=true:=by
 obtain⟨aq,av⟩:=aR.cells (.inl hu)
 refine⟨by simpa using aq,fun j aB ks=>by simpa using av j aB (by simpa using ks),fun x ae=>?_⟩
 obtain⟨i,ab,rfl⟩:=List.getElem_of_mem ae
 have bV:i<v.cells.length:=by simp at ab;omega
 refine(av i bV (by simpa using ab)).wL ?_
 exact List.all_eq_true.1 hu _ (List.getElem_mem bV)
theorem y8 {cs vs:List I} {off:Nat} (h:off+vs.length<=cs.length):(eU cs off vs).length=cs.length:=by
 simp[eU];omega
theorem q_ {α:Type} {cs vs:List α} {off:Nat} (h:off+vs.length<=cs.length) (j:Nat) (aB:j<(cs.take off++vs++cs.drop (off+vs.length)).length) (ks:j<cs.length):
 (cs.take off++vs++cs.drop (off+vs.length))[j]=if cU:off<=j/\j<off+vs.length then vs[j - off]'(by omega) else cs[j]:=by
 by_cases U:j<off
 · rw[List.getElem_append_left (by simp;omega),List.getElem_append_left (by simp;omega),dif_neg (by omega)]
   simp
 · by_cases h2:j<off+vs.length
   · rw[List.getElem_append_left (by simp;omega),List.getElem_append_right (by simp;omega),dif_pos (by omega)]
     simp[Nat.min_eq_left (show off<=cs.length by omega)]
   · rw[List.getElem_append_right (by simp;omega),dif_neg (by omega)]
     have e:off+vs.length+(j -(min off cs.length+vs.length))=j:=by rw[Nat.min_eq_left (by omega)];omega
     simp[e]
theorem RF (H:cK base okin σ h w) {aZ r:Nat} {t:TypeId} {sz:Nat} (c3:jl P t=some sz)
 {G:Nat->Option I} {F:Nat->I} {x y:aS} {jy jQ:Value} (ae:a4 w (br base okin σ h) σ (x.ev G F) jy) (aQ:a4 w (br base okin σ h) σ (y.ev G F) jQ) {v:I} {h':ah} {c:eb}
 (he:evalOp aZ r (aS.ev G F) h (.store sz x y)=some (v,h',c)):
 v= .undef/\∃aP,(Instr.storeAt t jy jQ).run P w= .ok () aP/\Prog base okin σ h w σ h' aP/\cK base okin σ h' aP:=by
 simp only[evalOp] at he
 split at he
 · rename_i id idx cN hu
   rw[hu] at ae
   obtain⟨b,b_,rfl,ax⟩:=ae.wK
   split at he
   · cases he
   · rename_i c4
     have c4:h.shut id=false:=by simpa using c4
     obtain⟨blk,ad,he⟩:=Option.bind_eq_some_iff.1 he
     obtain⟨e,k3,he⟩:=Option.bind_eq_some_iff.1 he
     split at he
     · rename_i oo
       obtain⟨bu,ca,c5⟩:=oo
       obtain⟨cC,dk,lJ⟩:=aQ.wP c5
       obtain⟨kf,fV,arr,ty,aq,av,aW⟩:=H.blk id blk ad
       rw[ax] at aq;cases aq
       obtain⟨ab,rfl⟩:=List.getElem?_eq_some_iff.1 k3
       have hlen:=(aW idx ab).1
       have p3:idx*b_+(cN+sz)<=arr.size:=by
        by_cases ar:cN+sz=0
        · by_cases RG:b_=0
          · simp[RG,ar]
          · obtain⟨v0,f1,_⟩:=(aW idx ab).2 0 (by omega)
            have:=(Array.getElem?_eq_some_iff.1 f1).1
            omega
        · obtain⟨v0,f1,_⟩:=(aW idx ab).2 (cN+sz - 1) (by omega)
          have:=(Array.getElem?_eq_some_iff.1 f1).1
          omega
       have cx:(Instr.storeAt t (.pointer (some ⟨b,idx*b_+cN,none⟩)) jQ).run P w= .ok () (w.setRow b (arr.toList.take (idx*b_+cN)++jQ.cells.toList++arr.toList.drop (idx*b_+cN+jQ.cells.toList.length)).toArray):=by
        have h2:=run_storeCells_at (P:=P) b (idx*b_+cN) ty jQ.cells.toList 0 arr w av (by simp only[Nat.add_zero];rw[cC,bu];omega) lJ
        simp only[Nat.add_zero] at h2
        have bP:jQ.cells.size=sz:=by rw[<-bu,<-cC];simp
        simp[Instr.storeAt,Instr.sureAddr,storeVar,run_sizeOf c3,bP,h2]
       have key:∀e',e'.cells.length=b_->(∀j (aB:j<e'.cells.length),∃l1,(arr.toList.take (idx*b_+cN)++jQ.cells.toList++arr.toList.drop (idx*b_+cN+jQ.cells.toList.length)).toArray[idx*b_+j]? =some l1/\a4 w (br base okin σ h) σ (e'.cells[j]) l1)->
        Prog base okin σ h w σ (h.new id (blk.set idx e')) (w.setRow b (arr.toList.take (idx*b_+cN)++jQ.cells.toList++arr.toList.drop (idx*b_+cN+jQ.cells.toList.length)).toArray)/\
        cK base okin σ (h.new id (blk.set idx e')) (w.setRow b (arr.toList.take (idx*b_+cN)++jQ.cells.toList++arr.toList.drop (idx*b_+cN+jQ.cells.toList.length)).toArray):=by
        intro e' q' nk
        have:=H.write (blk':=blk.set idx e') (arr':=(arr.toList.take (idx*b_+cN)++jQ.cells.toList++arr.toList.drop (idx*b_+cN+jQ.cells.toList.length)).toArray) ad c4 ax av (by simp;omega) ?_
        · exact ⟨this.2,this.1⟩
        · intro i bV
          have CW:i<blk.length:=by simpa using bV
          by_cases wQ:i=idx
          · subst wQ
            simp only[List.getElem_set_self]
            exact ⟨q',nk⟩
          · have bP:(blk.set idx e')[i]=blk[i]:=by rw[List.getElem_set_ne (Ne.symm wQ)]
            rw[bP]
            refine⟨(aW i CW).1,fun j aB=>?_⟩
            obtain⟨v0,f1,f2⟩:=(aW i CW).2 j aB
            refine⟨v0,?_,f2⟩
            have bF:=(Array.getElem?_eq_some_iff.1 f1).1
            have l2:=(Array.getElem?_eq_some_iff.1 f1).2
            have sw:j<b_:=by have:=(aW i CW).1;omega
            have nm:¬(idx*b_+cN<=i*b_+j/\i*b_+j<idx*b_+cN+jQ.cells.toList.length):=by
             rw[cC,bu]
             rintro ⟨db,dc⟩
             rcases Nat.lt_or_gt_of_ne wQ with q|q
             · have:(i+1)*b_<=idx*b_:=Nat.mul_le_mul_right _ q
               rw[Nat.add_mul] at this;omega
             · have:(idx+1)*b_<=i*b_:=Nat.mul_le_mul_right _ q
               rw[Nat.add_mul] at this;omega
            have hle:idx*b_+cN+jQ.cells.toList.length<=arr.toList.length:=by rw[cC,bu];simp;omega
            rw[List.getElem?_toArray,List.getElem?_eq_getElem (by simp;omega),q_ hle _ _ (by simpa using bF),dif_neg nm]
            simpa using l2
       have hle:idx*b_+cN+jQ.cells.toList.length<=arr.toList.length:=by rw[cC,bu];simp;omega
       have H5:∀j (aB:j<b_),∃l1,(arr.toList.take (idx*b_+cN)++jQ.cells.toList++arr.toList.drop (idx*b_+cN+jQ.cells.toList.length)).toArray[idx*b_+j]? =some l1/\
        (∀(cU:cN<=j/\j<cN+sz),a4 w (br base okin σ h) σ ((y.ev G F).cells[j - cN]'(by omega)) l1)/\(¬(cN<=j/\j<cN+sz)->a4 w (br base okin σ h) σ (blk[idx].cells[j]'(by omega)) l1):=by
        intro j aB
        obtain⟨v0,f1,f2⟩:=(aW idx ab).2 j (by omega)
        have bF:=(Array.getElem?_eq_some_iff.1 f1).1
        have l2:=(Array.getElem?_eq_some_iff.1 f1).2
        rw[List.getElem?_toArray,List.getElem?_eq_getElem (by simp;omega)]
        refine⟨_,rfl,fun cU=>?_,fun cU=>?_⟩
        · rw[q_ hle _ _ (by simpa using bF),dif_pos (by rw[cC,bu];omega)]
          have:=dk (j - cN) (by omega) (by omega)
          have e:idx*b_+j -(idx*b_+cN)=j - cN:=by omega
          simpa[e] using this
        · rw[q_ hle _ _ (by simpa using bF),dif_neg (by rw[cC,bu];omega)]
          simp only[Array.getElem_toList]
          rw[l2];exact f2
       split at he
       · rename_i cs H6
         cases he
         refine⟨rfl,_,cx,?_⟩
         rw[H6] at hlen
         simp only[I.wO] at hlen
         have jm:cN+(y.ev G F).cells.length<=cs.length:=by omega
         refine key _ (by simp only[I.wO];rw[y8 jm];exact hlen) (fun j aB=>?_)
         have ks:j<b_:=by simp only[I.wO] at aB;rw[y8 jm] at aB;omega
         obtain⟨l1,lK,mi,CX⟩:=H5 j ks
         refine⟨l1,lK,?_⟩
         simp only[I.wO,eU]
         rw[q_ jm j _ (by omega)]
         split
         · rename_i cU;exact mi (by omega)
         · rename_i cU
           have:=CX (by omega)
           simpa[H6,I.wO] using this
       · rename_i RH
         split at he
         · rename_i u CY
           cases he
           refine⟨rfl,_,cx,?_⟩
           have nR:blk[idx].cells.length=1:=by
            cases cU:blk[idx]<;>first|rfl|exact absurd cU (RH _)
           have wR:sz=1:=by rw[<-bu,CY];rfl
           have CZ:u.cd=true:=by rw[CY] at c5;simpa using c5
           have C0:u.cells= [u]:=by cases u<;>first|rfl|simp[I.cd] at CZ
           refine key u (by rw[C0];simp;omega) (fun j aB=>?_)
           have RI:j=0:=by rw[C0] at aB;simpa using aB
           subst RI
           obtain⟨l1,lK,mi,_⟩:=H5 0 (by omega)
           refine⟨l1,lK,?_⟩
           have:=mi (by omega)
           simpa[C0,CY] using this
         · cases he
     · cases he
 · cases he
end ops
end Go.Eng
namespace Go.Eng
open Go Go.RowKit
section ops
variable {P:Program} {base:Nat} {okin:Nat->Prop} {σ:Nat->Option (Nat × Nat)} {h:ah} {w:World} {G:Nat->Option I} {F:Nat->I} {a:Act}
theorem sx (bI:ki G (br base okin σ h) σ w F a):∀ {xs:List Operand} {ys:List aS},pW xs=some ys->
 ys.length=xs.length/\∀i (ab:i<ys.length) (bV:i<xs.length),a4 w (br base okin σ h) σ (ys[i].ev G F) (a.eval xs[i])
 | [],ys,e=>by cases e;exact ⟨rfl,fun i ab=>absurd ab (by simp)⟩
 | x::xs,ys,e=>by
   simp only[pW] at e
   split at e<;>try(cases e;done)
   rename_i y ai0 U h2
   cases e
   obtain⟨l,r⟩:=sx bI h2
   refine⟨by simp[l],fun i ab bV=>?_⟩
   cases i with
   | zero=>exact bI.ec U
   | succ i=>exact r i (by simpa using ab) (by simpa using bV)
theorem H7 {ok:Nat->Prop} {t:TypeId} {bS:Bool} {sz off:Nat} (dF:ni P t=some bS) (c3:jl P t=some sz) (U:(bS||sz == 1)=true) {cs:List I} {vs:Array Value}
 (az:vs.size=cs.length) (aR:∀i (h:i<cs.length) (h':i<vs.size),a4 w ok σ cs[i] vs[i]) {jO:List I} (J:cut cs off sz=some jO) {u:I} (aF:partOf bS jO=some u):
 ∃cv,(part t vs off).run P w= .ok cv w/\a4 w ok σ u cv:=by
 obtain⟨b8,bQ,cF⟩:=uu J
 rcases CU aF with⟨rfl,rfl⟩|⟨rfl,rfl,_⟩
 · refine⟨.agg (vs.extract off (off+sz)),by simp[part,wN dF,run_sizeOf c3],?_⟩
   refine .agg _ _ (by simp;omega) (fun i ab bV=>?_)
   rw[cF i ab (by omega)]
   simpa using aR (off+i) (by omega) (by omega)
 · have o8:sz=1:=by simpa using bQ.symm
   have bF:off<vs.size:=by omega
   refine⟨vs[off],by simp[part,wN dF,bF],?_⟩
   have:=aR off (by omega) bF
   have e:=cF 0 (by simp) (by omega)
   simp only[List.getElem_cons_zero,Nat.add_zero] at e
   rw[e];exact this
def y9 (op:BinOp) (k:IntKind) (x y:Int):Sem Value:=
 match op with
 | .add| .sub| .mul=>Op.intArith op k x y
 | .quo| .rem=>Op.intDiv op k x y
 | .and| .or| .xor| .andNot=>Op.intBits op k x y
 | _=>Op.intCmp op x y
theorem RJ (op:BinOp) (k:IntKind) (x y:Int) {v:I} (ad:jb op k x y=some v):
 ∃cv,(y9 op k x y).run P w= .ok cv w/\∀ok σ,a4 w ok σ v cv:=by
 cases op<;>simp only[jb] at ad<;>first
  | (cases ad;done)
  | (cases ad;exact ⟨_,rfl,fun _ _=> .val _ _ (.int _ _)⟩)
  | (cases ad;exact ⟨_,rfl,fun _ _=> .val _ _ (.bool _)⟩)
  | (split at ad
     · cases ad
     · cases ad;rename_i ar;exact ⟨_,by simp[y9,Op.intDiv,ar],fun _ _=> .val _ _ (.int _ _)⟩)
theorem C1 (ty:Nat) (op:BinOp) (t:TypeId) (X Y:Operand) {u v r:I} {nS cv:Value} {ok:Nat->Prop} (hu:a4 w ok σ u nS) (an:a4 w ok σ v cv) (ad:fw ty op u v=some r)
 (ax:ty=1->P.underlying t=some .bool):
 ∃sy,(do eqGuard op t X Y nS cv;binOp op t nS cv:Sem Value).run P w= .ok sy w/\a4 w ok σ r sy:=by
 have aY:∀ {a b:Value},(∀c,a≠ .nilIface/\a≠ .agg c)->(eqGuard op t X Y a b).run P w= .ok () w:=by
  intro a b aC
  cases a<;>first|exact absurd rfl (aC #[]).1|exact absurd rfl (aC _).2|(cases op<;>rfl)
 unfold fw at ad
 split at ad
 · rename_i k x k' y
   obtain rfl:=hu.jP
   obtain rfl:=an.jP
   simp only[Sem.run_bind,aY (a:= .int k x) (b:= .int k' y) (fun c=>⟨by simp,by simp⟩),Result.andThen_ok]
   split at ad
   · rename_i cL
     unfold iT at ad
     split at ad
     · cases ad
     · rename_i H8
       rcases cL with rfl|rfl
       · cases ad
         exact ⟨_,by simp[binOp,Op.shift,H8],.val _ _ (.int _ _)⟩
       · cases ad
         exact ⟨_,by simp[binOp,Op.shift,H8],.val _ _ (.int _ _)⟩
   · rename_i cL
     split at ad
     · rename_i ag
       subst ag
       obtain⟨sy,aq,av⟩:=RJ (P:=P) (w:=w) op k x y ad
       refine⟨sy,?_,av _ _⟩
       have:binOp op t (.int k x) (.int k y)=y9 op k x y:=by
        cases op<;>first|exact absurd (.inl rfl) cL|exact absurd (.inr rfl) cL|simp[binOp,y9]
       rw[this];exact aq
     · cases ad
 · rename_i x y
   obtain rfl:=hu.q7
   obtain rfl:=an.q7
   split at ad<;>try(cases ad;done)
   rename_i RK
   have C2:=ax RK
   have heq:(Op.equal t (.bool x) (.bool y)).run P w= .ok (x == y) w:=by
    show (Op.equalIn (9999+1) t (.bool x) (.bool y)).run P w=_
    unfold Op.equalIn
    simp[run_underlying C2]
   simp only[Sem.run_bind,aY (a:= .bool x) (b:= .bool y) (fun c=>⟨by simp,by simp⟩),Result.andThen_ok]
   split at ad
   · cases ad
     refine⟨.bool (x == y),?_,.val _ _ (.bool _)⟩
     show (do pure (.bool (<-Op.equal t (.bool x) (.bool y))):Sem Value).run P w=_
     simp[heq]
   · cases ad
     refine⟨.bool (!(x == y)),?_,.val _ _ (.bool _)⟩
     show (do pure (.bool !(<-Op.equal t (.bool x) (.bool y))):Sem Value).run P w=_
     simp[heq]
   · cases ad
 · rename_i x y
   obtain rfl:=hu.wJ
   obtain rfl:=an.wJ
   simp only[Sem.run_bind,aY (a:= .string x) (b:= .string y) (fun c=>⟨by simp,by simp⟩),Result.andThen_ok]
   split at ad
   · cases ad
     exact ⟨.bool (x.toList == y.toList),by rw[show binOp .eql t (.string x) (.string y)=Op.stringOp .eql x y by simp[binOp]];simp[Op.stringOp],.val _ _ (.bool _)⟩
   · cases ad
     exact ⟨.bool (!(x.toList == y.toList)),by rw[show binOp .neq t (.string x) (.string y)=Op.stringOp .neq x y by simp[binOp]];simp[Op.stringOp],.val _ _ (.bool _)⟩
   · cases ad
 · cases ad
theorem RL (op:UnOp) {u r:I} {nS:Value} {ok:Nat->Prop} (hu:a4 w ok σ u nS) (ad:fx op u=some r):
 ∃sy,(Op.unary op nS).run P w= .ok sy w/\a4 w ok σ r sy:=by
 unfold fx at ad
 split at ad
 · obtain rfl:=hu.jP
   split at ad
   · cases ad;exact ⟨_,rfl,.val _ _ (.int _ _)⟩
   · cases ad;exact ⟨_,rfl,.val _ _ (.int _ _)⟩
   · cases ad
 · obtain rfl:=hu.q7
   split at ad
   · cases ad;exact ⟨_,rfl,.val _ _ (.bool _)⟩
   · cases ad
 · cases ad
theorem uw {ok:Nat->Prop} {d y:Nat} {X:Operand} {x:aS} {l:Nat} (ae:a4 w ok σ (x.ev G F) (a.eval X)) (ad:bound d (aS.ev G F) (some x)=some l) (az:l<=y) (code:BoundsCode):
 (Instr.sliceBound (a.eval X) y code).run P w= .ok l w:=by
 unfold bound at ad
 simp only at ad
 split at ad
 · rename_i k n hu
   rw[hu] at ae
   rw[ae.jP]
   split at ad
   · rename_i ak
     cases ad
     have:n<=(y:Int):=by omega
     simp[Instr.sliceBound,asIntOf,ak,this]
   · cases ad
 · cases ad
theorem ux (bI:ki G (br base okin σ h) σ w F a) {X:Option Operand} {x:Option aS} (e:so X=some x):
 (X=none/\x=none)\/∃p4 kI,X=some p4/\x=some kI/\a4 w (br base okin σ h) σ (kI.ev G F) (a.eval p4):=by
 cases X with
 | none=>cases e;exact .inl ⟨rfl,rfl⟩
 | some p4=>
   obtain⟨kI,U,rfl⟩:=Option.map_eq_some_iff.1 e
   exact .inr ⟨p4,kI,rfl,rfl,bI.ec U⟩
theorem H9 (bI:ki G (br base okin σ h) σ w F a) {cw ab jN:Option Operand} {uy bV kJ:Option aS} (aq:so cw=some uy) (av:so ab=some bV) (aW:so jN=some kJ)
 (uz:(kJ.isSome&&bV.isNone)=false) (len cap uA:Nat) (nT:cap<=uA) (ai1:kJ=none->len<=uA) {l u m:Nat} (b1:bound 0 (aS.ev G F) uy=some l) (eo:bound len (aS.ev G F) bV=some u) (k4:bound cap (aS.ev G F) kJ=some m)
 (db:l<=u) (dc:u<=m) (fK:m<=cap) (RM:Bool):
 (Instr.sliceBounds RM len uA (cw.map a.eval) (ab.map a.eval) (jN.map a.eval)).run P w= .ok (l,u,if kJ.isSome then m else uA) w:=by
 unfold Instr.sliceBounds
 rcases ux bI aW with⟨rfl,rfl⟩|⟨M,ng,rfl,rfl,fb⟩
 · have em:m=cap:=by cases k4;rfl
   rcases ux bI av with⟨rfl,rfl⟩|⟨RN,h',rfl,rfl,C3⟩
   · have H_:u=len:=by cases eo;rfl
     rcases ux bI aq with⟨rfl,rfl⟩|⟨L,l3,rfl,rfl,mW⟩
     · have el:l=0:=by cases b1;rfl
       simp[H_,el]
     · have:=uw (P:=P) (a:=a) (y:=len) mW b1 (by omega) .sliceB
       simp[this,H_]
   · have cU:=fun c=>uw (P:=P) (a:=a) (y:=uA) C3 eo (by omega) c
     rcases ux bI aq with⟨rfl,rfl⟩|⟨L,l3,rfl,rfl,mW⟩
     · have el:l=0:=by cases b1;rfl
       simp[cU,el]
     · have:=uw (P:=P) (a:=a) (y:=u) mW b1 (by omega) .sliceB
       simp[this,cU]
 · have hm:=fun c=>uw (P:=P) (a:=a) (y:=uA) fb k4 (by omega) c
   rcases ux bI av with⟨rfl,rfl⟩|⟨RN,h',rfl,rfl,C3⟩
   · simp at uz
   · have cU:=fun c=>uw (P:=P) (a:=a) (y:=m) C3 eo (by omega) c
     rcases ux bI aq with⟨rfl,rfl⟩|⟨L,l3,rfl,rfl,mW⟩
     · have el:l=0:=by cases b1;rfl
       simp[hm,cU,el]
     · have:=uw (P:=P) (a:=a) (y:=u) mW b1 (by omega) .slice3C
       simp[hm,cU,this]
end ops
end Go.Eng
namespace Go.Eng
open Go Go.RowKit
section fill
variable {P:Program} {base:Nat} {okin:Nat->Prop} {σ:Nat->Option (Nat × Nat)} {h:ah} {w:World} {G:Nat->Option I} {F:Nat->I} {a:Act}
def setFrom (cs:Array Value) (off:Nat) (l:List Value):Array Value:=(l.zipIdx 0).foldl (fun cs (c,j)=>cs.setIfInBounds (off+j) c) cs
theorem H' (l:List Value):∀(s off:Nat) (cs:Array Value),((l.zipIdx s).foldl (fun cs (c,j)=>cs.setIfInBounds (off+j) c) cs).size=cs.size/\
 ∀k (ag:k<cs.size) (j4:k<((l.zipIdx s).foldl (fun cs (c,j)=>cs.setIfInBounds (off+j) c) cs).size),
  ((l.zipIdx s).foldl (fun cs (c,j)=>cs.setIfInBounds (off+j) c) cs)[k]=if cU:off+s<=k/\k<off+s+l.length then l[k -(off+s)]'(by omega) else cs[k]:=by
 induction l with
 | nil=>intro s off cs;exact ⟨rfl,fun k ag j4=>by
   rw[dif_neg (fun cU=>by simp at cU;omega)]
   simp[List.zipIdx]⟩
 | cons v l a6=>
   intro s off cs
   have:=a6 (s+1) off (cs.setIfInBounds (off+s) v)
   refine⟨by simpa[List.zipIdx_cons] using this.1,fun k ag j4=>?_⟩
   have e:=this.2 k (by simpa using ag) (by simpa[List.zipIdx_cons] using j4)
   simp only[List.zipIdx_cons,List.foldl_cons]
   rw[e]
   by_cases U:k=off+s
   · subst U
     rw[dif_neg (by omega),dif_pos (by simp)]
     simp
   · by_cases h2:off+s<=k/\k<off+s+(v::l).length
     · have hlen:(v::l).length=l.length+1:=rfl
       rw[dif_pos (by omega),dif_pos h2]
       have:k -(off+s)=(k -(off+(s+1)))+1:=by omega
       simp[this]
     · have hlen:(v::l).length=l.length+1:=rfl
       rw[dif_neg (by omega),dif_neg h2]
       rw[Array.getElem_setIfInBounds_ne (h:=by omega)]
theorem fold_eq (cs:Array Value) (off:Nat) (v:Array Value):v.zipIdx.foldl (fun cs (c,j)=>cs.setIfInBounds (off+j) c) cs=setFrom cs off v.toList:=by
 rw[<-Array.foldl_toList,Array.toList_zipIdx];rfl
def sA (w:World) (ok:Nat->Prop) (σ:Nat->Option (Nat × Nat)) (cs:List I) (vs:Array Value):Prop:=vs.size=cs.length/\∀i (h:i<cs.length) (h':i<vs.size),a4 w ok σ cs[i] vs[i]
theorem sA.eU {ok:Nat->Prop} {cs:List I} {arr:Array Value} (J:sA w ok σ cs arr) {v:I} {cv:Value} (an:a4 w ok σ v cv) (ax:v.cells.all I.cd=true) {off:Nat} (ay:off+v.cells.length<=cs.length):
 sA w ok σ (Eng.eU cs off v.cells) (setFrom arr off cv.cells.toList):=by
 obtain⟨cC,dk,_⟩:=an.wP ax
 obtain⟨bG,ds⟩:=J
 have A:=H' cv.cells.toList 0 off arr
 refine⟨by rw[y8 ay,<-bG];exact A.1,fun i ab bV=>?_⟩
 have ab:i<cs.length:=by rw[y8 ay] at ab;exact ab
 have e:=A.2 i (by omega) bV
 show a4 w ok σ _ (((cv.cells.toList.zipIdx 0).foldl (fun cs (c,j)=>cs.setIfInBounds (off+j) c) arr)[i])
 rw[e]
 simp only[Eng.eU]
 rw[q_ ay i _ ab]
 by_cases cU:off<=i/\i<off+v.cells.length
 · rw[dif_pos cU,dif_pos (by omega)]
   exact dk _ (by omega) (by omega)
 · rw[dif_neg cU,dif_neg (by omega)]
   exact ds i ab (by omega)
theorem C4 (bI:ki G (br base okin σ h) σ w F a) (place:Nat->Option (Nat × Nat)):∀(ps:List (Nat × Operand)) (fr:List (Nat × Nat × aS)),
 (fr.length=ps.length/\∀k (ag:k<fr.length) (j4:k<ps.length),place (ps[k].1)=some (fr[k].1,fr[k].2.1)/\en (ps[k].2)=some (fr[k].2.2))->
 ∀(cs:List I) (arr:Array Value) (jO:List I),sA w (br base okin σ h) σ cs arr->eW cs (aS.ev G F) fr=some jO->
  ∃arr',Instr.fill place arr (ps.map fun(i,x)=>(i,a.eval x))=some arr'/\sA w (br base okin σ h) σ jO arr'
 | [],[],_,cs,arr,jO,J,bb=>by
   simp only[eW] at bb;cases bb
   exact ⟨arr,rfl,J⟩
 | [],_::_,aF,_,_,_,_,_=>by simp at aF
 | _::_,[],aF,_,_,_,_,_=>by simp at aF
 | (i,x)::ps,(off,size,y)::fr,aF,cs,arr,jO,J,bb=>by
   simp only[eW] at bb
   split at bb<;>try(cases bb;done)
   rename_i oo
   obtain⟨bu,ca,c5⟩:=oo
   obtain⟨a_,bn⟩:=aF
   have q:=bn 0 (by simp) (by simp)
   simp only[List.getElem_cons_zero] at q
   have an:=bI.ec q.2
   obtain⟨cC,dk,_⟩:=an.wP c5
   have c3:(a.eval x).cells.size=size:=by rw[<-bu,<-cC];simp
   obtain⟨arr',aq,av⟩:=C4 bI place ps fr ⟨by simpa using a_,fun k ag j4=>by
    have:=bn (k+1) (by simp;omega) (by simp;omega)
    simpa using this⟩ _ _ jO (J.eU an c5 (by omega)) bb
   refine⟨arr',?_,av⟩
   simp only[List.map_cons,Instr.fill,q.1]
   rw[if_neg (by simp[c3];have:=J.1;omega),fold_eq]
   exact aq
theorem Ia {b9:Array Field}:∀ {ps:List (Nat × Operand)} {fr:List (Nat × Nat × aS)},yZ P b9 ps=some fr->
 fr.length=ps.length/\∀k (ag:k<fr.length) (j4:k<ps.length),((b9[ps[k].1]?).bind fun f=>(jl P f.type).map fun s=>(f.offset,s))=some (fr[k].1,fr[k].2.1)/\en (ps[k].2)=some (fr[k].2.2)
 | [],fr,e=>by cases e;exact ⟨rfl,fun k ag=>absurd ag (by simp)⟩
 | (i,x)::r,fr,e=>by
   simp only[yZ] at e
   split at e<;>try(cases e;done)
   rename_i f y C5 U h2 aA
   split at e<;>try(cases e;done)
   rename_i s ax
   cases e
   obtain⟨l,q⟩:=Ia aA
   refine⟨by simp[l],fun k ag j4=>?_⟩
   cases k with
   | zero=>simp[U,h2,ax]
   | succ k=>exact q k (by simpa using ag) (by simpa using j4)
theorem Ib {s:Nat}:∀ {ps:List (Nat × Operand)} {fr:List (Nat × Nat × aS)},y2 s ps=some fr->
 fr.length=ps.length/\∀k (ag:k<fr.length) (j4:k<ps.length),(some (ps[k].1*s,s):Option (Nat × Nat))=some (fr[k].1,fr[k].2.1)/\en (ps[k].2)=some (fr[k].2.2)
 | [],fr,e=>by cases e;exact ⟨rfl,fun k ag=>absurd ag (by simp)⟩
 | (i,x)::r,fr,e=>by
   simp only[y2] at e
   split at e<;>try(cases e;done)
   rename_i y C5 U h2
   cases e
   obtain⟨l,q⟩:=Ib h2
   refine⟨by simp[l],fun k ag j4=>?_⟩
   cases k with
   | zero=>simp[U]
   | succ k=>exact q k (by simpa using ag) (by simpa using j4)
theorem uB {ok:Nat->Prop} {t:TypeId} {z:I} (ar:zeroOf P t=some z):∃ai,(zeroValue t).run P w= .ok ai w/\sA w ok σ z.cells ai.cells/\z.cells.all I.cd=true/\du w ok z ai/\∃i,P.info? t=some i/\i.zero=some ai:=by
 obtain⟨ai,aq,av,aW⟩:=H4 (w:=w) ar
 obtain⟨f1,f2,f3⟩:=H3 (w:=w) (ok:=ok) av
 refine⟨ai,aq,?_,f2,f1,aW⟩
 exact (a4.val (σ:=σ) _ _ f1).cells (.inl f2)
theorem RO (b9:List Field) (bb:CO P b9=true):∃pl:List (Nat × Nat),(b9.mapM (fun f=>do pure (f.offset,<-sizeOf f.type):Field->Sem (Nat × Nat))).run P w= .ok pl w/\
 ∀i:Nat,pl[i]? =(b9[i]?).bind fun f=>(jl P f.type).map fun s=>(f.offset,s):=by
 induction b9 with
 | nil=>exact ⟨[],by simp,fun i=>by simp⟩
 | cons f b9 a6=>
   simp only[CO,List.all_cons,Bool.and_eq_true] at bb
   obtain⟨s,ax⟩:=Option.isSome_iff_exists.1 bb.1
   obtain⟨pl,aq,av⟩:=a6 bb.2
   refine⟨(f.offset,s)::pl,by simp[List.mapM_cons,run_sizeOf ax] at aq|-;simp[aq],fun i=>?_⟩
   cases i with
   | zero=>simp[ax]
   | succ i=>simpa using av i
theorem RP (bI:ki G (br base okin σ h) σ w F a) {t:TypeId} {ps:Array (Nat × Operand)} {mj:ke} (J:fU P (.build t ps)=some mj) {aZ r:Nat} {v:I} {h':ah} {c:eb}
 (he:evalOp aZ r (aS.ev G F) h mj=some (v,h',c)):
 h'=h/\∃cv,(Instr.build t (ps.map fun(i,x)=>(i,a.eval x))).run P w= .ok cv w/\a4 w (br base okin σ h) σ v cv:=by
 simp only[fU] at J
 split at J
 · rename_i b9 z hu ar
   split at J<;>try(cases J;done)
   rename_i RQ
   obtain⟨fr,aF,rfl⟩:=Option.map_eq_some_iff.1 J
   simp only[evalOp] at he
   obtain⟨cs,bb,he⟩:=Option.map_eq_some_iff.1 he
   cases he
   obtain⟨ai,dA,fW,_⟩:=uB (w:=w) (σ:=σ) (ok:=br base okin σ h) ar
   obtain⟨pl,aq,av⟩:=RO (w:=w) b9.toList RQ
   obtain⟨arr',f1,f2⟩:=C4 bI (fun x=>pl[x]?) ps.toList fr (by
    obtain⟨l,q⟩:=Ia aF
    exact ⟨l,fun k ag j4=>by have:=q k ag j4;refine⟨?_,this.2⟩;rw[av];simpa using this.1⟩) _ _ cs fW bb
   refine⟨rfl,.agg arr',?_,.agg _ _ f2.1 f2.2⟩
   have RR:(b9.mapM (fun f=>do pure (f.offset,<-sizeOf f.type):Field->Sem (Nat × Nat))).run P w= .ok pl.toArray w:=by
    rw[Array.mapM_eq_mapM_toList,Sem.run_map,aq];rfl
   simp only[Instr.build,Sem.run_bind,dA,Result.andThen_ok,run_underlying hu,RR]
   have:(fun x:Nat=>pl.toArray[x]?)=fun x=>pl[x]? :=by funext x;simp
   simp only[this,Array.toList_map,f1]
   simp
 · rename_i n e z hu ar
   split at J<;>try(cases J;done)
   rename_i s ax
   obtain⟨fr,aF,rfl⟩:=Option.map_eq_some_iff.1 J
   simp only[evalOp] at he
   obtain⟨cs,bb,he⟩:=Option.map_eq_some_iff.1 he
   cases he
   obtain⟨ai,dA,fW,_⟩:=uB (w:=w) (σ:=σ) (ok:=br base okin σ h) ar
   obtain⟨arr',f1,f2⟩:=C4 bI (fun i=>some (i*s,s)) ps.toList fr (Ib aF) _ _ cs fW bb
   refine⟨rfl,.agg arr',?_,.agg _ _ f2.1 f2.2⟩
   simp only[Instr.build,Sem.run_bind,dA,Result.andThen_ok,run_underlying hu,run_sizeOf ax,Array.toList_map,f1]
   simp
 · cases J
end fill
end Go.Eng
namespace Go.Eng
open Go Go.RowKit
section
variable {P:Program} {base:Nat} {okin:Nat->Prop} {σ:Nat->Option (Nat × Nat)} {h:ah} {w:World} {G:Nat->Option I} {F:Nat->I} {a:Act}
theorem Ic (H:cK base okin σ h w) {r:Nat} (aR:σ r=none) {t:TypeId} {z:I} {ai:Value} (ar:a4 w (br base okin σ h) σ z ai) (ax:z.cells.all I.cd=true):
 ∃bd aP,(newVar t ai).run P w= .ok ⟨w.heap.size,0,none⟩ aP/\Prog base okin σ h w bd (h.new r [z]) aP/\cK base okin bd (h.new r [z]) aP/\
  a4 aP (br base okin bd (h.new r [z])) bd (.ptr r 0 0) (.pointer (some ⟨w.heap.size,0,none⟩))/\∀id,id≠r->bd id=σ id:=by
 obtain⟨b8,bQ⟩:=ar.cells (.inl ax)
 have A:=H.alloc aR [z] ai.cells t z.cells.length (fun i ab=>by
  have:i=0:=by simpa using ab
  subst this
  refine⟨rfl,fun j aB=>?_⟩
  have ks:j<z.cells.length:=aB
  refine⟨ai.cells[j]'(by omega),?_,bQ j ks (by omega)⟩
  rw[Nat.zero_mul,Nat.zero_add]
  exact Array.getElem?_eq_getElem (by omega))
 refine⟨_,_,?_,A.2,A.1,?_,?_⟩
 · simp[newVar,newRow]
 · have:=a4.ptr (w:=w.alloc (.cells ai.cells t)) (ok:=br base okin (au σ r (some (w.heap.size,z.cells.length))) (h.new r [z])) (σ:=au σ r (some (w.heap.size,z.cells.length))) r 0 0 w.heap.size z.cells.length (by simp[au])
   simpa using this
 · intro id bz;simp[au,bz]
theorem du.Ie {ok:Nat->Prop} {v:I} {cv:Value} (aR:a4 w ok σ v cv) (ad:v.dP=true):du w ok v cv:=by
 cases aR with
 | undef=>simp[I.dP] at ad
 | kF=>simp[I.dP] at ad
 | val _ _ h=>exact h
 | agg=>simp[I.dP] at ad
 | bK=>simp[I.dP] at ad
 | ref=>simp[I.dP] at ad
 | ptr=>simp[I.dP] at ad
 | e4=>simp[I.dP] at ad
 | fn f first caps fi cv U h2=>
   cases first with
   | cons=>simp[I.dP] at ad
   | nil=>
     cases caps with
     | cons=>simp[I.dP] at ad
     | nil=>
       obtain rfl:=Array.eq_empty_of_size_eq_zero U
       obtain rfl:=Array.eq_empty_of_size_eq_zero h2
       exact .fn f
 | gi=>simp[I.dP] at ad
theorem I.RS {v:I} (h:v.dP=true):v.cd=true:=by
 cases v<;>first|rfl|simp[I.dP] at h
theorem I.RT {v:I} (h:v.ea=true):v.cells.all I.cd=true:=by
 simp only[I.ea,List.all_eq_true] at h|-
 exact fun x ae=>I.RS (h x ae)
def ml (w:World) (ok:Nat->Prop) (σ:Nat->Option (Nat × Nat)) (sz:Nat) (es:List I) (arr:Array Value):Prop:=
 arr.size=es.length*sz/\∀i (ab:i<es.length),es[i].cells.length=sz/\∀j (aB:j<es[i].cells.length) (ag:i*sz+j<arr.size),a4 w ok σ es[i].cells[j] arr[i*sz+j]
theorem o9 {i j n sz:Nat} (ab:i<n) (aB:j<sz):i*sz+j<n*sz:=by
 have:(i+1)*sz<=n*sz:=Nat.mul_le_mul_right _ ab
 rw[Nat.add_mul] at this;omega
theorem ml.set {ok:Nat->Prop} {sz:Nat} {es:List I} {arr:Array Value} (H:ml w ok σ sz es arr) {i:Nat} {v:I} {cv:Value} (an:a4 w ok σ v cv) (ax:v.cells.all I.cd=true) (az:v.cells.length=sz) (ab:i<es.length):
 ml w ok σ sz (es.set i v) (setFrom arr (i*sz) cv.cells.toList):=by
 obtain⟨cC,dk,_⟩:=an.wP ax
 obtain⟨bG,ds⟩:=H
 have A:=H' cv.cells.toList 0 (i*sz) arr
 have su:(setFrom arr (i*sz) cv.cells.toList).size=arr.size:=A.1
 refine⟨by rw[su,bG];simp,fun k ag=>?_⟩
 have j4:k<es.length:=by simpa using ag
 by_cases mm:k=i
 · subst mm
   simp only[List.getElem_set_self]
   refine⟨az,fun j aB p5=>?_⟩
   have bF:k*sz+j<arr.size:=by rw[su] at p5;exact p5
   have e:=A.2 (k*sz+j) bF p5
   show a4 w ok σ _ (((cv.cells.toList.zipIdx 0).foldl (fun cs (c,j)=>cs.setIfInBounds (k*sz+j) c) arr)[k*sz+j])
   rw[e,dif_pos (by omega)]
   have av:k*sz+j -(k*sz+0)=j:=by omega
   simp only[av]
   exact dk j (by omega) (by omega)
 · have bP:(es.set i v)[k]=es[k]:=by rw[List.getElem_set_ne (Ne.symm mm)]
   rw[bP]
   refine⟨(ds k j4).1,fun j aB p5=>?_⟩
   have bF:k*sz+j<arr.size:=by rw[su] at p5;exact p5
   have RU:j<sz:=by have:=(ds k j4).1;omega
   have e:=A.2 (k*sz+j) bF p5
   show a4 w ok σ _ (((cv.cells.toList.zipIdx 0).foldl (fun cs (c,j)=>cs.setIfInBounds (i*sz+j) c) arr)[k*sz+j])
   rw[e,dif_neg]
   · exact (ds k j4).2 j aB bF
   · rw[cC,az]
     rintro ⟨db,dc⟩
     rcases Nat.lt_or_gt_of_ne mm with q|q
     · have:=o9 q RU;omega
     · have:=o9 (i:=i) (n:=k) q (j:=0) (sz:=sz) (by omega)
       have:(i+1)*sz<=k*sz:=Nat.mul_le_mul_right _ q
       rw[Nat.add_mul] at this;omega
theorem Ig (bI:ki G (br base okin σ h) σ w F a) {sz:Nat}:∀(ps:List (Nat × Operand)) (fr:List (Nat × aS)),y3 ps=some fr->
 ∀(es:List I) (arr:Array Value) (ra:List I),ml w (br base okin σ h) σ sz es arr->(∀e∈es,e.ea=true)->eX sz es (aS.ev G F) fr=some ra->
  ∃arr',Instr.fill (fun i=>some (i*sz,sz)) arr (ps.map fun(i,x)=>(i,a.eval x))=some arr'/\ml w (br base okin σ h) σ sz ra arr'/\(∀e∈ra,e.ea=true)/\ra.length=es.length
 | [],fr,aF,es,arr,ra,H,ad,bb=>by
   cases aF
   simp only[eX] at bb;cases bb
   exact ⟨arr,rfl,H,ad,rfl⟩
 | (i,x)::ps,fr,aF,es,arr,ra,H,ad,bb=>by
   simp only[y3] at aF
   split at aF<;>try(cases aF;done)
   rename_i y C5 U h2
   cases aF
   simp only[eX] at bb
   split at bb<;>try(cases bb;done)
   rename_i oo
   obtain⟨bu,ca,c5⟩:=oo
   have an:=bI.ec U
   have nU:=I.RT c5
   obtain⟨cC,_,_⟩:=an.wP nU
   have c3:(a.eval x).cells.size=sz:=by rw[<-bu,<-cC];simp
   obtain⟨arr',aq,av,aW,bT⟩:=Ig bI ps C5 h2 _ _ ra (H.set an nU bu ca) (fun e he=>by
    rcases List.mem_or_eq_of_mem_set he with he|rfl
    · exact ad e he
    · exact c5) bb
   refine⟨arr',?_,av,aW,by simpa using bT⟩
   simp only[List.map_cons,Instr.fill]
   rw[if_neg,fold_eq]
   · exact aq
   · simp only[c3,ne_eq,not_true_eq_false,decide_false,Bool.false_or,decide_eq_true_eq,Nat.not_lt]
     rw[H.1]
     have:(i+1)*sz<=es.length*sz:=Nat.mul_le_mul_right _ ca
     rw[Nat.add_mul] at this;omega
theorem Ih {ok:Nat->Prop} {z:I} {ai:Value} (ar:sA w ok σ z.cells ai.cells) (ai2:0<z.cells.length) (n:Nat):
 ml w ok σ z.cells.length (List.replicate n z) (madeCells ai.cells (n*z.cells.length)):=by
 refine⟨by simp[madeCells],fun i ab=>?_⟩
 have bV:i<n:=by simpa using ab
 simp only[List.getElem_replicate]
 refine⟨trivial,fun j aB ag=>?_⟩
 have e:(madeCells ai.cells (n*z.cells.length))[i*z.cells.length+j]=ai.cells[j]'(by rw[ar.1];exact aB):=by
  simp only[madeCells,Array.getElem_map,Array.getElem_range]
  have:(i*z.cells.length+j)%ai.cells.size=j:=by
   rw[ar.1,Nat.add_comm,Nat.add_mul_mod_self_right];exact Nat.mod_eq_of_lt aB
  rw[this]
  exact getElem!_pos _ _ _
 rw[e]
 exact ar.2 j aB _
theorem RV (H:cK base okin σ h w) (bI:ki G (br base okin σ h) σ w F a) {t:TypeId} {n:Nat} {ps:Array (Nat × Operand)} {mj:ke} (J:fU P (.buildSlice t n ps)=some mj) {aZ r:Nat} {v:I} {h':ah} {c:eb}
 (he:evalOp aZ r (aS.ev G F) h mj=some (v,h',c)):
 h'=h/\∃cv aP,(Instr.buildSlice t n (ps.map fun(i,x)=>(i,a.eval x))).run P w= .ok cv aP/\Prog base okin σ h w σ h aP/\cK base okin σ h aP/\a4 aP (br base okin σ h) σ v cv:=by
 simp only[fU] at J
 split at J<;>try(cases J;done)
 rename_i e hu
 split at J<;>try(cases J;done)
 rename_i sz z fr ax ar aF
 split at J<;>try(cases J;done)
 rename_i sB
 cases J
 simp only[evalOp] at he
 split at he<;>try(cases he;done)
 rename_i oo
 obtain⟨bu,ca,c5⟩:=oo
 obtain⟨es,bb,he⟩:=Option.map_eq_some_iff.1 he
 cases he
 obtain⟨ai,dA,fW,y_,_,_⟩:=uB (w:=w) (σ:=σ) (ok:=br base okin σ h) ar
 have M:=Ih (σ:=σ) fW (by omega) n
 rw[bu] at M
 obtain⟨arr,f1,f2,f3,f4⟩:=Ig bI ps.toList fr aF _ _ es M (fun e he=>by rw[List.eq_of_mem_replicate he];exact c5) bb
 have C6:Prog base okin σ h w σ h (w.alloc (.cells arr e)):=⟨fun _ _ x=>x,fun b ad ay=>⟨ay,Below.heap_alloc _ _ _ ad⟩,(Below.refl _ _).alloc H.base _,HX w _⟩
 have H1:cK base okin σ h (w.alloc (.cells arr e)):=by
  refine⟨fun id b s ab=>?_,fun id gk iL=>?_,H.inj,by simp;have:=H.base;omega⟩
  · have:=H.val id b s ab;exact ⟨this.1,by simp;omega⟩
  · obtain⟨b,s,rb,ty,aq,av,aW⟩:=H.blk id gk iL
    refine⟨b,s,rb,ty,aq,by rw[Below.heap_alloc _ _ _ (H.val _ _ _ aq).2];exact av,fun i ab=>⟨(aW i ab).1,fun j aB=>?_⟩⟩
    obtain⟨l1,bL,cq⟩:=(aW i ab).2 j aB
    exact ⟨l1,bL,C6.rep cq⟩
 have hlen:es.length=n:=by simpa using f4
 refine⟨rfl,.slice (some ⟨w.heap.size,0,none⟩) n n,_,?_,C6,H1,?_⟩
 · have RW:¬2^24<n*sz:=by omega
   have wS:Instr.fill (fun i=>some (i*sz,sz)) (madeCells ai.cells (n*sz)) (List.map (fun x=>(x.fst,a.eval x.snd)) ps.toList)=some arr:=f1
   unfold madeCells at wS
   by_cases aG:n*sz=0
   · have bJ:Array.range (n*sz)= #[]:=by rw[aG];rfl
     rw[bJ] at wS
     simp only[List.map_toArray,List.map_nil] at wS
     simp[Instr.buildSlice,run_underlying hu,run_sizeOf ax,aG,newRow,Array.range_zero',wS]
   · simp[Instr.buildSlice,run_underlying hu,run_sizeOf ax,RW,aG,dA,wS,newRow]
 · refine .val _ _ ?_
   have:=du.sl (w:=w.alloc (.cells arr e)) (ok:=br base okin σ h) es true (some ⟨w.heap.size,0,none⟩) es.length sz (fun i j=>(arr[i*sz+j]?).getD undef) (Nat.le_refl _) (fun _=>rfl) (fun i ab=>(f2.2 i ab).1)
    (fun i j ab aB=>?_) (fun _=>rfl) (fun i ab j aB=>?_)
   · rw[hlen] at this;exact this
   · refine⟨_,rfl,.inr ⟨H.base,fun id s nV az=>?_⟩,?_⟩
     · have:=(H.val _ _ _ nV).2;simp at this
     · rw[p2,Nat.zero_add]
       have bF:=o9 ab aB
       have:i*sz+j<arr.size:=by rw[f2.1];exact bF
       show World.cell? _ _=some ((arr[i*sz+j]?).getD undef)
       rw[Array.getElem?_eq_getElem this]
       show World.cell? (w.alloc (.cells arr e)) ⟨w.heap.size,i*sz+j,none⟩=_
       rw[World.cell?_alloc_new]
       exact Array.getElem?_eq_getElem this
   · have c3:=(f2.2 i ab).1
     have bF:=o9 ab (show j<sz by omega)
     have ag:i*sz+j<arr.size:=by rw[f2.1];exact bF
     show du _ _ _ ((arr[i*sz+j]?).getD undef)
     rw[Array.getElem?_eq_getElem ag]
     refine du.Ie (C6.rep ((f2.2 i ab).2 j aB ag)) ?_
     have:=f3 _ (List.getElem_mem ab)
     exact List.all_eq_true.1 this _ (List.getElem_mem aB)
theorem RX (H:cK base okin σ h w) (bI:ki G (br base okin σ h) σ w F a) {r:Nat} (aR:σ r=none) {t:TypeId} {X Y:Operand} {mj:ke} (J:fU P (.makeSlice t X Y)=some mj) {aZ:Nat} {v:I} {h':ah} {c:eb}
 (he:evalOp aZ r (aS.ev G F) h mj=some (v,h',c)):
 ∃bd cv aP,(Instr.makeSlice t (a.eval X) (a.eval Y)).run P w= .ok cv aP/\Prog base okin σ h w bd h' aP/\cK base okin bd h' aP/\a4 aP (br base okin bd h') bd v cv/\∀id,id≠r->bd id=σ id:=by
 simp only[fU] at J
 split at J<;>try(cases J;done)
 rename_i e hu
 split at J<;>try(cases J;done)
 rename_i z sz bytes x y ar ax wT ae aQ
 cases J
 simp only[evalOp] at he
 split at he<;>try(cases he;done)
 rename_i bu l ca fc az oq
 split at he<;>try(cases he;done)
 rename_i oo
 obtain⟨db,dc,fK,kj,wU,RY,RZ⟩:=oo
 cases he
 have rx:=bI.ec ae
 have ry:=bI.ec aQ
 rw[az] at rx;rw[oq] at ry
 rw[rx.jP,ry.jP]
 obtain⟨ai,dA,fW,y_,_,i,ab,R0⟩:=uB (w:=w) (σ:=σ) (ok:=br base okin σ h) ar
 have uC:i.size=sz:=by
  obtain⟨jc,aq,av⟩:=Option.map_eq_some_iff.1 ax
  rw[ab] at aq;cases aq;exact av
 have C7:i.bytes=bytes:=by
  obtain⟨jc,aq,av⟩:=Option.map_eq_some_iff.1 wT
  rw[ab] at aq;cases aq;exact av
 have C8:fc<=fc*(bytes:Int):=by
  have lx:(1:Int)<=bytes:=by omega
  have C9:0<=fc:=by omega
  have:=Int.mul_le_mul_of_nonneg_left lx C9
  simpa using this
 have cx:=run_make (P:=P) w t e i ai hu ab R0 bu ca l fc db dc (by rw[C7,Int.mul_comm];omega) (by omega)
 have M:=Ih (σ:=σ) fW (by omega) fc.toNat
 rw[wU] at M
 have A:=H.alloc aR (List.replicate fc.toNat z) (madeCells ai.cells (fc.toNat*i.size)) e sz (fun k ag=>by
  refine⟨(M.2 k ag).1,fun j aB=>?_⟩
  rw[uC]
  have bF:k*sz+j<(madeCells ai.cells (fc.toNat*sz)).size:=by rw[M.1];exact o9 ag (by have:=(M.2 k ag).1;omega)
  exact ⟨_,Array.getElem?_eq_getElem bF,(M.2 k ag).2 j aB bF⟩)
 refine⟨_,_,_,cx,A.2,A.1,?_,fun id bz=>by simp[au,bz]⟩
 exact .ref r 0 l.toNat fc.toNat _ fc.toNat w.heap.size sz (by simp[au]) (by omega) (Nat.le_refl _) (fun _=>⟨by simp,by
  rw[CR];simp[madeCells,uC]⟩)
end
end Go.Eng
