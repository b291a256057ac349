import Derived.Orders
import Derived.Below
import Derived.Laws.CopyRow
import Derived.Laws.MakeOwn
set_option linter.unusedSimpArgs false
set_option linter.unusedVariables false
set_option linter.unusedSectionVars false
namespace Go.Eng
open Go
inductive J where
 | undef
 | k_
 | int (k:IntKind) (n:Int)
 | bool (b:Bool)
 | str (s:ByteArray)
 | sl (xs:List J) (ex:Bool)
 | ref (id off len cap:Nat)
 | ptr (id idx di:Nat)
 | e0 (v:J)
 | fn (f:FuncId) (first c0:List J)
 | nilfn
 | gb (id:Nat)
 | mp (Ze:List (Int × FuncId))
 | agg (cs:List J)
 | cb (vs:List J)
 deriving Inhabited
def J.cells:J->List J
 | .agg cs=>cs
 | v=>[v]
def J.dp:J->Bool
 | .undef| .k_| .agg _| .cb _=>false
 | _=>true
def J.e7:J->Bool
 | .int .. | .bool _| .str _| .sl .. | .nilfn| .fn _ [] []=>true
 | _=>false
def J.ft (v:J):Bool:=v.cells.all J.e7
def partOf (cq:Bool) (cs:List J):Option J:=
 if cq then some (.agg cs) else match cs with
  | [c]=>if c.dp=true then some c else none
  | _=>none
def cut (cs:List J) (off sz:Nat):Option (List J):=if off+sz<=cs.length then some ((cs.drop off).take sz) else none
def gd (cs:List J) (off:Nat) (vs:List J):List J:=cs.take off++vs++cs.drop (off+vs.length)
inductive cX where
 | normal
 | exit (id:Nat)
 | ret
inductive fu where
 | ready
 | busy
 | done (e:cX)
structure aF where
 cells:Nat->Option (List J)
 shut:Nat->Bool
 next:Nat
 bu:Nat->Option fu:=fun _=>none
def aG {α:Type} (f:Nat->α) (k:Nat) (v:α):Nat->α:=fun i=>if i=k then v else f i
structure bg where
 F:Nat->J
 h:aF
inductive bn where
 | t (n:Nat)
 | c (v:J)
 | g (i:Nat)
 | f (n:FuncId)
 deriving Inhabited
inductive kx where
 | mv (x:bn)
 | pick (c a b:bn)
 | alloc (z:J)
 | box (x:bn)
 | build (z:List J) (ps:List (Nat × Nat × bn))
 | bsl (sz:Nat) (z:J) (n:Nat) (ps:List (Nat × bn))
 | load (cq:Bool) (sz:Nat) (x:bn)
 | store (sz:Nat) (a v:bn)
 | bin (ty:Nat) (op:BinOp) (x y:bn)
 | eqA (neg:Bool) (n:Nat) (x y:bn)
 | un (op:UnOp) (x:bn)
 | conv (k:IntKind) (x:bn)
 | mkfn (f:FuncId) (first c0:List bn)
 | mksl (z:J) (sz bytes:Nat) (l c:bn)
 | slice (sz:Nat) (x:bn) (bd an ky:Option bn)
 | faddr (cq:Bool) (off sz:Nat) (x:bn)
 | field (cq:Bool) (off sz:Nat) (x:bn)
 | iaddrS (sz:Nat) (x i:bn)
 | iaddrA (cq:Bool) (n sz:Nat) (x i:bn)
 | idxA (cq:Bool) (n sz:Nat) (x i:bn)
 | idxS (x i:bn)
 | extract (x:bn) (i:Nat)
 | call (f:bn) (args:List bn)
 | len (str:Bool) (x:bn)
 | mlook (x i:bn)
 | isnil (neg:Bool) (x:bn)
 | app (sz bytes:Nat) (x y:bn)
 | min (xs:List bn)
 | max (xs:List bn)
 deriving Inhabited
def bn.rd:bn->List Nat
 | .t n=>[n]
 | _=>[]
def bn.xE:Option bn->List Nat
 | some x=>x.rd
 | none=>[]
def kx.reads:kx->List Nat
 | .mv x| .box x| .load _ _ x| .un _ x| .conv _ x| .faddr _ _ _ x| .field _ _ _ x| .extract x _| .len _ x| .isnil _ x=>x.rd
 | .pick c a b=>c.rd++a.rd++b.rd
 | .alloc _=>[]
 | .build _ ps=>ps.flatMap fun p=>p.2.2.rd
 | .bsl _ _ _ ps=>ps.flatMap fun p=>p.2.rd
 | .store _ a v=>a.rd++v.rd
 | .bin _ _ x y| .eqA _ _ x y| .mksl _ _ _ x y| .iaddrS _ x y| .iaddrA _ _ _ x y| .idxA _ _ _ x y| .idxS x y| .app _ _ x y| .mlook x y=>x.rd++y.rd
 | .mkfn _ a b=>a.flatMap bn.rd++b.flatMap bn.rd
 | .slice _ x bd an ky=>x.rd++bn.xE bd++bn.xE an++bn.xE ky
 | .call f as=>f.rd++as.flatMap bn.rd
 | .min xs| .max xs=>xs.flatMap bn.rd
structure bH where
 dst:Option Nat
 op:kx
 guard:Option (Nat × Bool)
 deriving Inhabited
abbrev bH.m (a b:Nat):bH:=⟨some a,.mv (.t b),none⟩
abbrev bH.o (a:Nat) (o:kx):bH:=⟨some a,o,none⟩
abbrev bH.n (o:kx):bH:=⟨none,o,none⟩
abbrev bH.g (a:Nat) (o:kx) (t:Nat) (w:Bool):bH:=⟨some a,o,some (t,w)⟩
def bH.reads (e:bH):List Nat:=(match e.guard with
 | some (t,_)=>[t]
 | none=>[])++e.op.reads
def bH.apart (e f:bH):Bool:=
 (match e.dst with
  | some d=>!(f.reads.contains d)&&f.dst != some d
  | none=>true)&&
 (match f.dst with
  | some d=>!(e.reads.contains d)
  | none=>true)
inductive ee where
 | skip
 | region (draw:Bool) (ops:List bH) (kz:List Nat)
 | seq (a b:ee)
 | cond (c:bn) (a b:ee)
 | block (id:Nat) (c:ee)
 | loop (c:ee)
 | ma (f:bn) (ps:List Nat) (ei body:ee)
 | exit (id:Nat)
 | ret
 deriving Inhabited
inductive m3 where
 | tmp (t:Nat)
 | cell (t:Nat) (cq:Bool) (sz:Nat)
 deriving Inhabited
structure bt where
 body:ee
 res:List m3
 deriving Inhabited
inductive ey where
 | pure|rd|hK|wr
 | mH (id:Nat)
 | lB (qV:Nat->Bool)
mutual
def J.beq:J->J->Bool
 | .undef,.undef=>true
 | .k_,.k_=>true
 | .int k n,.int k' oS=>decide (k=k')&&decide (n=oS)
 | .bool a,.bool b=>decide (a=b)
 | .str a,.str b=>decide (a=b)
 | .sl xs e,.sl ys f=>nh xs ys&&decide (e=f)
 | .ref a b c d,.ref ep gF c' ob=>decide (a=ep)&&decide (b=gF)&&decide (c=c')&&decide (d=ob)
 | .ptr a b c,.ptr ep gF c'=>decide (a=ep)&&decide (b=gF)&&decide (c=c')
 | .e0 a,.e0 b=>J.beq a b
 | .fn f a b,.fn g c d=>decide (f=g)&&nh a c&&nh b d
 | .nilfn,.nilfn=>true
 | .gb a,.gb b=>decide (a=b)
 | .mp m,.mp p3=>decide (m=p3)
 | .agg a,.agg b=>nh a b
 | .cb a,.cb b=>nh a b
 | _,_=>false
def nh:List J->List J->Bool
 | [],[]=>true
 | x::xs,y::ys=>J.beq x y&&nh xs ys
 | _,_=>false
end
mutual
theorem J.beq_eq:∀(a b:J),J.beq a b=true->a=b
 | .undef,b,h=>by cases b<;>simp_all[J.beq]
 | .k_,b,h=>by cases b<;>simp_all[J.beq]
 | .int k n,b,h=>by cases b<;>simp_all[J.beq]
 | .bool a,b,h=>by cases b<;>simp_all[J.beq]
 | .str a,b,h=>by cases b<;>simp_all[J.beq]
 | .sl xs e,b,h=>by
   cases b<;>simp only[J.beq,Bool.and_eq_true,decide_eq_true_eq,Bool.false_eq_true] at h
   rw[r1 _ _ h.1,h.2]
 | .ref a b c d,x,h=>by cases x<;>simp_all[J.beq]
 | .ptr a b c,x,h=>by cases x<;>simp_all[J.beq]
 | .e0 a,b,h=>by
   cases b<;>simp only[J.beq,Bool.false_eq_true] at h
   rw[J.beq_eq _ _ h]
 | .fn f a b,x,h=>by
   cases x<;>simp only[J.beq,Bool.and_eq_true,decide_eq_true_eq,Bool.false_eq_true] at h
   rw[h.1.1,r1 _ _ h.1.2,r1 _ _ h.2]
 | .nilfn,b,h=>by cases b<;>simp_all[J.beq]
 | .gb a,b,h=>by cases b<;>simp_all[J.beq]
 | .mp m,b,h=>by cases b<;>simp_all[J.beq]
 | .agg a,b,h=>by
   cases b<;>simp only[J.beq,Bool.false_eq_true] at h
   rw[r1 _ _ h]
 | .cb a,b,h=>by
   cases b<;>simp only[J.beq,Bool.false_eq_true] at h
   rw[r1 _ _ h]
theorem r1:∀(a b:List J),nh a b=true->a=b
 | [],[],_=>rfl
 | [],_::_,h=>by simp[nh] at h
 | _::_,[],h=>by simp[nh] at h
 | x::xs,y::ys,h=>by
   simp only[nh,Bool.and_eq_true] at h
   rw[J.beq_eq _ _ h.1,r1 _ _ h.2]
end
mutual
theorem J.beq_refl:∀(a:J),J.beq a a=true
 | .undef| .k_| .int _ _| .bool _| .str _| .ref _ _ _ _| .ptr _ _ _| .nilfn| .gb _| .mp _=>by simp[J.beq]
 | .sl xs e=>by simp[J.beq,pt xs]
 | .e0 a=>by simp[J.beq,J.beq_refl a]
 | .fn f a b=>by simp[J.beq,pt a,pt b]
 | .agg a=>by simp[J.beq,pt a]
 | .cb a=>by simp[J.beq,pt a]
theorem pt:∀(a:List J),nh a a=true
 | []=>rfl
 | x::xs=>by simp[nh,J.beq_refl x,pt xs]
end
def xF:Option (List J)->Option (List J)->Bool
 | none,none=>true
 | some a,some b=>nh a b
 | _,_=>false
theorem L6 {a b:Option (List J)} (h:xF a b=true):a=b:=by
 cases a<;>cases b<;>simp only[xF,Bool.false_eq_true] at h
 · rfl
 · rw[r1 _ _ h]
theorem vQ (a:Option (List J)):xF a a=true:=by
 cases a
 · rfl
 · exact pt _
section eval
variable (G:Nat->Option J)
def bn.cu (F:Nat->J):bn->J
 | .t n=>F n
 | .c v=>v
 | .g i=>match G i with
   | some v=> .e0 v
   | none=> .undef
 | .f n=> .fn n [] []
def gP (op:BinOp) (k:IntKind) (a b:Int):Option J:=
 match op with
 | .add=>some (.int k (k.wrap (a+b)))
 | .sub=>some (.int k (k.wrap (a - b)))
 | .mul=>some (.int k (k.wrap (a*b)))
 | .quo=>if b=0 then none else some (.int k (k.wrap (a.tdiv b)))
 | .rem=>if b=0 then none else some (.int k (a.tmod b))
 | .and=>some (.int k (k.wrap ((BitVec.ofInt k.bits a&&&BitVec.ofInt k.bits b).toNat)))
 | .or=>some (.int k (k.wrap ((BitVec.ofInt k.bits a|||BitVec.ofInt k.bits b).toNat)))
 | .xor=>some (.int k (k.wrap ((BitVec.ofInt k.bits a ^^^ BitVec.ofInt k.bits b).toNat)))
 | .andNot=>some (.int k (k.wrap ((BitVec.ofInt k.bits a&&& ~~~(BitVec.ofInt k.bits b)).toNat)))
 | .eql=>some (.bool (a == b))
 | .neq=>some (.bool (a != b))
 | .lss=>some (.bool (decide (a<b)))
 | .leq=>some (.bool (decide (a<=b)))
 | .gtr=>some (.bool (decide (a>b)))
 | .geq=>some (.bool (decide (a>=b)))
 | _=>none
def gz (op:BinOp) (k:IntKind) (a b:Int):Option J:=
 if b<0 then none else
 match op with
 | .shl=>some (.int k (k.wrap (a*2^(Min.min b.toNat k.bits))))
 | .shr=>some (.int k (a.fdiv (2^(Min.min b.toNat k.bits))))
 | _=>none
def gY (ty:Nat) (op:BinOp):J->J->Option J
 | .int k a,.int k' b=>if op= .shl\/op= .shr then gz op k a b else if k=k' then gP op k a b else none
 | .bool a,.bool b=>if ty=1 then match op with
   | .eql=>some (.bool (a == b))
   | .neq=>some (.bool (!(a == b)))
   | _=>none else none
 | .str a,.str b=>match op with
   | .eql=>some (.bool (a.toList == b.toList))
   | .neq=>some (.bool (!(a.toList == b.toList)))
   | _=>none
 | _,_=>none
def gZ (op:UnOp):J->Option J
 | .int k n=>match op with
   | .neg=>some (.int k (k.wrap (0 - n)))
   | .xor=>some (.int k (k.wrap ((BitVec.ofInt k.bits (if k.signed then -1 else k.max) ^^^ BitVec.ofInt k.bits n).toNat)))
   | _=>none
 | .bool b=>match op with
   | .not=>some (.bool !b)
   | _=>none
 | _=>none
def gf:List J->List J->Option Bool
 | [],[]=>some true
 | .int k a::xs,.int k' b::ys=>if k=k' then (gf xs ys).map fun r=>(a == b)&&r else none
 | _,_=>none
def gg (cells:List J) (bJ:bn->J):List (Nat × Nat × bn)->Option (List J)
 | []=>some cells
 | (off,size,x)::rest=>
   if (bJ x).cells.length=size/\off+size<=cells.length/\((bJ x).cells.all J.dp)=true then gg (gd cells off (bJ x).cells) bJ rest else none
def gh (sz:Nat) (es:List J) (bJ:bn->J):List (Nat × bn)->Option (List J)
 | []=>some es
 | (i,x)::rest=>
   if (bJ x).cells.length=sz/\i<es.length/\(bJ x).ft=true then gh sz (es.set i (bJ x)) bJ rest else none
def bound (d:Nat) (bJ:bn->J):Option bn->Option Nat
 | none=>some d
 | some x=>match bJ x with
   | .int _ n=>if 0<=n then some n.toNat else none
   | _=>none
def elems (h:aF):J->Option (List J)
 | .sl xs _=>some xs
 | .ref id off len _=>match h.cells id with
   | some blk=>if off+len<=blk.length then some ((blk.drop off).take len) else none
   | none=>none
 | _=>none
def sizedB (sz:Nat):Option (List J)->Bool
 | some blk=>decide (0<blk.length)&&blk.all fun e=>e.cells.length == sz
 | none=>false
def lQ:J->Bool
 | .sl .. =>true
 | _=>false
def eJ (h:aF):J->Option (J × List Nat)
 | .ref id off len _=>match h.cells id with
   | some blk=>if off+len<=blk.length/\(blk.all J.ft)=true then some (.sl ((blk.drop off).take len) false,[id]) else none
   | none=>none
 | .int k n=>some (.int k n,[])
 | .bool b=>some (.bool b,[])
 | .str s=>some (.str s,[])
 | .sl xs e=>some (.sl xs e,[])
 | .nilfn=>some (.nilfn,[])
 | .mp m=>some (.mp m,[])
 | _=>none
def ff (h:aF):List J->Option (List J × List Nat)
 | []=>some ([],[])
 | v::vs=>match eJ h v,ff h vs with
   | some (kA,a),some (m4,b)=>some (kA::m4,a++b)
   | _,_=>none
def hL (h:aF):J->Option (J × List Nat)
 | .agg cs=>(ff h cs).map fun(hM,a)=>(.agg hM,a)
 | v=>eJ h v
def e8 (h:aF):List J->Option (List J × List Nat)
 | []=>some ([],[])
 | v::vs=>match hL h v,e8 h vs with
   | some (kA,a),some (m4,b)=>some (kA::m4,a++b)
   | _,_=>none
def kU (h:aF):J->Option (J × List Nat)
 | .cb vs=>(e8 h vs).map fun(m4,a)=>(.cb m4,a)
 | v=>hL h v
def aF.close (h:aF) (ids:List Nat):aF:={h with shut:=fun k=>h.shut k||ids.contains k}
def aF.new (h:aF) (r:Nat) (blk:List J):aF:={h with cells:=aG h.cells r (some blk)}
def fg (f:Int->Int->Int):List J->Option J
 | [.int k a]=>some (.int k a)
 | .int k a:: .int k' b::rest=>if k=k' then fg f (.int k (f a b)::rest) else none
 | _=>none
termination_by l=>l.length
def evalOp (bm r:Nat) (bJ:bn->J) (h:aF):kx->Option (J × aF × ey)
 | .mv x=>some (bJ x,h,.pure)
 | .pick c a b=>match bJ c with
   | .bool t=>some (if t then bJ a else bJ b,h,.pure)
   | _=>none
 | .alloc z=>some (.ptr r 0 0,h.new r [z],.hK)
 | .box x=>if (bJ x).cells.all J.dp then some (.ptr r 0 0,h.new r [bJ x],.hK) else none
 | .build z ps=>(gg z bJ ps).map fun cs=>(.agg cs,h,.pure)
 | .bsl sz z n ps=>if z.cells.length=sz/\0<sz/\z.ft=true then (gh sz (List.replicate n z) bJ ps).map fun es=>(.sl es true,h,.pure) else none
 | .load cq sz x=>match bJ x with
   | .e0 v=>(cut v.cells 0 sz).bind fun cs=>(partOf cq cs).map fun u=>(u,h,.pure)
   | .ptr id idx di=>(h.cells id).bind fun blk=>(blk[idx]?).bind fun e=>(cut e.cells di sz).bind fun cs=>(partOf cq cs).map fun u=>(u,h,if id<bm then .mH id else .wr)
   | _=>none
 | .store sz a v=>match bJ a with
   | .ptr id idx di=>
     if h.shut id=true then none else
     (h.cells id).bind fun blk=>(blk[idx]?).bind fun e=>
       if (bJ v).cells.length=sz/\di+sz<=e.cells.length/\((bJ v).cells.all J.dp)=true then
        match e with
        | .agg cs=>some (.undef,h.new id (blk.set idx (.agg (gd cs di (bJ v).cells))),.lB (fun i=>i != id))
        | _=>match (bJ v).cells with
          | [u]=>some (.undef,h.new id (blk.set idx u),.lB (fun i=>i != id))
          | _=>none
       else none
   | _=>none
 | .bin ty op x y=>(gY ty op (bJ x) (bJ y)).map fun v=>(v,h,.pure)
 | .eqA neg n x y=>match bJ x,bJ y with
   | .agg xs,.agg ys=>if xs.length=n then (gf xs ys).map fun b=>(.bool (b != neg),h,.pure) else none
   | _,_=>none
 | .un op x=>(gZ op (bJ x)).map fun v=>(v,h,.pure)
 | .conv k x=>match bJ x with
   | .int _ n=>some (.int k (k.wrap n),h,.pure)
   | _=>none
 | .mkfn f first c0=>some (.fn f (first.map bJ) (c0.map bJ),h,.pure)
 | .mksl z sz bytes l c=>match bJ l,bJ c with
   | .int _ a,.int _ b=>
     if 0<=a/\a<=b/\b*bytes<=140737488355328/\0<bytes/\z.cells.length=sz/\0<sz/\(z.cells.all J.dp)=true
     then some (.ref r 0 a.toNat b.toNat,h.new r (List.replicate b.toNat z),.hK) else none
   | _,_=>none
 | .slice sz x bd an ky=>match bJ x with
   | .ref id off len cap=>match bound 0 bJ bd,bound len bJ an,bound cap bJ ky with
     | some l,some u,some m=>if l<=u/\u<=m/\m<=cap/\(l=0\/sizedB sz (h.cells id)=true) then some (.ref id (off+l) (u - l) (m - l),h,if id<bm then .rd else .wr) else none
     | _,_,_=>none
   | .sl xs ex=>match bound 0 bJ bd,bound xs.length bJ an,bound xs.length bJ ky with
     | some l,some u,some m=>if l<=u/\u<=m/\m<=xs.length/\(l=0\/(xs.all fun e=>e.cells.length == sz)=true) then some (.sl ((xs.drop l).take (u - l)) ((ky.isSome||ex)&&m == u),h,.pure) else none
     | _,_,_=>none
   | _=>none
 | .faddr cq off sz x=>match bJ x with
   | .e0 v=>(cut v.cells off sz).bind fun cs=>(partOf cq cs).map fun u=>(.e0 u,h,.pure)
   | .ptr id idx di=>some (.ptr id idx (di+off),h,.pure)
   | _=>none
 | .field cq off sz x=>match bJ x with
   | .agg cs=>(cut cs off sz).bind fun cs=>(partOf cq cs).map fun u=>(u,h,.pure)
   | _=>none
 | .iaddrS sz x i=>match bJ x,bJ i with
   | .sl xs _,.int _ n=>if 0<=n then (xs[n.toNat]?).bind fun e=>if e.cells.length=sz then some (.e0 e,h,.pure) else none else none
   | .ref id off len _,.int _ n=>if 0<=n/\n<len/\sizedB sz (h.cells id)=true then some (.ptr id (off+n.toNat) 0,h,if id<bm then .rd else .wr) else none
   | _,_=>none
 | .iaddrA cq n sz x i=>match bJ x,bJ i with
   | .e0 v,.int _ j=>if 0<=j/\j<n then (cut v.cells (j.toNat*sz) sz).bind fun cs=>(partOf cq cs).map fun u=>(.e0 u,h,.pure) else none
   | .ptr id idx di,.int _ j=>if 0<=j/\j<n then some (.ptr id idx (di+j.toNat*sz),h,.pure) else none
   | _,_=>none
 | .idxA cq n sz x i=>match bJ x,bJ i with
   | .agg cs,.int _ j=>if 0<=j/\j<n then (cut cs (j.toNat*sz) sz).bind fun cs=>(partOf cq cs).map fun u=>(u,h,.pure) else none
   | _,_=>none
 | .idxS x i=>match bJ x,bJ i with
   | .str s,.int _ j=>if 0<=j then (s[j.toNat]?).map fun b=>(.int .u8 b.toNat,h,.pure) else none
   | _,_=>none
 | .extract x i=>match bJ x with
   | .cb vs=>(vs[i]?).map fun v=>(v,h,.pure)
   | _=>none
 | .len str x=>match bJ x with
   | .sl xs _=>if str=false then some (.int .i64 xs.length,h,.pure) else none
   | .ref _ _ len _=>if str=false then some (.int .i64 len,h,.pure) else none
   | .str s=>if str=true then some (.int .i64 s.size,h,.pure) else none
   | _=>none
 | .mlook x i=>match bJ x,bJ i with
   | .mp m,.int .i64 n=>some (.cb [match m.lookup n with
     | some f=> .fn f [] []
     | none=> .nilfn,.bool (m.lookup n).isSome],h,.pure)
   | _,_=>none
 | .isnil neg x=>match bJ x with
   | .sl xs _=>if 0<xs.length then some (.bool neg,h,.pure) else none
   | .ref _ _ len cap=>if 0<len\/0<cap then some (.bool neg,h,.pure) else none
   | _=>none
 | .app sz bytes x y=>(elems h (bJ y)).bind fun ys=>
   if 0<sz/\0<bytes/\(ys.all fun e=>e.cells.length == sz&&e.cells.all J.dp)=true then
    match bJ x with
    | .sl xs ex=>if ys.length=0 then some (.sl xs ex,h,if lQ (bJ y) then .pure else .wr) else if ex=true/\(xs.length+ys.length)*bytes<=35184372088832/\0<ys.length/\(xs.all fun e=>e.cells.length == sz)=true
        then some (.ref r 0 (xs.length+ys.length) (xs.length+ys.length),h.new r (xs++ys),if lQ (bJ y) then .hK else .wr) else none
    | .ref id off len cap=>if ys.length=0 then some (.ref id off len cap,h,if lQ (bJ y) then .pure else .wr) else if h.shut id=true then none else (h.cells id).bind fun blk=>
        if off+len<=blk.length/\(len+ys.length)*bytes<=35184372088832/\0<ys.length/\(blk.all fun e=>e.cells.length == sz)=true then
         if len+ys.length<=cap then
          if off+cap<=blk.length then some (.ref id off (len+ys.length) cap,h.new id (blk.take (off+len)++ys++blk.drop (off+len+ys.length)),.wr) else none
         else if off=0/\0<len then some (.ref r 0 (len+ys.length) (len+ys.length),{h with cells:=aG (aG h.cells id none) r (some (blk.take len++ys))},.wr) else none
        else none
    | _=>none
   else none
 | .min xs=>(fg (fun a b=>if b<a then b else a) (xs.map bJ)).map fun v=>(v,h,.pure)
 | .max xs=>(fg (fun a b=>if a<b then b else a) (xs.map bJ)).map fun v=>(v,h,.pure)
 | .call .. =>none
end eval
def dq (F:Nat->J) (d:Option Nat) (v:J):Nat->J:=
 match d with
 | some t=>aG F t v
 | none=>F
def p4 (bm:Nat) (h ay:aF):Nat->Bool:=fun id=>decide (id<bm)&&xF (h.cells id) (ay.cells id)
def kV:ey->ey->Bool
 | .pure,_|_,.pure=>true
 | .mH id,.lB k| .lB k,.mH id=>k id
 | .lB _,.hK=>true
 | .wr,_|_,.wr=>false
 | .lB _,_|_,.lB _=>false
 | _,_=>true
def r2 (cs:List ey) (r3:List Nat):Bool:=
 cs.zipIdx.all fun(c,j)=>cs.zipIdx.all fun(d,i)=>!(decide (i<j))||(r3.getD j 0).testBit i||kV d c
section exec
variable (G:Nat->Option J) (Φ:FuncId->Option bt) (tab:FuncId->Option (List J->Option J))
def a8 (args:List J):Nat->J:=fun i=>args.getD i .undef
def gi (h:aF) (F:Nat->J):m3->Option J
 | .tmp t=>some (F t)
 | .cell t cq sz=>match F t with
   | .ptr id idx di=>(h.cells id).bind fun blk=>(blk[idx]?).bind fun e=>(cut e.cells di sz).bind fun cs=>partOf cq cs
   | _=>none
def e1 (h:aF) (F:Nat->J) (rs:List m3):Option J:=
 (rs.mapM (gi h F)).map fun
   | [v]=>v
   | vs=> .cb vs
inductive lC where
 | fn (f:FuncId)
 | lR (id:Nat)
def dJ (c1:lC->List J->aF->Option (J × aF)) (bm r:Nat) (e:bH) (s:bg):Option (bg × ey):=
 match e.op with
 | .call f args=>match f.cu G s.F with
   | .fn n first c0=>match tab n with
     | some T=>match e8 s.h (first++args.map (bn.cu G s.F)++c0) with
       | some (vs,ids)=>(T vs).map fun v=>(⟨dq s.F e.dst v,s.h.close ids⟩,if ids.isEmpty then .pure else if ids.all (fun i=>decide (i<bm)) then .rd else .wr)
       | none=>none
     | none=>(c1 (.fn n) (first++args.map (bn.cu G s.F)++c0) s.h).map fun(v,ay)=>(⟨dq s.F e.dst v,ay⟩,.lB (p4 bm s.h ay))
   | .gb id=>(c1 (.lR id) (args.map (bn.cu G s.F)) s.h).map fun(v,ay)=>(⟨dq s.F e.dst v,ay⟩,.wr)
   | _=>none
 | op=>(evalOp bm r (bn.cu G s.F) s.h op).map fun(v,ay,c)=>(⟨dq s.F e.dst v,ay⟩,c)
def dr (c1:lC->List J->aF->Option (J × aF)) (bm r:Nat) (e:bH) (s:bg):Option (bg × ey):=
 match e.guard with
 | none=>dJ G tab c1 bm r e s
 | some (t,want)=>match s.F t with
   | .bool b=>if b=want then dJ G tab c1 bm r e s else some (⟨dq s.F e.dst .k_,s.h⟩,.pure)
   | .k_=>some (⟨dq s.F e.dst .k_,s.h⟩,.pure)
   | _=>none
def dG (c1:lC->List J->aF->Option (J × aF)) (bm:Nat):List (bH × Nat)->bg->Option (bg × List ey)
 | [],s=>some (s,[])
 | (e,i)::es,s=>match dr G tab c1 bm (bm+i) e s with
   | some (aD,c)=>(dG c1 bm es aD).map fun(z6,cs)=>(z6,c::cs)
   | none=>none
def fh (c1:lC->List J->aF->Option (J × aF)) (draw:Bool) (ops:List bH) (kz:List Nat) (s:bg):Option bg:=
 match dG G tab c1 s.h.next ops.zipIdx ⟨s.F,{s.h with next:=s.h.next+ops.length}⟩ with
 | some (aD,cs)=>if !draw||r2 cs kz then some aD else none
 | none=>none
structure dm where
 id:Nat
 F:Nat->J
 ps:List Nat
 ei:ee
 body:ee
def oT (id:Nat):List dm->Option (dm × List dm)
 | []=>none
 | L::Y=>if L.id=id then some (L,Y) else oT id Y
def ni (F:Nat->J):List Nat->List J->(Nat->J)
 | p::ps,v::vs=>ni (aG F p v) ps vs
 | _,_=>F
def aF.set (h:aF) (id:Nat) (p:Option fu):aF:={h with bu:=aG h.bu id p}
def exec:Nat->List dm->ee->bg->Option (cX × bg)
 | 0,_,_,_=>none
 | n+1,Y,c,s=>match c with
   | .skip=>some (.normal,s)
   | .ret=>some (.ret,s)
   | .exit id=>some (.exit id,s)
   | .region draw ops kz=>(fh G tab
       (fun t args h=>match t with
         | .fn f=>match Φ f with
           | some fn=>match exec n Y fn.body ⟨a8 args,h⟩ with
             | some (.normal,aD)|some (.ret,aD)=>(e1 aD.h aD.F fn.res).map fun v=>(v,aD.h)
             | _=>none
           | none=>none
         | .lR id=>match oT id Y with
           | some (L,Y')=>if L.ps.length=args.length then
              match exec n Y' L.ei ⟨ni L.F L.ps args,h⟩ with
              | some (.normal,s1)=>match s1.h.bu id with
                | some .ready=>match exec n Y' L.body ⟨s1.F,s1.h.set id (some .busy)⟩ with
                  | some (e,aD)=>match aD.h.bu id with
                    | some .busy=>match e with
                      | .normal=>some (.bool true,aD.h.set id (some .ready))
                      | e=>some (.bool false,aD.h.set id (some (.done e)))
                    | _=>none
                  | none=>none
                | _=>none
              | _=>none
             else none
           | none=>none) draw ops kz s).map fun aD=>(.normal,aD)
   | .seq a b=>match exec n Y a s with
     | some (.normal,aD)=>exec n Y b aD
     | r=>r
   | .cond x a b=>match x.cu G s.F with
     | .bool t=>if t then exec n Y a s else exec n Y b s
     | _=>none
   | .block id b=>match exec n Y b s with
     | some (.exit i,aD)=>if i=id then some (.normal,aD) else some (.exit i,aD)
     | r=>r
   | .loop b=>match exec n Y b s with
     | some (.normal,aD)=>exec n Y (.loop b) aD
     | r=>r
   | .ma f ps ei body=>match f.cu G s.F with
     | .fn g first c0=>match Φ g with
       | some fn=>match exec n (⟨s.h.next,s.F,ps,ei,body⟩::Y) fn.body ⟨a8 (first++ [.gb s.h.next]++c0),{s.h with next:=s.h.next+1,bu:=aG s.h.bu s.h.next (some .ready)}⟩ with
         | some (.normal,aD)|some (.ret,aD)=>match e1 aD.h aD.F fn.res with
           | some _=>match aD.h.bu s.h.next with
             | some .ready=>some (.normal,⟨s.F,aD.h.set s.h.next none⟩)
             | some (.done e)=>some (e,⟨s.F,aD.h.set s.h.next none⟩)
             | _=>none
           | none=>none
         | _=>none
       | none=>none
     | _=>none
def xG (n:Nat) (Y:List dm) (f:FuncId) (args:List J) (h:aF):Option (J × aF):=
 match Φ f with
 | some fn=>match exec G Φ tab n Y fn.body ⟨a8 args,h⟩ with
   | some (.normal,aD)|some (.ret,aD)=>(e1 aD.h aD.F fn.res).map fun v=>(v,aD.h)
   | _=>none
 | none=>none
def aS:aF:={cells:=fun _=>none,shut:=fun _=>false,next:=0}
def m5 (n:Nat) (f:FuncId) (args:List J):Option J:=
 (xG G Φ tab n [] f args aS).bind fun(v,h)=>(kU h v).map (·.1)
end exec
end Go.Eng
namespace Go.Eng
open Go
def qW:Value->Option J
 | .int k n=>some (.int k n)
 | .bool b=>some (.bool b)
 | .string s=>some (.str s)
 | .slice none 0 0=>some (.sl [] true)
 | .nilFunc=>some .nilfn
 | _=>none
def xH:List Value->Option (List J)
 | []=>some []
 | v::vs=>match qW v,xH vs with
   | some a,some as=>some (a::as)
   | _,_=>none
def qX:Value->Option J
 | .agg cs=>(xH cs.toList).map .agg
 | v=>qW v
def eF:Operand->Option bn
 | .tmp t=>some (.t t)
 | .const v=>(qX v).map .c
 | .global g=>some (.g g)
 | .func f=>some (.f f)
def p5:List Operand->Option (List bn)
 | []=>some []
 | x::xs=>match eF x,p5 xs with
   | some a,some as=>some (a::as)
   | _,_=>none
def r4:Option Operand->Option (Option bn)
 | none=>some none
 | some x=>(eF x).map some
section
variable (P:Program)
def ha (t:TypeId):Option Nat:=(P.info? t).map (·.size)
def z7 (t:TypeId):Option Nat:=(P.info? t).map (·.bytes)
def zeroOf (t:TypeId):Option J:=(P.info? t).bind fun i=>i.zero.bind qX
def nj (t:TypeId):Option Bool:=
 match P.underlying t with
 | some (.struct _)|some (.array _ _)=>some true
 | some _=>some false
 | none=>none
def xI (cF:Array Field):List (Nat × Operand)->Option (List (Nat × Nat × bn))
 | []=>some []
 | (i,x)::r=>match cF[i]?,eF x,xI cF r with
   | some f,some y,some ps=>match ha P f.type with
     | some s=>some ((f.offset,s,y)::ps)
     | none=>none
   | _,_,_=>none
def z8 (cF:List Field):Bool:=cF.all fun f=>(ha P f.type).isSome
def xJ (s:Nat):List (Nat × Operand)->Option (List (Nat × Nat × bn))
 | []=>some []
 | (i,x)::r=>match eF x,xJ s r with
   | some y,some ps=>some ((i*s,s,y)::ps)
   | _,_=>none
def xK:List (Nat × Operand)->Option (List (Nat × bn))
 | []=>some []
 | (i,x)::r=>match eF x,xK r with
   | some y,some ps=>some ((i,y)::ps)
   | _,_=>none
def fT:Op->Option kx
 | .move x| .assign x=>(eF x).map .mv
 | .pick c a b=>match eF c,eF a,eF b with
   | some c,some a,some b=>some (.pick c a b)
   | _,_,_=>none
 | .alloc e=>(zeroOf P e).map .alloc
 | .box _ x=>(eF x).map .box
 | .build t ps=>match P.underlying t,zeroOf P t with
   | some (.struct cF),some z=>if z8 P cF.toList then (xI P cF ps.toList).map (.build z.cells) else none
   | some (.array _ e),some z=>match ha P e with
     | some s=>(xJ s ps.toList).map (.build z.cells)
     | none=>none
   | _,_=>none
 | .buildSlice t n ps=>match P.underlying t with
   | some (.slice e)=>match ha P e,zeroOf P e,xK ps.toList with
     | some s,some z,some ps=>if n*s<=2^24 then some (.bsl s z n ps) else none
     | _,_,_=>none
   | _=>none
 | .load t x=>match nj P t,ha P t,eF x with
   | some cq,some s,some x=>if cq||s == 1 then some (.load cq s x) else none
   | _,_,_=>none
 | .store t a v=>match ha P t,eF a,eF v with
   | some s,some a,some v=>some (.store s a v)
   | _,_,_=>none
 | .binOp op t x y _=>match eF x,eF y with
   | some la,some pv=>match P.underlying t with
     | some (.int _)=>some (.bin 0 op la pv)
     | some .bool=>some (.bin 1 op la pv)
     | some .string=>some (.bin 2 op la pv)
     | some (.array n e)=>match P.underlying e,ha P e with
       | some (.int _),some 1=>if op= .eql then some (.eqA false n la pv) else if op= .neq then some (.eqA true n la pv) else none
       | _,_=>none
     | some (.slice _)=>match pv with
       | .c (.sl [] true)=>if op= .eql then some (.isnil false la) else if op= .neq then some (.isnil true la) else none
       | _=>none
     | _=>none
   | _,_=>none
 | .lookup t x i true=>match P.underlying t with
   | some (.map k e)=>match P.underlying k,zeroOf P e,eF x,eF i with
     | some (.int .i64),some .nilfn,some x,some i=>some (.mlook x i)
     | _,_,_,_=>none
   | _=>none
 | .unOp op _ x=>(eF x).map (.un op)
 | .convert s d x=>match P.underlying s,P.underlying d,eF x with
   | some (.int _),some (.int k),some x=>some (.conv k x)
   | _,_,_=>none
 | .makeFunc (.func f) first c0=>match p5 first.toList,p5 c0.toList with
   | some a,some b=>some (.mkfn f a b)
   | _,_=>none
 | .makeSlice t l c=>match P.underlying t with
   | some (.slice e)=>match zeroOf P e,ha P e,z7 P e,eF l,eF c with
     | some z,some s,some b,some l,some c=>some (.mksl z s b l c)
     | _,_,_,_,_=>none
   | _=>none
 | .slice t x bd an ky=>match P.underlying t with
   | some (.slice e)=>match ha P e,eF x,r4 bd,r4 an,r4 ky with
     | some s,some x,some bd,some an,some ky=>if ky.isSome&&an.isNone then none else some (.slice s x bd an ky)
     | _,_,_,_,_=>none
   | _=>none
 | .fieldAddr s x f=>match P.underlying s with
   | some (.struct cF)=>match cF[f]? with
     | some f=>match nj P f.type,ha P f.type,eF x with
       | some cq,some sz,some x=>if sz=0 then none else some (.faddr cq f.offset sz x)
       | _,_,_=>none
     | none=>none
   | _=>none
 | .field s x f=>match P.underlying s with
   | some (.struct cF)=>match cF[f]? with
     | some f=>match nj P f.type,ha P f.type,eF x with
       | some cq,some sz,some x=>if cq||sz == 1 then some (.field cq f.offset sz x) else none
       | _,_,_=>none
     | none=>none
   | _=>none
 | .indexAddr t x i=>match P.underlying t with
   | some (.slice e)=>match ha P e,eF x,eF i with
     | some s,some x,some i=>some (.iaddrS s x i)
     | _,_,_=>none
   | some (.array n e)=>match nj P e,ha P e,eF x,eF i with
     | some cq,some s,some x,some i=>some (.iaddrA cq n s x i)
     | _,_,_,_=>none
   | _=>none
 | .index t x i=>match P.underlying t with
   | some (.array n e)=>match nj P e,ha P e,eF x,eF i with
     | some cq,some s,some x,some i=>if cq||s == 1 then some (.idxA cq n s x i) else none
     | _,_,_,_=>none
   | some .string=>match eF x,eF i with
     | some x,some i=>some (.idxS x i)
     | _,_=>none
   | _=>none
 | .extract x i=>(eF x).map fun x=> .extract x i
 | .panic _=>some (.extract (.c .undef) 0)
 | .call {callee:= .value f,args,..}=>match eF f,p5 args.toList with
   | some f,some as=>some (.call f as)
   | _,_=>none
 | .call {callee:= .builtin .len,args,argTypes}=>match argTypes[0]?,args.toList with
   | some t,[x]=>match P.underlying t,eF x with
     | some (.slice _),some x=>some (.len false x)
     | some .string,some x=>some (.len true x)
     | _,_=>none
   | _,_=>none
 | .call {callee:= .builtin .append,args,argTypes}=>match argTypes.toList,args.toList with
   | [t,u],[x,y]=>match P.underlying t,P.underlying u with
     | some (.slice e),some (.slice _)=>match ha P e,z7 P e,zeroOf P e,eF x,eF y with
       | some s,some b,some z,some x,some y=>if z.cells.length=s then some (.app s b x y) else none
       | _,_,_,_,_=>none
     | _,_=>none
   | _,_=>none
 | .call {callee:= .builtin .min,args,..}=>(p5 args.toList).map .min
 | .call {callee:= .builtin .max,args,..}=>(p5 args.toList).map .max
 | _=>none
def p6 (N:Nat) (ops:Array Oper) (o:Oper):Option bH:=
 if o.dst.all (fun d=>decide (d<N)) then
  match fT P o.op with
  | some op=>match o.guard with
    | none=>some ⟨o.dst,op,none⟩
    | some (j,w)=>match (ops[j]?).bind (·.dst) with
      | some d=>some ⟨o.dst,op,some (d,w)⟩
      | none=>none
  | none=>none
 else none
def vR (N:Nat) (ops:Array Oper):List Oper->Option (List bH)
 | []=>some []
 | o::os=>match p6 P N ops o,vR N ops os with
   | some e,some es=>some (e::es)
   | _,_=>none
def L7 (es:List bH) (b:List Nat):Bool:=
 es.zipIdx.all fun(e,j)=>es.zipIdx.all fun(f,i)=>!(decide (i<j))||(b.getD j 0).testBit i||f.apart e
def xL (ops:Array Oper):Bool:=ops.toList.zipIdx.all fun(o,i)=>o.after.all fun e=>!Region.binds .any e||decide (e.on<i)
def xM (ops:Array Oper) (b:List Nat):Bool:=
 ops.toList.zipIdx.all fun(o,i)=>(List.range i).all fun k=>!((b.getD i 0).testBit k)||o.after.any fun e=>Region.binds .any e&&(e.on == k||(decide (k<e.on)&&(b.getD e.on 0).testBit k))
def gj (N:Nat):Code->Option ee
 | .skip=>some .skip
 | .region _ ops draw=>match vR P N ops ops.toList with
   | some es=>if draw then
      (let b:=(Region.before ops).toList
       if L7 es b&&xL ops&&xM ops b&&Region.noSelect ops then some (.region true es b) else none)
     else some (.region false es [])
   | none=>none
 | .seq a b=>match gj N a,gj N b with
   | some a,some b=>some (.seq a b)
   | _,_=>none
 | .cond c a b=>match eF c,gj N a,gj N b with
   | some c,some a,some b=>some (.cond c a b)
   | _,_,_=>none
 | .block id c=>(gj N c).map (.block id)
 | .loop c=>(gj N c).map .loop
 | .rangeFunc f ps ei body=>match eF f,gj N ei,gj N body with
   | some f,some a,some b=>if ps.toList.all (fun p=>decide (p<N)) then some (.ma f ps.toList a b) else none
   | _,_,_=>none
 | .exit id=>some (.exit id)
 | .ret=>some .ret
 | .scope c=>(gj N c).map (.seq .skip)
 | .label _=>some .skip
 | _=>none
def z9:ResultVar->Option m3
 | .tmp t=>some (.tmp t)
 | .cell a t=>match nj P t,ha P t with
   | some cq,some s=>if cq||s == 1 then some (.cell a cq s) else none
   | _,_=>none
def r5:List ResultVar->Option (List m3)
 | []=>some []
 | r::rs=>match z9 P r,r5 rs with
   | some a,some as=>some (a::as)
   | _,_=>none
def z_ (fn:Func):Option bt:=
 if fn.name == "runtime.NumGoroutine" then none else
 match fn.body with
 | some c=>match gj P fn.ntmps c,r5 P fn.results.toList with
   | some b,some rs=>some ⟨b,rs⟩
   | _,_=>none
 | none=>none
def bk (f:FuncId):Option bt:=(P.funcs[f]?).bind (z_ P)
end
end Go.Eng
namespace Go.Eng
open Go Go.RowKit
inductive dU (w:World) (ok:Nat->Prop):J->Value->Prop
 | int (k:IntKind) (n:Int):dU w ok (.int k n) (.int k n)
 | bool (b:Bool):dU w ok (.bool b) (.bool b)
 | str (s:ByteArray):dU w ok (.str s) (.string s)
 | nilfn:dU w ok .nilfn .nilFunc
 | fn (f:FuncId):dU w ok (.fn f [] []) (.func (.func f) #[] #[])
 | mp (m:List (Int × FuncId)) (r:Nat) (es:Array MapEntry) (clock:Nat):ok r->w.heap[r]? =some (.map es clock)->es.size=m.length->
    (∀i (h:i<m.length) (ay:i<es.size),es[i].key= .int .i64 m[i].1/\es[i].val= .func (.func m[i].2) #[] #[])->dU w ok (.mp m) (.map (some r))
 | sl (xs:List J) (ex:Bool) (A:Option Addr) (c sz:Nat) (eK:Nat->Nat->Value):
    xs.length<=c->(ex=true->c=xs.length)->
    (∀i (h:i<xs.length),xs[i].cells.length=sz)->
    (∀i j,i<xs.length->j<sz->∃c6,A=some c6/\ok c6.block/\w.cell? (c6.add (i*sz+j))=some (eK i j))->
    (0<xs.length->A.isSome=true)->
    (∀i (h:i<xs.length) j (bb:j<xs[i].cells.length),dU w ok (xs[i].cells[j]) (eK i j))->
    dU w ok (.sl xs ex) (.slice A xs.length c)
 | agg (cs:List J) (vs:Array Value):vs.size=cs.length->
    (∀i (h:i<cs.length) (ay:i<vs.size),dU w ok cs[i] vs[i])->dU w ok (.agg cs) (.agg vs)
 | cb (cs:List J) (vs:Array Value):vs.size=cs.length->
    (∀i (h:i<cs.length) (ay:i<vs.size),dU w ok cs[i] vs[i])->dU w ok (.cb cs) (.tuple vs)
theorem Addr.qY (a:Addr) (n:Nat):(a.add n).block=a.block:=by unfold Addr.add;split<;>rfl
def tF (w bh:World) (ok pw:Nat->Prop):Prop:=∀b o,w.heap[b]? =some o->((∃arr ty e,o= .cells arr ty e)\/∃es clock,o= .map es clock)->ok b->pw b/\bh.heap[b]? =w.heap[b]?
theorem cells_of_cell {w:World} {c6:Addr} {v:Value} (h:w.cell? c6=some v):∃arr ty e,w.heap[c6.block]? =some (.cells arr ty e):=by
 unfold World.cell? at h
 split at h
 · rename_i arr ty e he;exact ⟨_,_,_,he⟩
 · cases h
theorem dU.mono {w bh:World} {ok pw:Nat->Prop} (aI:tF w bh ok pw)
 {v:J} {cv:Value} (h:dU w ok v cv):dU bh pw v cv:=by
 induction h with
 | int k n=>exact .int k n
 | bool b=>exact .bool b
 | str s=>exact .str s
 | nilfn=>exact .nilfn
 | fn f=>exact .fn f
 | mp m r es clock ae h2 aO a2=>
   obtain⟨cf,dS⟩:=aI _ _ h2 (.inr ⟨_,_,rfl⟩) ae
   exact .mp m r es clock cf (dS.trans h2) aO a2
 | sl xs ex A c sz eK ae h2 aO a2 cf dS b_=>
   refine .sl xs ex A c sz eK ae h2 aO (fun i j an bb=>?_) cf b_
   obtain⟨c6,e,a4,I⟩:=a2 i j an bb
   obtain⟨arr,ty,aq,lD⟩:=cells_of_cell I
   rw[Addr.qY] at lD
   obtain⟨p7,he⟩:=aI _ _ lD (.inl ⟨_,_,_,rfl⟩) a4
   refine⟨c6,e,p7,?_⟩
   rw[<-I]
   exact World.cell?_of_block (w:=w) (by rw[Addr.qY];exact he)
 | agg cs vs a6 h b_=>exact .agg cs vs a6 b_
 | cb cs vs a6 h b_=>exact .cb cs vs a6 b_
theorem dU.r6 {w:World} {ok pw:Nat->Prop} (aI:∀b,b<w.heap.size->ok b->pw b) {v:J} {cv:Value} (h:dU w ok v cv):dU w pw v cv:=
 h.mono fun b o au _ a4=>⟨aI b (by by_cases b6:b<w.heap.size;exact b6;rw[Array.getElem?_eq_none (by omega)] at au;cases au) a4,rfl⟩
def gG (w:World) (b:Nat):Nat:=match w.heap[b]? with
 | some (.cells arr _ _)=>arr.size
 | _=>0
inductive bC (w:World) (ok:Nat->Prop) (σ:Nat->Option (Nat × Nat)):J->Value->Prop
 | undef (cv:Value):bC w ok σ .undef cv
 | k_:bC w ok σ .k_ Go.undef
 | val (v:J) (cv:Value):dU w ok v cv->bC w ok σ v cv
 | ref (id off len cap:Nat) (A:Option Addr) (c b sz:Nat):σ id=some (b,sz)->len<=c->cap<=c->
    (0<c->A=some ⟨b,off*sz,none⟩/\(off+c)*sz<=gG w b)->bC w ok σ (.ref id off len cap) (.slice A len c)
 | ptr (id idx di b sz:Nat):σ id=some (b,sz)->bC w ok σ (.ptr id idx di) (.pointer (some ⟨b,idx*sz+di,none⟩))
 | e0 (v:J) (c6:Addr) (eK:Nat->Value):
    (∀j,j<v.cells.length->ok c6.block/\w.cell? (c6.add j)=some (eK j))->
    (∀j (h:j<v.cells.length),dU w ok (v.cells[j]) (eK j))->bC w ok σ (.e0 v) (.pointer (some c6))
 | gb (id l s:Nat):σ id=some (l,s)->bC w ok σ (.gb id) (.func (.yield l) #[] #[])
 | fn (f:FuncId) (first c0:List J) (fc cv:Array Value):fc.size=first.length->cv.size=c0.length->
    (∀i (h:i<first.length) (ay:i<fc.size),bC w ok σ first[i] fc[i])->
    (∀i (h:i<c0.length) (ay:i<cv.size),bC w ok σ c0[i] cv[i])->bC w ok σ (.fn f first c0) (.func (.func f) fc cv)
 | agg (cs:List J) (vs:Array Value):vs.size=cs.length->
    (∀i (h:i<cs.length) (ay:i<vs.size),bC w ok σ cs[i] vs[i])->bC w ok σ (.agg cs) (.agg vs)
 | cb (cs:List J) (vs:Array Value):vs.size=cs.length->
    (∀i (h:i<cs.length) (ay:i<vs.size),bC w ok σ cs[i] vs[i])->bC w ok σ (.cb cs) (.tuple vs)
theorem bC.mono {w bh:World} {ok pw:Nat->Prop} {σ bN:Nat->Option (Nat × Nat)}
 (aI:tF w bh ok pw) (aP:∀id x,σ id=some x->bN id=some x)
 (aV:∀b,gG w b<=gG bh b) {v:J} {cv:Value} (h:bC w ok σ v cv):bC bh pw bN v cv:=by
 induction h with
 | undef cv=>exact .undef cv
 | k_=>exact .k_
 | val v cv h=>exact .val _ _ (h.mono aI)
 | ref id off len cap A c b sz ae h2 aO a2=>exact .ref id off len cap A c b sz (aP _ _ ae) h2 aO (fun I=>⟨(a2 I).1,Nat.le_trans (a2 I).2 (aV b)⟩)
 | ptr id idx di b sz ae=>exact .ptr id idx di b sz (aP _ _ ae)
 | gb id l s ae=>exact .gb id l s (aP _ _ ae)
 | e0 v c6 eK ae h2=>
   refine .e0 v c6 eK (fun j bb=>?_) (fun j bb=>(h2 j bb).mono aI)
   obtain⟨a4,I⟩:=ae j bb
   obtain⟨arr,ty,aq,lD⟩:=cells_of_cell I
   rw[Addr.qY] at lD
   obtain⟨p7,he⟩:=aI _ _ lD (.inl ⟨_,_,_,rfl⟩) a4
   exact ⟨p7,by rw[<-I];exact World.cell?_of_block (w:=w) (by rw[Addr.qY];exact he)⟩
 | fn f first c0 fc cv ae h2 aO a2 L8 L9=>exact .fn f first c0 fc cv ae h2 L8 L9
 | agg cs vs a6 h b_=>exact .agg cs vs a6 b_
 | cb cs vs a6 h b_=>exact .cb cs vs a6 b_
section inversion
variable {w:World} {ok:Nat->Prop} {σ:Nat->Option (Nat × Nat)}
theorem bC.hN {k:IntKind} {n:Int} {cv:Value} (h:bC w ok σ (.int k n) cv):cv= .int k n:=by
 cases h with
 | val _ _ h=>cases h;rfl
theorem bC.qZ {b:Bool} {cv:Value} (h:bC w ok σ (.bool b) cv):cv= .bool b:=by
 cases h with
 | val _ _ h=>cases h;rfl
theorem bC.vS {s:ByteArray} {cv:Value} (h:bC w ok σ (.str s) cv):cv= .string s:=by
 cases h with
 | val _ _ h=>cases h;rfl
theorem bC.L_ {cv:Value} (h:bC w ok σ .k_ cv):cv=Go.undef:=by
 cases h with
 | val _ _ h=>cases h
 | k_=>rfl
theorem bC.L' {cv:Value} (h:bC w ok σ .nilfn cv):cv= .nilFunc:=by
 cases h with
 | val _ _ h=>cases h;rfl
theorem bC.DI {m:List (Int × FuncId)} {cv:Value} (h:bC w ok σ (.mp m) cv):dU w ok (.mp m) cv:=by
 cases h with
 | val _ _ h=>exact h
theorem bC.q0 {xs:List J} {ex:Bool} {cv:Value} (h:bC w ok σ (.sl xs ex) cv):dU w ok (.sl xs ex) cv:=by
 cases h with
 | val _ _ h=>exact h
theorem bC.q1 {id off len cap:Nat} {cv:Value} (h:bC w ok σ (.ref id off len cap) cv):
 ∃A c b sz,cv= .slice A len c/\σ id=some (b,sz)/\len<=c/\cap<=c/\(0<c->A=some ⟨b,off*sz,none⟩/\(off+c)*sz<=gG w b):=by
 cases h with
 | val _ _ h=>cases h
 | ref _ _ _ _ A c b sz ae h2 aO a2=>exact ⟨A,c,b,sz,rfl,ae,h2,aO,a2⟩
theorem bC.vT {id idx di:Nat} {cv:Value} (h:bC w ok σ (.ptr id idx di) cv):
 ∃b sz,cv= .pointer (some ⟨b,idx*sz+di,none⟩)/\σ id=some (b,sz):=by
 cases h with
 | val _ _ h=>cases h
 | ptr _ _ _ b sz ae=>exact ⟨b,sz,rfl,ae⟩
theorem bC.xN {v:J} {cv:Value} (h:bC w ok σ (.e0 v) cv):
 ∃(c6:Addr) (eK:Nat->Value),cv= .pointer (some c6)/\(∀j,j<v.cells.length->ok c6.block/\w.cell? (c6.add j)=some (eK j))/\(∀j (h:j<v.cells.length),dU w ok (v.cells[j]) (eK j)):=by
 cases h with
 | val _ _ h=>cases h
 | e0 _ c6 eK ae h2=>exact ⟨c6,eK,rfl,ae,h2⟩
theorem bC.DJ {f:FuncId} {first c0:List J} {v:Value} (h:bC w ok σ (.fn f first c0) v):
 ∃fc cv,v= .func (.func f) fc cv/\fc.size=first.length/\cv.size=c0.length/\
  (∀i (h:i<first.length) (ay:i<fc.size),bC w ok σ first[i] fc[i])/\(∀i (h:i<c0.length) (ay:i<cv.size),bC w ok σ c0[i] cv[i]):=by
 cases h with
 | val _ _ h=>cases h;exact ⟨#[],#[],rfl,rfl,rfl,fun i h=>absurd h (Nat.not_lt_zero i),fun i h=>absurd h (Nat.not_lt_zero i)⟩
 | fn _ _ _ fc cv ae h2 aO a2=>exact ⟨fc,cv,rfl,ae,h2,aO,a2⟩
theorem bC.Ma {id:Nat} {cv:Value} (h:bC w ok σ (.gb id) cv):∃l s,cv= .func (.yield l) #[] #[]/\σ id=some (l,s):=by
 cases h with
 | val _ _ h=>cases h
 | gb _ l s ae=>exact ⟨l,s,rfl,ae⟩
theorem bC.tG {cs:List J} {v:Value} (h:bC w ok σ (.agg cs) v):
 ∃vs,v= .agg vs/\vs.size=cs.length/\(∀i (h:i<cs.length) (ay:i<vs.size),bC w ok σ cs[i] vs[i]):=by
 cases h with
 | val _ _ h=>cases h with
   | agg _ vs ae h2=>exact ⟨vs,rfl,ae,fun i h ay=> .val _ _ (h2 i h ay)⟩
 | agg _ vs ae h2=>exact ⟨vs,rfl,ae,h2⟩
theorem bC.DK {cs:List J} {v:Value} (h:bC w ok σ (.cb cs) v):
 ∃vs,v= .tuple vs/\vs.size=cs.length/\(∀i (h:i<cs.length) (ay:i<vs.size),bC w ok σ cs[i] vs[i]):=by
 cases h with
 | val _ _ h=>cases h with
   | cb _ vs ae h2=>exact ⟨vs,rfl,ae,fun i h ay=> .val _ _ (h2 i h ay)⟩
 | cb _ vs ae h2=>exact ⟨vs,rfl,ae,h2⟩
theorem bC.vU {v:J} {cv:Value} (h:bC w ok σ v cv) (aP:v.dp=true):cv.oneCell'=true:=by
 cases h with
 | undef=>simp[J.dp] at aP
 | k_=>simp[J.dp] at aP
 | val _ _ h=>cases h<;>first|rfl|simp[J.dp] at aP
 | agg=>simp[J.dp] at aP
 | cb=>simp[J.dp] at aP
 | _=>rfl
theorem bC.cells {v:J} {cv:Value} (h:bC w ok σ v cv) (hu:v.cells.all J.dp=true\/∃cs,v= .agg cs):
 cv.cells.size=v.cells.length/\∀i (h:i<v.cells.length) (ay:i<cv.cells.size),bC w ok σ v.cells[i] cv.cells[i]:=by
 by_cases bF:∃cs,v= .agg cs
 · obtain⟨cs,rfl⟩:=bF
   obtain⟨vs,rfl,ae,h2⟩:=h.tG
   exact ⟨ae,h2⟩
 · have aY:v.cells= [v]:=by
    cases v<;>first|rfl|exact absurd ⟨_,rfl⟩ bF
   have aP:v.dp=true:=by
    rcases hu with hu|hu
    · rw[aY] at hu;simpa using hu
    · exact absurd hu bF
   have I:cv.cells= #[cv]:=by
    have:=h.vU aP
    cases cv<;>first|rfl|simp[Value.oneCell'] at this
   rw[aY,I]
   refine⟨rfl,fun i ae h2=>?_⟩
   have:i=0:=by simpa using ae
   subst this
   exact h
end inversion
def b5 (base:Nat) (okin:Nat->Prop) (σ:Nat->Option (Nat × Nat)) (h:aF) (b:Nat):Prop:=
 (b<base/\okin b)\/(base<=b/\∀id sz,σ id=some (b,sz)->(h.cells id).isSome=true->h.shut id=true)
structure dd (base:Nat) (okin:Nat->Prop) (σ:Nat->Option (Nat × Nat)) (h:aF) (w:World):Prop where
 val:∀id b sz,σ id=some (b,sz)->base<=b/\b<w.heap.size
 blk:∀id blk,h.cells id=some blk->∃b sz arr ty,σ id=some (b,sz)/\w.heap[b]? =some (.cells arr ty (0,0))/\
  ∀i (an:i<blk.length),blk[i].cells.length=sz/\∀j (bb:j<blk[i].cells.length),∃v,arr[i*sz+j]? =some v/\bC w (b5 base okin σ h) σ (blk[i].cells[j]) v
 inj:∀id gn b sz fU,(h.cells id).isSome=true->(h.cells gn).isSome=true->σ id=some (b,sz)->σ gn=some (b,fU)->id=gn
 base:base<=w.heap.size
structure Prog (base:Nat) (okin:Nat->Prop) (σ:Nat->Option (Nat × Nat)) (h:aF) (w:World) (bN:Nat->Option (Nat × Nat)) (ay:aF) (bh:World):Prop where
 sub:∀id x,σ id=some x->bN id=some x
 qV:∀b,b<w.heap.size->b5 base okin σ h b->b5 base okin bN ay b/\bh.heap[b]? =w.heap[b]?
 below:Below base w bh
 grow:∀b,gG w b<=gG bh b
theorem Prog.refl (base:Nat) (okin:Nat->Prop) (σ:Nat->Option (Nat × Nat)) (h:aF) (w:World):Prog base okin σ h w σ h w:=
 ⟨fun _ _ h=>h,fun _ _ h=>⟨h,rfl⟩,Below.refl _ _,fun _=>Nat.le_refl _⟩
theorem Prog.trans {base:Nat} {okin:Nat->Prop} {σ hp p8:Nat->Option (Nat × Nat)} {h ae h2:aF} {w bK cr:World}
 (p:Prog base okin σ h w hp ae bK) (q:Prog base okin hp ae bK p8 h2 cr):Prog base okin σ h w p8 h2 cr:=
 ⟨fun id x av=>q.sub id x (p.sub id x av),fun b au a4=>by
   obtain⟨eD,aj⟩:=p.qV b au a4
   obtain⟨ef,aq⟩:=q.qV b (Nat.lt_of_lt_of_le au p.below.size) eD
   exact ⟨ef,aq.trans aj⟩,p.below.trans q.below,fun b=>Nat.le_trans (p.grow b) (q.grow b)⟩
theorem Prog.still {base:Nat} {okin:Nat->Prop} {σ bN:Nat->Option (Nat × Nat)} {h ay:aF} {w bh:World} (p:Prog base okin σ h w bN ay bh):tF w bh (b5 base okin σ h) (b5 base okin bN ay):=
 fun b o au _ a4=>p.qV b (by by_cases b6:b<w.heap.size;exact b6;rw[Array.getElem?_eq_none (by omega)] at au;cases au) a4
theorem Prog.rep {base:Nat} {okin:Nat->Prop} {σ bN:Nat->Option (Nat × Nat)} {h ay:aF} {w bh:World} (p:Prog base okin σ h w bN ay bh)
 {v:J} {cv:Value} (r:bC w (b5 base okin σ h) σ v cv):bC bh (b5 base okin bN ay) bN v cv:=r.mono p.still p.sub p.grow
end Go.Eng
namespace Go.Eng
open Go Go.RowKit
theorem DL (w:World) (o:Obj) (b:Nat):gG w b<=gG (w.alloc o) b:=by
 by_cases h:b<w.heap.size
 · unfold gG;rw[Below.heap_alloc _ _ _ h];exact Nat.le_refl _
 · unfold gG;rw[Array.getElem?_eq_none (by omega)];exact Nat.zero_le _
theorem z' (w:World) (arr:Array Value) (ty:TypeId):gG (w.alloc (.cells arr ty)) w.heap.size=arr.size:=by
 have:(w.alloc (.cells arr ty)).heap[w.heap.size]? =some (.cells arr ty):=by show (w.heap.push _)[w.heap.size]? =_;simp
 unfold gG;rw[this]
theorem DM (w:World) (g:Nat) (arr arr':Array Value) (ty:TypeId) (cg:Nat × Nat) (bq:w.heap[g]? =some (.cells arr ty cg)) (a6:arr.size<=arr'.size) (b:Nat):gG w b<=gG (w.setRow g arr') b:=by
 by_cases h:b=g
 · subst h;unfold gG;rw[bq,setRow_heap _ _ _ _ _ _ bq];exact a6
 · unfold gG;rw[setRow_other _ _ _ _ h];exact Nat.le_refl _
theorem Mb {w bh:World} (h:Below w.heap.size w bh) (b:Nat):gG w b<=gG bh b:=by
 by_cases au:b<w.heap.size
 · unfold gG;rw[h.block b au];exact Nat.le_refl _
 · unfold gG;rw[Array.getElem?_eq_none (by omega)];exact Nat.zero_le _
section
variable {base:Nat} {okin:Nat->Prop} {σ:Nat->Option (Nat × Nat)} {h:aF} {w:World}
theorem dd.Aa (H:dd base okin σ h w) {r:Nat} (bf:σ r=none):h.cells r=none:=by
 cases I:h.cells r with
 | none=>rfl
 | some blk=>
   obtain⟨b,sz,_,_,e,_⟩:=H.blk r blk I
   rw[bf] at e;cases e
theorem dd.alloc (H:dd base okin σ h w) {r:Nat} (bf:σ r=none) (blk:List J) (arr:Array Value) (ty:TypeId) (sz:Nat)
 (au:∀i (an:i<blk.length),blk[i].cells.length=sz/\∀j (bb:j<blk[i].cells.length),∃v,arr[i*sz+j]? =some v/\bC w (b5 base okin σ h) σ (blk[i].cells[j]) v):
 dd base okin (aG σ r (some (w.heap.size,sz))) (h.new r blk) (w.alloc (.cells arr ty))/\
 Prog base okin σ h w (aG σ r (some (w.heap.size,sz))) (h.new r blk) (w.alloc (.cells arr ty)):=by
 have Mc:=H.Aa bf
 have sub:∀id x,σ id=some x->aG σ r (some (w.heap.size,sz)) id=some x:=by
  intro id x av
  unfold aG
  by_cases e:id=r
  · subst e;rw[bf] at av;cases av
  · rw[if_neg e];exact av
 have P:Prog base okin σ h w (aG σ r (some (w.heap.size,sz))) (h.new r blk) (w.alloc (.cells arr ty)):=by
  refine⟨sub,fun b au a4=>⟨?_,Below.heap_alloc _ _ _ au⟩,(Below.refl _ _).alloc H.base _,DL w _⟩
  rcases a4 with a4|⟨ae,h2⟩
  · exact .inl a4
  · refine .inr ⟨ae,fun id s aP a6=>?_⟩
    unfold aG at aP
    by_cases e:id=r
    · rw[if_pos e] at aP
      have:w.heap.size=b:=by injection aP with aP;injection aP
      omega
    · rw[if_neg e] at aP
      refine h2 id s aP ?_
      simpa[aF.new,aG,e] using a6
 refine⟨⟨?_,?_,?_,?_⟩,P⟩
 · intro id b s aP
   unfold aG at aP
   by_cases e:id=r
   · rw[if_pos e] at aP
     injection aP with aP;injection aP with ae h2
     subst ae
     exact ⟨H.base,by simp⟩
   · rw[if_neg e] at aP
     obtain⟨a1,cP⟩:=H.val id b s aP
     exact ⟨a1,by simp;omega⟩
 · intro id gk gH
   by_cases e:id=r
   · subst e
     have:blk=gk:=by simpa[aF.new,aG] using gH
     subst this
     refine⟨w.heap.size,sz,arr,ty,by simp[aG],by show (w.heap.push _)[w.heap.size]? =_;simp,fun i an=>⟨(au i an).1,fun j bb=>?_⟩⟩
     obtain⟨v,aj,aq⟩:=(au i an).2 j bb
     exact ⟨v,aj,P.rep aq⟩
   · have p9:h.cells id=some gk:=by simpa[aF.new,aG,e] using gH
     obtain⟨b,s,a,t,aj,aq,aW⟩:=H.blk id gk p9
     refine⟨b,s,a,t,sub _ _ aj,?_,fun i an=>⟨(aW i an).1,fun j bb=>?_⟩⟩
     · rw[Below.heap_alloc _ _ _ (H.val _ _ _ aj).2];exact aq
     · obtain⟨v,f1,f2⟩:=(aW i an).2 j bb
       exact ⟨v,f1,P.rep f2⟩
 · intro id gn b s aD ae h2 aj aq
   by_cases e:id=r<;>by_cases e':gn=r
   · rw[e,e']
   · exfalso
     simp only[aG,e,e',if_true,if_false] at aj aq
     injection aj with aj;injection aj with aj _
     have:=(H.val _ _ _ aq).2
     omega
   · exfalso
     simp only[aG,e,e',if_true,if_false] at aj aq
     injection aq with aq;injection aq with aq _
     have:=(H.val _ _ _ aj).2
     omega
   · simp only[aG,e,e',if_false] at aj aq
     exact H.inj id gn b s aD (by simpa[aF.new,aG,e] using ae) (by simpa[aF.new,aG,e'] using h2) aj aq
 · simp;have:=H.base;omega
theorem dd.write (H:dd base okin σ h w) {id:Nat} {blk blk':List J} {b sz:Nat} {arr arr':Array Value} {ty:TypeId} (I:h.cells id=some blk) (aP:h.shut id=false)
 (he:σ id=some (b,sz)) (bF:w.heap[b]? =some (.cells arr ty (0,0))) (r7:arr.size<=arr'.size)
 (au:∀i (an:i<blk'.length),blk'[i].cells.length=sz/\∀j (bb:j<blk'[i].cells.length),∃v,arr'[i*sz+j]? =some v/\bC w (b5 base okin σ h) σ (blk'[i].cells[j]) v):
 dd base okin σ (h.new id blk') (w.setRow b arr')/\Prog base okin σ h w σ (h.new id blk') (w.setRow b arr'):=by
 have xO:∀i,(((h.new id blk').cells i).isSome=true)↔((h.cells i).isSome=true):=by
  intro i
  by_cases e:i=id
  · subst e;simp[aF.new,aG,I]
  · simp[aF.new,aG,e]
 have kB:∀k,b5 base okin σ h k↔b5 base okin σ (h.new id blk') k:=by
  intro k
  unfold b5
  constructor
  · rintro (a|⟨a,c⟩)
    · exact .inl a
    · exact .inr ⟨a,fun i s an a6=>c i s an ((xO i).1 a6)⟩
  · rintro (a|⟨a,c⟩)
    · exact .inl a
    · exact .inr ⟨a,fun i s an a6=>c i s an ((xO i).2 a6)⟩
 have vV:=H.val _ _ _ he
 have P:Prog base okin σ h w σ (h.new id blk') (w.setRow b arr'):=by
  refine⟨fun _ _ x=>x,fun k aI a4=>⟨(kB k).1 a4,?_⟩,⟨rfl,rfl,rfl,by simp,fun k aI=>setRow_other _ _ _ _ (by omega)⟩,DM _ _ _ _ _ _ bF r7⟩
  refine setRow_other _ _ _ _ ?_
  rintro rfl
  rcases a4 with⟨a,_⟩|⟨_,c⟩
  · omega
  · have:=c id sz he (by simp[I])
    rw[aP] at this;cases this
 refine⟨⟨?_,?_,?_,?_⟩,P⟩
 · intro i k s an
   have:=H.val i k s an
   exact ⟨this.1,by simpa using this.2⟩
 · intro i gk gH
   by_cases e:i=id
   · subst e
     have:blk'=gk:=by simpa[aF.new,aG] using gH
     subst this
     refine⟨b,sz,arr',ty,he,setRow_heap _ _ _ _ _ _ bF,fun i an=>⟨(au i an).1,fun j bb=>?_⟩⟩
     obtain⟨v,aj,aq⟩:=(au i an).2 j bb
     exact ⟨v,aj,P.rep aq⟩
   · have p9:h.cells i=some gk:=by simpa[aF.new,aG,e] using gH
     obtain⟨gF,s,a,t,aj,aq,aW⟩:=H.blk i gk p9
     refine⟨gF,s,a,t,aj,?_,fun i an=>⟨(aW i an).1,fun j bb=>?_⟩⟩
     · rw[setRow_other]
       · exact aq
       · rintro rfl
         exact e (H.inj i id _ _ _ (by simp[p9]) (by simp[I]) aj he)
     · obtain⟨v,f1,f2⟩:=(aW i an).2 j bb
       exact ⟨v,f1,P.rep f2⟩
 · intro i g0 k s aD ae h2 aj aq
   exact H.inj i g0 k s aD ((xO i).1 ae) ((xO g0).1 h2) aj aq
 · simpa using H.base
theorem dd.close (H:dd base okin σ h w) (ids:List Nat):dd base okin σ (h.close ids) w/\Prog base okin σ h w σ (h.close ids) w:=by
 have P:Prog base okin σ h w σ (h.close ids) w:=by
  refine⟨fun _ _ x=>x,fun b au a4=>⟨?_,rfl⟩,Below.refl _ _,fun _=>Nat.le_refl _⟩
  rcases a4 with a4|⟨ae,h2⟩
  · exact .inl a4
  · exact .inr ⟨ae,fun id s aP a6=>by simp[aF.close,h2 id s aP a6]⟩
 refine⟨⟨H.val,fun id gk gH=>?_,H.inj,H.base⟩,P⟩
 obtain⟨b,s,a,t,aj,aq,aW⟩:=H.blk id gk gH
 refine⟨b,s,a,t,aj,aq,fun i an=>⟨(aW i an).1,fun j bb=>?_⟩⟩
 obtain⟨v,f1,f2⟩:=(aW i an).2 j bb
 exact ⟨v,f1,P.rep f2⟩
theorem dd.rename (H:dd base okin σ h w) {id r:Nat} {blk blk':List J} {b sz:Nat} {arr arr':Array Value} {ty:TypeId} (I:h.cells id=some blk) (aP:h.shut id=false) (bf:σ r=none)
 (he:σ id=some (b,sz)) (bF:w.heap[b]? =some (.cells arr ty (0,0))) (r7:arr.size<=arr'.size)
 (au:∀i (an:i<blk'.length),blk'[i].cells.length=sz/\∀j (bb:j<blk'[i].cells.length),∃v,arr'[i*sz+j]? =some v/\bC w (b5 base okin σ h) σ (blk'[i].cells[j]) v):
 dd base okin (aG σ r (some (b,sz))) {h with cells:=aG (aG h.cells id none) r (some blk')} (w.setRow b arr')/\
 Prog base okin σ h w (aG σ r (some (b,sz))) {h with cells:=aG (aG h.cells id none) r (some blk')} (w.setRow b arr'):=by
 have cp:id≠r:=by rintro rfl;rw[bf] at he;cases he
 have Mc:=H.Aa bf
 have vV:=H.val _ _ _ he
 have sub:∀i x,σ i=some x->aG σ r (some (b,sz)) i=some x:=by
  intro i x av
  unfold aG
  by_cases e:i=r
  · subst e;rw[bf] at av;cases av
  · rw[if_neg e];exact av
 have P:Prog base okin σ h w (aG σ r (some (b,sz))) {h with cells:=aG (aG h.cells id none) r (some blk')} (w.setRow b arr'):=by
  have DN:∀k,b5 base okin σ h k->k≠b:=by
   rintro k a4 rfl
   rcases a4 with⟨a,_⟩|⟨_,c⟩
   · omega
   · have:=c id sz he (by simp[I])
     rw[aP] at this;cases this
  refine⟨sub,fun k aI a4=>⟨?_,setRow_other _ _ _ _ (DN k a4)⟩,⟨rfl,rfl,rfl,by simp,fun k aI=>setRow_other _ _ _ _ (by omega)⟩,DM _ _ _ _ _ _ bF r7⟩
  have Md:=DN k a4
  rcases a4 with a4|⟨ae,h2⟩
  · exact .inl a4
  · refine .inr ⟨ae,fun i s an a6=>?_⟩
    by_cases e:i=r
    · simp only[aG,e,if_true] at an
      injection an with an;injection an with an _
      exact absurd an.symm Md
    · simp only[aG,e,if_false] at an a6
      by_cases e':i=id
      · simp[e'] at a6
      · exact h2 i s an (by simpa[e'] using a6)
 refine⟨⟨?_,?_,?_,?_⟩,P⟩
 · intro i k s an
   by_cases e:i=r
   · simp only[aG,e,if_true] at an
     injection an with an;injection an with ae h2
     subst ae
     exact ⟨vV.1,by simpa using vV.2⟩
   · simp only[aG,e,if_false] at an
     have:=H.val i k s an
     exact ⟨this.1,by simpa using this.2⟩
 · intro i gk gH
   by_cases e:i=r
   · subst e
     have:blk'=gk:=by simpa[aG] using gH
     subst this
     refine⟨b,sz,arr',ty,by simp[aG],setRow_heap _ _ _ _ _ _ bF,fun i an=>⟨(au i an).1,fun j bb=>?_⟩⟩
     obtain⟨v,aj,aq⟩:=(au i an).2 j bb
     exact ⟨v,aj,P.rep aq⟩
   · by_cases e':i=id
     · simp[aG,e'] at gH
       exact absurd gH.1 cp
     · have p9:h.cells i=some gk:=by simpa[aG,e,e'] using gH
       obtain⟨gF,s,a,t,aj,aq,aW⟩:=H.blk i gk p9
       refine⟨gF,s,a,t,sub _ _ aj,?_,fun i an=>⟨(aW i an).1,fun j bb=>?_⟩⟩
       · rw[setRow_other]
         · exact aq
         · rintro rfl
           exact e' (H.inj i id _ _ _ (by simp[p9]) (by simp[I]) aj he)
       · obtain⟨v,f1,f2⟩:=(aW i an).2 j bb
         exact ⟨v,f1,P.rep f2⟩
 · intro i g0 k s aD ae h2 aj aq
   by_cases e:i=r<;>by_cases e':g0=r
   · rw[e,e']
   · exfalso
     simp only[aG,e,e',if_true,if_false] at aj aq h2
     by_cases r8:g0=id
     · simp[r8] at h2
     · rw[if_neg r8] at h2
       injection aj with aj;injection aj with aj _;subst aj
       exact r8 (H.inj g0 id _ _ _ h2 (by simp[I]) aq he)
   · exfalso
     simp only[aG,e,e',if_true,if_false] at aj aq ae
     by_cases r8:i=id
     · simp[r8] at ae
     · rw[if_neg r8] at ae
       injection aq with aq;injection aq with aq _;subst aq
       exact r8 (H.inj i id _ _ _ ae (by simp[I]) aj he)
   · simp only[aG,e,e',if_false] at aj aq ae h2
     by_cases f:i=id
     · simp[f] at ae
     · by_cases xP:g0=id
       · simp[xP] at h2
       · rw[if_neg f] at ae;rw[if_neg xP] at h2
         exact H.inj i g0 k s aD ae h2 aj aq
 · simpa using H.base
end
section consts
variable {w:World} {ok:Nat->Prop}
theorem DO {v:Value} {a:J} (h:qW v=some a):dU w ok a v/\v.cells= #[v]/\a.cells= [a]:=by
 unfold qW at h
 split at h<;>try(cases h;done)
 · cases h;exact ⟨.int _ _,rfl,rfl⟩
 · cases h;exact ⟨.bool _,rfl,rfl⟩
 · cases h;exact ⟨.str _,rfl,rfl⟩
 · cases h
   refine⟨?_,rfl,rfl⟩
   exact .sl [] true none 0 0 (fun _ _=>undef) (by simp) (by simp) (fun i h=>absurd h (by simp)) (fun i j h=>absurd h (by simp)) (by simp) (fun i h=>absurd h (by simp))
 · cases h;exact ⟨.nilfn,rfl,rfl⟩
theorem DP:∀ {vs:List Value} {as:List J},xH vs=some as->as.length=vs.length/\∀i (h:i<as.length) (ay:i<vs.length),dU w ok as[i] vs[i]/\as[i].dp=true
 | [],as,h=>by cases h;exact ⟨rfl,fun i h=>absurd h (by simp)⟩
 | v::vs,as,h=>by
   simp only[xH] at h
   split at h<;>try(cases h;done)
   rename_i a Ab ae h2
   cases h
   obtain⟨l,r⟩:=DP h2
   refine⟨by simp[l],fun i an cC=>?_⟩
   cases i with
   | zero=>
     refine⟨(DO ae).1,?_⟩
     unfold qW at ae
     split at ae<;>first|(cases ae;done)|(cases ae;rfl)
   | succ i=>exact r i (by simpa using an) (by simpa using cC)
theorem DQ {v:Value} {a:J} (h:qX v=some a):dU w ok a v/\a.cells.all J.dp=true/\a.cells.length=v.cells.size:=by
 unfold qX at h
 split at h
 · rename_i cs
   obtain⟨as,ae,rfl⟩:=Option.map_eq_some_iff.1 h
   obtain⟨l,r⟩:=DP (w:=w) (ok:=ok) ae
   refine⟨.agg as cs (by simpa using l.symm) (fun i an cC=>(r i an (by simpa using cC)).1),?_,by simpa[J.cells,Value.cells] using l⟩
   simp only[J.cells,List.all_eq_true]
   intro x av
   obtain⟨i,an,rfl⟩:=List.getElem_of_mem av
   exact (r i an (by omega)).2
 · obtain⟨aj,aq,aW⟩:=DO (w:=w) (ok:=ok) h
   refine⟨aj,?_,by rw[aq,aW];rfl⟩
   rw[aW]
   unfold qW at h
   split at h<;>first|(cases h;done)|(cases h;rfl)
end consts
structure kC (G:Nat->Option J) (ok:Nat->Prop) (σ:Nat->Option (Nat × Nat)) (w:World) (F:Nat->J) (a:Act):Prop where
 slot:∀t,bC w ok σ (F t) (a.tmps.getD t undef)
 nk:∀g v,G g=some v->bC w ok σ (.e0 v) (.pointer (some ⟨g,0,none⟩))
theorem kC.ez {G:Nat->Option J} {ok:Nat->Prop} {σ:Nat->Option (Nat × Nat)} {w:World} {F:Nat->J} {a:Act} (h:kC G ok σ w F a)
 {x:Operand} {y:bn} (av:eF x=some y):bC w ok σ (y.cu G F) (a.eval x):=by
 cases x with
 | tmp t=>cases av;exact h.slot t
 | const v=>
   obtain⟨c,ae,rfl⟩:=Option.map_eq_some_iff.1 av
   exact .val _ _ (DQ ae).1
 | global g=>
   cases av
   simp only[bn.cu,Act.eval]
   split
   · exact h.nk _ _ ‹_›
   · exact .undef _
 | func f=>cases av;exact .fn f [] [] #[] #[] rfl rfl (fun i h=>absurd h (by simp)) (fun i h=>absurd h (by simp))
end Go.Eng
namespace Go.Eng
open Go Go.RowKit
section runs
variable {P:Program} {w:World} {t:TypeId}
theorem vW {b:Bool} (h:nj P t=some b):(isAgg t).run P w= .ok b w:=by
 unfold nj at h
 unfold isAgg
 cases hu:P.underlying t with
 | none=>rw[hu] at h;cases h
 | some d=>
   rw[hu] at h
   simp only[Sem.run_bind,run_underlying hu,Result.andThen_ok]
   cases d<;>simp at h<;>subst h<;>rfl
theorem run_typeInfo {i:TypeInfo} (h:P.info? t=some i):(typeInfo t).run P w= .ok i w:=by
 simp[typeInfo,h]
theorem run_sizeOf {s:Nat} (h:ha P t=some s):(sizeOf t).run P w= .ok s w:=by
 obtain⟨i,an,rfl⟩:=Option.map_eq_some_iff.1 h
 simp[sizeOf,run_typeInfo an]
theorem DR {a:J} (h:zeroOf P t=some a):∃z,(zeroValue t).run P w= .ok z w/\qX z=some a/\∃i,P.info? t=some i/\i.zero=some z:=by
 unfold zeroOf at h
 obtain⟨i,an,h⟩:=Option.bind_eq_some_iff.1 h
 obtain⟨z,aV,h⟩:=Option.bind_eq_some_iff.1 h
 exact ⟨z,by simp[zeroValue,run_typeInfo an,aV],h,i,an,aV⟩
end runs
theorem J.vX (cs:List J):(J.agg cs).cells=cs:=rfl
theorem tH {cs hM:List J} {off sz:Nat} (h:cut cs off sz=some hM):off+sz<=cs.length/\hM.length=sz/\∀j (bb:j<hM.length) (kW:off+j<cs.length),hM[j]=cs[off+j]:=by
 unfold cut at h
 split at h
 · cases h
   refine⟨‹_›,by simp;omega,fun j bb kW=>by simp⟩
 · cases h
theorem Ac {cq:Bool} {cs:List J} {u:J} (h:partOf cq cs=some u):(cq=true/\u= .agg cs)\/(cq=false/\cs= [u]/\u.dp=true):=by
 unfold partOf at h
 cases cq with
 | true=>exact .inl ⟨rfl,by simpa using h.symm⟩
 | false=>
   simp only[Bool.false_eq_true,if_false] at h
   split at h
   · split at h
     · cases h;exact .inr ⟨rfl,rfl,‹_›⟩
     · cases h
   · cases h
theorem p_ (b x j:Nat):(⟨b,x,none⟩:Addr).add j=⟨b,x+j,none⟩:=by
 unfold Addr.add;split<;>simp_all
theorem add_add (a:Addr) (i j:Nat) (h:a.spot=none\/0<i+j):(a.add i).add j=a.add (i+j):=by
 cases a with
 | mk b o s=>
   unfold Addr.add
   by_cases an:i=0<;>by_cases bb:j=0<;>simp_all<;>omega
section ops
variable {P:Program} {base:Nat} {okin:Nat->Prop} {σ:Nat->Option (Nat × Nat)} {h:aF} {w:World}
def tI (base:Nat) (okin:Nat->Prop) (σ:Nat->Option (Nat × Nat)) (h:aF) (w:World) (r:Nat) (v:J) (ay:aF) (res:Result Next):Prop:=
 ∃bN cv bh,(res= .ok (.value cv) bh\/(res= .ok .skip bh/\cv=undef))/\Prog base okin σ h w bN ay bh/\dd base okin bN ay bh/\
  bC bh (b5 base okin bN ay) bN v cv/\∀id,id≠r->bN id=σ id
theorem tI.pure (H:dd base okin σ h w) {r:Nat} {v:J} {cv:Value} {res:Result Next} (e:res= .ok (.value cv) w) (bf:bC w (b5 base okin σ h) σ v cv):
 tI base okin σ h w r v h res:=⟨σ,cv,w,.inl e,Prog.refl ..,H,bf,fun _ _=>rfl⟩
theorem Ad {ok:Nat->Prop} {t:TypeId} {cq:Bool} {sz:Nat} (d':nj P t=some cq) (dC:ha P t=some sz) (ae:(cq||sz == 1)=true) (c6:Addr) (eK:Nat->Value)
 (I:∀j,j<sz->w.cell? (c6.add j)=some (eK j)) {cs:List J} (a6:cs.length=sz) (bf:∀j (bb:j<cs.length),bC w ok σ cs[j] (eK j)) {u:J} (bc:partOf cq cs=some u):
 ∃cv,(loadVar t c6).run P w= .ok cv w/\bC w ok σ u cv:=by
 rcases Ac bc with⟨rfl,rfl⟩|⟨rfl,rfl,_⟩
 · refine⟨.agg ((List.range sz).map eK).toArray,?_,?_⟩
   · simp[loadVar,vW d',run_sizeOf dC,run_loadCells w c6 sz eK I]
   · refine .agg _ _ (by simp[a6]) (fun i an cC=>?_)
     simpa using bf i an
 · have:sz=1:=by simpa using a6.symm
   subst this
   refine⟨eK 0,?_,bf 0 (by simp)⟩
   have:=I 0 (by omega)
   have e:c6.add 0=c6:=by unfold Addr.add;simp
   rw[e] at this
   simp[loadVar,vW d',this]
theorem dd.elem (H:dd base okin σ h w) {id idx di sz b cR:Nat} {blk:List J} {e:J} (au:h.cells id=some blk) (he:blk[idx]? =some e) (aP:σ id=some (b,cR))
 {cs:List J} (I:cut e.cells di sz=some cs):
 ∃eK:Nat->Value,(∀j,j<sz->w.cell? ((⟨b,idx*cR+di,none⟩:Addr).add j)=some (eK j))/\(∀j (bb:j<cs.length),bC w (b5 base okin σ h) σ cs[j] (eK j)):=by
 obtain⟨gF,fU,arr,ty,aj,aq,aW⟩:=H.blk id blk au
 rw[aP] at aj;cases aj
 obtain⟨an,rfl⟩:=List.getElem?_eq_some_iff.1 he
 obtain⟨cV,cY,dF⟩:=tH I
 have hlen:=(aW idx an).1
 refine⟨fun j=>(arr[idx*cR+(di+j)]?).getD undef,fun j bb=>?_,fun j bb=>?_⟩
 · obtain⟨v,f1,_⟩:=(aW idx an).2 (di+j) (by omega)
   rw[p_]
   simp only[World.cell?,aq,Option.isSome_none,Bool.false_eq_true,if_false]
   rw[Nat.add_assoc,f1];rfl
 · obtain⟨v,f1,f2⟩:=(aW idx an).2 (di+j) (by omega)
   rw[dF j bb (by omega)]
   show bC w _ σ _ ((arr[idx*cR+(di+j)]?).getD undef)
   rw[f1]
   exact f2
theorem Me (H:dd base okin σ h w) {bm r:Nat} {t:TypeId} {cq:Bool} {sz:Nat} (d':nj P t=some cq) (dC:ha P t=some sz) (ae:(cq||sz == 1)=true)
 {G:Nat->Option J} {F:Nat->J} {x:bn} {hq:Value} (av:bC w (b5 base okin σ h) σ (x.cu G F) hq) {v:J} {ay:aF} {c:ey}
 (he:evalOp bm r (bn.cu G F) h (.load cq sz x)=some (v,ay,c)):
 ay=h/\∃cv,(Instr.loadAt t hq).run P w= .ok cv w/\bC w (b5 base okin σ h) σ v cv:=by
 simp only[evalOp] at he
 split at he
 · rename_i u hu
   rw[hu] at av
   obtain⟨c6,eK,rfl,ba,br⟩:=av.xN
   obtain⟨cs,I,he⟩:=Option.bind_eq_some_iff.1 he
   obtain⟨p,bc,he⟩:=Option.map_eq_some_iff.1 he
   cases he
   obtain⟨cV,cY,dF⟩:=tH I
   refine⟨rfl,?_⟩
   obtain⟨cv,aj,aq⟩:=Ad (P:=P) (w:=w) (σ:=σ) (ok:=b5 base okin σ h) d' dC ae c6 eK (fun j bb=>(ba j (by omega)).2) cY
    (fun j bb=>by rw[dF j bb (by omega)];simpa using bC.val _ _ (br j (by omega))) bc
   exact ⟨cv,by simpa[Instr.loadAt,Instr.sureAddr] using aj,aq⟩
 · rename_i id idx di hu
   rw[hu] at av
   obtain⟨b,cR,rfl,aP⟩:=av.vT
   obtain⟨blk,au,he⟩:=Option.bind_eq_some_iff.1 he
   obtain⟨e,lE,he⟩:=Option.bind_eq_some_iff.1 he
   obtain⟨cs,I,he⟩:=Option.bind_eq_some_iff.1 he
   obtain⟨p,bc,he⟩:=Option.map_eq_some_iff.1 he
   cases he
   obtain⟨cV,cY,dF⟩:=tH I
   obtain⟨eK,ba,br⟩:=H.elem au lE aP I
   refine⟨rfl,?_⟩
   obtain⟨cv,aj,aq⟩:=Ad (P:=P) (w:=w) (σ:=σ) (ok:=b5 base okin σ h) d' dC ae _ eK ba cY br bc
   exact ⟨cv,by simpa[Instr.loadAt,Instr.sureAddr] using aj,aq⟩
 · cases he
theorem bC.vY {ok:Nat->Prop} {v:J} {cv:Value} (bf:bC w ok σ v cv) (hu:v.cells.all J.dp=true):
 cv.cells.toList.length=v.cells.length/\(∀j (bb:j<v.cells.length) (kW:j<cv.cells.toList.length),bC w ok σ v.cells[j] cv.cells.toList[j])/\∀x∈cv.cells.toList,x.oneCell'=true:=by
 obtain⟨aj,aq⟩:=bf.cells (.inl hu)
 refine⟨by simpa using aj,fun j bb kW=>by simpa using aq j bb (by simpa using kW),fun x av=>?_⟩
 obtain⟨i,an,rfl⟩:=List.getElem_of_mem av
 have cC:i<v.cells.length:=by simp at an;omega
 refine(aq i cC (by simpa using an)).vU ?_
 exact List.all_eq_true.1 hu _ (List.getElem_mem cC)
theorem xQ {cs vs:List J} {off:Nat} (h:off+vs.length<=cs.length):(gd cs off vs).length=cs.length:=by
 simp[gd];omega
theorem q2 {α:Type} {cs vs:List α} {off:Nat} (h:off+vs.length<=cs.length) (j:Nat) (bb:j<(cs.take off++vs++cs.drop (off+vs.length)).length) (kW:j<cs.length):
 (cs.take off++vs++cs.drop (off+vs.length))[j]=if de:off<=j/\j<off+vs.length then vs[j - off]'(by omega) else cs[j]:=by
 by_cases ae:j<off
 · rw[List.getElem_append_left (by simp;omega),List.getElem_append_left (by simp;omega),dif_neg (by omega)]
   simp
 · by_cases h2:j<off+vs.length
   · rw[List.getElem_append_left (by simp;omega),List.getElem_append_right (by simp;omega),dif_pos (by omega)]
     simp[Nat.min_eq_left (show off<=cs.length by omega)]
   · rw[List.getElem_append_right (by simp;omega),dif_neg (by omega)]
     have e:off+vs.length+(j -(min off cs.length+vs.length))=j:=by rw[Nat.min_eq_left (by omega)];omega
     simp[e]
theorem Mf (H:dd base okin σ h w) {bm r:Nat} {t:TypeId} {sz:Nat} (dC:ha P t=some sz)
 {G:Nat->Option J} {F:Nat->J} {x y:bn} {hq hO:Value} (av:bC w (b5 base okin σ h) σ (x.cu G F) hq) (bj:bC w (b5 base okin σ h) σ (y.cu G F) hO) {v:J} {ay:aF} {c:ey}
 (he:evalOp bm r (bn.cu G F) h (.store sz x y)=some (v,ay,c)):
 v= .undef/\∃bh,(Instr.storeAt t hq hO).run P w= .ok () bh/\Prog base okin σ h w σ ay bh/\dd base okin σ ay bh:=by
 simp only[evalOp] at he
 split at he
 · rename_i id idx di hu
   rw[hu] at av
   obtain⟨b,cR,rfl,aP⟩:=av.vT
   split at he
   · cases he
   · rename_i cG
     have cG:h.shut id=false:=by simpa using cG
     obtain⟨blk,au,he⟩:=Option.bind_eq_some_iff.1 he
     obtain⟨e,lE,he⟩:=Option.bind_eq_some_iff.1 he
     split at he
     · rename_i oU
       obtain⟨ab,aa,af⟩:=oU
       obtain⟨bz,b4,Ae⟩:=bj.vY af
       obtain⟨gF,fU,arr,ty,aj,aq,aW⟩:=H.blk id blk au
       rw[aP] at aj;cases aj
       obtain⟨an,rfl⟩:=List.getElem?_eq_some_iff.1 lE
       have hlen:=(aW idx an).1
       have p':idx*cR+(di+sz)<=arr.size:=by
        by_cases aV:di+sz=0
        · by_cases Mg:cR=0
          · simp[Mg,aV]
          · obtain⟨v0,f1,_⟩:=(aW idx an).2 0 (by omega)
            have:=(Array.getElem?_eq_some_iff.1 f1).1
            omega
        · obtain⟨v0,f1,_⟩:=(aW idx an).2 (di+sz - 1) (by omega)
          have:=(Array.getElem?_eq_some_iff.1 f1).1
          omega
       have c7:(Instr.storeAt t (.pointer (some ⟨b,idx*cR+di,none⟩)) hO).run P w= .ok () (w.setRow b (arr.toList.take (idx*cR+di)++hO.cells.toList++arr.toList.drop (idx*cR+di+hO.cells.toList.length)).toArray):=by
        have h2:=run_storeCells_at (P:=P) b (idx*cR+di) ty hO.cells.toList 0 arr w aq (by simp only[Nat.add_zero];rw[bz,ab];omega) Ae
        simp only[Nat.add_zero] at h2
        have cp:hO.cells.size=sz:=by rw[<-ab,<-bz];simp
        simp[Instr.storeAt,Instr.sureAddr,storeVar,run_sizeOf dC,cp,h2]
       have key:∀e',e'.cells.length=cR->(∀j (bb:j<e'.cells.length),∃mo,(arr.toList.take (idx*cR+di)++hO.cells.toList++arr.toList.drop (idx*cR+di+hO.cells.toList.length)).toArray[idx*cR+j]? =some mo/\bC w (b5 base okin σ h) σ (e'.cells[j]) mo)->
        Prog base okin σ h w σ (h.new id (blk.set idx e')) (w.setRow b (arr.toList.take (idx*cR+di)++hO.cells.toList++arr.toList.drop (idx*cR+di+hO.cells.toList.length)).toArray)/\
        dd base okin σ (h.new id (blk.set idx e')) (w.setRow b (arr.toList.take (idx*cR+di)++hO.cells.toList++arr.toList.drop (idx*cR+di+hO.cells.toList.length)).toArray):=by
        intro e' q3 oc
        have:=H.write (blk':=blk.set idx e') (arr':=(arr.toList.take (idx*cR+di)++hO.cells.toList++arr.toList.drop (idx*cR+di+hO.cells.toList.length)).toArray) au cG aP aq (by simp;omega) ?_
        · exact ⟨this.2,this.1⟩
        · intro i cC
          have Af:i<blk.length:=by simpa using cC
          by_cases vZ:i=idx
          · subst vZ
            simp only[List.getElem_set_self]
            exact ⟨q3,oc⟩
          · have cp:(blk.set idx e')[i]=blk[i]:=by rw[List.getElem_set_ne (Ne.symm vZ)]
            rw[cp]
            refine⟨(aW i Af).1,fun j bb=>?_⟩
            obtain⟨v0,f1,f2⟩:=(aW i Af).2 j bb
            refine⟨v0,?_,f2⟩
            have b6:=(Array.getElem?_eq_some_iff.1 f1).1
            have mq:=(Array.getElem?_eq_some_iff.1 f1).2
            have r9:j<cR:=by have:=(aW i Af).1;omega
            have nm:¬(idx*cR+di<=i*cR+j/\i*cR+j<idx*cR+di+hO.cells.toList.length):=by
             rw[bz,ab]
             rintro ⟨cn,eg⟩
             rcases Nat.lt_or_gt_of_ne vZ with q|q
             · have:(i+1)*cR<=idx*cR:=Nat.mul_le_mul_right _ q
               rw[Nat.add_mul] at this;omega
             · have:(idx+1)*cR<=i*cR:=Nat.mul_le_mul_right _ q
               rw[Nat.add_mul] at this;omega
            have hle:idx*cR+di+hO.cells.toList.length<=arr.toList.length:=by rw[bz,ab];simp;omega
            rw[List.getElem?_toArray,List.getElem?_eq_getElem (by simp;omega),q2 hle _ _ (by simpa using b6),dif_neg nm]
            simpa using mq
       have hle:idx*cR+di+hO.cells.toList.length<=arr.toList.length:=by rw[bz,ab];simp;omega
       have DS:∀j (bb:j<cR),∃mo,(arr.toList.take (idx*cR+di)++hO.cells.toList++arr.toList.drop (idx*cR+di+hO.cells.toList.length)).toArray[idx*cR+j]? =some mo/\
        (∀(de:di<=j/\j<di+sz),bC w (b5 base okin σ h) σ ((y.cu G F).cells[j - di]'(by omega)) mo)/\(¬(di<=j/\j<di+sz)->bC w (b5 base okin σ h) σ (blk[idx].cells[j]'(by omega)) mo):=by
        intro j bb
        obtain⟨v0,f1,f2⟩:=(aW idx an).2 j (by omega)
        have b6:=(Array.getElem?_eq_some_iff.1 f1).1
        have mq:=(Array.getElem?_eq_some_iff.1 f1).2
        rw[List.getElem?_toArray,List.getElem?_eq_getElem (by simp;omega)]
        refine⟨_,rfl,fun de=>?_,fun de=>?_⟩
        · rw[q2 hle _ _ (by simpa using b6),dif_pos (by rw[bz,ab];omega)]
          have:=b4 (j - di) (by omega) (by omega)
          have e:idx*cR+j -(idx*cR+di)=j - di:=by omega
          simpa[e] using this
        · rw[q2 hle _ _ (by simpa using b6),dif_neg (by rw[bz,ab];omega)]
          simp only[Array.getElem_toList]
          rw[mq];exact f2
       split at he
       · rename_i cs DT
         cases he
         refine⟨rfl,_,c7,?_⟩
         rw[DT] at hlen
         simp only[J.vX] at hlen
         have hb:di+(y.cu G F).cells.length<=cs.length:=by omega
         refine key _ (by simp only[J.vX];rw[xQ hb];exact hlen) (fun j bb=>?_)
         have kW:j<cR:=by simp only[J.vX] at bb;rw[xQ hb] at bb;omega
         obtain⟨mo,hP,kD,px⟩:=DS j kW
         refine⟨mo,hP,?_⟩
         simp only[J.vX,gd]
         rw[q2 hb j _ (by omega)]
         split
         · rename_i de;exact kD (by omega)
         · rename_i de
           have:=px (by omega)
           simpa[DT,J.vX] using this
       · rename_i Mh
         split at he
         · rename_i u Ag
           cases he
           refine⟨rfl,_,c7,?_⟩
           have lD:blk[idx].cells.length=1:=by
            cases de:blk[idx]<;>first|rfl|exact absurd de (Mh _)
           have v3:sz=1:=by rw[<-ab,Ag];rfl
           have Ah:u.dp=true:=by rw[Ag] at af;simpa using af
           have Ai:u.cells= [u]:=by cases u<;>first|rfl|simp[J.dp] at Ah
           refine key u (by rw[Ai];simp;omega) (fun j bb=>?_)
           have DU:j=0:=by rw[Ai] at bb;simpa using bb
           subst DU
           obtain⟨mo,hP,kD,_⟩:=DS 0 (by omega)
           refine⟨mo,hP,?_⟩
           have:=kD (by omega)
           simpa[Ai,Ag] using this
         · cases he
     · cases he
 · cases he
end ops
end Go.Eng
namespace Go.Eng
open Go Go.RowKit
section ops
variable {P:Program} {base:Nat} {okin:Nat->Prop} {σ:Nat->Option (Nat × Nat)} {h:aF} {w:World} {G:Nat->Option J} {F:Nat->J} {a:Act}
theorem r_ (cg:kC G (b5 base okin σ h) σ w F a):∀ {xs:List Operand} {ys:List bn},p5 xs=some ys->
 ys.length=xs.length/\∀i (an:i<ys.length) (cC:i<xs.length),bC w (b5 base okin σ h) σ (ys[i].cu G F) (a.eval xs[i])
 | [],ys,e=>by cases e;exact ⟨rfl,fun i an=>absurd an (by simp)⟩
 | x::xs,ys,e=>by
   simp only[p5] at e
   split at e<;>try(cases e;done)
   rename_i y Zf ae h2
   cases e
   obtain⟨l,r⟩:=r_ cg h2
   refine⟨by simp[l],fun i an cC=>?_⟩
   cases i with
   | zero=>exact cg.ez ae
   | succ i=>exact r i (by simpa using an) (by simpa using cC)
theorem DV {ok:Nat->Prop} {t:TypeId} {cq:Bool} {sz off:Nat} (d':nj P t=some cq) (dC:ha P t=some sz) (ae:(cq||sz == 1)=true) {cs:List J} {vs:Array Value}
 (a6:vs.size=cs.length) (bf:∀i (h:i<cs.length) (ay:i<vs.size),bC w ok σ cs[i] vs[i]) {hM:List J} (I:cut cs off sz=some hM) {u:J} (bc:partOf cq hM=some u):
 ∃cv,(part t vs off).run P w= .ok cv w/\bC w ok σ u cv:=by
 obtain⟨cV,cY,dF⟩:=tH I
 rcases Ac bc with⟨rfl,rfl⟩|⟨rfl,rfl,_⟩
 · refine⟨.agg (vs.extract off (off+sz)),by simp[part,vW d',run_sizeOf dC],?_⟩
   refine .agg _ _ (by simp;omega) (fun i an cC=>?_)
   rw[dF i an (by omega)]
   simpa using bf (off+i) (by omega) (by omega)
 · have mI:sz=1:=by simpa using cY.symm
   have b6:off<vs.size:=by omega
   refine⟨vs[off],by simp[part,vW d',b6],?_⟩
   have:=bf off (by omega) b6
   have e:=dF 0 (by simp) (by omega)
   simp only[List.getElem_cons_zero,Nat.add_zero] at e
   rw[e];exact this
def xR (op:BinOp) (k:IntKind) (x y:Int):Sem Value:=
 match op with
 | .add| .sub| .mul=>Op.intArith op k x y
 | .quo| .rem=>Op.intDiv op k x y
 | .and| .or| .xor| .andNot=>Op.intBits op k x y
 | _=>Op.intCmp op x y
theorem Mi (op:BinOp) (k:IntKind) (x y:Int) {v:J} (au:gP op k x y=some v):
 ∃cv,(xR op k x y).run P w= .ok cv w/\∀ok σ,bC w ok σ v cv:=by
 cases op<;>simp only[gP] at au<;>first
  | (cases au;done)
  | (cases au;exact ⟨_,rfl,fun _ _=> .val _ _ (.int _ _)⟩)
  | (cases au;exact ⟨_,rfl,fun _ _=> .val _ _ (.bool _)⟩)
  | (split at au
     · cases au
     · cases au;rename_i aV;exact ⟨_,by simp[xR,Op.intDiv,aV],fun _ _=> .val _ _ (.int _ _)⟩)
theorem Aj (ty:Nat) (op:BinOp) (t:TypeId) (X Y:Operand) {u v r:J} {oV cv:Value} {ok:Nat->Prop} (hu:bC w ok σ u oV) (aY:bC w ok σ v cv) (au:gY ty op u v=some r)
 (aP:ty=1->P.underlying t=some .bool):
 ∃r',(do eqGuard op t X Y oV cv;binOp op t oV cv:Sem Value).run P w= .ok r' w/\bC w ok σ r r':=by
 have bq:∀ {a b:Value},(∀c,a≠ .nilIface/\a≠ .agg c)->(eqGuard op t X Y a b).run P w= .ok () w:=by
  intro a b bF
  cases a<;>first|exact absurd rfl (bF #[]).1|exact absurd rfl (bF _).2|(cases op<;>rfl)
 unfold gY at au
 split at au
 · rename_i k x k' y
   obtain rfl:=hu.hN
   obtain rfl:=aY.hN
   simp only[Sem.run_bind,bq (a:= .int k x) (b:= .int k' y) (fun c=>⟨by simp,by simp⟩),Result.andThen_ok]
   split at au
   · rename_i df
     unfold gz at au
     split at au
     · cases au
     · rename_i xS
       rcases df with rfl|rfl
       · cases au
         exact ⟨_,by simp[binOp,Op.shift,xS],.val _ _ (.int _ _)⟩
       · cases au
         exact ⟨_,by simp[binOp,Op.shift,xS],.val _ _ (.int _ _)⟩
   · rename_i df
     split at au
     · rename_i aI
       subst aI
       obtain⟨r',aj,aq⟩:=Mi (P:=P) (w:=w) op k x y au
       refine⟨r',?_,aq _ _⟩
       have:binOp op t (.int k x) (.int k y)=xR op k x y:=by
        cases op<;>first|exact absurd (.inl rfl) df|exact absurd (.inr rfl) df|simp[binOp,xR]
       rw[this];exact aj
     · cases au
 · rename_i x y
   obtain rfl:=hu.qZ
   obtain rfl:=aY.qZ
   split at au<;>try(cases au;done)
   rename_i Mj
   have Ak:=aP Mj
   have heq:(Op.equal t (.bool x) (.bool y)).run P w= .ok (x == y) w:=by
    show (Op.equalIn (9999+1) t (.bool x) (.bool y)).run P w=_
    unfold Op.equalIn
    simp[run_underlying Ak]
   simp only[Sem.run_bind,bq (a:= .bool x) (b:= .bool y) (fun c=>⟨by simp,by simp⟩),Result.andThen_ok]
   split at au
   · cases au
     refine⟨.bool (x == y),?_,.val _ _ (.bool _)⟩
     show (do pure (.bool (<-Op.equal t (.bool x) (.bool y))):Sem Value).run P w=_
     simp[heq]
   · cases au
     refine⟨.bool (!(x == y)),?_,.val _ _ (.bool _)⟩
     show (do pure (.bool !(<-Op.equal t (.bool x) (.bool y))):Sem Value).run P w=_
     simp[heq]
   · cases au
 · rename_i x y
   obtain rfl:=hu.vS
   obtain rfl:=aY.vS
   simp only[Sem.run_bind,bq (a:= .string x) (b:= .string y) (fun c=>⟨by simp,by simp⟩),Result.andThen_ok]
   split at au
   · cases au
     exact ⟨.bool (x.toList == y.toList),by rw[show binOp .eql t (.string x) (.string y)=Op.stringOp .eql x y by simp[binOp]];simp[Op.stringOp],.val _ _ (.bool _)⟩
   · cases au
     exact ⟨.bool (!(x.toList == y.toList)),by rw[show binOp .neq t (.string x) (.string y)=Op.stringOp .neq x y by simp[binOp]];simp[Op.stringOp],.val _ _ (.bool _)⟩
   · cases au
 · cases au
theorem Mk (op:UnOp) {u r:J} {oV:Value} {ok:Nat->Prop} (hu:bC w ok σ u oV) (au:gZ op u=some r):
 ∃r',(Op.unary op oV).run P w= .ok r' w/\bC w ok σ r r':=by
 unfold gZ at au
 split at au
 · obtain rfl:=hu.hN
   split at au
   · cases au;exact ⟨_,rfl,.val _ _ (.int _ _)⟩
   · cases au;exact ⟨_,rfl,.val _ _ (.int _ _)⟩
   · cases au
 · obtain rfl:=hu.qZ
   split at au
   · cases au;exact ⟨_,rfl,.val _ _ (.bool _)⟩
   · cases au
 · cases au
theorem tJ {ok:Nat->Prop} {d y:Nat} {X:Operand} {x:bn} {l:Nat} (av:bC w ok σ (x.cu G F) (a.eval X)) (au:bound d (bn.cu G F) (some x)=some l) (a6:l<=y) (code:BoundsCode):
 (Instr.sliceBound (a.eval X) y code).run P w= .ok l w:=by
 unfold bound at au
 simp only at au
 split at au
 · rename_i k n hu
   rw[hu] at av
   rw[av.hN]
   split at au
   · rename_i aC
     cases au
     have:n<=(y:Int):=by omega
     simp[Instr.sliceBound,asIntOf,aC,this]
   · cases au
 · cases au
theorem tK (cg:kC G (b5 base okin σ h) σ w F a) {X:Option Operand} {x:Option bn} (e:r4 X=some x):
 (X=none/\x=none)\/∃qa la,X=some qa/\x=some la/\bC w (b5 base okin σ h) σ (la.cu G F) (a.eval qa):=by
 cases X with
 | none=>cases e;exact .inl ⟨rfl,rfl⟩
 | some qa=>
   obtain⟨la,ae,rfl⟩:=Option.map_eq_some_iff.1 e
   exact .inr ⟨qa,la,rfl,rfl,cg.ez ae⟩
theorem DW (cg:kC G (b5 base okin σ h) σ w F a) {bd an ky:Option Operand} {tL cC lb:Option bn} (aj:r4 bd=some tL) (aq:r4 an=some cC) (aW:r4 ky=some lb)
 (tM:(lb.isSome&&cC.isNone)=false) (len cap tN:Nat) (xT:cap<=tN) (Zg:lb=none->len<=tN) {l u m:Nat} (b1:bound 0 (bn.cu G F) tL=some l) (cN:bound len (bn.cu G F) cC=some u) (eW:bound cap (bn.cu G F) lb=some m)
 (cn:l<=u) (eg:u<=m) (gQ:m<=cap) (Ml:Bool):
 (Instr.sliceBounds Ml len tN (bd.map a.eval) (an.map a.eval) (ky.map a.eval)).run P w= .ok (l,u,if lb.isSome then m else tN) w:=by
 unfold Instr.sliceBounds
 rcases tK cg aW with⟨rfl,rfl⟩|⟨M,p3,rfl,rfl,er⟩
 · have em:m=cap:=by cases eW;rfl
   rcases tK cg aq with⟨rfl,rfl⟩|⟨Mm,ay,rfl,rfl,Al⟩
   · have DX:u=len:=by cases cN;rfl
     rcases tK cg aj with⟨rfl,rfl⟩|⟨L,mr,rfl,rfl,oW⟩
     · have el:l=0:=by cases b1;rfl
       simp[DX,el]
     · have:=tJ (P:=P) (a:=a) (y:=len) oW b1 (by omega) .sliceB
       simp[this,DX]
   · have de:=fun c=>tJ (P:=P) (a:=a) (y:=tN) Al cN (by omega) c
     rcases tK cg aj with⟨rfl,rfl⟩|⟨L,mr,rfl,rfl,oW⟩
     · have el:l=0:=by cases b1;rfl
       simp[de,el]
     · have:=tJ (P:=P) (a:=a) (y:=u) oW b1 (by omega) .sliceB
       simp[this,de]
 · have hm:=fun c=>tJ (P:=P) (a:=a) (y:=tN) er eW (by omega) c
   rcases tK cg aq with⟨rfl,rfl⟩|⟨Mm,ay,rfl,rfl,Al⟩
   · simp at tM
   · have de:=fun c=>tJ (P:=P) (a:=a) (y:=m) Al cN (by omega) c
     rcases tK cg aj with⟨rfl,rfl⟩|⟨L,mr,rfl,rfl,oW⟩
     · have el:l=0:=by cases b1;rfl
       simp[hm,de,el]
     · have:=tJ (P:=P) (a:=a) (y:=u) oW b1 (by omega) .slice3C
       simp[hm,de,this]
end ops
end Go.Eng
namespace Go.Eng
open Go Go.RowKit
section fill
variable {P:Program} {base:Nat} {okin:Nat->Prop} {σ:Nat->Option (Nat × Nat)} {h:aF} {w:World} {G:Nat->Option J} {F:Nat->J} {a:Act}
def setFrom (cs:Array Value) (off:Nat) (l:List Value):Array Value:=(l.zipIdx 0).foldl (fun cs (c,j)=>cs.setIfInBounds (off+j) c) cs
theorem DY (l:List Value):∀(s off:Nat) (cs:Array Value),((l.zipIdx s).foldl (fun cs (c,j)=>cs.setIfInBounds (off+j) c) cs).size=cs.size/\
 ∀k (aI:k<cs.size) (h':k<((l.zipIdx s).foldl (fun cs (c,j)=>cs.setIfInBounds (off+j) c) cs).size),
  ((l.zipIdx s).foldl (fun cs (c,j)=>cs.setIfInBounds (off+j) c) cs)[k]=if de:off+s<=k/\k<off+s+l.length then l[k -(off+s)]'(by omega) else cs[k]:=by
 induction l with
 | nil=>intro s off cs;exact ⟨rfl,fun k aI h'=>by
   rw[dif_neg (fun de=>by simp at de;omega)]
   simp[List.zipIdx]⟩
 | cons v l b_=>
   intro s off cs
   have:=b_ (s+1) off (cs.setIfInBounds (off+s) v)
   refine⟨by simpa[List.zipIdx_cons] using this.1,fun k aI h'=>?_⟩
   have e:=this.2 k (by simpa using aI) (by simpa[List.zipIdx_cons] using h')
   simp only[List.zipIdx_cons,List.foldl_cons]
   rw[e]
   by_cases ae:k=off+s
   · subst ae
     rw[dif_neg (by omega),dif_pos (by simp)]
     simp
   · by_cases h2:off+s<=k/\k<off+s+(v::l).length
     · have hlen:(v::l).length=l.length+1:=rfl
       rw[dif_pos (by omega),dif_pos h2]
       have:k -(off+s)=(k -(off+(s+1)))+1:=by omega
       simp[this]
     · have hlen:(v::l).length=l.length+1:=rfl
       rw[dif_neg (by omega),dif_neg h2]
       rw[Array.getElem_setIfInBounds_ne (h:=by omega)]
theorem fold_eq (cs:Array Value) (off:Nat) (v:Array Value):v.zipIdx.foldl (fun cs (c,j)=>cs.setIfInBounds (off+j) c) cs=setFrom cs off v.toList:=by
 rw[<-Array.foldl_toList,Array.toList_zipIdx];rfl
def sa (w:World) (ok:Nat->Prop) (σ:Nat->Option (Nat × Nat)) (cs:List J) (vs:Array Value):Prop:=vs.size=cs.length/\∀i (h:i<cs.length) (ay:i<vs.size),bC w ok σ cs[i] vs[i]
theorem sa.gd {ok:Nat->Prop} {cs:List J} {arr:Array Value} (I:sa w ok σ cs arr) {v:J} {cv:Value} (aY:bC w ok σ v cv) (aP:v.cells.all J.dp=true) {off:Nat} (a4:off+v.cells.length<=cs.length):
 sa w ok σ (Eng.gd cs off v.cells) (setFrom arr off cv.cells.toList):=by
 obtain⟨bz,b4,_⟩:=aY.vY aP
 obtain⟨ck,dD⟩:=I
 have A:=DY cv.cells.toList 0 off arr
 refine⟨by rw[xQ a4,<-ck];exact A.1,fun i an cC=>?_⟩
 have an:i<cs.length:=by rw[xQ a4] at an;exact an
 have e:=A.2 i (by omega) cC
 show bC w ok σ _ (((cv.cells.toList.zipIdx 0).foldl (fun cs (c,j)=>cs.setIfInBounds (off+j) c) arr)[i])
 rw[e]
 simp only[Eng.gd]
 rw[q2 a4 i _ an]
 by_cases de:off<=i/\i<off+v.cells.length
 · rw[dif_pos de,dif_pos (by omega)]
   exact b4 _ (by omega) (by omega)
 · rw[dif_neg de,dif_neg (by omega)]
   exact dD i an (by omega)
theorem Am (cg:kC G (b5 base okin σ h) σ w F a) (place:Nat->Option (Nat × Nat)):∀(ps:List (Nat × Operand)) (fi:List (Nat × Nat × bn)),
 (fi.length=ps.length/\∀k (aI:k<fi.length) (h':k<ps.length),place (ps[k].1)=some (fi[k].1,fi[k].2.1)/\eF (ps[k].2)=some (fi[k].2.2))->
 ∀(cs:List J) (arr:Array Value) (hM:List J),sa w (b5 base okin σ h) σ cs arr->gg cs (bn.cu G F) fi=some hM->
  ∃arr',Instr.fill place arr (ps.map fun(i,x)=>(i,a.eval x))=some arr'/\sa w (b5 base okin σ h) σ hM arr'
 | [],[],_,cs,arr,hM,I,aT=>by
   simp only[gg] at aT;cases aT
   exact ⟨arr,rfl,I⟩
 | [],_::_,bc,_,_,_,_,_=>by simp at bc
 | _::_,[],bc,_,_,_,_,_=>by simp at bc
 | (i,x)::ps,(off,size,y)::fi,bc,cs,arr,hM,I,aT=>by
   simp only[gg] at aT
   split at aT<;>try(cases aT;done)
   rename_i oU
   obtain⟨ab,aa,af⟩:=oU
   obtain⟨dO,e2⟩:=bc
   have q:=e2 0 (by simp) (by simp)
   simp only[List.getElem_cons_zero] at q
   have aY:=cg.ez q.2
   obtain⟨bz,b4,_⟩:=aY.vY af
   have dC:(a.eval x).cells.size=size:=by rw[<-ab,<-bz];simp
   obtain⟨arr',aj,aq⟩:=Am cg place ps fi ⟨by simpa using dO,fun k aI h'=>by
    have:=e2 (k+1) (by simp;omega) (by simp;omega)
    simpa using this⟩ _ _ hM (I.gd aY af (by omega)) aT
   refine⟨arr',?_,aq⟩
   simp only[List.map_cons,Instr.fill,q.1]
   rw[if_neg (by simp[dC];have:=I.1;omega),fold_eq]
   exact aj
theorem DZ {cF:Array Field}:∀ {ps:List (Nat × Operand)} {fi:List (Nat × Nat × bn)},xI P cF ps=some fi->
 fi.length=ps.length/\∀k (aI:k<fi.length) (h':k<ps.length),((cF[ps[k].1]?).bind fun f=>(ha P f.type).map fun s=>(f.offset,s))=some (fi[k].1,fi[k].2.1)/\eF (ps[k].2)=some (fi[k].2.2)
 | [],fi,e=>by cases e;exact ⟨rfl,fun k aI=>absurd aI (by simp)⟩
 | (i,x)::r,fi,e=>by
   simp only[xI] at e
   split at e<;>try(cases e;done)
   rename_i f y An ae h2 aO
   split at e<;>try(cases e;done)
   rename_i s aP
   cases e
   obtain⟨l,q⟩:=DZ aO
   refine⟨by simp[l],fun k aI h'=>?_⟩
   cases k with
   | zero=>simp[ae,h2,aP]
   | succ k=>exact q k (by simpa using aI) (by simpa using h')
theorem D0 {s:Nat}:∀ {ps:List (Nat × Operand)} {fi:List (Nat × Nat × bn)},xJ s ps=some fi->
 fi.length=ps.length/\∀k (aI:k<fi.length) (h':k<ps.length),(some (ps[k].1*s,s):Option (Nat × Nat))=some (fi[k].1,fi[k].2.1)/\eF (ps[k].2)=some (fi[k].2.2)
 | [],fi,e=>by cases e;exact ⟨rfl,fun k aI=>absurd aI (by simp)⟩
 | (i,x)::r,fi,e=>by
   simp only[xJ] at e
   split at e<;>try(cases e;done)
   rename_i y An ae h2
   cases e
   obtain⟨l,q⟩:=D0 h2
   refine⟨by simp[l],fun k aI h'=>?_⟩
   cases k with
   | zero=>simp[ae]
   | succ k=>exact q k (by simpa using aI) (by simpa using h')
theorem tO {ok:Nat->Prop} {t:TypeId} {z:J} (aV:zeroOf P t=some z):∃a7,(zeroValue t).run P w= .ok a7 w/\sa w ok σ z.cells a7.cells/\z.cells.all J.dp=true/\dU w ok z a7/\∃i,P.info? t=some i/\i.zero=some a7:=by
 obtain⟨a7,aj,aq,aW⟩:=DR (w:=w) aV
 obtain⟨f1,f2,f3⟩:=DQ (w:=w) (ok:=ok) aq
 refine⟨a7,aj,?_,f2,f1,aW⟩
 exact (bC.val (σ:=σ) _ _ f1).cells (.inl f2)
theorem Mn (cF:List Field) (aT:z8 P cF=true):∃pl:List (Nat × Nat),(cF.mapM (fun f=>do pure (f.offset,<-sizeOf f.type):Field->Sem (Nat × Nat))).run P w= .ok pl w/\
 ∀i:Nat,pl[i]? =(cF[i]?).bind fun f=>(ha P f.type).map fun s=>(f.offset,s):=by
 induction cF with
 | nil=>exact ⟨[],by simp,fun i=>by simp⟩
 | cons f cF b_=>
   simp only[z8,List.all_cons,Bool.and_eq_true] at aT
   obtain⟨s,aP⟩:=Option.isSome_iff_exists.1 aT.1
   obtain⟨pl,aj,aq⟩:=b_ aT.2
   refine⟨(f.offset,s)::pl,by simp[List.mapM_cons,run_sizeOf aP] at aj|-;simp[aj],fun i=>?_⟩
   cases i with
   | zero=>simp[aP]
   | succ i=>simpa using aq i
theorem Mo (cg:kC G (b5 base okin σ h) σ w F a) {t:TypeId} {ps:Array (Nat × Operand)} {mJ:kx} (I:fT P (.build t ps)=some mJ) {bm r:Nat} {v:J} {ay:aF} {c:ey}
 (he:evalOp bm r (bn.cu G F) h mJ=some (v,ay,c)):
 ay=h/\∃cv,(Instr.build t (ps.map fun(i,x)=>(i,a.eval x))).run P w= .ok cv w/\bC w (b5 base okin σ h) σ v cv:=by
 simp only[fT] at I
 split at I
 · rename_i cF z hu aV
   split at I<;>try(cases I;done)
   rename_i Mp
   obtain⟨fi,bc,rfl⟩:=Option.map_eq_some_iff.1 I
   simp only[evalOp] at he
   obtain⟨cs,aT,he⟩:=Option.map_eq_some_iff.1 he
   cases he
   obtain⟨a7,b7,c3,_⟩:=tO (w:=w) (σ:=σ) (ok:=b5 base okin σ h) aV
   obtain⟨pl,aj,aq⟩:=Mn (w:=w) cF.toList Mp
   obtain⟨arr',f1,f2⟩:=Am cg (fun x=>pl[x]?) ps.toList fi (by
    obtain⟨l,q⟩:=DZ bc
    exact ⟨l,fun k aI h'=>by have:=q k aI h';refine⟨?_,this.2⟩;rw[aq];simpa using this.1⟩) _ _ cs c3 aT
   refine⟨rfl,.agg arr',?_,.agg _ _ f2.1 f2.2⟩
   have Mq:(cF.mapM (fun f=>do pure (f.offset,<-sizeOf f.type):Field->Sem (Nat × Nat))).run P w= .ok pl.toArray w:=by
    rw[Array.mapM_eq_mapM_toList,Sem.run_map,aj];rfl
   simp only[Instr.build,Sem.run_bind,b7,Result.andThen_ok,run_underlying hu,Mq]
   have:(fun x:Nat=>pl.toArray[x]?)=fun x=>pl[x]? :=by funext x;simp
   simp only[this,Array.toList_map,f1]
   simp
 · rename_i n e z hu aV
   split at I<;>try(cases I;done)
   rename_i s aP
   obtain⟨fi,bc,rfl⟩:=Option.map_eq_some_iff.1 I
   simp only[evalOp] at he
   obtain⟨cs,aT,he⟩:=Option.map_eq_some_iff.1 he
   cases he
   obtain⟨a7,b7,c3,_⟩:=tO (w:=w) (σ:=σ) (ok:=b5 base okin σ h) aV
   obtain⟨arr',f1,f2⟩:=Am cg (fun i=>some (i*s,s)) ps.toList fi (D0 bc) _ _ cs c3 aT
   refine⟨rfl,.agg arr',?_,.agg _ _ f2.1 f2.2⟩
   simp only[Instr.build,Sem.run_bind,b7,Result.andThen_ok,run_underlying hu,run_sizeOf aP,Array.toList_map,f1]
   simp
 · cases I
end fill
end Go.Eng
namespace Go.Eng
open Go Go.RowKit
section
variable {P:Program} {base:Nat} {okin:Nat->Prop} {σ:Nat->Option (Nat × Nat)} {h:aF} {w:World} {G:Nat->Option J} {F:Nat->J} {a:Act}
theorem D1 (H:dd base okin σ h w) {r:Nat} (bf:σ r=none) {t:TypeId} {z:J} {a7:Value} (aV:bC w (b5 base okin σ h) σ z a7) (aP:z.cells.all J.dp=true):
 ∃bN bh,(newVar t a7).run P w= .ok ⟨w.heap.size,0,none⟩ bh/\Prog base okin σ h w bN (h.new r [z]) bh/\dd base okin bN (h.new r [z]) bh/\
  bC bh (b5 base okin bN (h.new r [z])) bN (.ptr r 0 0) (.pointer (some ⟨w.heap.size,0,none⟩))/\∀id,id≠r->bN id=σ id:=by
 obtain⟨cV,cY⟩:=aV.cells (.inl aP)
 have A:=H.alloc bf [z] a7.cells t z.cells.length (fun i an=>by
  have:i=0:=by simpa using an
  subst this
  refine⟨rfl,fun j bb=>?_⟩
  have kW:j<z.cells.length:=bb
  refine⟨a7.cells[j]'(by omega),?_,cY j kW (by omega)⟩
  rw[Nat.zero_mul,Nat.zero_add]
  exact Array.getElem?_eq_getElem (by omega))
 refine⟨_,_,?_,A.2,A.1,?_,?_⟩
 · simp[newVar,newRow]
 · have:=bC.ptr (w:=w.alloc (.cells a7.cells t)) (ok:=b5 base okin (aG σ r (some (w.heap.size,z.cells.length))) (h.new r [z])) (σ:=aG σ r (some (w.heap.size,z.cells.length))) r 0 0 w.heap.size z.cells.length (by simp[aG])
   simpa using this
 · intro id b8;simp[aG,b8]
theorem dU.D2 {ok:Nat->Prop} {v:J} {cv:Value} (bf:bC w ok σ v cv) (au:v.e7=true):dU w ok v cv:=by
 cases bf with
 | undef=>simp[J.e7] at au
 | k_=>simp[J.e7] at au
 | val _ _ h=>exact h
 | agg=>simp[J.e7] at au
 | cb=>simp[J.e7] at au
 | ref=>simp[J.e7] at au
 | ptr=>simp[J.e7] at au
 | e0=>simp[J.e7] at au
 | fn f first c0 fc cv ae h2=>
   cases first with
   | cons=>simp[J.e7] at au
   | nil=>
     cases c0 with
     | cons=>simp[J.e7] at au
     | nil=>
       obtain rfl:=Array.eq_empty_of_size_eq_zero ae
       obtain rfl:=Array.eq_empty_of_size_eq_zero h2
       exact .fn f
 | gb=>simp[J.e7] at au
theorem J.Mr {v:J} (h:v.e7=true):v.dp=true:=by
 cases v<;>first|rfl|simp[J.e7] at h
theorem J.Ms {v:J} (h:v.ft=true):v.cells.all J.dp=true:=by
 simp only[J.ft,List.all_eq_true] at h|-
 exact fun x av=>J.Mr (h x av)
def mK (w:World) (ok:Nat->Prop) (σ:Nat->Option (Nat × Nat)) (sz:Nat) (es:List J) (arr:Array Value):Prop:=
 arr.size=es.length*sz/\∀i (an:i<es.length),es[i].cells.length=sz/\∀j (bb:j<es[i].cells.length) (aI:i*sz+j<arr.size),bC w ok σ es[i].cells[j] arr[i*sz+j]
theorem py {i j n sz:Nat} (an:i<n) (bb:j<sz):i*sz+j<n*sz:=by
 have:(i+1)*sz<=n*sz:=Nat.mul_le_mul_right _ an
 rw[Nat.add_mul] at this;omega
theorem mK.set {ok:Nat->Prop} {sz:Nat} {es:List J} {arr:Array Value} (H:mK w ok σ sz es arr) {i:Nat} {v:J} {cv:Value} (aY:bC w ok σ v cv) (aP:v.cells.all J.dp=true) (a6:v.cells.length=sz) (an:i<es.length):
 mK w ok σ sz (es.set i v) (setFrom arr (i*sz) cv.cells.toList):=by
 obtain⟨bz,b4,_⟩:=aY.vY aP
 obtain⟨ck,dD⟩:=H
 have A:=DY cv.cells.toList 0 (i*sz) arr
 have r7:(setFrom arr (i*sz) cv.cells.toList).size=arr.size:=A.1
 refine⟨by rw[r7,ck];simp,fun k aI=>?_⟩
 have h':k<es.length:=by simpa using aI
 by_cases mb:k=i
 · subst mb
   simp only[List.getElem_set_self]
   refine⟨a6,fun j bb qb=>?_⟩
   have b6:k*sz+j<arr.size:=by rw[r7] at qb;exact qb
   have e:=A.2 (k*sz+j) b6 qb
   show bC w ok σ _ (((cv.cells.toList.zipIdx 0).foldl (fun cs (c,j)=>cs.setIfInBounds (k*sz+j) c) arr)[k*sz+j])
   rw[e,dif_pos (by omega)]
   have aq:k*sz+j -(k*sz+0)=j:=by omega
   simp only[aq]
   exact b4 j (by omega) (by omega)
 · have cp:(es.set i v)[k]=es[k]:=by rw[List.getElem_set_ne (Ne.symm mb)]
   rw[cp]
   refine⟨(dD k h').1,fun j bb qb=>?_⟩
   have b6:k*sz+j<arr.size:=by rw[r7] at qb;exact qb
   have Mt:j<sz:=by have:=(dD k h').1;omega
   have e:=A.2 (k*sz+j) b6 qb
   show bC w ok σ _ (((cv.cells.toList.zipIdx 0).foldl (fun cs (c,j)=>cs.setIfInBounds (i*sz+j) c) arr)[k*sz+j])
   rw[e,dif_neg]
   · exact (dD k h').2 j bb b6
   · rw[bz,a6]
     rintro ⟨cn,eg⟩
     rcases Nat.lt_or_gt_of_ne mb with q|q
     · have:=py q Mt;omega
     · have:=py (i:=i) (n:=k) q (j:=0) (sz:=sz) (by omega)
       have:(i+1)*sz<=k*sz:=Nat.mul_le_mul_right _ q
       rw[Nat.add_mul] at this;omega
theorem D3 (cg:kC G (b5 base okin σ h) σ w F a) {sz:Nat}:∀(ps:List (Nat × Operand)) (fi:List (Nat × bn)),xK ps=some fi->
 ∀(es:List J) (arr:Array Value) (qc:List J),mK w (b5 base okin σ h) σ sz es arr->(∀e∈es,e.ft=true)->gh sz es (bn.cu G F) fi=some qc->
  ∃arr',Instr.fill (fun i=>some (i*sz,sz)) arr (ps.map fun(i,x)=>(i,a.eval x))=some arr'/\mK w (b5 base okin σ h) σ sz qc arr'/\(∀e∈qc,e.ft=true)/\qc.length=es.length
 | [],fi,bc,es,arr,qc,H,au,aT=>by
   cases bc
   simp only[gh] at aT;cases aT
   exact ⟨arr,rfl,H,au,rfl⟩
 | (i,x)::ps,fi,bc,es,arr,qc,H,au,aT=>by
   simp only[xK] at bc
   split at bc<;>try(cases bc;done)
   rename_i y An ae h2
   cases bc
   simp only[gh] at aT
   split at aT<;>try(cases aT;done)
   rename_i oU
   obtain⟨ab,aa,af⟩:=oU
   have aY:=cg.ez ae
   have Ao:=J.Ms af
   obtain⟨bz,_,_⟩:=aY.vY Ao
   have dC:(a.eval x).cells.size=sz:=by rw[<-ab,<-bz];simp
   obtain⟨arr',aj,aq,aW,bW⟩:=D3 cg ps An h2 _ _ qc (H.set aY Ao ab aa) (fun e he=>by
    rcases List.mem_or_eq_of_mem_set he with he|rfl
    · exact au e he
    · exact af) aT
   refine⟨arr',?_,aq,aW,by simpa using bW⟩
   simp only[List.map_cons,Instr.fill]
   rw[if_neg,fold_eq]
   · exact aj
   · simp only[dC,ne_eq,not_true_eq_false,decide_false,Bool.false_or,decide_eq_true_eq,Nat.not_lt]
     rw[H.1]
     have:(i+1)*sz<=es.length*sz:=Nat.mul_le_mul_right _ aa
     rw[Nat.add_mul] at this;omega
theorem D4 {ok:Nat->Prop} {z:J} {a7:Value} (aV:sa w ok σ z.cells a7.cells) (Zh:0<z.cells.length) (n:Nat):
 mK w ok σ z.cells.length (List.replicate n z) (madeCells a7.cells (n*z.cells.length)):=by
 refine⟨by simp[madeCells],fun i an=>?_⟩
 have cC:i<n:=by simpa using an
 simp only[List.getElem_replicate]
 refine⟨trivial,fun j bb aI=>?_⟩
 have e:(madeCells a7.cells (n*z.cells.length))[i*z.cells.length+j]=a7.cells[j]'(by rw[aV.1];exact bb):=by
  simp only[madeCells,Array.getElem_map,Array.getElem_range]
  have:(i*z.cells.length+j)%a7.cells.size=j:=by
   rw[aV.1,Nat.add_comm,Nat.add_mul_mod_self_right];exact Nat.mod_eq_of_lt bb
  rw[this]
  exact getElem!_pos _ _ _
 rw[e]
 exact aV.2 j bb _
theorem Mu (H:dd base okin σ h w) (cg:kC G (b5 base okin σ h) σ w F a) {t:TypeId} {n:Nat} {ps:Array (Nat × Operand)} {mJ:kx} (I:fT P (.buildSlice t n ps)=some mJ) {bm r:Nat} {v:J} {ay:aF} {c:ey}
 (he:evalOp bm r (bn.cu G F) h mJ=some (v,ay,c)):
 ay=h/\∃cv bh,(Instr.buildSlice t n (ps.map fun(i,x)=>(i,a.eval x))).run P w= .ok cv bh/\Prog base okin σ h w σ h bh/\dd base okin σ h bh/\bC bh (b5 base okin σ h) σ v cv:=by
 simp only[fT] at I
 split at I<;>try(cases I;done)
 rename_i e hu
 split at I<;>try(cases I;done)
 rename_i sz z fi aP aV bc
 split at I<;>try(cases I;done)
 rename_i sb
 cases I
 simp only[evalOp] at he
 split at he<;>try(cases he;done)
 rename_i oU
 obtain⟨ab,aa,af⟩:=oU
 obtain⟨es,aT,he⟩:=Option.map_eq_some_iff.1 he
 cases he
 obtain⟨a7,b7,c3,sc,_,_⟩:=tO (w:=w) (σ:=σ) (ok:=b5 base okin σ h) aV
 have M:=D4 (σ:=σ) c3 (by omega) n
 rw[ab] at M
 obtain⟨arr,f1,f2,f3,f4⟩:=D3 cg ps.toList fi bc _ _ es M (fun e he=>by rw[List.eq_of_mem_replicate he];exact af) aT
 have Ap:Prog base okin σ h w σ h (w.alloc (.cells arr e)):=⟨fun _ _ x=>x,fun b au a4=>⟨a4,Below.heap_alloc _ _ _ au⟩,(Below.refl _ _).alloc H.base _,DL w _⟩
 have H1:dd base okin σ h (w.alloc (.cells arr e)):=by
  refine⟨fun id b s an=>?_,fun id gk gH=>?_,H.inj,by simp;have:=H.base;omega⟩
  · have:=H.val id b s an;exact ⟨this.1,by simp;omega⟩
  · obtain⟨b,s,q4,ty,aj,aq,aW⟩:=H.blk id gk gH
    refine⟨b,s,q4,ty,aj,by rw[Below.heap_alloc _ _ _ (H.val _ _ _ aj).2];exact aq,fun i an=>⟨(aW i an).1,fun j bb=>?_⟩⟩
    obtain⟨mo,ba,br⟩:=(aW i an).2 j bb
    exact ⟨mo,ba,Ap.rep br⟩
 have hlen:es.length=n:=by simpa using f4
 refine⟨rfl,.slice (some ⟨w.heap.size,0,none⟩) n n,_,?_,Ap,H1,?_⟩
 · have Mv:¬2^24<n*sz:=by omega
   have v5:Instr.fill (fun i=>some (i*sz,sz)) (madeCells a7.cells (n*sz)) (List.map (fun x=>(x.fst,a.eval x.snd)) ps.toList)=some arr:=f1
   unfold madeCells at v5
   by_cases aS:n*sz=0
   · have cc:Array.range (n*sz)= #[]:=by rw[aS];rfl
     rw[cc] at v5
     simp only[List.map_toArray,List.map_nil] at v5
     simp[Instr.buildSlice,run_underlying hu,run_sizeOf aP,aS,newRow,Array.range_zero',v5]
   · simp[Instr.buildSlice,run_underlying hu,run_sizeOf aP,Mv,aS,b7,v5,newRow]
 · refine .val _ _ ?_
   have:=dU.sl (w:=w.alloc (.cells arr e)) (ok:=b5 base okin σ h) es true (some ⟨w.heap.size,0,none⟩) es.length sz (fun i j=>(arr[i*sz+j]?).getD undef) (Nat.le_refl _) (fun _=>rfl) (fun i an=>(f2.2 i an).1)
    (fun i j an bb=>?_) (fun _=>rfl) (fun i an j bb=>?_)
   · rw[hlen] at this;exact this
   · refine⟨_,rfl,.inr ⟨H.base,fun id s sd a6=>?_⟩,?_⟩
     · have:=(H.val _ _ _ sd).2;simp at this
     · rw[p_,Nat.zero_add]
       have b6:=py an bb
       have:i*sz+j<arr.size:=by rw[f2.1];exact b6
       show World.cell? _ _=some ((arr[i*sz+j]?).getD undef)
       rw[Array.getElem?_eq_getElem this]
       show World.cell? (w.alloc (.cells arr e)) ⟨w.heap.size,i*sz+j,none⟩=_
       rw[World.cell?_alloc_new]
       exact Array.getElem?_eq_getElem this
   · have dC:=(f2.2 i an).1
     have b6:=py an (show j<sz by omega)
     have aI:i*sz+j<arr.size:=by rw[f2.1];exact b6
     show dU _ _ _ ((arr[i*sz+j]?).getD undef)
     rw[Array.getElem?_eq_getElem aI]
     refine dU.D2 (Ap.rep ((f2.2 i an).2 j bb aI)) ?_
     have:=f3 _ (List.getElem_mem an)
     exact List.all_eq_true.1 this _ (List.getElem_mem bb)
theorem Mw (H:dd base okin σ h w) (cg:kC G (b5 base okin σ h) σ w F a) {r:Nat} (bf:σ r=none) {t:TypeId} {X Y:Operand} {mJ:kx} (I:fT P (.makeSlice t X Y)=some mJ) {bm:Nat} {v:J} {ay:aF} {c:ey}
 (he:evalOp bm r (bn.cu G F) h mJ=some (v,ay,c)):
 ∃bN cv bh,(Instr.makeSlice t (a.eval X) (a.eval Y)).run P w= .ok cv bh/\Prog base okin σ h w bN ay bh/\dd base okin bN ay bh/\bC bh (b5 base okin bN ay) bN v cv/\∀id,id≠r->bN id=σ id:=by
 simp only[fT] at I
 split at I<;>try(cases I;done)
 rename_i e hu
 split at I<;>try(cases I;done)
 rename_i z sz bytes x y aV aP v7 av bj
 cases I
 simp only[evalOp] at he
 split at he<;>try(cases he;done)
 rename_i ab l aa dV a6 oX
 split at he<;>try(cases he;done)
 rename_i oU
 obtain⟨cn,eg,gQ,lF,D5,Mx,se⟩:=oU
 cases he
 have rx:=cg.ez av
 have ry:=cg.ez bj
 rw[a6] at rx;rw[oX] at ry
 rw[rx.hN,ry.hN]
 obtain⟨a7,b7,c3,sc,_,i,an,My⟩:=tO (w:=w) (σ:=σ) (ok:=b5 base okin σ h) aV
 have tP:i.size=sz:=by
  obtain⟨g0,aj,aq⟩:=Option.map_eq_some_iff.1 aP
  rw[an] at aj;cases aj;exact aq
 have Aq:i.bytes=bytes:=by
  obtain⟨g0,aj,aq⟩:=Option.map_eq_some_iff.1 v7
  rw[an] at aj;cases aj;exact aq
 have Ar:dV<=dV*(bytes:Int):=by
  have ld:(1:Int)<=bytes:=by omega
  have Mz:0<=dV:=by omega
  have:=Int.mul_le_mul_of_nonneg_left ld Mz
  simpa using this
 have c7:=run_make (P:=P) w t e i a7 hu an My ab aa l dV cn eg (by rw[Aq,Int.mul_comm];omega) (by omega)
 have M:=D4 (σ:=σ) c3 (by omega) dV.toNat
 rw[D5] at M
 have A:=H.alloc bf (List.replicate dV.toNat z) (madeCells a7.cells (dV.toNat*i.size)) e sz (fun k aI=>by
  refine⟨(M.2 k aI).1,fun j bb=>?_⟩
  rw[tP]
  have b6:k*sz+j<(madeCells a7.cells (dV.toNat*sz)).size:=by rw[M.1];exact py aI (by have:=(M.2 k aI).1;omega)
  exact ⟨_,Array.getElem?_eq_getElem b6,(M.2 k aI).2 j bb b6⟩)
 refine⟨_,_,_,c7,A.2,A.1,?_,fun id b8=>by simp[aG,b8]⟩
 exact .ref r 0 l.toNat dV.toNat _ dV.toNat w.heap.size sz (by simp[aG]) (by omega) (Nat.le_refl _) (fun _=>⟨by simp,by
  rw[z'];simp[madeCells,tP]⟩)
end
end Go.Eng
