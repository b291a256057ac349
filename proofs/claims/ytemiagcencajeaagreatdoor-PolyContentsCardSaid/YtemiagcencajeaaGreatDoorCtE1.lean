import Derived.Orders
import Derived.Below
import Derived.Laws.CopyRow
import Derived.Laws.MakeOwn
set_option linter.unusedSimpArgs false
set_option linter.unusedVariables false
set_option linter.unusedSectionVars false
namespace Go.Eng
open Go
inductive J where
 | undef
 | kc
 | int (k:IntKind) (n:Int)
 | bool (b:Bool)
 | str (s:ByteArray)
 | sl (xs:List J) (ex:Bool)
 | ref (id off len cap:Nat)
 | ptr (id idx cV:Nat)
 | eu (v:J)
 | fn (f:FuncId) (first caps:List J)
 | nilfn
 | fl (id:Nat)
 | mp (VI:List (Int × FuncId))
 | agg (cs:List J)
 | ch (vs:List J)
 deriving Inhabited
def J.cells:J->List J
 | .agg cs=>cs
 | v=>[v]
def J.c0:J->Bool
 | .undef| .kc| .agg _| .ch _=>false
 | _=>true
def J.ew:J->Bool
 | .int .. | .bool _| .str _| .sl .. | .nilfn| .fn _ [] []=>true
 | _=>false
def J.eA (v:J):Bool:=v.cells.all J.ew
def partOf (b':Bool) (cs:List J):Option J:=
 if b' then some (.agg cs) else match cs with
  | [c]=>if c.c0=true then some c else none
  | _=>none
def cut (cs:List J) (off sz:Nat):Option (List J):=if off+sz<=cs.length then some ((cs.drop off).take sz) else none
def fv (cs:List J) (off:Nat) (vs:List J):List J:=cs.take off++vs++cs.drop (off+vs.length)
inductive de where
 | normal
 | exit (id:Nat)
 | ret
inductive fw where
 | ready
 | busy
 | done (e:de)
structure aA where
 cells:Nat->Option (List J)
 shut:Nat->Bool
 next:Nat
 bm:Nat->Option fw:=fun _=>none
def aF {α:Type} (f:Nat->α) (k:Nat) (v:α):Nat->α:=fun i=>if i=k then v else f i
structure a' where
 F:Nat->J
 h:aA
inductive bf where
 | t (n:Nat)
 | c (v:J)
 | g (i:Nat)
 | f (n:FuncId)
 deriving Inhabited
inductive hx where
 | mv (x:bf)
 | pick (c a b:bf)
 | alloc (z:J)
 | box (x:bf)
 | build (z:List J) (ps:List (Nat × Nat × bf))
 | bsl (sz:Nat) (z:J) (n:Nat) (ps:List (Nat × bf))
 | load (b':Bool) (sz:Nat) (x:bf)
 | store (sz:Nat) (a v:bf)
 | bin (ty:Nat) (op:BinOp) (x y:bf)
 | eqA (neg:Bool) (n:Nat) (x y:bf)
 | un (op:UnOp) (x:bf)
 | conv (k:IntKind) (x:bf)
 | mkfn (f:FuncId) (first caps:List bf)
 | mksl (z:J) (sz bytes:Nat) (l c:bf)
 | slice (sz:Nat) (x:bf) (cH ag hy:Option bf)
 | faddr (b':Bool) (off sz:Nat) (x:bf)
 | field (b':Bool) (off sz:Nat) (x:bf)
 | iaddrS (sz:Nat) (x i:bf)
 | iaddrA (b':Bool) (n sz:Nat) (x i:bf)
 | idxA (b':Bool) (n sz:Nat) (x i:bf)
 | idxS (x i:bf)
 | extract (x:bf) (i:Nat)
 | call (f:bf) (args:List bf)
 | len (str:Bool) (x:bf)
 | mlook (x i:bf)
 | isnil (neg:Bool) (x:bf)
 | app (sz bytes:Nat) (x y:bf)
 | min (xs:List bf)
 | max (xs:List bf)
 deriving Inhabited
def bf.rd:bf->List Nat
 | .t n=>[n]
 | _=>[]
def bf.vC:Option bf->List Nat
 | some x=>x.rd
 | none=>[]
def hx.reads:hx->List Nat
 | .mv x| .box x| .load _ _ x| .un _ x| .conv _ x| .faddr _ _ _ x| .field _ _ _ x| .extract x _| .len _ x| .isnil _ x=>x.rd
 | .pick c a b=>c.rd++a.rd++b.rd
 | .alloc _=>[]
 | .build _ ps=>ps.flatMap fun p=>p.2.2.rd
 | .bsl _ _ _ ps=>ps.flatMap fun p=>p.2.rd
 | .store _ a v=>a.rd++v.rd
 | .bin _ _ x y| .eqA _ _ x y| .mksl _ _ _ x y| .iaddrS _ x y| .iaddrA _ _ _ x y| .idxA _ _ _ x y| .idxS x y| .app _ _ x y| .mlook x y=>x.rd++y.rd
 | .mkfn _ a b=>a.flatMap bf.rd++b.flatMap bf.rd
 | .slice _ x cH ag hy=>x.rd++bf.vC cH++bf.vC ag++bf.vC hy
 | .call f as=>f.rd++as.flatMap bf.rd
 | .min xs| .max xs=>xs.flatMap bf.rd
structure bx where
 dst:Option Nat
 op:hx
 guard:Option (Nat × Bool)
 deriving Inhabited
abbrev bx.m (a b:Nat):bx:=⟨some a,.mv (.t b),none⟩
abbrev bx.o (a:Nat) (o:hx):bx:=⟨some a,o,none⟩
abbrev bx.n (o:hx):bx:=⟨none,o,none⟩
abbrev bx.g (a:Nat) (o:hx) (t:Nat) (w:Bool):bx:=⟨some a,o,some (t,w)⟩
def bx.reads (e:bx):List Nat:=(match e.guard with
 | some (t,_)=>[t]
 | none=>[])++e.op.reads
def bx.apart (e f:bx):Bool:=
 (match e.dst with
  | some d=>!(f.reads.contains d)&&f.dst != some d
  | none=>true)&&
 (match f.dst with
  | some d=>!(e.reads.contains d)
  | none=>true)
inductive dw where
 | skip
 | region (draw:Bool) (ops:List bx) (hz:List Nat)
 | seq (a b:dw)
 | cond (c:bf) (a b:dw)
 | block (id:Nat) (c:dw)
 | loop (c:dw)
 | k4 (f:bf) (ps:List Nat) (dA body:dw)
 | exit (id:Nat)
 | ret
 deriving Inhabited
inductive lX where
 | tmp (t:Nat)
 | cell (t:Nat) (b':Bool) (sz:Nat)
 deriving Inhabited
structure bn where
 body:dw
 res:List lX
 deriving Inhabited
inductive dL where
 | pure|rd|gE|wr
 | lo (id:Nat)
 | k5 (pv:Nat->Bool)
mutual
def J.beq:J->J->Bool
 | .undef,.undef=>true
 | .kc,.kc=>true
 | .int k n,.int k' Jz=>decide (k=k')&&decide (n=Jz)
 | .bool a,.bool b=>decide (a=b)
 | .str a,.str b=>decide (a=b)
 | .sl xs e,.sl ys f=>mb xs ys&&decide (e=f)
 | .ref a b c d,.ref eh hA c' oF=>decide (a=eh)&&decide (b=hA)&&decide (c=c')&&decide (d=oF)
 | .ptr a b c,.ptr eh hA c'=>decide (a=eh)&&decide (b=hA)&&decide (c=c')
 | .eu a,.eu b=>J.beq a b
 | .fn f a b,.fn g c d=>decide (f=g)&&mb a c&&mb b d
 | .nilfn,.nilfn=>true
 | .fl a,.fl b=>decide (a=b)
 | .mp m,.mp mc=>decide (m=mc)
 | .agg a,.agg b=>mb a b
 | .ch a,.ch b=>mb a b
 | _,_=>false
def mb:List J->List J->Bool
 | [],[]=>true
 | x::xs,y::ys=>J.beq x y&&mb xs ys
 | _,_=>false
end
mutual
theorem J.beq_eq:∀(a b:J),J.beq a b=true->a=b
 | .undef,b,h=>by cases b<;>simp_all[J.beq]
 | .kc,b,h=>by cases b<;>simp_all[J.beq]
 | .int k n,b,h=>by cases b<;>simp_all[J.beq]
 | .bool a,b,h=>by cases b<;>simp_all[J.beq]
 | .str a,b,h=>by cases b<;>simp_all[J.beq]
 | .sl xs e,b,h=>by
   cases b<;>simp only[J.beq,Bool.and_eq_true,decide_eq_true_eq,Bool.false_eq_true] at h
   rw[ql _ _ h.1,h.2]
 | .ref a b c d,x,h=>by cases x<;>simp_all[J.beq]
 | .ptr a b c,x,h=>by cases x<;>simp_all[J.beq]
 | .eu a,b,h=>by
   cases b<;>simp only[J.beq,Bool.false_eq_true] at h
   rw[J.beq_eq _ _ h]
 | .fn f a b,x,h=>by
   cases x<;>simp only[J.beq,Bool.and_eq_true,decide_eq_true_eq,Bool.false_eq_true] at h
   rw[h.1.1,ql _ _ h.1.2,ql _ _ h.2]
 | .nilfn,b,h=>by cases b<;>simp_all[J.beq]
 | .fl a,b,h=>by cases b<;>simp_all[J.beq]
 | .mp m,b,h=>by cases b<;>simp_all[J.beq]
 | .agg a,b,h=>by
   cases b<;>simp only[J.beq,Bool.false_eq_true] at h
   rw[ql _ _ h]
 | .ch a,b,h=>by
   cases b<;>simp only[J.beq,Bool.false_eq_true] at h
   rw[ql _ _ h]
theorem ql:∀(a b:List J),mb a b=true->a=b
 | [],[],_=>rfl
 | [],_::_,h=>by simp[mb] at h
 | _::_,[],h=>by simp[mb] at h
 | x::xs,y::ys,h=>by
   simp only[mb,Bool.and_eq_true] at h
   rw[J.beq_eq _ _ h.1,ql _ _ h.2]
end
mutual
theorem J.beq_refl:∀(a:J),J.beq a a=true
 | .undef| .kc| .int _ _| .bool _| .str _| .ref _ _ _ _| .ptr _ _ _| .nilfn| .fl _| .mp _=>by simp[J.beq]
 | .sl xs e=>by simp[J.beq,nZ xs]
 | .eu a=>by simp[J.beq,J.beq_refl a]
 | .fn f a b=>by simp[J.beq,nZ a,nZ b]
 | .agg a=>by simp[J.beq,nZ a]
 | .ch a=>by simp[J.beq,nZ a]
theorem nZ:∀(a:List J),mb a a=true
 | []=>rfl
 | x::xs=>by simp[mb,J.beq_refl x,nZ xs]
end
def vD:Option (List J)->Option (List J)->Bool
 | none,none=>true
 | some a,some b=>mb a b
 | _,_=>false
theorem JA {a b:Option (List J)} (h:vD a b=true):a=b:=by
 cases a<;>cases b<;>simp only[vD,Bool.false_eq_true] at h
 · rfl
 · rw[ql _ _ h]
theorem vE (a:Option (List J)):vD a a=true:=by
 cases a
 · rfl
 · exact nZ _
section eval
variable (G:Nat->Option J)
def bf.ev (F:Nat->J):bf->J
 | .t n=>F n
 | .c v=>v
 | .g i=>match G i with
   | some v=> .eu v
   | none=> .undef
 | .f n=> .fn n [] []
def fX (op:BinOp) (k:IntKind) (a b:Int):Option J:=
 match op with
 | .add=>some (.int k (k.wrap (a+b)))
 | .sub=>some (.int k (k.wrap (a - b)))
 | .mul=>some (.int k (k.wrap (a*b)))
 | .quo=>if b=0 then none else some (.int k (k.wrap (a.tdiv b)))
 | .rem=>if b=0 then none else some (.int k (a.tmod b))
 | .and=>some (.int k (k.wrap ((BitVec.ofInt k.bits a&&&BitVec.ofInt k.bits b).toNat)))
 | .or=>some (.int k (k.wrap ((BitVec.ofInt k.bits a|||BitVec.ofInt k.bits b).toNat)))
 | .xor=>some (.int k (k.wrap ((BitVec.ofInt k.bits a ^^^ BitVec.ofInt k.bits b).toNat)))
 | .andNot=>some (.int k (k.wrap ((BitVec.ofInt k.bits a&&& ~~~(BitVec.ofInt k.bits b)).toNat)))
 | .eql=>some (.bool (a == b))
 | .neq=>some (.bool (a != b))
 | .lss=>some (.bool (decide (a<b)))
 | .leq=>some (.bool (decide (a<=b)))
 | .gtr=>some (.bool (decide (a>b)))
 | .geq=>some (.bool (decide (a>=b)))
 | _=>none
def fY (op:BinOp) (k:IntKind) (a b:Int):Option J:=
 if b<0 then none else
 match op with
 | .shl=>some (.int k (k.wrap (a*2^(Min.min b.toNat k.bits))))
 | .shr=>some (.int k (a.fdiv (2^(Min.min b.toNat k.bits))))
 | _=>none
def gm (ty:Nat) (op:BinOp):J->J->Option J
 | .int k a,.int k' b=>if op= .shl\/op= .shr then fY op k a b else if k=k' then fX op k a b else none
 | .bool a,.bool b=>if ty=1 then match op with
   | .eql=>some (.bool (a == b))
   | .neq=>some (.bool (!(a == b)))
   | _=>none else none
 | .str a,.str b=>match op with
   | .eql=>some (.bool (a.toList == b.toList))
   | .neq=>some (.bool (!(a.toList == b.toList)))
   | _=>none
 | _,_=>none
def gn (op:UnOp):J->Option J
 | .int k n=>match op with
   | .neg=>some (.int k (k.wrap (0 - n)))
   | .xor=>some (.int k (k.wrap ((BitVec.ofInt k.bits (if k.signed then -1 else k.max) ^^^ BitVec.ofInt k.bits n).toNat)))
   | _=>none
 | .bool b=>match op with
   | .not=>some (.bool !b)
   | _=>none
 | _=>none
def fx:List J->List J->Option Bool
 | [],[]=>some true
 | .int k a::xs,.int k' b::ys=>if k=k' then (fx xs ys).map fun r=>(a == b)&&r else none
 | _,_=>none
def fy (cells:List J) (bw:bf->J):List (Nat × Nat × bf)->Option (List J)
 | []=>some cells
 | (off,size,x)::rest=>
   if (bw x).cells.length=size/\off+size<=cells.length/\((bw x).cells.all J.c0)=true then fy (fv cells off (bw x).cells) bw rest else none
def fz (sz:Nat) (es:List J) (bw:bf->J):List (Nat × bf)->Option (List J)
 | []=>some es
 | (i,x)::rest=>
   if (bw x).cells.length=sz/\i<es.length/\(bw x).eA=true then fz sz (es.set i (bw x)) bw rest else none
def bound (d:Nat) (bw:bf->J):Option bf->Option Nat
 | none=>some d
 | some x=>match bw x with
   | .int _ n=>if 0<=n then some n.toNat else none
   | _=>none
def elems (h:aA):J->Option (List J)
 | .sl xs _=>some xs
 | .ref id off len _=>match h.cells id with
   | some blk=>if off+len<=blk.length then some ((blk.drop off).take len) else none
   | none=>none
 | _=>none
def sizedB (sz:Nat):Option (List J)->Bool
 | some blk=>decide (0<blk.length)&&blk.all fun e=>e.cells.length == sz
 | none=>false
def kd:J->Bool
 | .sl .. =>true
 | _=>false
def dG (h:aA):J->Option (J × List Nat)
 | .ref id off len _=>match h.cells id with
   | some blk=>if off+len<=blk.length/\(blk.all J.eA)=true then some (.sl ((blk.drop off).take len) false,[id]) else none
   | none=>none
 | .int k n=>some (.int k n,[])
 | .bool b=>some (.bool b,[])
 | .str s=>some (.str s,[])
 | .sl xs e=>some (.sl xs e,[])
 | .nilfn=>some (.nilfn,[])
 | .mp m=>some (.mp m,[])
 | _=>none
def eP (h:aA):List J->Option (List J × List Nat)
 | []=>some ([],[])
 | v::vs=>match dG h v,eP h vs with
   | some (hB,a),some (lY,b)=>some (hB::lY,a++b)
   | _,_=>none
def fZ (h:aA):J->Option (J × List Nat)
 | .agg cs=>(eP h cs).map fun(gQ,a)=>(.agg gQ,a)
 | v=>dG h v
def eJ (h:aA):List J->Option (List J × List Nat)
 | []=>some ([],[])
 | v::vs=>match fZ h v,eJ h vs with
   | some (hB,a),some (lY,b)=>some (hB::lY,a++b)
   | _,_=>none
def gR (h:aA):J->Option (J × List Nat)
 | .ch vs=>(eJ h vs).map fun(lY,a)=>(.ch lY,a)
 | v=>fZ h v
def aA.close (h:aA) (ids:List Nat):aA:={h with shut:=fun k=>h.shut k||ids.contains k}
def aA.new (h:aA) (r:Nat) (blk:List J):aA:={h with cells:=aF h.cells r (some blk)}
def g' (f:Int->Int->Int):List J->Option J
 | [.int k a]=>some (.int k a)
 | .int k a:: .int k' b::rest=>if k=k' then g' f (.int k (f a b)::rest) else none
 | _=>none
termination_by l=>l.length
def evalOp (bs r:Nat) (bw:bf->J) (h:aA):hx->Option (J × aA × dL)
 | .mv x=>some (bw x,h,.pure)
 | .pick c a b=>match bw c with
   | .bool t=>some (if t then bw a else bw b,h,.pure)
   | _=>none
 | .alloc z=>some (.ptr r 0 0,h.new r [z],.gE)
 | .box x=>if (bw x).cells.all J.c0 then some (.ptr r 0 0,h.new r [bw x],.gE) else none
 | .build z ps=>(fy z bw ps).map fun cs=>(.agg cs,h,.pure)
 | .bsl sz z n ps=>if z.cells.length=sz/\0<sz/\z.eA=true then (fz sz (List.replicate n z) bw ps).map fun es=>(.sl es true,h,.pure) else none
 | .load b' sz x=>match bw x with
   | .eu v=>(cut v.cells 0 sz).bind fun cs=>(partOf b' cs).map fun u=>(u,h,.pure)
   | .ptr id idx cV=>(h.cells id).bind fun blk=>(blk[idx]?).bind fun e=>(cut e.cells cV sz).bind fun cs=>(partOf b' cs).map fun u=>(u,h,if id<bs then .lo id else .wr)
   | _=>none
 | .store sz a v=>match bw a with
   | .ptr id idx cV=>
     if h.shut id=true then none else
     (h.cells id).bind fun blk=>(blk[idx]?).bind fun e=>
       if (bw v).cells.length=sz/\cV+sz<=e.cells.length/\((bw v).cells.all J.c0)=true then
        match e with
        | .agg cs=>some (.undef,h.new id (blk.set idx (.agg (fv cs cV (bw v).cells))),.wr)
        | _=>match (bw v).cells with
          | [u]=>some (.undef,h.new id (blk.set idx u),.wr)
          | _=>none
       else none
   | _=>none
 | .bin ty op x y=>(gm ty op (bw x) (bw y)).map fun v=>(v,h,.pure)
 | .eqA neg n x y=>match bw x,bw y with
   | .agg xs,.agg ys=>if xs.length=n then (fx xs ys).map fun b=>(.bool (b != neg),h,.pure) else none
   | _,_=>none
 | .un op x=>(gn op (bw x)).map fun v=>(v,h,.pure)
 | .conv k x=>match bw x with
   | .int _ n=>some (.int k (k.wrap n),h,.pure)
   | _=>none
 | .mkfn f first caps=>some (.fn f (first.map bw) (caps.map bw),h,.pure)
 | .mksl z sz bytes l c=>match bw l,bw c with
   | .int _ a,.int _ b=>
     if 0<=a/\a<=b/\b*bytes<=140737488355328/\0<bytes/\z.cells.length=sz/\0<sz/\(z.cells.all J.c0)=true
     then some (.ref r 0 a.toNat b.toNat,h.new r (List.replicate b.toNat z),.gE) else none
   | _,_=>none
 | .slice sz x cH ag hy=>match bw x with
   | .ref id off len cap=>match bound 0 bw cH,bound len bw ag,bound cap bw hy with
     | some l,some u,some m=>if l<=u/\u<=m/\m<=cap/\(l=0\/sizedB sz (h.cells id)=true) then some (.ref id (off+l) (u - l) (m - l),h,if id<bs then .rd else .wr) else none
     | _,_,_=>none
   | .sl xs ex=>match bound 0 bw cH,bound xs.length bw ag,bound xs.length bw hy with
     | some l,some u,some m=>if l<=u/\u<=m/\m<=xs.length/\(l=0\/(xs.all fun e=>e.cells.length == sz)=true) then some (.sl ((xs.drop l).take (u - l)) ((hy.isSome||ex)&&m == u),h,.pure) else none
     | _,_,_=>none
   | _=>none
 | .faddr b' off sz x=>match bw x with
   | .eu v=>(cut v.cells off sz).bind fun cs=>(partOf b' cs).map fun u=>(.eu u,h,.pure)
   | .ptr id idx cV=>some (.ptr id idx (cV+off),h,.pure)
   | _=>none
 | .field b' off sz x=>match bw x with
   | .agg cs=>(cut cs off sz).bind fun cs=>(partOf b' cs).map fun u=>(u,h,.pure)
   | _=>none
 | .iaddrS sz x i=>match bw x,bw i with
   | .sl xs _,.int _ n=>if 0<=n then (xs[n.toNat]?).bind fun e=>if e.cells.length=sz then some (.eu e,h,.pure) else none else none
   | .ref id off len _,.int _ n=>if 0<=n/\n<len/\sizedB sz (h.cells id)=true then some (.ptr id (off+n.toNat) 0,h,if id<bs then .rd else .wr) else none
   | _,_=>none
 | .iaddrA b' n sz x i=>match bw x,bw i with
   | .eu v,.int _ j=>if 0<=j/\j<n then (cut v.cells (j.toNat*sz) sz).bind fun cs=>(partOf b' cs).map fun u=>(.eu u,h,.pure) else none
   | .ptr id idx cV,.int _ j=>if 0<=j/\j<n then some (.ptr id idx (cV+j.toNat*sz),h,.pure) else none
   | _,_=>none
 | .idxA b' n sz x i=>match bw x,bw i with
   | .agg cs,.int _ j=>if 0<=j/\j<n then (cut cs (j.toNat*sz) sz).bind fun cs=>(partOf b' cs).map fun u=>(u,h,.pure) else none
   | _,_=>none
 | .idxS x i=>match bw x,bw i with
   | .str s,.int _ j=>if 0<=j then (s[j.toNat]?).map fun b=>(.int .u8 b.toNat,h,.pure) else none
   | _,_=>none
 | .extract x i=>match bw x with
   | .ch vs=>(vs[i]?).map fun v=>(v,h,.pure)
   | _=>none
 | .len str x=>match bw x with
   | .sl xs _=>if str=false then some (.int .i64 xs.length,h,.pure) else none
   | .ref _ _ len _=>if str=false then some (.int .i64 len,h,.pure) else none
   | .str s=>if str=true then some (.int .i64 s.size,h,.pure) else none
   | _=>none
 | .mlook x i=>match bw x,bw i with
   | .mp m,.int .i64 n=>some (.ch [match m.lookup n with
     | some f=> .fn f [] []
     | none=> .nilfn,.bool (m.lookup n).isSome],h,.pure)
   | _,_=>none
 | .isnil neg x=>match bw x with
   | .sl xs _=>if 0<xs.length then some (.bool neg,h,.pure) else none
   | .ref _ _ len cap=>if 0<len\/0<cap then some (.bool neg,h,.pure) else none
   | _=>none
 | .app sz bytes x y=>(elems h (bw y)).bind fun ys=>
   if 0<sz/\0<bytes/\(ys.all fun e=>e.cells.length == sz&&e.cells.all J.c0)=true then
    match bw x with
    | .sl xs ex=>if ys.length=0 then some (.sl xs ex,h,if kd (bw y) then .pure else .wr) else if ex=true/\(xs.length+ys.length)*bytes<=35184372088832/\0<ys.length/\(xs.all fun e=>e.cells.length == sz)=true
        then some (.ref r 0 (xs.length+ys.length) (xs.length+ys.length),h.new r (xs++ys),if kd (bw y) then .gE else .wr) else none
    | .ref id off len cap=>if ys.length=0 then some (.ref id off len cap,h,if kd (bw y) then .pure else .wr) else if h.shut id=true then none else (h.cells id).bind fun blk=>
        if off+len<=blk.length/\(len+ys.length)*bytes<=35184372088832/\0<ys.length/\(blk.all fun e=>e.cells.length == sz)=true then
         if len+ys.length<=cap then
          if off+cap<=blk.length then some (.ref id off (len+ys.length) cap,h.new id (blk.take (off+len)++ys++blk.drop (off+len+ys.length)),.wr) else none
         else if off=0/\0<len then some (.ref r 0 (len+ys.length) (len+ys.length),{h with cells:=aF (aF h.cells id none) r (some (blk.take len++ys))},.wr) else none
        else none
    | _=>none
   else none
 | .min xs=>(g' (fun a b=>if b<a then b else a) (xs.map bw)).map fun v=>(v,h,.pure)
 | .max xs=>(g' (fun a b=>if a<b then b else a) (xs.map bw)).map fun v=>(v,h,.pure)
 | .call .. =>none
end eval
def c6 (F:Nat->J) (d:Option Nat) (v:J):Nat->J:=
 match d with
 | some t=>aF F t v
 | none=>F
def pw (bs:Nat) (h av:aA):Nat->Bool:=fun id=>decide (id<bs)&&vD (h.cells id) (av.cells id)
def ke:dL->dL->Bool
 | .pure,_|_,.pure=>true
 | .lo id,.k5 k| .k5 k,.lo id=>k id
 | .k5 _,.gE=>true
 | .wr,_|_,.wr=>false
 | .k5 _,_|_,.k5 _=>false
 | _,_=>true
def rY (cs:List dL) (qm:List Nat):Bool:=
 cs.zipIdx.all fun(c,j)=>cs.zipIdx.all fun(d,i)=>!(decide (i<j))||(qm.getD j 0).testBit i||ke d c
section exec
variable (G:Nat->Option J) (Φ:FuncId->Option bn) (tab:FuncId->Option (List J->Option J))
def bj (args:List J):Nat->J:=fun i=>args.getD i .undef
def fA (h:aA) (F:Nat->J):lX->Option J
 | .tmp t=>some (F t)
 | .cell t b' sz=>match F t with
   | .ptr id idx cV=>(h.cells id).bind fun blk=>(blk[idx]?).bind fun e=>(cut e.cells cV sz).bind fun cs=>partOf b' cs
   | _=>none
def eB (h:aA) (F:Nat->J) (rs:List lX):Option J:=
 (rs.mapM (fA h F)).map fun
   | [v]=>v
   | vs=> .ch vs
inductive kv where
 | fn (f:FuncId)
 | kI (id:Nat)
def dj (cC:kv->List J->aA->Option (J × aA)) (bs r:Nat) (e:bx) (s:a'):Option (a' × dL):=
 match e.op with
 | .call f args=>match f.ev G s.F with
   | .fn n first caps=>match tab n with
     | some T=>match eJ s.h (first++args.map (bf.ev G s.F)++caps) with
       | some (vs,ids)=>(T vs).map fun v=>(⟨c6 s.F e.dst v,s.h.close ids⟩,if ids.isEmpty then .pure else if ids.all (fun i=>decide (i<bs)) then .rd else .wr)
       | none=>none
     | none=>(cC (.fn n) (first++args.map (bf.ev G s.F)++caps) s.h).map fun(v,av)=>(⟨c6 s.F e.dst v,av⟩,.k5 (pw bs s.h av))
   | .fl id=>(cC (.kI id) (args.map (bf.ev G s.F)) s.h).map fun(v,av)=>(⟨c6 s.F e.dst v,av⟩,.wr)
   | _=>none
 | op=>(evalOp bs r (bf.ev G s.F) s.h op).map fun(v,av,c)=>(⟨c6 s.F e.dst v,av⟩,c)
def c7 (cC:kv->List J->aA->Option (J × aA)) (bs r:Nat) (e:bx) (s:a'):Option (a' × dL):=
 match e.guard with
 | none=>dj G tab cC bs r e s
 | some (t,want)=>match s.F t with
   | .bool b=>if b=want then dj G tab cC bs r e s else some (⟨c6 s.F e.dst .kc,s.h⟩,.pure)
   | .kc=>some (⟨c6 s.F e.dst .kc,s.h⟩,.pure)
   | _=>none
def df (cC:kv->List J->aA->Option (J × aA)) (bs:Nat):List (bx × Nat)->a'->Option (a' × List dL)
 | [],s=>some (s,[])
 | (e,i)::es,s=>match c7 G tab cC bs (bs+i) e s with
   | some (ax,c)=>(df cC bs es ax).map fun(x_,cs)=>(x_,c::cs)
   | none=>none
def eQ (cC:kv->List J->aA->Option (J × aA)) (draw:Bool) (ops:List bx) (hz:List Nat) (s:a'):Option a':=
 match df G tab cC s.h.next ops.zipIdx ⟨s.F,{s.h with next:=s.h.next+ops.length}⟩ with
 | some (ax,cs)=>if !draw||rY cs hz then some ax else none
 | none=>none
structure c4 where
 id:Nat
 F:Nat->J
 ps:List Nat
 dA:dw
 body:dw
def ns (id:Nat):List c4->Option (c4 × List c4)
 | []=>none
 | L::Y=>if L.id=id then some (L,Y) else ns id Y
def md (F:Nat->J):List Nat->List J->(Nat->J)
 | p::ps,v::vs=>md (aF F p v) ps vs
 | _,_=>F
def aA.set (h:aA) (id:Nat) (p:Option fw):aA:={h with bm:=aF h.bm id p}
def exec:Nat->List c4->dw->a'->Option (de × a')
 | 0,_,_,_=>none
 | n+1,Y,c,s=>match c with
   | .skip=>some (.normal,s)
   | .ret=>some (.ret,s)
   | .exit id=>some (.exit id,s)
   | .region draw ops hz=>(eQ G tab
       (fun t args h=>match t with
         | .fn f=>match Φ f with
           | some fn=>match exec n Y fn.body ⟨bj args,h⟩ with
             | some (.normal,ax)|some (.ret,ax)=>(eB ax.h ax.F fn.res).map fun v=>(v,ax.h)
             | _=>none
           | none=>none
         | .kI id=>match ns id Y with
           | some (L,Y')=>if L.ps.length=args.length then
              match exec n Y' L.dA ⟨md L.F L.ps args,h⟩ with
              | some (.normal,s1)=>match s1.h.bm id with
                | some .ready=>match exec n Y' L.body ⟨s1.F,s1.h.set id (some .busy)⟩ with
                  | some (e,ax)=>match ax.h.bm id with
                    | some .busy=>match e with
                      | .normal=>some (.bool true,ax.h.set id (some .ready))
                      | e=>some (.bool false,ax.h.set id (some (.done e)))
                    | _=>none
                  | none=>none
                | _=>none
              | _=>none
             else none
           | none=>none) draw ops hz s).map fun ax=>(.normal,ax)
   | .seq a b=>match exec n Y a s with
     | some (.normal,ax)=>exec n Y b ax
     | r=>r
   | .cond x a b=>match x.ev G s.F with
     | .bool t=>if t then exec n Y a s else exec n Y b s
     | _=>none
   | .block id b=>match exec n Y b s with
     | some (.exit i,ax)=>if i=id then some (.normal,ax) else some (.exit i,ax)
     | r=>r
   | .loop b=>match exec n Y b s with
     | some (.normal,ax)=>exec n Y (.loop b) ax
     | r=>r
   | .k4 f ps dA body=>match f.ev G s.F with
     | .fn g first caps=>match Φ g with
       | some fn=>match exec n (⟨s.h.next,s.F,ps,dA,body⟩::Y) fn.body ⟨bj (first++ [.fl s.h.next]++caps),{s.h with next:=s.h.next+1,bm:=aF s.h.bm s.h.next (some .ready)}⟩ with
         | some (.normal,ax)|some (.ret,ax)=>match eB ax.h ax.F fn.res with
           | some _=>match ax.h.bm s.h.next with
             | some .ready=>some (.normal,⟨s.F,ax.h.set s.h.next none⟩)
             | some (.done e)=>some (e,⟨s.F,ax.h.set s.h.next none⟩)
             | _=>none
           | none=>none
         | _=>none
       | none=>none
     | _=>none
def vF (n:Nat) (Y:List c4) (f:FuncId) (args:List J) (h:aA):Option (J × aA):=
 match Φ f with
 | some fn=>match exec G Φ tab n Y fn.body ⟨bj args,h⟩ with
   | some (.normal,ax)|some (.ret,ax)=>(eB ax.h ax.F fn.res).map fun v=>(v,ax.h)
   | _=>none
 | none=>none
def aJ:aA:={cells:=fun _=>none,shut:=fun _=>false,next:=0}
def lZ (n:Nat) (f:FuncId) (args:List J):Option J:=
 (vF G Φ tab n [] f args aJ).bind fun(v,h)=>(gR h v).map (·.1)
end exec
end Go.Eng
namespace Go.Eng
open Go
def px:Value->Option J
 | .int k n=>some (.int k n)
 | .bool b=>some (.bool b)
 | .string s=>some (.str s)
 | .slice none 0 0=>some (.sl [] true)
 | .nilFunc=>some .nilfn
 | _=>none
def vG:List Value->Option (List J)
 | []=>some []
 | v::vs=>match px v,vG vs with
   | some a,some as=>some (a::as)
   | _,_=>none
def py:Value->Option J
 | .agg cs=>(vG cs.toList).map .agg
 | v=>px v
def dW:Operand->Option bf
 | .tmp t=>some (.t t)
 | .const v=>(py v).map .c
 | .global g=>some (.g g)
 | .func f=>some (.f f)
def oG:List Operand->Option (List bf)
 | []=>some []
 | x::xs=>match dW x,oG xs with
   | some a,some as=>some (a::as)
   | _,_=>none
def qn:Option Operand->Option (Option bf)
 | none=>some none
 | some x=>(dW x).map some
section
variable (P:Program)
def gp (t:TypeId):Option Nat:=(P.info? t).map (·.size)
def x' (t:TypeId):Option Nat:=(P.info? t).map (·.bytes)
def zeroOf (t:TypeId):Option J:=(P.info? t).bind fun i=>i.zero.bind py
def me (t:TypeId):Option Bool:=
 match P.underlying t with
 | some (.struct _)|some (.array _ _)=>some true
 | some _=>some false
 | none=>none
def vH (cj:Array Field):List (Nat × Operand)->Option (List (Nat × Nat × bf))
 | []=>some []
 | (i,x)::r=>match cj[i]?,dW x,vH cj r with
   | some f,some y,some ps=>match gp P f.type with
     | some s=>some ((f.offset,s,y)::ps)
     | none=>none
   | _,_,_=>none
def ya (cj:List Field):Bool:=cj.all fun f=>(gp P f.type).isSome
def vI (s:Nat):List (Nat × Operand)->Option (List (Nat × Nat × bf))
 | []=>some []
 | (i,x)::r=>match dW x,vI s r with
   | some y,some ps=>some ((i*s,s,y)::ps)
   | _,_=>none
def vJ:List (Nat × Operand)->Option (List (Nat × bf))
 | []=>some []
 | (i,x)::r=>match dW x,vJ r with
   | some y,some ps=>some ((i,y)::ps)
   | _,_=>none
def ff:Op->Option hx
 | .move x| .assign x=>(dW x).map .mv
 | .pick c a b=>match dW c,dW a,dW b with
   | some c,some a,some b=>some (.pick c a b)
   | _,_,_=>none
 | .alloc e=>(zeroOf P e).map .alloc
 | .box _ x=>(dW x).map .box
 | .build t ps=>match P.underlying t,zeroOf P t with
   | some (.struct cj),some z=>if ya P cj.toList then (vH P cj ps.toList).map (.build z.cells) else none
   | some (.array _ e),some z=>match gp P e with
     | some s=>(vI s ps.toList).map (.build z.cells)
     | none=>none
   | _,_=>none
 | .buildSlice t n ps=>match P.underlying t with
   | some (.slice e)=>match gp P e,zeroOf P e,vJ ps.toList with
     | some s,some z,some ps=>if n*s<=2^24 then some (.bsl s z n ps) else none
     | _,_,_=>none
   | _=>none
 | .load t x=>match me P t,gp P t,dW x with
   | some b',some s,some x=>if b'||s == 1 then some (.load b' s x) else none
   | _,_,_=>none
 | .store t a v=>match gp P t,dW a,dW v with
   | some s,some a,some v=>some (.store s a v)
   | _,_,_=>none
 | .binOp op t x y _=>match dW x,dW y with
   | some kf,some n0=>match P.underlying t with
     | some (.int _)=>some (.bin 0 op kf n0)
     | some .bool=>some (.bin 1 op kf n0)
     | some .string=>some (.bin 2 op kf n0)
     | some (.array n e)=>match P.underlying e,gp P e with
       | some (.int _),some 1=>if op= .eql then some (.eqA false n kf n0) else if op= .neq then some (.eqA true n kf n0) else none
       | _,_=>none
     | some (.slice _)=>match n0 with
       | .c (.sl [] true)=>if op= .eql then some (.isnil false kf) else if op= .neq then some (.isnil true kf) else none
       | _=>none
     | _=>none
   | _,_=>none
 | .lookup t x i true=>match P.underlying t with
   | some (.map k e)=>match P.underlying k,zeroOf P e,dW x,dW i with
     | some (.int .i64),some .nilfn,some x,some i=>some (.mlook x i)
     | _,_,_,_=>none
   | _=>none
 | .unOp op _ x=>(dW x).map (.un op)
 | .convert s d x=>match P.underlying s,P.underlying d,dW x with
   | some (.int _),some (.int k),some x=>some (.conv k x)
   | _,_,_=>none
 | .makeFunc (.func f) first caps=>match oG first.toList,oG caps.toList with
   | some a,some b=>some (.mkfn f a b)
   | _,_=>none
 | .makeSlice t l c=>match P.underlying t with
   | some (.slice e)=>match zeroOf P e,gp P e,x' P e,dW l,dW c with
     | some z,some s,some b,some l,some c=>some (.mksl z s b l c)
     | _,_,_,_,_=>none
   | _=>none
 | .slice t x cH ag hy=>match P.underlying t with
   | some (.slice e)=>match gp P e,dW x,qn cH,qn ag,qn hy with
     | some s,some x,some cH,some ag,some hy=>if hy.isSome&&ag.isNone then none else some (.slice s x cH ag hy)
     | _,_,_,_,_=>none
   | _=>none
 | .fieldAddr s x f=>match P.underlying s with
   | some (.struct cj)=>match cj[f]? with
     | some f=>match me P f.type,gp P f.type,dW x with
       | some b',some sz,some x=>if sz=0 then none else some (.faddr b' f.offset sz x)
       | _,_,_=>none
     | none=>none
   | _=>none
 | .field s x f=>match P.underlying s with
   | some (.struct cj)=>match cj[f]? with
     | some f=>match me P f.type,gp P f.type,dW x with
       | some b',some sz,some x=>if b'||sz == 1 then some (.field b' f.offset sz x) else none
       | _,_,_=>none
     | none=>none
   | _=>none
 | .indexAddr t x i=>match P.underlying t with
   | some (.slice e)=>match gp P e,dW x,dW i with
     | some s,some x,some i=>some (.iaddrS s x i)
     | _,_,_=>none
   | some (.array n e)=>match me P e,gp P e,dW x,dW i with
     | some b',some s,some x,some i=>some (.iaddrA b' n s x i)
     | _,_,_,_=>none
   | _=>none
 | .index t x i=>match P.underlying t with
   | some (.array n e)=>match me P e,gp P e,dW x,dW i with
     | some b',some s,some x,some i=>if b'||s == 1 then some (.idxA b' n s x i) else none
     | _,_,_,_=>none
   | some .string=>match dW x,dW i with
     | some x,some i=>some (.idxS x i)
     | _,_=>none
   | _=>none
 | .extract x i=>(dW x).map fun x=> .extract x i
 | .panic _=>some (.extract (.c .undef) 0)
 | .call {callee:= .value f,args,..}=>match dW f,oG args.toList with
   | some f,some as=>some (.call f as)
   | _,_=>none
 | .call {callee:= .builtin .len,args,argTypes}=>match argTypes[0]?,args.toList with
   | some t,[x]=>match P.underlying t,dW x with
     | some (.slice _),some x=>some (.len false x)
     | some .string,some x=>some (.len true x)
     | _,_=>none
   | _,_=>none
 | .call {callee:= .builtin .append,args,argTypes}=>match argTypes.toList,args.toList with
   | [t,u],[x,y]=>match P.underlying t,P.underlying u with
     | some (.slice e),some (.slice _)=>match gp P e,x' P e,zeroOf P e,dW x,dW y with
       | some s,some b,some z,some x,some y=>if z.cells.length=s then some (.app s b x y) else none
       | _,_,_,_,_=>none
     | _,_=>none
   | _,_=>none
 | .call {callee:= .builtin .min,args,..}=>(oG args.toList).map .min
 | .call {callee:= .builtin .max,args,..}=>(oG args.toList).map .max
 | _=>none
def oH (N:Nat) (ops:Array Oper) (o:Oper):Option bx:=
 if o.dst.all (fun d=>decide (d<N)) then
  match ff P o.op with
  | some op=>match o.guard with
    | none=>some ⟨o.dst,op,none⟩
    | some (j,w)=>match (ops[j]?).bind (·.dst) with
      | some d=>some ⟨o.dst,op,some (d,w)⟩
      | none=>none
  | none=>none
 else none
def uc (N:Nat) (ops:Array Oper):List Oper->Option (List bx)
 | []=>some []
 | o::os=>match oH P N ops o,uc N ops os with
   | some e,some es=>some (e::es)
   | _,_=>none
def JB (es:List bx) (b:List Nat):Bool:=
 es.zipIdx.all fun(e,j)=>es.zipIdx.all fun(f,i)=>!(decide (i<j))||(b.getD j 0).testBit i||f.apart e
def vK (ops:Array Oper):Bool:=ops.toList.zipIdx.all fun(o,i)=>o.after.all fun e=>!Region.binds .any e||decide (e.on<i)
def vL (ops:Array Oper) (b:List Nat):Bool:=
 ops.toList.zipIdx.all fun(o,i)=>(List.range i).all fun k=>!((b.getD i 0).testBit k)||o.after.any fun e=>Region.binds .any e&&(e.on == k||(decide (k<e.on)&&(b.getD e.on 0).testBit k))
def fm (N:Nat):Code->Option dw
 | .skip=>some .skip
 | .region _ ops draw=>match uc P N ops ops.toList with
   | some es=>if draw then
      (let b:=(Region.before ops).toList
       if JB es b&&vK ops&&vL ops b&&Region.noSelect ops then some (.region true es b) else none)
     else some (.region false es [])
   | none=>none
 | .seq a b=>match fm N a,fm N b with
   | some a,some b=>some (.seq a b)
   | _,_=>none
 | .cond c a b=>match dW c,fm N a,fm N b with
   | some c,some a,some b=>some (.cond c a b)
   | _,_,_=>none
 | .block id c=>(fm N c).map (.block id)
 | .loop c=>(fm N c).map .loop
 | .rangeFunc f ps dA body=>match dW f,fm N dA,fm N body with
   | some f,some a,some b=>if ps.toList.all (fun p=>decide (p<N)) then some (.k4 f ps.toList a b) else none
   | _,_,_=>none
 | .exit id=>some (.exit id)
 | .ret=>some .ret
 | .scope c=>(fm N c).map (.seq .skip)
 | .label _=>some .skip
 | _=>none
def yb:ResultVar->Option lX
 | .tmp t=>some (.tmp t)
 | .cell a t=>match me P t,gp P t with
   | some b',some s=>if b'||s == 1 then some (.cell a b' s) else none
   | _,_=>none
def qo:List ResultVar->Option (List lX)
 | []=>some []
 | r::rs=>match yb P r,qo rs with
   | some a,some as=>some (a::as)
   | _,_=>none
def yc (fn:Func):Option bn:=
 if fn.name == "runtime.NumGoroutine" then none else
 match fn.body with
 | some c=>match fm P fn.ntmps c,qo P fn.results.toList with
   | some b,some rs=>some ⟨b,rs⟩
   | _,_=>none
 | none=>none
def bb (f:FuncId):Option bn:=(P.funcs[f]?).bind (yc P)
end
end Go.Eng
namespace Go.Eng
open Go Go.RowKit
inductive dq (w:World) (ok:Nat->Prop):J->Value->Prop
 | int (k:IntKind) (n:Int):dq w ok (.int k n) (.int k n)
 | bool (b:Bool):dq w ok (.bool b) (.bool b)
 | str (s:ByteArray):dq w ok (.str s) (.string s)
 | nilfn:dq w ok .nilfn .nilFunc
 | fn (f:FuncId):dq w ok (.fn f [] []) (.func (.func f) #[] #[])
 | mp (m:List (Int × FuncId)) (r:Nat) (es:Array MapEntry) (clock:Nat):ok r->w.heap[r]? =some (.map es clock)->es.size=m.length->
    (∀i (h:i<m.length) (av:i<es.size),es[i].key= .int .i64 m[i].1/\es[i].val= .func (.func m[i].2) #[] #[])->dq w ok (.mp m) (.map (some r))
 | sl (xs:List J) (ex:Bool) (A:Option Addr) (c sz:Nat) (eb:Nat->Nat->Value):
    xs.length<=c->(ex=true->c=xs.length)->
    (∀i (h:i<xs.length),xs[i].cells.length=sz)->
    (∀i j,i<xs.length->j<sz->∃cO,A=some cO/\ok cO.block/\w.cell? (cO.add (i*sz+j))=some (eb i j))->
    (0<xs.length->A.isSome=true)->
    (∀i (h:i<xs.length) j (aZ:j<xs[i].cells.length),dq w ok (xs[i].cells[j]) (eb i j))->
    dq w ok (.sl xs ex) (.slice A xs.length c)
 | agg (cs:List J) (vs:Array Value):vs.size=cs.length->
    (∀i (h:i<cs.length) (av:i<vs.size),dq w ok cs[i] vs[i])->dq w ok (.agg cs) (.agg vs)
 | ch (cs:List J) (vs:Array Value):vs.size=cs.length->
    (∀i (h:i<cs.length) (av:i<vs.size),dq w ok cs[i] vs[i])->dq w ok (.ch cs) (.tuple vs)
theorem Addr.pz (a:Addr) (n:Nat):(a.add n).block=a.block:=by unfold Addr.add;split<;>rfl
def rZ (w a_:World) (ok n1:Nat->Prop):Prop:=∀b o,w.heap[b]? =some o->((∃arr ty e,o= .cells arr ty e)\/∃es clock,o= .map es clock)->ok b->n1 b/\a_.heap[b]? =w.heap[b]?
theorem cells_of_cell {w:World} {cO:Addr} {v:Value} (h:w.cell? cO=some v):∃arr ty e,w.heap[cO.block]? =some (.cells arr ty e):=by
 unfold World.cell? at h
 split at h
 · rename_i arr ty e he;exact⟨_,_,_,he⟩
 · cases h
theorem dq.mono {w a_:World} {ok n1:Nat->Prop} (aE:rZ w a_ ok n1)
 {v:J} {cv:Value} (h:dq w ok v cv):dq a_ n1 v cv:=by
 induction h with
 | int k n=>exact .int k n
 | bool b=>exact .bool b
 | str s=>exact .str s
 | nilfn=>exact .nilfn
 | fn f=>exact .fn f
 | mp m r es clock ab h2 aX aW=>
   obtain⟨cL,fo⟩:=aE _ _ h2 (.inr ⟨_,_,rfl⟩) ab
   exact .mp m r es clock cL (fo.trans h2) aX aW
 | sl xs ex A c sz eb ab h2 aX aW cL fo bC=>
   refine .sl xs ex A c sz eb ab h2 aX (fun i j ag aZ=>?_) cL bC
   obtain⟨cO,e,aK,I⟩:=aW i j ag aZ
   obtain⟨arr,ty,aB,m1⟩:=cells_of_cell I
   rw[Addr.pz] at m1
   obtain⟨oI,he⟩:=aE _ _ m1 (.inl ⟨_,_,_,rfl⟩) aK
   refine⟨cO,e,oI,?_⟩
   rw[<-I]
   exact World.cell?_of_block (w:=w) (by rw[Addr.pz];exact he)
 | agg cs vs aV h bC=>exact .agg cs vs aV bC
 | ch cs vs aV h bC=>exact .ch cs vs aV bC
theorem dq.qp {w:World} {ok n1:Nat->Prop} (aE:∀b,b<w.heap.size->ok b->n1 b) {v:J} {cv:Value} (h:dq w ok v cv):dq w n1 v cv:=
 h.mono fun b o aj _ aK=>⟨aE b (by by_cases bO:b<w.heap.size;exact bO;rw[Array.getElem?_eq_none (by omega)] at aj;cases aj) aK,rfl⟩
def fM (w:World) (b:Nat):Nat:=match w.heap[b]? with
 | some (.cells arr _ _)=>arr.size
 | _=>0
inductive bu (w:World) (ok:Nat->Prop) (σ:Nat->Option (Nat × Nat)):J->Value->Prop
 | undef (cv:Value):bu w ok σ .undef cv
 | kc:bu w ok σ .kc Go.undef
 | val (v:J) (cv:Value):dq w ok v cv->bu w ok σ v cv
 | ref (id off len cap:Nat) (A:Option Addr) (c b sz:Nat):σ id=some (b,sz)->len<=c->cap<=c->
    (0<c->A=some ⟨b,off*sz,none⟩/\(off+c)*sz<=fM w b)->bu w ok σ (.ref id off len cap) (.slice A len c)
 | ptr (id idx cV b sz:Nat):σ id=some (b,sz)->bu w ok σ (.ptr id idx cV) (.pointer (some ⟨b,idx*sz+cV,none⟩))
 | eu (v:J) (cO:Addr) (eb:Nat->Value):
    (∀j,j<v.cells.length->ok cO.block/\w.cell? (cO.add j)=some (eb j))->
    (∀j (h:j<v.cells.length),dq w ok (v.cells[j]) (eb j))->bu w ok σ (.eu v) (.pointer (some cO))
 | fl (id l s:Nat):σ id=some (l,s)->bu w ok σ (.fl id) (.func (.yield l) #[] #[])
 | fn (f:FuncId) (first caps:List J) (eK cv:Array Value):eK.size=first.length->cv.size=caps.length->
    (∀i (h:i<first.length) (av:i<eK.size),bu w ok σ first[i] eK[i])->
    (∀i (h:i<caps.length) (av:i<cv.size),bu w ok σ caps[i] cv[i])->bu w ok σ (.fn f first caps) (.func (.func f) eK cv)
 | agg (cs:List J) (vs:Array Value):vs.size=cs.length->
    (∀i (h:i<cs.length) (av:i<vs.size),bu w ok σ cs[i] vs[i])->bu w ok σ (.agg cs) (.agg vs)
 | ch (cs:List J) (vs:Array Value):vs.size=cs.length->
    (∀i (h:i<cs.length) (av:i<vs.size),bu w ok σ cs[i] vs[i])->bu w ok σ (.ch cs) (.tuple vs)
theorem bu.mono {w a_:World} {ok n1:Nat->Prop} {σ bE:Nat->Option (Nat × Nat)}
 (aE:rZ w a_ ok n1) (aG:∀id x,σ id=some x->bE id=some x)
 (aP:∀b,fM w b<=fM a_ b) {v:J} {cv:Value} (h:bu w ok σ v cv):bu a_ n1 bE v cv:=by
 induction h with
 | undef cv=>exact .undef cv
 | kc=>exact .kc
 | val v cv h=>exact .val _ _ (h.mono aE)
 | ref id off len cap A c b sz ab h2 aX aW=>exact .ref id off len cap A c b sz (aG _ _ ab) h2 aX (fun I=>⟨(aW I).1,Nat.le_trans (aW I).2 (aP b)⟩)
 | ptr id idx cV b sz ab=>exact .ptr id idx cV b sz (aG _ _ ab)
 | fl id l s ab=>exact .fl id l s (aG _ _ ab)
 | eu v cO eb ab h2=>
   refine .eu v cO eb (fun j aZ=>?_) (fun j aZ=>(h2 j aZ).mono aE)
   obtain⟨aK,I⟩:=ab j aZ
   obtain⟨arr,ty,aB,m1⟩:=cells_of_cell I
   rw[Addr.pz] at m1
   obtain⟨oI,he⟩:=aE _ _ m1 (.inl ⟨_,_,_,rfl⟩) aK
   exact⟨oI,by rw[<-I];exact World.cell?_of_block (w:=w) (by rw[Addr.pz];exact he)⟩
 | fn f first caps eK cv ab h2 aX aW JC JD=>exact .fn f first caps eK cv ab h2 JC JD
 | agg cs vs aV h bC=>exact .agg cs vs aV bC
 | ch cs vs aV h bC=>exact .ch cs vs aV bC
section inversion
variable {w:World} {ok:Nat->Prop} {σ:Nat->Option (Nat × Nat)}
theorem bu.gS {k:IntKind} {n:Int} {cv:Value} (h:bu w ok σ (.int k n) cv):cv= .int k n:=by
 cases h with
 | val _ _ h=>cases h;rfl
theorem bu.pA {b:Bool} {cv:Value} (h:bu w ok σ (.bool b) cv):cv= .bool b:=by
 cases h with
 | val _ _ h=>cases h;rfl
theorem bu.ud {s:ByteArray} {cv:Value} (h:bu w ok σ (.str s) cv):cv= .string s:=by
 cases h with
 | val _ _ h=>cases h;rfl
theorem bu.JE {cv:Value} (h:bu w ok σ .kc cv):cv=Go.undef:=by
 cases h with
 | val _ _ h=>cases h
 | kc=>rfl
theorem bu.JF {cv:Value} (h:bu w ok σ .nilfn cv):cv= .nilFunc:=by
 cases h with
 | val _ _ h=>cases h;rfl
theorem bu.B6 {m:List (Int × FuncId)} {cv:Value} (h:bu w ok σ (.mp m) cv):dq w ok (.mp m) cv:=by
 cases h with
 | val _ _ h=>exact h
theorem bu.pB {xs:List J} {ex:Bool} {cv:Value} (h:bu w ok σ (.sl xs ex) cv):dq w ok (.sl xs ex) cv:=by
 cases h with
 | val _ _ h=>exact h
theorem bu.pC {id off len cap:Nat} {cv:Value} (h:bu w ok σ (.ref id off len cap) cv):
 ∃A c b sz,cv= .slice A len c/\σ id=some (b,sz)/\len<=c/\cap<=c/\(0<c->A=some ⟨b,off*sz,none⟩/\(off+c)*sz<=fM w b):=by
 cases h with
 | val _ _ h=>cases h
 | ref _ _ _ _ A c b sz ab h2 aX aW=>exact⟨A,c,b,sz,rfl,ab,h2,aX,aW⟩
theorem bu.ue {id idx cV:Nat} {cv:Value} (h:bu w ok σ (.ptr id idx cV) cv):
 ∃b sz,cv= .pointer (some ⟨b,idx*sz+cV,none⟩)/\σ id=some (b,sz):=by
 cases h with
 | val _ _ h=>cases h
 | ptr _ _ _ b sz ab=>exact⟨b,sz,rfl,ab⟩
theorem bu.vM {v:J} {cv:Value} (h:bu w ok σ (.eu v) cv):
 ∃(cO:Addr) (eb:Nat->Value),cv= .pointer (some cO)/\(∀j,j<v.cells.length->ok cO.block/\w.cell? (cO.add j)=some (eb j))/\(∀j (h:j<v.cells.length),dq w ok (v.cells[j]) (eb j)):=by
 cases h with
 | val _ _ h=>cases h
 | eu _ cO eb ab h2=>exact⟨cO,eb,rfl,ab,h2⟩
theorem bu.B7 {f:FuncId} {first caps:List J} {v:Value} (h:bu w ok σ (.fn f first caps) v):
 ∃eK cv,v= .func (.func f) eK cv/\eK.size=first.length/\cv.size=caps.length/\
  (∀i (h:i<first.length) (av:i<eK.size),bu w ok σ first[i] eK[i])/\(∀i (h:i<caps.length) (av:i<cv.size),bu w ok σ caps[i] cv[i]):=by
 cases h with
 | val _ _ h=>cases h;exact⟨#[],#[],rfl,rfl,rfl,fun i h=>absurd h (Nat.not_lt_zero i),fun i h=>absurd h (Nat.not_lt_zero i)⟩
 | fn _ _ _ eK cv ab h2 aX aW=>exact⟨eK,cv,rfl,ab,h2,aX,aW⟩
theorem bu.JG {id:Nat} {cv:Value} (h:bu w ok σ (.fl id) cv):∃l s,cv= .func (.yield l) #[] #[]/\σ id=some (l,s):=by
 cases h with
 | val _ _ h=>cases h
 | fl _ l s ab=>exact⟨l,s,rfl,ab⟩
theorem bu.r1 {cs:List J} {v:Value} (h:bu w ok σ (.agg cs) v):
 ∃vs,v= .agg vs/\vs.size=cs.length/\(∀i (h:i<cs.length) (av:i<vs.size),bu w ok σ cs[i] vs[i]):=by
 cases h with
 | val _ _ h=>cases h with
   | agg _ vs ab h2=>exact⟨vs,rfl,ab,fun i h av=> .val _ _ (h2 i h av)⟩
 | agg _ vs ab h2=>exact⟨vs,rfl,ab,h2⟩
theorem bu.B8 {cs:List J} {v:Value} (h:bu w ok σ (.ch cs) v):
 ∃vs,v= .tuple vs/\vs.size=cs.length/\(∀i (h:i<cs.length) (av:i<vs.size),bu w ok σ cs[i] vs[i]):=by
 cases h with
 | val _ _ h=>cases h with
   | ch _ vs ab h2=>exact⟨vs,rfl,ab,fun i h av=> .val _ _ (h2 i h av)⟩
 | ch _ vs ab h2=>exact⟨vs,rfl,ab,h2⟩
theorem bu.uf {v:J} {cv:Value} (h:bu w ok σ v cv) (aG:v.c0=true):cv.oneCell'=true:=by
 cases h with
 | undef=>simp[J.c0] at aG
 | kc=>simp[J.c0] at aG
 | val _ _ h=>cases h<;>first|rfl|simp[J.c0] at aG
 | agg=>simp[J.c0] at aG
 | ch=>simp[J.c0] at aG
 | _=>rfl
theorem bu.cells {v:J} {cv:Value} (h:bu w ok σ v cv) (hu:v.cells.all J.c0=true\/∃cs,v= .agg cs):
 cv.cells.size=v.cells.length/\∀i (h:i<v.cells.length) (av:i<cv.cells.size),bu w ok σ v.cells[i] cv.cells[i]:=by
 by_cases bh:∃cs,v= .agg cs
 · obtain⟨cs,rfl⟩:=bh
   obtain⟨vs,rfl,ab,h2⟩:=h.r1
   exact⟨ab,h2⟩
 · have aR:v.cells= [v]:=by
    cases v<;>first|rfl|exact absurd ⟨_,rfl⟩ bh
   have aG:v.c0=true:=by
    rcases hu with hu|hu
    · rw[aR] at hu;simpa using hu
    · exact absurd hu bh
   have I:cv.cells= #[cv]:=by
    have:=h.uf aG
    cases cv<;>first|rfl|simp[Value.oneCell'] at this
   rw[aR,I]
   refine⟨rfl,fun i ab h2=>?_⟩
   have:i=0:=by simpa using ab
   subst this
   exact h
end inversion
def bN (base:Nat) (okin:Nat->Prop) (σ:Nat->Option (Nat × Nat)) (h:aA) (b:Nat):Prop:=
 (b<base/\okin b)\/(base<=b/\∀id sz,σ id=some (b,sz)->(h.cells id).isSome=true->h.shut id=true)
structure cS (base:Nat) (okin:Nat->Prop) (σ:Nat->Option (Nat × Nat)) (h:aA) (w:World):Prop where
 val:∀id b sz,σ id=some (b,sz)->base<=b/\b<w.heap.size
 blk:∀id blk,h.cells id=some blk->∃b sz arr ty,σ id=some (b,sz)/\w.heap[b]? =some (.cells arr ty (0,0))/\
  ∀i (ag:i<blk.length),blk[i].cells.length=sz/\∀j (aZ:j<blk[i].cells.length),∃v,arr[i*sz+j]? =some v/\bu w (bN base okin σ h) σ (blk[i].cells[j]) v
 inj:∀id fB b sz fg,(h.cells id).isSome=true->(h.cells fB).isSome=true->σ id=some (b,sz)->σ fB=some (b,fg)->id=fB
 base:base<=w.heap.size
structure Prog (base:Nat) (okin:Nat->Prop) (σ:Nat->Option (Nat × Nat)) (h:aA) (w:World) (bE:Nat->Option (Nat × Nat)) (av:aA) (a_:World):Prop where
 sub:∀id x,σ id=some x->bE id=some x
 pv:∀b,b<w.heap.size->bN base okin σ h b->bN base okin bE av b/\a_.heap[b]? =w.heap[b]?
 below:Below base w a_
 grow:∀b,fM w b<=fM a_ b
theorem Prog.refl (base:Nat) (okin:Nat->Prop) (σ:Nat->Option (Nat × Nat)) (h:aA) (w:World):Prog base okin σ h w σ h w:=
 ⟨fun _ _ h=>h,fun _ _ h=>⟨h,rfl⟩,Below.refl _ _,fun _=>Nat.le_refl _⟩
theorem Prog.trans {base:Nat} {okin:Nat->Prop} {σ gF oJ:Nat->Option (Nat × Nat)} {h ab h2:aA} {w b4 dd:World}
 (p:Prog base okin σ h w gF ab b4) (q:Prog base okin gF ab b4 oJ h2 dd):Prog base okin σ h w oJ h2 dd:=
 ⟨fun id x ak=>q.sub id x (p.sub id x ak),fun b aj aK=>by
   obtain⟨dQ,aq⟩:=p.pv b aj aK
   obtain⟨c8,aB⟩:=q.pv b (Nat.lt_of_lt_of_le aj p.below.size) dQ
   exact⟨c8,aB.trans aq⟩,p.below.trans q.below,fun b=>Nat.le_trans (p.grow b) (q.grow b)⟩
theorem Prog.still {base:Nat} {okin:Nat->Prop} {σ bE:Nat->Option (Nat × Nat)} {h av:aA} {w a_:World} (p:Prog base okin σ h w bE av a_):rZ w a_ (bN base okin σ h) (bN base okin bE av):=
 fun b o aj _ aK=>p.pv b (by by_cases bO:b<w.heap.size;exact bO;rw[Array.getElem?_eq_none (by omega)] at aj;cases aj) aK
theorem Prog.rep {base:Nat} {okin:Nat->Prop} {σ bE:Nat->Option (Nat × Nat)} {h av:aA} {w a_:World} (p:Prog base okin σ h w bE av a_)
 {v:J} {cv:Value} (r:bu w (bN base okin σ h) σ v cv):bu a_ (bN base okin bE av) bE v cv:=r.mono p.still p.sub p.grow
end Go.Eng
namespace Go.Eng
open Go Go.RowKit
theorem B9 (w:World) (o:Obj) (b:Nat):fM w b<=fM (w.alloc o) b:=by
 by_cases h:b<w.heap.size
 · unfold fM;rw[Below.heap_alloc _ _ _ h];exact Nat.le_refl _
 · unfold fM;rw[Array.getElem?_eq_none (by omega)];exact Nat.zero_le _
theorem yd (w:World) (arr:Array Value) (ty:TypeId):fM (w.alloc (.cells arr ty)) w.heap.size=arr.size:=by
 have:(w.alloc (.cells arr ty)).heap[w.heap.size]? =some (.cells arr ty):=by show (w.heap.push _)[w.heap.size]? =_;simp
 unfold fM;rw[this]
theorem B_ (w:World) (g:Nat) (arr arr':Array Value) (ty:TypeId) (bX:Nat × Nat) (bp:w.heap[g]? =some (.cells arr ty bX)) (aV:arr.size<=arr'.size) (b:Nat):fM w b<=fM (w.setRow g arr') b:=by
 by_cases h:b=g
 · subst h;unfold fM;rw[bp,setRow_heap _ _ _ _ _ _ bp];exact aV
 · unfold fM;rw[setRow_other _ _ _ _ h];exact Nat.le_refl _
theorem JH {w a_:World} (h:Below w.heap.size w a_) (b:Nat):fM w b<=fM a_ b:=by
 by_cases aj:b<w.heap.size
 · unfold fM;rw[h.block b aj];exact Nat.le_refl _
 · unfold fM;rw[Array.getElem?_eq_none (by omega)];exact Nat.zero_le _
section
variable {base:Nat} {okin:Nat->Prop} {σ:Nat->Option (Nat × Nat)} {h:aA} {w:World}
theorem cS.ye (H:cS base okin σ h w) {r:Nat} (ba:σ r=none):h.cells r=none:=by
 cases I:h.cells r with
 | none=>rfl
 | some blk=>
   obtain⟨b,sz,_,_,e,_⟩:=H.blk r blk I
   rw[ba] at e;cases e
theorem cS.alloc (H:cS base okin σ h w) {r:Nat} (ba:σ r=none) (blk:List J) (arr:Array Value) (ty:TypeId) (sz:Nat)
 (aj:∀i (ag:i<blk.length),blk[i].cells.length=sz/\∀j (aZ:j<blk[i].cells.length),∃v,arr[i*sz+j]? =some v/\bu w (bN base okin σ h) σ (blk[i].cells[j]) v):
 cS base okin (aF σ r (some (w.heap.size,sz))) (h.new r blk) (w.alloc (.cells arr ty))/\
 Prog base okin σ h w (aF σ r (some (w.heap.size,sz))) (h.new r blk) (w.alloc (.cells arr ty)):=by
 have JI:=H.ye ba
 have sub:∀id x,σ id=some x->aF σ r (some (w.heap.size,sz)) id=some x:=by
  intro id x ak
  unfold aF
  by_cases e:id=r
  · subst e;rw[ba] at ak;cases ak
  · rw[if_neg e];exact ak
 have P:Prog base okin σ h w (aF σ r (some (w.heap.size,sz))) (h.new r blk) (w.alloc (.cells arr ty)):=by
  refine⟨sub,fun b aj aK=>⟨?_,Below.heap_alloc _ _ _ aj⟩,(Below.refl _ _).alloc H.base _,B9 w _⟩
  rcases aK with aK|⟨ab,h2⟩
  · exact .inl aK
  · refine .inr ⟨ab,fun id s aG aV=>?_⟩
    unfold aF at aG
    by_cases e:id=r
    · rw[if_pos e] at aG
      have:w.heap.size=b:=by injection aG with aG;injection aG
      omega
    · rw[if_neg e] at aG
      refine h2 id s aG ?_
      simpa[aA.new,aF,e] using aV
 refine⟨⟨?_,?_,?_,?_⟩,P⟩
 · intro id b s aG
   unfold aF at aG
   by_cases e:id=r
   · rw[if_pos e] at aG
     injection aG with aG;injection aG with ab h2
     subst ab
     exact⟨H.base,by simp⟩
   · rw[if_neg e] at aG
     obtain⟨a1,eC⟩:=H.val id b s aG
     exact⟨a1,by simp;omega⟩
 · intro id fp f_
   by_cases e:id=r
   · subst e
     have:blk=fp:=by simpa[aA.new,aF] using f_
     subst this
     refine⟨w.heap.size,sz,arr,ty,by simp[aF],by show (w.heap.push _)[w.heap.size]? =_;simp,fun i ag=>⟨(aj i ag).1,fun j aZ=>?_⟩⟩
     obtain⟨v,aq,aB⟩:=(aj i ag).2 j aZ
     exact⟨v,aq,P.rep aB⟩
   · have oK:h.cells id=some fp:=by simpa[aA.new,aF,e] using f_
     obtain⟨b,s,a,t,aq,aB,bg⟩:=H.blk id fp oK
     refine⟨b,s,a,t,sub _ _ aq,?_,fun i ag=>⟨(bg i ag).1,fun j aZ=>?_⟩⟩
     · rw[Below.heap_alloc _ _ _ (H.val _ _ _ aq).2];exact aB
     · obtain⟨v,f1,f2⟩:=(bg i ag).2 j aZ
       exact⟨v,f1,P.rep f2⟩
 · intro id fB b s ax ab h2 aq aB
   by_cases e:id=r<;>by_cases e':fB=r
   · rw[e,e']
   · exfalso
     simp only[aF,e,e',if_true,if_false] at aq aB
     injection aq with aq;injection aq with aq _
     have:=(H.val _ _ _ aB).2
     omega
   · exfalso
     simp only[aF,e,e',if_true,if_false] at aq aB
     injection aB with aB;injection aB with aB _
     have:=(H.val _ _ _ aq).2
     omega
   · simp only[aF,e,e',if_false] at aq aB
     exact H.inj id fB b s ax (by simpa[aA.new,aF,e] using ab) (by simpa[aA.new,aF,e'] using h2) aq aB
 · simp;have:=H.base;omega
theorem cS.write (H:cS base okin σ h w) {id:Nat} {blk blk':List J} {b sz:Nat} {arr arr':Array Value} {ty:TypeId} (I:h.cells id=some blk) (aG:h.shut id=false)
 (he:σ id=some (b,sz)) (bh:w.heap[b]? =some (.cells arr ty (0,0))) (qq:arr.size<=arr'.size)
 (aj:∀i (ag:i<blk'.length),blk'[i].cells.length=sz/\∀j (aZ:j<blk'[i].cells.length),∃v,arr'[i*sz+j]? =some v/\bu w (bN base okin σ h) σ (blk'[i].cells[j]) v):
 cS base okin σ (h.new id blk') (w.setRow b arr')/\Prog base okin σ h w σ (h.new id blk') (w.setRow b arr'):=by
 have vN:∀i,(((h.new id blk').cells i).isSome=true)↔((h.cells i).isSome=true):=by
  intro i
  by_cases e:i=id
  · subst e;simp[aA.new,aF,I]
  · simp[aA.new,aF,e]
 have hC:∀k,bN base okin σ h k↔bN base okin σ (h.new id blk') k:=by
  intro k
  unfold bN
  constructor
  · rintro (a|⟨a,c⟩)
    · exact .inl a
    · exact .inr ⟨a,fun i s ag aV=>c i s ag ((vN i).1 aV)⟩
  · rintro (a|⟨a,c⟩)
    · exact .inl a
    · exact .inr ⟨a,fun i s ag aV=>c i s ag ((vN i).2 aV)⟩
 have ug:=H.val _ _ _ he
 have P:Prog base okin σ h w σ (h.new id blk') (w.setRow b arr'):=by
  refine⟨fun _ _ x=>x,fun k aE aK=>⟨(hC k).1 aK,?_⟩,⟨rfl,rfl,rfl,by simp,fun k aE=>setRow_other _ _ _ _ (by omega)⟩,B_ _ _ _ _ _ _ bh qq⟩
  refine setRow_other _ _ _ _ ?_
  rintro rfl
  rcases aK with⟨a,_⟩|⟨_,c⟩
  · omega
  · have:=c id sz he (by simp[I])
    rw[aG] at this;cases this
 refine⟨⟨?_,?_,?_,?_⟩,P⟩
 · intro i k s ag
   have:=H.val i k s ag
   exact⟨this.1,by simpa using this.2⟩
 · intro i fp f_
   by_cases e:i=id
   · subst e
     have:blk'=fp:=by simpa[aA.new,aF] using f_
     subst this
     refine⟨b,sz,arr',ty,he,setRow_heap _ _ _ _ _ _ bh,fun i ag=>⟨(aj i ag).1,fun j aZ=>?_⟩⟩
     obtain⟨v,aq,aB⟩:=(aj i ag).2 j aZ
     exact⟨v,aq,P.rep aB⟩
   · have oK:h.cells i=some fp:=by simpa[aA.new,aF,e] using f_
     obtain⟨hA,s,a,t,aq,aB,bg⟩:=H.blk i fp oK
     refine⟨hA,s,a,t,aq,?_,fun i ag=>⟨(bg i ag).1,fun j aZ=>?_⟩⟩
     · rw[setRow_other]
       · exact aB
       · rintro rfl
         exact e (H.inj i id _ _ _ (by simp[oK]) (by simp[I]) aq he)
     · obtain⟨v,f1,f2⟩:=(bg i ag).2 j aZ
       exact⟨v,f1,P.rep f2⟩
 · intro i f' k s ax ab h2 aq aB
   exact H.inj i f' k s ax ((vN i).1 ab) ((vN f').1 h2) aq aB
 · simpa using H.base
theorem cS.close (H:cS base okin σ h w) (ids:List Nat):cS base okin σ (h.close ids) w/\Prog base okin σ h w σ (h.close ids) w:=by
 have P:Prog base okin σ h w σ (h.close ids) w:=by
  refine⟨fun _ _ x=>x,fun b aj aK=>⟨?_,rfl⟩,Below.refl _ _,fun _=>Nat.le_refl _⟩
  rcases aK with aK|⟨ab,h2⟩
  · exact .inl aK
  · exact .inr ⟨ab,fun id s aG aV=>by simp[aA.close,h2 id s aG aV]⟩
 refine⟨⟨H.val,fun id fp f_=>?_,H.inj,H.base⟩,P⟩
 obtain⟨b,s,a,t,aq,aB,bg⟩:=H.blk id fp f_
 refine⟨b,s,a,t,aq,aB,fun i ag=>⟨(bg i ag).1,fun j aZ=>?_⟩⟩
 obtain⟨v,f1,f2⟩:=(bg i ag).2 j aZ
 exact⟨v,f1,P.rep f2⟩
theorem cS.rename (H:cS base okin σ h w) {id r:Nat} {blk blk':List J} {b sz:Nat} {arr arr':Array Value} {ty:TypeId} (I:h.cells id=some blk) (aG:h.shut id=false) (ba:σ r=none)
 (he:σ id=some (b,sz)) (bh:w.heap[b]? =some (.cells arr ty (0,0))) (qq:arr.size<=arr'.size)
 (aj:∀i (ag:i<blk'.length),blk'[i].cells.length=sz/\∀j (aZ:j<blk'[i].cells.length),∃v,arr'[i*sz+j]? =some v/\bu w (bN base okin σ h) σ (blk'[i].cells[j]) v):
 cS base okin (aF σ r (some (b,sz))) {h with cells:=aF (aF h.cells id none) r (some blk')} (w.setRow b arr')/\
 Prog base okin σ h w (aF σ r (some (b,sz))) {h with cells:=aF (aF h.cells id none) r (some blk')} (w.setRow b arr'):=by
 have bP:id≠r:=by rintro rfl;rw[ba] at he;cases he
 have JI:=H.ye ba
 have ug:=H.val _ _ _ he
 have sub:∀i x,σ i=some x->aF σ r (some (b,sz)) i=some x:=by
  intro i x ak
  unfold aF
  by_cases e:i=r
  · subst e;rw[ba] at ak;cases ak
  · rw[if_neg e];exact ak
 have P:Prog base okin σ h w (aF σ r (some (b,sz))) {h with cells:=aF (aF h.cells id none) r (some blk')} (w.setRow b arr'):=by
  have B':∀k,bN base okin σ h k->k≠b:=by
   rintro k aK rfl
   rcases aK with⟨a,_⟩|⟨_,c⟩
   · omega
   · have:=c id sz he (by simp[I])
     rw[aG] at this;cases this
  refine⟨sub,fun k aE aK=>⟨?_,setRow_other _ _ _ _ (B' k aK)⟩,⟨rfl,rfl,rfl,by simp,fun k aE=>setRow_other _ _ _ _ (by omega)⟩,B_ _ _ _ _ _ _ bh qq⟩
  have JJ:=B' k aK
  rcases aK with aK|⟨ab,h2⟩
  · exact .inl aK
  · refine .inr ⟨ab,fun i s ag aV=>?_⟩
    by_cases e:i=r
    · simp only[aF,e,if_true] at ag
      injection ag with ag;injection ag with ag _
      exact absurd ag.symm JJ
    · simp only[aF,e,if_false] at ag aV
      by_cases e':i=id
      · simp[e'] at aV
      · exact h2 i s ag (by simpa[e'] using aV)
 refine⟨⟨?_,?_,?_,?_⟩,P⟩
 · intro i k s ag
   by_cases e:i=r
   · simp only[aF,e,if_true] at ag
     injection ag with ag;injection ag with ab h2
     subst ab
     exact⟨ug.1,by simpa using ug.2⟩
   · simp only[aF,e,if_false] at ag
     have:=H.val i k s ag
     exact⟨this.1,by simpa using this.2⟩
 · intro i fp f_
   by_cases e:i=r
   · subst e
     have:blk'=fp:=by simpa[aF] using f_
     subst this
     refine⟨b,sz,arr',ty,by simp[aF],setRow_heap _ _ _ _ _ _ bh,fun i ag=>⟨(aj i ag).1,fun j aZ=>?_⟩⟩
     obtain⟨v,aq,aB⟩:=(aj i ag).2 j aZ
     exact⟨v,aq,P.rep aB⟩
   · by_cases e':i=id
     · simp[aF,e'] at f_
       exact absurd f_.1 bP
     · have oK:h.cells i=some fp:=by simpa[aF,e,e'] using f_
       obtain⟨hA,s,a,t,aq,aB,bg⟩:=H.blk i fp oK
       refine⟨hA,s,a,t,sub _ _ aq,?_,fun i ag=>⟨(bg i ag).1,fun j aZ=>?_⟩⟩
       · rw[setRow_other]
         · exact aB
         · rintro rfl
           exact e' (H.inj i id _ _ _ (by simp[oK]) (by simp[I]) aq he)
       · obtain⟨v,f1,f2⟩:=(bg i ag).2 j aZ
         exact⟨v,f1,P.rep f2⟩
 · intro i f' k s ax ab h2 aq aB
   by_cases e:i=r<;>by_cases e':f'=r
   · rw[e,e']
   · exfalso
     simp only[aF,e,e',if_true,if_false] at aq aB h2
     by_cases qs:f'=id
     · simp[qs] at h2
     · rw[if_neg qs] at h2
       injection aq with aq;injection aq with aq _;subst aq
       exact qs (H.inj f' id _ _ _ h2 (by simp[I]) aB he)
   · exfalso
     simp only[aF,e,e',if_true,if_false] at aq aB ab
     by_cases qs:i=id
     · simp[qs] at ab
     · rw[if_neg qs] at ab
       injection aB with aB;injection aB with aB _;subst aB
       exact qs (H.inj i id _ _ _ ab (by simp[I]) aq he)
   · simp only[aF,e,e',if_false] at aq aB ab h2
     by_cases f:i=id
     · simp[f] at ab
     · by_cases vO:f'=id
       · simp[vO] at h2
       · rw[if_neg f] at ab;rw[if_neg vO] at h2
         exact H.inj i f' k s ax ab h2 aq aB
 · simpa using H.base
end
section consts
variable {w:World} {ok:Nat->Prop}
theorem Ca {v:Value} {a:J} (h:px v=some a):dq w ok a v/\v.cells= #[v]/\a.cells= [a]:=by
 unfold px at h
 split at h<;>try(cases h;done)
 · cases h;exact⟨.int _ _,rfl,rfl⟩
 · cases h;exact⟨.bool _,rfl,rfl⟩
 · cases h;exact⟨.str _,rfl,rfl⟩
 · cases h
   refine⟨?_,rfl,rfl⟩
   exact .sl [] true none 0 0 (fun _ _=>undef) (by simp) (by simp) (fun i h=>absurd h (by simp)) (fun i j h=>absurd h (by simp)) (by simp) (fun i h=>absurd h (by simp))
 · cases h;exact⟨.nilfn,rfl,rfl⟩
theorem Cb:∀ {vs:List Value} {as:List J},vG vs=some as->as.length=vs.length/\∀i (h:i<as.length) (av:i<vs.length),dq w ok as[i] vs[i]/\as[i].c0=true
 | [],as,h=>by cases h;exact⟨rfl,fun i h=>absurd h (by simp)⟩
 | v::vs,as,h=>by
   simp only[vG] at h
   split at h<;>try(cases h;done)
   rename_i a yf ab h2
   cases h
   obtain⟨l,r⟩:=Cb h2
   refine⟨by simp[l],fun i ag b_=>?_⟩
   cases i with
   | zero=>
     refine⟨(Ca ab).1,?_⟩
     unfold px at ab
     split at ab<;>first|(cases ab;done)|(cases ab;rfl)
   | succ i=>exact r i (by simpa using ag) (by simpa using b_)
theorem Cc {v:Value} {a:J} (h:py v=some a):dq w ok a v/\a.cells.all J.c0=true/\a.cells.length=v.cells.size:=by
 unfold py at h
 split at h
 · rename_i cs
   obtain⟨as,ab,rfl⟩:=Option.map_eq_some_iff.1 h
   obtain⟨l,r⟩:=Cb (w:=w) (ok:=ok) ab
   refine⟨.agg as cs (by simpa using l.symm) (fun i ag b_=>(r i ag (by simpa using b_)).1),?_,by simpa[J.cells,Value.cells] using l⟩
   simp only[J.cells,List.all_eq_true]
   intro x ak
   obtain⟨i,ag,rfl⟩:=List.getElem_of_mem ak
   exact(r i ag (by omega)).2
 · obtain⟨aq,aB,bg⟩:=Ca (w:=w) (ok:=ok) h
   refine⟨aq,?_,by rw[aB,bg];rfl⟩
   rw[bg]
   unfold px at h
   split at h<;>first|(cases h;done)|(cases h;rfl)
end consts
structure hD (G:Nat->Option J) (ok:Nat->Prop) (σ:Nat->Option (Nat × Nat)) (w:World) (F:Nat->J) (a:Act):Prop where
 slot:∀t,bu w ok σ (F t) (a.tmps.getD t undef)
 mf:∀g v,G g=some v->bu w ok σ (.eu v) (.pointer (some ⟨g,0,none⟩))
theorem hD.dM {G:Nat->Option J} {ok:Nat->Prop} {σ:Nat->Option (Nat × Nat)} {w:World} {F:Nat->J} {a:Act} (h:hD G ok σ w F a)
 {x:Operand} {y:bf} (ak:dW x=some y):bu w ok σ (y.ev G F) (a.eval x):=by
 cases x with
 | tmp t=>cases ak;exact h.slot t
 | const v=>
   obtain⟨c,ab,rfl⟩:=Option.map_eq_some_iff.1 ak
   exact .val _ _ (Cc ab).1
 | global g=>
   cases ak
   simp only[bf.ev,Act.eval]
   split
   · exact h.mf _ _ ‹_›
   · exact .undef _
 | func f=>cases ak;exact .fn f [] [] #[] #[] rfl rfl (fun i h=>absurd h (by simp)) (fun i h=>absurd h (by simp))
end Go.Eng
namespace Go.Eng
open Go Go.RowKit
section runs
variable {P:Program} {w:World} {t:TypeId}
theorem uh {b:Bool} (h:me P t=some b):(isAgg t).run P w= .ok b w:=by
 unfold me at h
 unfold isAgg
 cases hu:P.underlying t with
 | none=>rw[hu] at h;cases h
 | some d=>
   rw[hu] at h
   simp only[Sem.run_bind,run_underlying hu,Result.andThen_ok]
   cases d<;>simp at h<;>subst h<;>rfl
theorem run_typeInfo {i:TypeInfo} (h:P.info? t=some i):(typeInfo t).run P w= .ok i w:=by
 simp[typeInfo,h]
theorem run_sizeOf {s:Nat} (h:gp P t=some s):(sizeOf t).run P w= .ok s w:=by
 obtain⟨i,ag,rfl⟩:=Option.map_eq_some_iff.1 h
 simp[sizeOf,run_typeInfo ag]
theorem Cd {a:J} (h:zeroOf P t=some a):∃z,(zeroValue t).run P w= .ok z w/\py z=some a/\∃i,P.info? t=some i/\i.zero=some z:=by
 unfold zeroOf at h
 obtain⟨i,ag,h⟩:=Option.bind_eq_some_iff.1 h
 obtain⟨z,aP,h⟩:=Option.bind_eq_some_iff.1 h
 exact⟨z,by simp[zeroValue,run_typeInfo ag,aP],h,i,ag,aP⟩
end runs
theorem J.ui (cs:List J):(J.agg cs).cells=cs:=rfl
theorem r2 {cs gQ:List J} {off sz:Nat} (h:cut cs off sz=some gQ):off+sz<=cs.length/\gQ.length=sz/\∀j (aZ:j<gQ.length) (jT:off+j<cs.length),gQ[j]=cs[off+j]:=by
 unfold cut at h
 split at h
 · cases h
   refine⟨‹_›,by simp;omega,fun j aZ jT=>by simp⟩
 · cases h
theorem yg {b':Bool} {cs:List J} {u:J} (h:partOf b' cs=some u):(b'=true/\u= .agg cs)\/(b'=false/\cs= [u]/\u.c0=true):=by
 unfold partOf at h
 cases b' with
 | true=>exact .inl ⟨rfl,by simpa using h.symm⟩
 | false=>
   simp only[Bool.false_eq_true,if_false] at h
   split at h
   · split at h
     · cases h;exact .inr ⟨rfl,rfl,‹_›⟩
     · cases h
   · cases h
theorem oL (b x j:Nat):(⟨b,x,none⟩:Addr).add j=⟨b,x+j,none⟩:=by
 unfold Addr.add;split<;>simp_all
theorem add_add (a:Addr) (i j:Nat) (h:a.spot=none\/0<i+j):(a.add i).add j=a.add (i+j):=by
 cases a with
 | mk b o s=>
   unfold Addr.add
   by_cases ag:i=0<;>by_cases aZ:j=0<;>simp_all<;>omega
section ops
variable {P:Program} {base:Nat} {okin:Nat->Prop} {σ:Nat->Option (Nat × Nat)} {h:aA} {w:World}
def r3 (base:Nat) (okin:Nat->Prop) (σ:Nat->Option (Nat × Nat)) (h:aA) (w:World) (r:Nat) (v:J) (av:aA) (res:Result Next):Prop:=
 ∃bE cv a_,(res= .ok (.value cv) a_\/(res= .ok .skip a_/\cv=undef))/\Prog base okin σ h w bE av a_/\cS base okin bE av a_/\
  bu a_ (bN base okin bE av) bE v cv/\∀id,id≠r->bE id=σ id
theorem r3.pure (H:cS base okin σ h w) {r:Nat} {v:J} {cv:Value} {res:Result Next} (e:res= .ok (.value cv) w) (ba:bu w (bN base okin σ h) σ v cv):
 r3 base okin σ h w r v h res:=⟨σ,cv,w,.inl e,Prog.refl ..,H,ba,fun _ _=>rfl⟩
theorem yh {ok:Nat->Prop} {t:TypeId} {b':Bool} {sz:Nat} (dx:me P t=some b') (cy:gp P t=some sz) (ab:(b'||sz == 1)=true) (cO:Addr) (eb:Nat->Value)
 (I:∀j,j<sz->w.cell? (cO.add j)=some (eb j)) {cs:List J} (aV:cs.length=sz) (ba:∀j (aZ:j<cs.length),bu w ok σ cs[j] (eb j)) {u:J} (a4:partOf b' cs=some u):
 ∃cv,(loadVar t cO).run P w= .ok cv w/\bu w ok σ u cv:=by
 rcases yg a4 with⟨rfl,rfl⟩|⟨rfl,rfl,_⟩
 · refine⟨.agg ((List.range sz).map eb).toArray,?_,?_⟩
   · simp[loadVar,uh dx,run_sizeOf cy,run_loadCells w cO sz eb I]
   · refine .agg _ _ (by simp[aV]) (fun i ag b_=>?_)
     simpa using ba i ag
 · have:sz=1:=by simpa using aV.symm
   subst this
   refine⟨eb 0,?_,ba 0 (by simp)⟩
   have:=I 0 (by omega)
   have e:cO.add 0=cO:=by unfold Addr.add;simp
   rw[e] at this
   simp[loadVar,uh dx,this]
theorem cS.elem (H:cS base okin σ h w) {id idx cV sz b cf:Nat} {blk:List J} {e:J} (aj:h.cells id=some blk) (he:blk[idx]? =some e) (aG:σ id=some (b,cf))
 {cs:List J} (I:cut e.cells cV sz=some cs):
 ∃eb:Nat->Value,(∀j,j<sz->w.cell? ((⟨b,idx*cf+cV,none⟩:Addr).add j)=some (eb j))/\(∀j (aZ:j<cs.length),bu w (bN base okin σ h) σ cs[j] (eb j)):=by
 obtain⟨hA,fg,arr,ty,aq,aB,bg⟩:=H.blk id blk aj
 rw[aG] at aq;cases aq
 obtain⟨ag,rfl⟩:=List.getElem?_eq_some_iff.1 he
 obtain⟨cz,cq,db⟩:=r2 I
 have hlen:=(bg idx ag).1
 refine⟨fun j=>(arr[idx*cf+(cV+j)]?).getD undef,fun j aZ=>?_,fun j aZ=>?_⟩
 · obtain⟨v,f1,_⟩:=(bg idx ag).2 (cV+j) (by omega)
   rw[oL]
   simp only[World.cell?,aB,Option.isSome_none,Bool.false_eq_true,if_false]
   rw[Nat.add_assoc,f1];rfl
 · obtain⟨v,f1,f2⟩:=(bg idx ag).2 (cV+j) (by omega)
   rw[db j aZ (by omega)]
   show bu w _ σ _ ((arr[idx*cf+(cV+j)]?).getD undef)
   rw[f1]
   exact f2
theorem JK (H:cS base okin σ h w) {bs r:Nat} {t:TypeId} {b':Bool} {sz:Nat} (dx:me P t=some b') (cy:gp P t=some sz) (ab:(b'||sz == 1)=true)
 {G:Nat->Option J} {F:Nat->J} {x:bf} {gG:Value} (ak:bu w (bN base okin σ h) σ (x.ev G F) gG) {v:J} {av:aA} {c:dL}
 (he:evalOp bs r (bf.ev G F) h (.load b' sz x)=some (v,av,c)):
 av=h/\∃cv,(Instr.loadAt t gG).run P w= .ok cv w/\bu w (bN base okin σ h) σ v cv:=by
 simp only[evalOp] at he
 split at he
 · rename_i u hu
   rw[hu] at ak
   obtain⟨cO,eb,rfl,bz,bR⟩:=ak.vM
   obtain⟨cs,I,he⟩:=Option.bind_eq_some_iff.1 he
   obtain⟨p,a4,he⟩:=Option.map_eq_some_iff.1 he
   cases he
   obtain⟨cz,cq,db⟩:=r2 I
   refine⟨rfl,?_⟩
   obtain⟨cv,aq,aB⟩:=yh (P:=P) (w:=w) (σ:=σ) (ok:=bN base okin σ h) dx cy ab cO eb (fun j aZ=>(bz j (by omega)).2) cq
    (fun j aZ=>by rw[db j aZ (by omega)];simpa using bu.val _ _ (bR j (by omega))) a4
   exact⟨cv,by simpa[Instr.loadAt,Instr.sureAddr] using aq,aB⟩
 · rename_i id idx cV hu
   rw[hu] at ak
   obtain⟨b,cf,rfl,aG⟩:=ak.ue
   obtain⟨blk,aj,he⟩:=Option.bind_eq_some_iff.1 he
   obtain⟨e,kx,he⟩:=Option.bind_eq_some_iff.1 he
   obtain⟨cs,I,he⟩:=Option.bind_eq_some_iff.1 he
   obtain⟨p,a4,he⟩:=Option.map_eq_some_iff.1 he
   cases he
   obtain⟨cz,cq,db⟩:=r2 I
   obtain⟨eb,bz,bR⟩:=H.elem aj kx aG I
   refine⟨rfl,?_⟩
   obtain⟨cv,aq,aB⟩:=yh (P:=P) (w:=w) (σ:=σ) (ok:=bN base okin σ h) dx cy ab _ eb bz cq bR a4
   exact⟨cv,by simpa[Instr.loadAt,Instr.sureAddr] using aq,aB⟩
 · cases he
theorem bu.uj {ok:Nat->Prop} {v:J} {cv:Value} (ba:bu w ok σ v cv) (hu:v.cells.all J.c0=true):
 cv.cells.toList.length=v.cells.length/\(∀j (aZ:j<v.cells.length) (jT:j<cv.cells.toList.length),bu w ok σ v.cells[j] cv.cells.toList[j])/\∀x∈cv.cells.toList,x.oneCell'=true:=by
 obtain⟨aq,aB⟩:=ba.cells (.inl hu)
 refine⟨by simpa using aq,fun j aZ jT=>by simpa using aB j aZ (by simpa using jT),fun x ak=>?_⟩
 obtain⟨i,ag,rfl⟩:=List.getElem_of_mem ak
 have b_:i<v.cells.length:=by simp at ag;omega
 refine(aB i b_ (by simpa using ag)).uf ?_
 exact List.all_eq_true.1 hu _ (List.getElem_mem b_)
theorem vP {cs vs:List J} {off:Nat} (h:off+vs.length<=cs.length):(fv cs off vs).length=cs.length:=by
 simp[fv];omega
theorem pD {α:Type} {cs vs:List α} {off:Nat} (h:off+vs.length<=cs.length) (j:Nat) (aZ:j<(cs.take off++vs++cs.drop (off+vs.length)).length) (jT:j<cs.length):
 (cs.take off++vs++cs.drop (off+vs.length))[j]=if cY:off<=j/\j<off+vs.length then vs[j - off]'(by omega) else cs[j]:=by
 by_cases ab:j<off
 · rw[List.getElem_append_left (by simp;omega),List.getElem_append_left (by simp;omega),dif_neg (by omega)]
   simp
 · by_cases h2:j<off+vs.length
   · rw[List.getElem_append_left (by simp;omega),List.getElem_append_right (by simp;omega),dif_pos (by omega)]
     simp[Nat.min_eq_left (show off<=cs.length by omega)]
   · rw[List.getElem_append_right (by simp;omega),dif_neg (by omega)]
     have e:off+vs.length+(j -(min off cs.length+vs.length))=j:=by rw[Nat.min_eq_left (by omega)];omega
     simp[e]
theorem JL (H:cS base okin σ h w) {bs r:Nat} {t:TypeId} {sz:Nat} (cy:gp P t=some sz)
 {G:Nat->Option J} {F:Nat->J} {x y:bf} {gG gT:Value} (ak:bu w (bN base okin σ h) σ (x.ev G F) gG) (bd:bu w (bN base okin σ h) σ (y.ev G F) gT) {v:J} {av:aA} {c:dL}
 (he:evalOp bs r (bf.ev G F) h (.store sz x y)=some (v,av,c)):
 v= .undef/\∃a_,(Instr.storeAt t gG gT).run P w= .ok () a_/\Prog base okin σ h w σ av a_/\cS base okin σ av a_:=by
 simp only[evalOp] at he
 split at he
 · rename_i id idx cV hu
   rw[hu] at ak
   obtain⟨b,cf,rfl,aG⟩:=ak.ue
   split at he
   · cases he
   · rename_i bZ
     have bZ:h.shut id=false:=by simpa using bZ
     obtain⟨blk,aj,he⟩:=Option.bind_eq_some_iff.1 he
     obtain⟨e,kx,he⟩:=Option.bind_eq_some_iff.1 he
     split at he
     · rename_i nt
       obtain⟨aa,af,al⟩:=nt
       obtain⟨bJ,ca,yi⟩:=bd.uj al
       obtain⟨hA,fg,arr,ty,aq,aB,bg⟩:=H.blk id blk aj
       rw[aG] at aq;cases aq
       obtain⟨ag,rfl⟩:=List.getElem?_eq_some_iff.1 kx
       have hlen:=(bg idx ag).1
       have oM:idx*cf+(cV+sz)<=arr.size:=by
        by_cases aP:cV+sz=0
        · by_cases JM:cf=0
          · simp[JM,aP]
          · obtain⟨v0,f1,_⟩:=(bg idx ag).2 0 (by omega)
            have:=(Array.getElem?_eq_some_iff.1 f1).1
            omega
        · obtain⟨v0,f1,_⟩:=(bg idx ag).2 (cV+sz - 1) (by omega)
          have:=(Array.getElem?_eq_some_iff.1 f1).1
          omega
       have cI:(Instr.storeAt t (.pointer (some ⟨b,idx*cf+cV,none⟩)) gT).run P w= .ok () (w.setRow b (arr.toList.take (idx*cf+cV)++gT.cells.toList++arr.toList.drop (idx*cf+cV+gT.cells.toList.length)).toArray):=by
        have h2:=run_storeCells_at (P:=P) b (idx*cf+cV) ty gT.cells.toList 0 arr w aB (by simp only[Nat.add_zero];rw[bJ,aa];omega) yi
        simp only[Nat.add_zero] at h2
        have bP:gT.cells.size=sz:=by rw[<-aa,<-bJ];simp
        simp[Instr.storeAt,Instr.sureAddr,storeVar,run_sizeOf cy,bP,h2]
       have key:∀e',e'.cells.length=cf->(∀j (aZ:j<e'.cells.length),∃lp,(arr.toList.take (idx*cf+cV)++gT.cells.toList++arr.toList.drop (idx*cf+cV+gT.cells.toList.length)).toArray[idx*cf+j]? =some lp/\bu w (bN base okin σ h) σ (e'.cells[j]) lp)->
        Prog base okin σ h w σ (h.new id (blk.set idx e')) (w.setRow b (arr.toList.take (idx*cf+cV)++gT.cells.toList++arr.toList.drop (idx*cf+cV+gT.cells.toList.length)).toArray)/\
        cS base okin σ (h.new id (blk.set idx e')) (w.setRow b (arr.toList.take (idx*cf+cV)++gT.cells.toList++arr.toList.drop (idx*cf+cV+gT.cells.toList.length)).toArray):=by
        intro e' pE m2
        have:=H.write (blk':=blk.set idx e') (arr':=(arr.toList.take (idx*cf+cV)++gT.cells.toList++arr.toList.drop (idx*cf+cV+gT.cells.toList.length)).toArray) aj bZ aG aB (by simp;omega) ?_
        · exact⟨this.2,this.1⟩
        · intro i b_
          have yj:i<blk.length:=by simpa using b_
          by_cases uk:i=idx
          · subst uk
            simp only[List.getElem_set_self]
            exact⟨pE,m2⟩
          · have bP:(blk.set idx e')[i]=blk[i]:=by rw[List.getElem_set_ne (Ne.symm uk)]
            rw[bP]
            refine⟨(bg i yj).1,fun j aZ=>?_⟩
            obtain⟨v0,f1,f2⟩:=(bg i yj).2 j aZ
            refine⟨v0,?_,f2⟩
            have bO:=(Array.getElem?_eq_some_iff.1 f1).1
            have lq:=(Array.getElem?_eq_some_iff.1 f1).2
            have qt:j<cf:=by have:=(bg i yj).1;omega
            have mg:¬(idx*cf+cV<=i*cf+j/\i*cf+j<idx*cf+cV+gT.cells.toList.length):=by
             rw[bJ,aa]
             rintro ⟨dy,dB⟩
             rcases Nat.lt_or_gt_of_ne uk with q|q
             · have:(i+1)*cf<=idx*cf:=Nat.mul_le_mul_right _ q
               rw[Nat.add_mul] at this;omega
             · have:(idx+1)*cf<=i*cf:=Nat.mul_le_mul_right _ q
               rw[Nat.add_mul] at this;omega
            have hle:idx*cf+cV+gT.cells.toList.length<=arr.toList.length:=by rw[bJ,aa];simp;omega
            rw[List.getElem?_toArray,List.getElem?_eq_getElem (by simp;omega),pD hle _ _ (by simpa using bO),dif_neg mg]
            simpa using lq
       have hle:idx*cf+cV+gT.cells.toList.length<=arr.toList.length:=by rw[bJ,aa];simp;omega
       have Ce:∀j (aZ:j<cf),∃lp,(arr.toList.take (idx*cf+cV)++gT.cells.toList++arr.toList.drop (idx*cf+cV+gT.cells.toList.length)).toArray[idx*cf+j]? =some lp/\
        (∀(cY:cV<=j/\j<cV+sz),bu w (bN base okin σ h) σ ((y.ev G F).cells[j - cV]'(by omega)) lp)/\(¬(cV<=j/\j<cV+sz)->bu w (bN base okin σ h) σ (blk[idx].cells[j]'(by omega)) lp):=by
        intro j aZ
        obtain⟨v0,f1,f2⟩:=(bg idx ag).2 j (by omega)
        have bO:=(Array.getElem?_eq_some_iff.1 f1).1
        have lq:=(Array.getElem?_eq_some_iff.1 f1).2
        rw[List.getElem?_toArray,List.getElem?_eq_getElem (by simp;omega)]
        refine⟨_,rfl,fun cY=>?_,fun cY=>?_⟩
        · rw[pD hle _ _ (by simpa using bO),dif_pos (by rw[bJ,aa];omega)]
          have:=ca (j - cV) (by omega) (by omega)
          have e:idx*cf+j -(idx*cf+cV)=j - cV:=by omega
          simpa[e] using this
        · rw[pD hle _ _ (by simpa using bO),dif_neg (by rw[bJ,aa];omega)]
          simp only[Array.getElem_toList]
          rw[lq];exact f2
       split at he
       · rename_i cs Cf
         cases he
         refine⟨rfl,_,cI,?_⟩
         rw[Cf] at hlen
         simp only[J.ui] at hlen
         have fN:cV+(y.ev G F).cells.length<=cs.length:=by omega
         refine key _ (by simp only[J.ui];rw[vP fN];exact hlen) (fun j aZ=>?_)
         have jT:j<cf:=by simp only[J.ui] at aZ;rw[vP fN] at aZ;omega
         obtain⟨lp,k6,lF,yk⟩:=Ce j jT
         refine⟨lp,k6,?_⟩
         simp only[J.ui,fv]
         rw[pD fN j _ (by omega)]
         split
         · rename_i cY;exact lF (by omega)
         · rename_i cY
           have:=yk (by omega)
           simpa[Cf,J.ui] using this
       · rename_i JN
         split at he
         · rename_i u yl
           cases he
           refine⟨rfl,_,cI,?_⟩
           have m1:blk[idx].cells.length=1:=by
            cases cY:blk[idx]<;>first|rfl|exact absurd cY (JN _)
           have um:sz=1:=by rw[<-aa,yl];rfl
           have ym:u.c0=true:=by rw[yl] at al;simpa using al
           have yn:u.cells= [u]:=by cases u<;>first|rfl|simp[J.c0] at ym
           refine key u (by rw[yn];simp;omega) (fun j aZ=>?_)
           have JO:j=0:=by rw[yn] at aZ;simpa using aZ
           subst JO
           obtain⟨lp,k6,lF,_⟩:=Ce 0 (by omega)
           refine⟨lp,k6,?_⟩
           have:=lF (by omega)
           simpa[yn,yl] using this
         · cases he
     · cases he
 · cases he
end ops
end Go.Eng
namespace Go.Eng
open Go Go.RowKit
section ops
variable {P:Program} {base:Nat} {okin:Nat->Prop} {σ:Nat->Option (Nat × Nat)} {h:aA} {w:World} {G:Nat->Option J} {F:Nat->J} {a:Act}
theorem qu (bX:hD G (bN base okin σ h) σ w F a):∀ {xs:List Operand} {ys:List bf},oG xs=some ys->
 ys.length=xs.length/\∀i (ag:i<ys.length) (b_:i<xs.length),bu w (bN base okin σ h) σ (ys[i].ev G F) (a.eval xs[i])
 | [],ys,e=>by cases e;exact⟨rfl,fun i ag=>absurd ag (by simp)⟩
 | x::xs,ys,e=>by
   simp only[oG] at e
   split at e<;>try(cases e;done)
   rename_i y VJ ab h2
   cases e
   obtain⟨l,r⟩:=qu bX h2
   refine⟨by simp[l],fun i ag b_=>?_⟩
   cases i with
   | zero=>exact bX.dM ab
   | succ i=>exact r i (by simpa using ag) (by simpa using b_)
theorem Cg {ok:Nat->Prop} {t:TypeId} {b':Bool} {sz off:Nat} (dx:me P t=some b') (cy:gp P t=some sz) (ab:(b'||sz == 1)=true) {cs:List J} {vs:Array Value}
 (aV:vs.size=cs.length) (ba:∀i (h:i<cs.length) (av:i<vs.size),bu w ok σ cs[i] vs[i]) {gQ:List J} (I:cut cs off sz=some gQ) {u:J} (a4:partOf b' gQ=some u):
 ∃cv,(part t vs off).run P w= .ok cv w/\bu w ok σ u cv:=by
 obtain⟨cz,cq,db⟩:=r2 I
 rcases yg a4 with⟨rfl,rfl⟩|⟨rfl,rfl,_⟩
 · refine⟨.agg (vs.extract off (off+sz)),by simp[part,uh dx,run_sizeOf cy],?_⟩
   refine .agg _ _ (by simp;omega) (fun i ag b_=>?_)
   rw[db i ag (by omega)]
   simpa using ba (off+i) (by omega) (by omega)
 · have lG:sz=1:=by simpa using cq.symm
   have bO:off<vs.size:=by omega
   refine⟨vs[off],by simp[part,uh dx,bO],?_⟩
   have:=ba off (by omega) bO
   have e:=db 0 (by simp) (by omega)
   simp only[List.getElem_cons_zero,Nat.add_zero] at e
   rw[e];exact this
def vQ (op:BinOp) (k:IntKind) (x y:Int):Sem Value:=
 match op with
 | .add| .sub| .mul=>Op.intArith op k x y
 | .quo| .rem=>Op.intDiv op k x y
 | .and| .or| .xor| .andNot=>Op.intBits op k x y
 | _=>Op.intCmp op x y
theorem JP (op:BinOp) (k:IntKind) (x y:Int) {v:J} (aj:fX op k x y=some v):
 ∃cv,(vQ op k x y).run P w= .ok cv w/\∀ok σ,bu w ok σ v cv:=by
 cases op<;>simp only[fX] at aj<;>first
  | (cases aj;done)
  | (cases aj;exact⟨_,rfl,fun _ _=> .val _ _ (.int _ _)⟩)
  | (cases aj;exact⟨_,rfl,fun _ _=> .val _ _ (.bool _)⟩)
  | (split at aj
     · cases aj
     · cases aj;rename_i aP;exact⟨_,by simp[vQ,Op.intDiv,aP],fun _ _=> .val _ _ (.int _ _)⟩)
theorem yo (ty:Nat) (op:BinOp) (t:TypeId) (X Y:Operand) {u v r:J} {nu cv:Value} {ok:Nat->Prop} (hu:bu w ok σ u nu) (aR:bu w ok σ v cv) (aj:gm ty op u v=some r)
 (aG:ty=1->P.underlying t=some .bool):
 ∃qv,(do eqGuard op t X Y nu cv;binOp op t nu cv:Sem Value).run P w= .ok qv w/\bu w ok σ r qv:=by
 have bp:∀ {a b:Value},(∀c,a≠ .nilIface/\a≠ .agg c)->(eqGuard op t X Y a b).run P w= .ok () w:=by
  intro a b bh
  cases a<;>first|exact absurd rfl (bh #[]).1|exact absurd rfl (bh _).2|(cases op<;>rfl)
 unfold gm at aj
 split at aj
 · rename_i k x k' y
   obtain rfl:=hu.gS
   obtain rfl:=aR.gS
   simp only[Sem.run_bind,bp (a:= .int k x) (b:= .int k' y) (fun c=>⟨by simp,by simp⟩),Result.andThen_ok]
   split at aj
   · rename_i cT
     unfold fY at aj
     split at aj
     · cases aj
     · rename_i Ch
       rcases cT with rfl|rfl
       · cases aj
         exact⟨_,by simp[binOp,Op.shift,Ch],.val _ _ (.int _ _)⟩
       · cases aj
         exact⟨_,by simp[binOp,Op.shift,Ch],.val _ _ (.int _ _)⟩
   · rename_i cT
     split at aj
     · rename_i aE
       subst aE
       obtain⟨qv,aq,aB⟩:=JP (P:=P) (w:=w) op k x y aj
       refine⟨qv,?_,aB _ _⟩
       have:binOp op t (.int k x) (.int k y)=vQ op k x y:=by
        cases op<;>first|exact absurd (.inl rfl) cT|exact absurd (.inr rfl) cT|simp[binOp,vQ]
       rw[this];exact aq
     · cases aj
 · rename_i x y
   obtain rfl:=hu.pA
   obtain rfl:=aR.pA
   split at aj<;>try(cases aj;done)
   rename_i JQ
   have yp:=aG JQ
   have heq:(Op.equal t (.bool x) (.bool y)).run P w= .ok (x == y) w:=by
    show (Op.equalIn (9999+1) t (.bool x) (.bool y)).run P w=_
    unfold Op.equalIn
    simp[run_underlying yp]
   simp only[Sem.run_bind,bp (a:= .bool x) (b:= .bool y) (fun c=>⟨by simp,by simp⟩),Result.andThen_ok]
   split at aj
   · cases aj
     refine⟨.bool (x == y),?_,.val _ _ (.bool _)⟩
     show (do pure (.bool (<-Op.equal t (.bool x) (.bool y))):Sem Value).run P w=_
     simp[heq]
   · cases aj
     refine⟨.bool (!(x == y)),?_,.val _ _ (.bool _)⟩
     show (do pure (.bool !(<-Op.equal t (.bool x) (.bool y))):Sem Value).run P w=_
     simp[heq]
   · cases aj
 · rename_i x y
   obtain rfl:=hu.ud
   obtain rfl:=aR.ud
   simp only[Sem.run_bind,bp (a:= .string x) (b:= .string y) (fun c=>⟨by simp,by simp⟩),Result.andThen_ok]
   split at aj
   · cases aj
     exact⟨.bool (x.toList == y.toList),by rw[show binOp .eql t (.string x) (.string y)=Op.stringOp .eql x y by simp[binOp]];simp[Op.stringOp],.val _ _ (.bool _)⟩
   · cases aj
     exact⟨.bool (!(x.toList == y.toList)),by rw[show binOp .neq t (.string x) (.string y)=Op.stringOp .neq x y by simp[binOp]];simp[Op.stringOp],.val _ _ (.bool _)⟩
   · cases aj
 · cases aj
theorem JR (op:UnOp) {u r:J} {nu:Value} {ok:Nat->Prop} (hu:bu w ok σ u nu) (aj:gn op u=some r):
 ∃qv,(Op.unary op nu).run P w= .ok qv w/\bu w ok σ r qv:=by
 unfold gn at aj
 split at aj
 · obtain rfl:=hu.gS
   split at aj
   · cases aj;exact⟨_,rfl,.val _ _ (.int _ _)⟩
   · cases aj;exact⟨_,rfl,.val _ _ (.int _ _)⟩
   · cases aj
 · obtain rfl:=hu.pA
   split at aj
   · cases aj;exact⟨_,rfl,.val _ _ (.bool _)⟩
   · cases aj
 · cases aj
theorem r4 {ok:Nat->Prop} {d y:Nat} {X:Operand} {x:bf} {l:Nat} (ak:bu w ok σ (x.ev G F) (a.eval X)) (aj:bound d (bf.ev G F) (some x)=some l) (aV:l<=y) (code:BoundsCode):
 (Instr.sliceBound (a.eval X) y code).run P w= .ok l w:=by
 unfold bound at aj
 simp only at aj
 split at aj
 · rename_i k n hu
   rw[hu] at ak
   rw[ak.gS]
   split at aj
   · rename_i ar
     cases aj
     have:n<=(y:Int):=by omega
     simp[Instr.sliceBound,asIntOf,ar,this]
   · cases aj
 · cases aj
theorem r5 (bX:hD G (bN base okin σ h) σ w F a) {X:Option Operand} {x:Option bf} (e:qn X=some x):
 (X=none/\x=none)\/∃oN kf,X=some oN/\x=some kf/\bu w (bN base okin σ h) σ (kf.ev G F) (a.eval oN):=by
 cases X with
 | none=>cases e;exact .inl ⟨rfl,rfl⟩
 | some oN=>
   obtain⟨kf,ab,rfl⟩:=Option.map_eq_some_iff.1 e
   exact .inr ⟨oN,kf,rfl,rfl,bX.dM ab⟩
theorem Ci (bX:hD G (bN base okin σ h) σ w F a) {cH ag hy:Option Operand} {r6 b_ kg:Option bf} (aq:qn cH=some r6) (aB:qn ag=some b_) (bg:qn hy=some kg)
 (r7:(kg.isSome&&b_.isNone)=false) (len cap r8:Nat) (m3:cap<=r8) (VK:kg=none->len<=r8) {l u m:Nat} (b1:bound 0 (bf.ev G F) r6=some l) (da:bound len (bf.ev G F) b_=some u) (eD:bound cap (bf.ev G F) kg=some m)
 (dy:l<=u) (dB:u<=m) (ga:m<=cap) (JS:Bool):
 (Instr.sliceBounds JS len r8 (cH.map a.eval) (ag.map a.eval) (hy.map a.eval)).run P w= .ok (l,u,if kg.isSome then m else r8) w:=by
 unfold Instr.sliceBounds
 rcases r5 bX bg with⟨rfl,rfl⟩|⟨M,mc,rfl,rfl,eR⟩
 · have em:m=cap:=by cases eD;rfl
   rcases r5 bX aB with⟨rfl,rfl⟩|⟨JT,av,rfl,rfl,yq⟩
   · have Cj:u=len:=by cases da;rfl
     rcases r5 bX aq with⟨rfl,rfl⟩|⟨L,lr,rfl,rfl,nv⟩
     · have el:l=0:=by cases b1;rfl
       simp[Cj,el]
     · have:=r4 (P:=P) (a:=a) (y:=len) nv b1 (by omega) .sliceB
       simp[this,Cj]
   · have cY:=fun c=>r4 (P:=P) (a:=a) (y:=r8) yq da (by omega) c
     rcases r5 bX aq with⟨rfl,rfl⟩|⟨L,lr,rfl,rfl,nv⟩
     · have el:l=0:=by cases b1;rfl
       simp[cY,el]
     · have:=r4 (P:=P) (a:=a) (y:=u) nv b1 (by omega) .sliceB
       simp[this,cY]
 · have hm:=fun c=>r4 (P:=P) (a:=a) (y:=r8) eR eD (by omega) c
   rcases r5 bX aB with⟨rfl,rfl⟩|⟨JT,av,rfl,rfl,yq⟩
   · simp at r7
   · have cY:=fun c=>r4 (P:=P) (a:=a) (y:=m) yq da (by omega) c
     rcases r5 bX aq with⟨rfl,rfl⟩|⟨L,lr,rfl,rfl,nv⟩
     · have el:l=0:=by cases b1;rfl
       simp[hm,cY,el]
     · have:=r4 (P:=P) (a:=a) (y:=u) nv b1 (by omega) .slice3C
       simp[hm,cY,this]
end ops
end Go.Eng
namespace Go.Eng
open Go Go.RowKit
section fill
variable {P:Program} {base:Nat} {okin:Nat->Prop} {σ:Nat->Option (Nat × Nat)} {h:aA} {w:World} {G:Nat->Option J} {F:Nat->J} {a:Act}
def setFrom (cs:Array Value) (off:Nat) (l:List Value):Array Value:=(l.zipIdx 0).foldl (fun cs (c,j)=>cs.setIfInBounds (off+j) c) cs
theorem Ck (l:List Value):∀(s off:Nat) (cs:Array Value),((l.zipIdx s).foldl (fun cs (c,j)=>cs.setIfInBounds (off+j) c) cs).size=cs.size/\
 ∀k (aE:k<cs.size) (ha:k<((l.zipIdx s).foldl (fun cs (c,j)=>cs.setIfInBounds (off+j) c) cs).size),
  ((l.zipIdx s).foldl (fun cs (c,j)=>cs.setIfInBounds (off+j) c) cs)[k]=if cY:off+s<=k/\k<off+s+l.length then l[k -(off+s)]'(by omega) else cs[k]:=by
 induction l with
 | nil=>intro s off cs;exact⟨rfl,fun k aE ha=>by
   rw[dif_neg (fun cY=>by simp at cY;omega)]
   simp[List.zipIdx]⟩
 | cons v l bC=>
   intro s off cs
   have:=bC (s+1) off (cs.setIfInBounds (off+s) v)
   refine⟨by simpa[List.zipIdx_cons] using this.1,fun k aE ha=>?_⟩
   have e:=this.2 k (by simpa using aE) (by simpa[List.zipIdx_cons] using ha)
   simp only[List.zipIdx_cons,List.foldl_cons]
   rw[e]
   by_cases ab:k=off+s
   · subst ab
     rw[dif_neg (by omega),dif_pos (by simp)]
     simp
   · by_cases h2:off+s<=k/\k<off+s+(v::l).length
     · have hlen:(v::l).length=l.length+1:=rfl
       rw[dif_pos (by omega),dif_pos h2]
       have:k -(off+s)=(k -(off+(s+1)))+1:=by omega
       simp[this]
     · have hlen:(v::l).length=l.length+1:=rfl
       rw[dif_neg (by omega),dif_neg h2]
       rw[Array.getElem_setIfInBounds_ne (h:=by omega)]
theorem fold_eq (cs:Array Value) (off:Nat) (v:Array Value):v.zipIdx.foldl (fun cs (c,j)=>cs.setIfInBounds (off+j) c) cs=setFrom cs off v.toList:=by
 rw[<-Array.foldl_toList,Array.toList_zipIdx];rfl
def qw (w:World) (ok:Nat->Prop) (σ:Nat->Option (Nat × Nat)) (cs:List J) (vs:Array Value):Prop:=vs.size=cs.length/\∀i (h:i<cs.length) (av:i<vs.size),bu w ok σ cs[i] vs[i]
theorem qw.fv {ok:Nat->Prop} {cs:List J} {arr:Array Value} (I:qw w ok σ cs arr) {v:J} {cv:Value} (aR:bu w ok σ v cv) (aG:v.cells.all J.c0=true) {off:Nat} (aK:off+v.cells.length<=cs.length):
 qw w ok σ (Eng.fv cs off v.cells) (setFrom arr off cv.cells.toList):=by
 obtain⟨bJ,ca,_⟩:=aR.uj aG
 obtain⟨cP,dR⟩:=I
 have A:=Ck cv.cells.toList 0 off arr
 refine⟨by rw[vP aK,<-cP];exact A.1,fun i ag b_=>?_⟩
 have ag:i<cs.length:=by rw[vP aK] at ag;exact ag
 have e:=A.2 i (by omega) b_
 show bu w ok σ _ (((cv.cells.toList.zipIdx 0).foldl (fun cs (c,j)=>cs.setIfInBounds (off+j) c) arr)[i])
 rw[e]
 simp only[Eng.fv]
 rw[pD aK i _ ag]
 by_cases cY:off<=i/\i<off+v.cells.length
 · rw[dif_pos cY,dif_pos (by omega)]
   exact ca _ (by omega) (by omega)
 · rw[dif_neg cY,dif_neg (by omega)]
   exact dR i ag (by omega)
theorem yr (bX:hD G (bN base okin σ h) σ w F a) (place:Nat->Option (Nat × Nat)):∀(ps:List (Nat × Operand)) (eM:List (Nat × Nat × bf)),
 (eM.length=ps.length/\∀k (aE:k<eM.length) (ha:k<ps.length),place (ps[k].1)=some (eM[k].1,eM[k].2.1)/\dW (ps[k].2)=some (eM[k].2.2))->
 ∀(cs:List J) (arr:Array Value) (gQ:List J),qw w (bN base okin σ h) σ cs arr->fy cs (bf.ev G F) eM=some gQ->
  ∃arr',Instr.fill place arr (ps.map fun(i,x)=>(i,a.eval x))=some arr'/\qw w (bN base okin σ h) σ gQ arr'
 | [],[],_,cs,arr,gQ,I,bI=>by
   simp only[fy] at bI;cases bI
   exact⟨arr,rfl,I⟩
 | [],_::_,a4,_,_,_,_,_=>by simp at a4
 | _::_,[],a4,_,_,_,_,_=>by simp at a4
 | (i,x)::ps,(off,size,y)::eM,a4,cs,arr,gQ,I,bI=>by
   simp only[fy] at bI
   split at bI<;>try(cases bI;done)
   rename_i nt
   obtain⟨aa,af,al⟩:=nt
   obtain⟨dS,fC⟩:=a4
   have q:=fC 0 (by simp) (by simp)
   simp only[List.getElem_cons_zero] at q
   have aR:=bX.dM q.2
   obtain⟨bJ,ca,_⟩:=aR.uj al
   have cy:(a.eval x).cells.size=size:=by rw[<-aa,<-bJ];simp
   obtain⟨arr',aq,aB⟩:=yr bX place ps eM ⟨by simpa using dS,fun k aE ha=>by
    have:=fC (k+1) (by simp;omega) (by simp;omega)
    simpa using this⟩ _ _ gQ (I.fv aR al (by omega)) bI
   refine⟨arr',?_,aB⟩
   simp only[List.map_cons,Instr.fill,q.1]
   rw[if_neg (by simp[cy];have:=I.1;omega),fold_eq]
   exact aq
theorem Cl {cj:Array Field}:∀ {ps:List (Nat × Operand)} {eM:List (Nat × Nat × bf)},vH P cj ps=some eM->
 eM.length=ps.length/\∀k (aE:k<eM.length) (ha:k<ps.length),((cj[ps[k].1]?).bind fun f=>(gp P f.type).map fun s=>(f.offset,s))=some (eM[k].1,eM[k].2.1)/\dW (ps[k].2)=some (eM[k].2.2)
 | [],eM,e=>by cases e;exact⟨rfl,fun k aE=>absurd aE (by simp)⟩
 | (i,x)::r,eM,e=>by
   simp only[vH] at e
   split at e<;>try(cases e;done)
   rename_i f y yt ab h2 aX
   split at e<;>try(cases e;done)
   rename_i s aG
   cases e
   obtain⟨l,q⟩:=Cl aX
   refine⟨by simp[l],fun k aE ha=>?_⟩
   cases k with
   | zero=>simp[ab,h2,aG]
   | succ k=>exact q k (by simpa using aE) (by simpa using ha)
theorem Cm {s:Nat}:∀ {ps:List (Nat × Operand)} {eM:List (Nat × Nat × bf)},vI s ps=some eM->
 eM.length=ps.length/\∀k (aE:k<eM.length) (ha:k<ps.length),(some (ps[k].1*s,s):Option (Nat × Nat))=some (eM[k].1,eM[k].2.1)/\dW (ps[k].2)=some (eM[k].2.2)
 | [],eM,e=>by cases e;exact⟨rfl,fun k aE=>absurd aE (by simp)⟩
 | (i,x)::r,eM,e=>by
   simp only[vI] at e
   split at e<;>try(cases e;done)
   rename_i y yt ab h2
   cases e
   obtain⟨l,q⟩:=Cm h2
   refine⟨by simp[l],fun k aE ha=>?_⟩
   cases k with
   | zero=>simp[ab]
   | succ k=>exact q k (by simpa using aE) (by simpa using ha)
theorem r9 {ok:Nat->Prop} {t:TypeId} {z:J} (aP:zeroOf P t=some z):∃bk,(zeroValue t).run P w= .ok bk w/\qw w ok σ z.cells bk.cells/\z.cells.all J.c0=true/\dq w ok z bk/\∃i,P.info? t=some i/\i.zero=some bk:=by
 obtain⟨bk,aq,aB,bg⟩:=Cd (w:=w) aP
 obtain⟨f1,f2,f3⟩:=Cc (w:=w) (ok:=ok) aB
 refine⟨bk,aq,?_,f2,f1,bg⟩
 exact(bu.val (σ:=σ) _ _ f1).cells (.inl f2)
theorem JU (cj:List Field) (bI:ya P cj=true):∃pl:List (Nat × Nat),(cj.mapM (fun f=>do pure (f.offset,<-sizeOf f.type):Field->Sem (Nat × Nat))).run P w= .ok pl w/\
 ∀i:Nat,pl[i]? =(cj[i]?).bind fun f=>(gp P f.type).map fun s=>(f.offset,s):=by
 induction cj with
 | nil=>exact⟨[],by simp,fun i=>by simp⟩
 | cons f cj bC=>
   simp only[ya,List.all_cons,Bool.and_eq_true] at bI
   obtain⟨s,aG⟩:=Option.isSome_iff_exists.1 bI.1
   obtain⟨pl,aq,aB⟩:=bC bI.2
   refine⟨(f.offset,s)::pl,by simp[List.mapM_cons,run_sizeOf aG] at aq|-;simp[aq],fun i=>?_⟩
   cases i with
   | zero=>simp[aG]
   | succ i=>simpa using aB i
theorem JV (bX:hD G (bN base okin σ h) σ w F a) {t:TypeId} {ps:Array (Nat × Operand)} {lH:hx} (I:ff P (.build t ps)=some lH) {bs r:Nat} {v:J} {av:aA} {c:dL}
 (he:evalOp bs r (bf.ev G F) h lH=some (v,av,c)):
 av=h/\∃cv,(Instr.build t (ps.map fun(i,x)=>(i,a.eval x))).run P w= .ok cv w/\bu w (bN base okin σ h) σ v cv:=by
 simp only[ff] at I
 split at I
 · rename_i cj z hu aP
   split at I<;>try(cases I;done)
   rename_i JW
   obtain⟨eM,a4,rfl⟩:=Option.map_eq_some_iff.1 I
   simp only[evalOp] at he
   obtain⟨cs,bI,he⟩:=Option.map_eq_some_iff.1 he
   cases he
   obtain⟨bk,cM,dX,_⟩:=r9 (w:=w) (σ:=σ) (ok:=bN base okin σ h) aP
   obtain⟨pl,aq,aB⟩:=JU (w:=w) cj.toList JW
   obtain⟨arr',f1,f2⟩:=yr bX (fun x=>pl[x]?) ps.toList eM (by
    obtain⟨l,q⟩:=Cl a4
    exact⟨l,fun k aE ha=>by have:=q k aE ha;refine⟨?_,this.2⟩;rw[aB];simpa using this.1⟩) _ _ cs dX bI
   refine⟨rfl,.agg arr',?_,.agg _ _ f2.1 f2.2⟩
   have JX:(cj.mapM (fun f=>do pure (f.offset,<-sizeOf f.type):Field->Sem (Nat × Nat))).run P w= .ok pl.toArray w:=by
    rw[Array.mapM_eq_mapM_toList,Sem.run_map,aq];rfl
   simp only[Instr.build,Sem.run_bind,cM,Result.andThen_ok,run_underlying hu,JX]
   have:(fun x:Nat=>pl.toArray[x]?)=fun x=>pl[x]? :=by funext x;simp
   simp only[this,Array.toList_map,f1]
   simp
 · rename_i n e z hu aP
   split at I<;>try(cases I;done)
   rename_i s aG
   obtain⟨eM,a4,rfl⟩:=Option.map_eq_some_iff.1 I
   simp only[evalOp] at he
   obtain⟨cs,bI,he⟩:=Option.map_eq_some_iff.1 he
   cases he
   obtain⟨bk,cM,dX,_⟩:=r9 (w:=w) (σ:=σ) (ok:=bN base okin σ h) aP
   obtain⟨arr',f1,f2⟩:=yr bX (fun i=>some (i*s,s)) ps.toList eM (Cm a4) _ _ cs dX bI
   refine⟨rfl,.agg arr',?_,.agg _ _ f2.1 f2.2⟩
   simp only[Instr.build,Sem.run_bind,cM,Result.andThen_ok,run_underlying hu,run_sizeOf aG,Array.toList_map,f1]
   simp
 · cases I
end fill
end Go.Eng
namespace Go.Eng
open Go Go.RowKit
section
variable {P:Program} {base:Nat} {okin:Nat->Prop} {σ:Nat->Option (Nat × Nat)} {h:aA} {w:World} {G:Nat->Option J} {F:Nat->J} {a:Act}
theorem Cn (H:cS base okin σ h w) {r:Nat} (ba:σ r=none) {t:TypeId} {z:J} {bk:Value} (aP:bu w (bN base okin σ h) σ z bk) (aG:z.cells.all J.c0=true):
 ∃bE a_,(newVar t bk).run P w= .ok ⟨w.heap.size,0,none⟩ a_/\Prog base okin σ h w bE (h.new r [z]) a_/\cS base okin bE (h.new r [z]) a_/\
  bu a_ (bN base okin bE (h.new r [z])) bE (.ptr r 0 0) (.pointer (some ⟨w.heap.size,0,none⟩))/\∀id,id≠r->bE id=σ id:=by
 obtain⟨cz,cq⟩:=aP.cells (.inl aG)
 have A:=H.alloc ba [z] bk.cells t z.cells.length (fun i ag=>by
  have:i=0:=by simpa using ag
  subst this
  refine⟨rfl,fun j aZ=>?_⟩
  have jT:j<z.cells.length:=aZ
  refine⟨bk.cells[j]'(by omega),?_,cq j jT (by omega)⟩
  rw[Nat.zero_mul,Nat.zero_add]
  exact Array.getElem?_eq_getElem (by omega))
 refine⟨_,_,?_,A.2,A.1,?_,?_⟩
 · simp[newVar,newRow]
 · have:=bu.ptr (w:=w.alloc (.cells bk.cells t)) (ok:=bN base okin (aF σ r (some (w.heap.size,z.cells.length))) (h.new r [z])) (σ:=aF σ r (some (w.heap.size,z.cells.length))) r 0 0 w.heap.size z.cells.length (by simp[aF])
   simpa using this
 · intro id bS;simp[aF,bS]
theorem dq.Co {ok:Nat->Prop} {v:J} {cv:Value} (ba:bu w ok σ v cv) (aj:v.ew=true):dq w ok v cv:=by
 cases ba with
 | undef=>simp[J.ew] at aj
 | kc=>simp[J.ew] at aj
 | val _ _ h=>exact h
 | agg=>simp[J.ew] at aj
 | ch=>simp[J.ew] at aj
 | ref=>simp[J.ew] at aj
 | ptr=>simp[J.ew] at aj
 | eu=>simp[J.ew] at aj
 | fn f first caps eK cv ab h2=>
   cases first with
   | cons=>simp[J.ew] at aj
   | nil=>
     cases caps with
     | cons=>simp[J.ew] at aj
     | nil=>
       obtain rfl:=Array.eq_empty_of_size_eq_zero ab
       obtain rfl:=Array.eq_empty_of_size_eq_zero h2
       exact .fn f
 | fl=>simp[J.ew] at aj
theorem J.JY {v:J} (h:v.ew=true):v.c0=true:=by
 cases v<;>first|rfl|simp[J.ew] at h
theorem J.JZ {v:J} (h:v.eA=true):v.cells.all J.c0=true:=by
 simp only[J.eA,List.all_eq_true] at h|-
 exact fun x ak=>J.JY (h x ak)
def lI (w:World) (ok:Nat->Prop) (σ:Nat->Option (Nat × Nat)) (sz:Nat) (es:List J) (arr:Array Value):Prop:=
 arr.size=es.length*sz/\∀i (ag:i<es.length),es[i].cells.length=sz/\∀j (aZ:j<es[i].cells.length) (aE:i*sz+j<arr.size),bu w ok σ es[i].cells[j] arr[i*sz+j]
theorem n2 {i j n sz:Nat} (ag:i<n) (aZ:j<sz):i*sz+j<n*sz:=by
 have:(i+1)*sz<=n*sz:=Nat.mul_le_mul_right _ ag
 rw[Nat.add_mul] at this;omega
theorem lI.set {ok:Nat->Prop} {sz:Nat} {es:List J} {arr:Array Value} (H:lI w ok σ sz es arr) {i:Nat} {v:J} {cv:Value} (aR:bu w ok σ v cv) (aG:v.cells.all J.c0=true) (aV:v.cells.length=sz) (ag:i<es.length):
 lI w ok σ sz (es.set i v) (setFrom arr (i*sz) cv.cells.toList):=by
 obtain⟨bJ,ca,_⟩:=aR.uj aG
 obtain⟨cP,dR⟩:=H
 have A:=Ck cv.cells.toList 0 (i*sz) arr
 have qq:(setFrom arr (i*sz) cv.cells.toList).size=arr.size:=A.1
 refine⟨by rw[qq,cP];simp,fun k aE=>?_⟩
 have ha:k<es.length:=by simpa using aE
 by_cases k7:k=i
 · subst k7
   simp only[List.getElem_set_self]
   refine⟨aV,fun j aZ oO=>?_⟩
   have bO:k*sz+j<arr.size:=by rw[qq] at oO;exact oO
   have e:=A.2 (k*sz+j) bO oO
   show bu w ok σ _ (((cv.cells.toList.zipIdx 0).foldl (fun cs (c,j)=>cs.setIfInBounds (k*sz+j) c) arr)[k*sz+j])
   rw[e,dif_pos (by omega)]
   have aB:k*sz+j -(k*sz+0)=j:=by omega
   simp only[aB]
   exact ca j (by omega) (by omega)
 · have bP:(es.set i v)[k]=es[k]:=by rw[List.getElem_set_ne (Ne.symm k7)]
   rw[bP]
   refine⟨(dR k ha).1,fun j aZ oO=>?_⟩
   have bO:k*sz+j<arr.size:=by rw[qq] at oO;exact oO
   have J0:j<sz:=by have:=(dR k ha).1;omega
   have e:=A.2 (k*sz+j) bO oO
   show bu w ok σ _ (((cv.cells.toList.zipIdx 0).foldl (fun cs (c,j)=>cs.setIfInBounds (i*sz+j) c) arr)[k*sz+j])
   rw[e,dif_neg]
   · exact(dR k ha).2 j aZ bO
   · rw[bJ,aV]
     rintro ⟨dy,dB⟩
     rcases Nat.lt_or_gt_of_ne k7 with q|q
     · have:=n2 q J0;omega
     · have:=n2 (i:=i) (n:=k) q (j:=0) (sz:=sz) (by omega)
       have:(i+1)*sz<=k*sz:=Nat.mul_le_mul_right _ q
       rw[Nat.add_mul] at this;omega
theorem Cp (bX:hD G (bN base okin σ h) σ w F a) {sz:Nat}:∀(ps:List (Nat × Operand)) (eM:List (Nat × bf)),vJ ps=some eM->
 ∀(es:List J) (arr:Array Value) (pF:List J),lI w (bN base okin σ h) σ sz es arr->(∀e∈es,e.eA=true)->fz sz es (bf.ev G F) eM=some pF->
  ∃arr',Instr.fill (fun i=>some (i*sz,sz)) arr (ps.map fun(i,x)=>(i,a.eval x))=some arr'/\lI w (bN base okin σ h) σ sz pF arr'/\(∀e∈pF,e.eA=true)/\pF.length=es.length
 | [],eM,a4,es,arr,pF,H,aj,bI=>by
   cases a4
   simp only[fz] at bI;cases bI
   exact⟨arr,rfl,H,aj,rfl⟩
 | (i,x)::ps,eM,a4,es,arr,pF,H,aj,bI=>by
   simp only[vJ] at a4
   split at a4<;>try(cases a4;done)
   rename_i y yt ab h2
   cases a4
   simp only[fz] at bI
   split at bI<;>try(cases bI;done)
   rename_i nt
   obtain⟨aa,af,al⟩:=nt
   have aR:=bX.dM ab
   have vR:=J.JZ al
   obtain⟨bJ,_,_⟩:=aR.uj vR
   have cy:(a.eval x).cells.size=sz:=by rw[<-aa,<-bJ];simp
   obtain⟨arr',aq,aB,bg,bT⟩:=Cp bX ps yt h2 _ _ pF (H.set aR vR aa af) (fun e he=>by
    rcases List.mem_or_eq_of_mem_set he with he|rfl
    · exact aj e he
    · exact al) bI
   refine⟨arr',?_,aB,bg,by simpa using bT⟩
   simp only[List.map_cons,Instr.fill]
   rw[if_neg,fold_eq]
   · exact aq
   · simp only[cy,ne_eq,not_true_eq_false,decide_false,Bool.false_or,decide_eq_true_eq,Nat.not_lt]
     rw[H.1]
     have:(i+1)*sz<=es.length*sz:=Nat.mul_le_mul_right _ af
     rw[Nat.add_mul] at this;omega
theorem Cq {ok:Nat->Prop} {z:J} {bk:Value} (aP:qw w ok σ z.cells bk.cells) (VL:0<z.cells.length) (n:Nat):
 lI w ok σ z.cells.length (List.replicate n z) (madeCells bk.cells (n*z.cells.length)):=by
 refine⟨by simp[madeCells],fun i ag=>?_⟩
 have b_:i<n:=by simpa using ag
 simp only[List.getElem_replicate]
 refine⟨trivial,fun j aZ aE=>?_⟩
 have e:(madeCells bk.cells (n*z.cells.length))[i*z.cells.length+j]=bk.cells[j]'(by rw[aP.1];exact aZ):=by
  simp only[madeCells,Array.getElem_map,Array.getElem_range]
  have:(i*z.cells.length+j)%bk.cells.size=j:=by
   rw[aP.1,Nat.add_comm,Nat.add_mul_mod_self_right];exact Nat.mod_eq_of_lt aZ
  rw[this]
  exact getElem!_pos _ _ _
 rw[e]
 exact aP.2 j aZ _
theorem J1 (H:cS base okin σ h w) (bX:hD G (bN base okin σ h) σ w F a) {t:TypeId} {n:Nat} {ps:Array (Nat × Operand)} {lH:hx} (I:ff P (.buildSlice t n ps)=some lH) {bs r:Nat} {v:J} {av:aA} {c:dL}
 (he:evalOp bs r (bf.ev G F) h lH=some (v,av,c)):
 av=h/\∃cv a_,(Instr.buildSlice t n (ps.map fun(i,x)=>(i,a.eval x))).run P w= .ok cv a_/\Prog base okin σ h w σ h a_/\cS base okin σ h a_/\bu a_ (bN base okin σ h) σ v cv:=by
 simp only[ff] at I
 split at I<;>try(cases I;done)
 rename_i e hu
 split at I<;>try(cases I;done)
 rename_i sz z eM aG aP a4
 split at I<;>try(cases I;done)
 rename_i qx
 cases I
 simp only[evalOp] at he
 split at he<;>try(cases he;done)
 rename_i nt
 obtain⟨aa,af,al⟩:=nt
 obtain⟨es,bI,he⟩:=Option.map_eq_some_iff.1 he
 cases he
 obtain⟨bk,cM,dX,vS,_,_⟩:=r9 (w:=w) (σ:=σ) (ok:=bN base okin σ h) aP
 have M:=Cq (σ:=σ) dX (by omega) n
 rw[aa] at M
 obtain⟨arr,f1,f2,f3,f4⟩:=Cp bX ps.toList eM a4 _ _ es M (fun e he=>by rw[List.eq_of_mem_replicate he];exact al) bI
 have yu:Prog base okin σ h w σ h (w.alloc (.cells arr e)):=⟨fun _ _ x=>x,fun b aj aK=>⟨aK,Below.heap_alloc _ _ _ aj⟩,(Below.refl _ _).alloc H.base _,B9 w _⟩
 have H1:cS base okin σ h (w.alloc (.cells arr e)):=by
  refine⟨fun id b s ag=>?_,fun id fp f_=>?_,H.inj,by simp;have:=H.base;omega⟩
  · have:=H.val id b s ag;exact⟨this.1,by simp;omega⟩
  · obtain⟨b,s,pG,ty,aq,aB,bg⟩:=H.blk id fp f_
    refine⟨b,s,pG,ty,aq,by rw[Below.heap_alloc _ _ _ (H.val _ _ _ aq).2];exact aB,fun i ag=>⟨(bg i ag).1,fun j aZ=>?_⟩⟩
    obtain⟨lp,bz,bR⟩:=(bg i ag).2 j aZ
    exact⟨lp,bz,yu.rep bR⟩
 have hlen:es.length=n:=by simpa using f4
 refine⟨rfl,.slice (some ⟨w.heap.size,0,none⟩) n n,_,?_,yu,H1,?_⟩
 · have J2:¬2^24<n*sz:=by omega
   have uo:Instr.fill (fun i=>some (i*sz,sz)) (madeCells bk.cells (n*sz)) (List.map (fun x=>(x.fst,a.eval x.snd)) ps.toList)=some arr:=f1
   unfold madeCells at uo
   by_cases aJ:n*sz=0
   · have bV:Array.range (n*sz)= #[]:=by rw[aJ];rfl
     rw[bV] at uo
     simp only[List.map_toArray,List.map_nil] at uo
     simp[Instr.buildSlice,run_underlying hu,run_sizeOf aG,aJ,newRow,Array.range_zero',uo]
   · simp[Instr.buildSlice,run_underlying hu,run_sizeOf aG,J2,aJ,cM,uo,newRow]
 · refine .val _ _ ?_
   have:=dq.sl (w:=w.alloc (.cells arr e)) (ok:=bN base okin σ h) es true (some ⟨w.heap.size,0,none⟩) es.length sz (fun i j=>(arr[i*sz+j]?).getD undef) (Nat.le_refl _) (fun _=>rfl) (fun i ag=>(f2.2 i ag).1)
    (fun i j ag aZ=>?_) (fun _=>rfl) (fun i ag j aZ=>?_)
   · rw[hlen] at this;exact this
   · refine⟨_,rfl,.inr ⟨H.base,fun id s qy aV=>?_⟩,?_⟩
     · have:=(H.val _ _ _ qy).2;simp at this
     · rw[oL,Nat.zero_add]
       have bO:=n2 ag aZ
       have:i*sz+j<arr.size:=by rw[f2.1];exact bO
       show World.cell? _ _=some ((arr[i*sz+j]?).getD undef)
       rw[Array.getElem?_eq_getElem this]
       show World.cell? (w.alloc (.cells arr e)) ⟨w.heap.size,i*sz+j,none⟩=_
       rw[World.cell?_alloc_new]
       exact Array.getElem?_eq_getElem this
   · have cy:=(f2.2 i ag).1
     have bO:=n2 ag (show j<sz by omega)
     have aE:i*sz+j<arr.size:=by rw[f2.1];exact bO
     show dq _ _ _ ((arr[i*sz+j]?).getD undef)
     rw[Array.getElem?_eq_getElem aE]
     refine dq.Co (yu.rep ((f2.2 i ag).2 j aZ aE)) ?_
     have:=f3 _ (List.getElem_mem ag)
     exact List.all_eq_true.1 this _ (List.getElem_mem aZ)
theorem J3 (H:cS base okin σ h w) (bX:hD G (bN base okin σ h) σ w F a) {r:Nat} (ba:σ r=none) {t:TypeId} {X Y:Operand} {lH:hx} (I:ff P (.makeSlice t X Y)=some lH) {bs:Nat} {v:J} {av:aA} {c:dL}
 (he:evalOp bs r (bf.ev G F) h lH=some (v,av,c)):
 ∃bE cv a_,(Instr.makeSlice t (a.eval X) (a.eval Y)).run P w= .ok cv a_/\Prog base okin σ h w bE av a_/\cS base okin bE av a_/\bu a_ (bN base okin bE av) bE v cv/\∀id,id≠r->bE id=σ id:=by
 simp only[ff] at I
 split at I<;>try(cases I;done)
 rename_i e hu
 split at I<;>try(cases I;done)
 rename_i z sz bytes x y aP aG uq ak bd
 cases I
 simp only[evalOp] at he
 split at he<;>try(cases he;done)
 rename_i aa l af eE aV nw
 split at he<;>try(cases he;done)
 rename_i nt
 obtain⟨dy,dB,ga,ky,Cr,J4,J5⟩:=nt
 cases he
 have rx:=bX.dM ak
 have ry:=bX.dM bd
 rw[aV] at rx;rw[nw] at ry
 rw[rx.gS,ry.gS]
 obtain⟨bk,cM,dX,vS,_,i,ag,J6⟩:=r9 (w:=w) (σ:=σ) (ok:=bN base okin σ h) aP
 have r_:i.size=sz:=by
  obtain⟨f',aq,aB⟩:=Option.map_eq_some_iff.1 aG
  rw[ag] at aq;cases aq;exact aB
 have yv:i.bytes=bytes:=by
  obtain⟨f',aq,aB⟩:=Option.map_eq_some_iff.1 uq
  rw[ag] at aq;cases aq;exact aB
 have yw:eE<=eE*(bytes:Int):=by
  have dT:(1:Int)<=bytes:=by omega
  have yx:0<=eE:=by omega
  have:=Int.mul_le_mul_of_nonneg_left dT yx
  simpa using this
 have cI:=run_make (P:=P) w t e i bk hu ag J6 aa af l eE dy dB (by rw[yv,Int.mul_comm];omega) (by omega)
 have M:=Cq (σ:=σ) dX (by omega) eE.toNat
 rw[Cr] at M
 have A:=H.alloc ba (List.replicate eE.toNat z) (madeCells bk.cells (eE.toNat*i.size)) e sz (fun k aE=>by
  refine⟨(M.2 k aE).1,fun j aZ=>?_⟩
  rw[r_]
  have bO:k*sz+j<(madeCells bk.cells (eE.toNat*sz)).size:=by rw[M.1];exact n2 aE (by have:=(M.2 k aE).1;omega)
  exact⟨_,Array.getElem?_eq_getElem bO,(M.2 k aE).2 j aZ bO⟩)
 refine⟨_,_,_,cI,A.2,A.1,?_,fun id bS=>by simp[aF,bS]⟩
 exact .ref r 0 l.toNat eE.toNat _ eE.toNat w.heap.size sz (by simp[aF]) (by omega) (Nat.le_refl _) (fun _=>⟨by simp,by
  rw[yd];simp[madeCells,r_]⟩)
end
end Go.Eng
