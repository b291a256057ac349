import Derived.Orders
import Derived.Below
import Derived.Laws.CopyRow
import Derived.Laws.MakeOwn
set_option linter.unusedSimpArgs false
set_option linter.unusedVariables false
set_option linter.unusedSectionVars false
namespace Go.Eng
open Go
inductive I where
 | undef
 | kk
 | int (k:IntKind) (n:Int)
 | bool (b:Bool)
 | str (s:ByteArray)
 | sl (xs:List I) (ex:Bool)
 | ref (id off len cap:Nat)
 | ptr (id idx cC:Nat)
 | eJ (v:I)
 | fn (f:FuncId) (first caps:List I)
 | nilfn
 | fD (id:Nat)
 | mp (agL:List (Int × FuncId))
 | agg (cs:List I)
 | bL (vs:List I)
 deriving Inhabited
def I.cells:I->List I
 | .agg cs=>cs
 | v=>[v]
def I.cb:I->Bool
 | .undef| .kk| .agg _| .bL _=>false
 | _=>true
def I.eb:I->Bool
 | .int .. | .bool _| .str _| .sl .. | .nilfn| .fn _ [] []=>true
 | _=>false
def I.ei (v:I):Bool:=v.cells.all I.eb
def partOf (bQ:Bool) (cs:List I):Option I:=
 if bQ then some (.agg cs) else match cs with
  | [c]=>if c.cb=true then some c else none
  | _=>none
def cut (cs:List I) (off sz:Nat):Option (List I):=if off+sz<=cs.length then some ((cs.drop off).take sz) else none
def e2 (cs:List I) (off:Nat) (vs:List I):List I:=cs.take off++vs++cs.drop (off+vs.length)
inductive da where
 | normal
 | exit (id:Nat)
 | ret
inductive fu where
 | ready
 | busy
 | done (e:da)
structure ai where
 cells:Nat->Option (List I)
 shut:Nat->Bool
 next:Nat
 aU:Nat->Option fu:=fun _=>none
def ar {α:Type} (f:Nat->α) (k:Nat) (v:α):Nat->α:=fun i=>if i=k then v else f i
structure aK where
 F:Nat->I
 h:ai
inductive aR where
 | t (n:Nat)
 | c (v:I)
 | g (i:Nat)
 | f (n:FuncId)
 deriving Inhabited
inductive jZ where
 | mv (x:aR)
 | pick (c a b:aR)
 | alloc (z:I)
 | box (x:aR)
 | build (z:List I) (ps:List (Nat × Nat × aR))
 | bsl (sz:Nat) (z:I) (n:Nat) (ps:List (Nat × aR))
 | load (bQ:Bool) (sz:Nat) (x:aR)
 | store (sz:Nat) (a v:aR)
 | bin (ty:Nat) (op:BinOp) (x y:aR)
 | eqA (neg:Bool) (n:Nat) (x y:aR)
 | un (op:UnOp) (x:aR)
 | conv (k:IntKind) (x:aR)
 | mkfn (f:FuncId) (first caps:List aR)
 | mksl (z:I) (sz bytes:Nat) (l c:aR)
 | slice (sz:Nat) (x:aR) (cj ab jq:Option aR)
 | faddr (bQ:Bool) (off sz:Nat) (x:aR)
 | field (bQ:Bool) (off sz:Nat) (x:aR)
 | iaddrS (sz:Nat) (x i:aR)
 | iaddrA (bQ:Bool) (n sz:Nat) (x i:aR)
 | idxA (bQ:Bool) (n sz:Nat) (x i:aR)
 | idxS (x i:aR)
 | extract (x:aR) (i:Nat)
 | call (f:aR) (args:List aR)
 | len (str:Bool) (x:aR)
 | mlook (x i:aR)
 | isnil (neg:Bool) (x:aR)
 | app (sz bytes:Nat) (x y:aR)
 | min (xs:List aR)
 | max (xs:List aR)
 deriving Inhabited
def aR.rd:aR->List Nat
 | .t n=>[n]
 | _=>[]
def aR.xS:Option aR->List Nat
 | some x=>x.rd
 | none=>[]
def jZ.reads:jZ->List Nat
 | .mv x| .box x| .load _ _ x| .un _ x| .conv _ x| .faddr _ _ _ x| .field _ _ _ x| .extract x _| .len _ x| .isnil _ x=>x.rd
 | .pick c a b=>c.rd++a.rd++b.rd
 | .alloc _=>[]
 | .build _ ps=>ps.flatMap fun p=>p.2.2.rd
 | .bsl _ _ _ ps=>ps.flatMap fun p=>p.2.rd
 | .store _ a v=>a.rd++v.rd
 | .bin _ _ x y| .eqA _ _ x y| .mksl _ _ _ x y| .iaddrS _ x y| .iaddrA _ _ _ x y| .idxA _ _ _ x y| .idxS x y| .app _ _ x y| .mlook x y=>x.rd++y.rd
 | .mkfn _ a b=>a.flatMap aR.rd++b.flatMap aR.rd
 | .slice _ x cj ab jq=>x.rd++aR.xS cj++aR.xS ab++aR.xS jq
 | .call f as=>f.rd++as.flatMap aR.rd
 | .min xs| .max xs=>xs.flatMap aR.rd
structure aY where
 dst:Option Nat
 op:jZ
 guard:Option (Nat × Bool)
 deriving Inhabited
abbrev aY.m (a b:Nat):aY:=⟨some a,.mv (.t b),none⟩
abbrev aY.o (a:Nat) (o:jZ):aY:=⟨some a,o,none⟩
abbrev aY.n (o:jZ):aY:=⟨none,o,none⟩
abbrev aY.g (a:Nat) (o:jZ) (t:Nat) (w:Bool):aY:=⟨some a,o,some (t,w)⟩
def aY.reads (e:aY):List Nat:=(match e.guard with
 | some (t,_)=>[t]
 | none=>[])++e.op.reads
def aY.apart (e f:aY):Bool:=
 (match e.dst with
  | some d=>!(f.reads.contains d)&&f.dst != some d
  | none=>true)&&
 (match f.dst with
  | some d=>!(e.reads.contains d)
  | none=>true)
inductive cU where
 | skip
 | region (draw:Bool) (ops:List aY) (eK:List Nat)
 | seq (a b:cU)
 | cond (c:aR) (a b:cU)
 | block (id:Nat) (c:cU)
 | loop (c:cU)
 | k6 (f:aR) (ps:List Nat) (dt body:cU)
 | exit (id:Nat)
 | ret
 deriving Inhabited
inductive mg where
 | tmp (t:Nat)
 | cell (t:Nat) (bQ:Bool) (sz:Nat)
 deriving Inhabited
structure aP where
 body:cU
 res:List mg
 deriving Inhabited
inductive dN where
 | pure|rd|jb|wr
 | lA (id:Nat)
 | lg (qs:Nat->Bool)
mutual
def I.beq:I->I->Bool
 | .undef,.undef=>true
 | .kk,.kk=>true
 | .int k n,.int k' Qd=>decide (k=k')&&decide (n=Qd)
 | .bool a,.bool b=>decide (a=b)
 | .str a,.str b=>decide (a=b)
 | .sl xs e,.sl ys f=>mK xs ys&&decide (e=f)
 | .ref a b c d,.ref en j0 c' oD=>decide (a=en)&&decide (b=j0)&&decide (c=c')&&decide (d=oD)
 | .ptr a b c,.ptr en j0 c'=>decide (a=en)&&decide (b=j0)&&decide (c=c')
 | .eJ a,.eJ b=>I.beq a b
 | .fn f a b,.fn g c d=>decide (f=g)&&mK a c&&mK b d
 | .nilfn,.nilfn=>true
 | .fD a,.fD b=>decide (a=b)
 | .mp m,.mp mL=>decide (m=mL)
 | .agg a,.agg b=>mK a b
 | .bL a,.bL b=>mK a b
 | _,_=>false
def mK:List I->List I->Bool
 | [],[]=>true
 | x::xs,y::ys=>I.beq x y&&mK xs ys
 | _,_=>false
end
mutual
theorem I.beq_eq:∀(a b:I),I.beq a b=true->a=b
 | .undef,b,h=>by cases b<;>simp_all[I.beq]
 | .kk,b,h=>by cases b<;>simp_all[I.beq]
 | .int k n,b,h=>by cases b<;>simp_all[I.beq]
 | .bool a,b,h=>by cases b<;>simp_all[I.beq]
 | .str a,b,h=>by cases b<;>simp_all[I.beq]
 | .sl xs e,b,h=>by
   cases b<;>simp only[I.beq,Bool.and_eq_true,decide_eq_true_eq,Bool.false_eq_true] at h
   rw[rI _ _ h.1,h.2]
 | .ref a b c d,x,h=>by cases x<;>simp_all[I.beq]
 | .ptr a b c,x,h=>by cases x<;>simp_all[I.beq]
 | .eJ a,b,h=>by
   cases b<;>simp only[I.beq,Bool.false_eq_true] at h
   rw[I.beq_eq _ _ h]
 | .fn f a b,x,h=>by
   cases x<;>simp only[I.beq,Bool.and_eq_true,decide_eq_true_eq,Bool.false_eq_true] at h
   rw[h.1.1,rI _ _ h.1.2,rI _ _ h.2]
 | .nilfn,b,h=>by cases b<;>simp_all[I.beq]
 | .fD a,b,h=>by cases b<;>simp_all[I.beq]
 | .mp m,b,h=>by cases b<;>simp_all[I.beq]
 | .agg a,b,h=>by
   cases b<;>simp only[I.beq,Bool.false_eq_true] at h
   rw[rI _ _ h]
 | .bL a,b,h=>by
   cases b<;>simp only[I.beq,Bool.false_eq_true] at h
   rw[rI _ _ h]
theorem rI:∀(a b:List I),mK a b=true->a=b
 | [],[],_=>rfl
 | [],_::_,h=>by simp[mK] at h
 | _::_,[],h=>by simp[mK] at h
 | x::xs,y::ys,h=>by
   simp only[mK,Bool.and_eq_true] at h
   rw[I.beq_eq _ _ h.1,rI _ _ h.2]
end
mutual
theorem I.beq_refl:∀(a:I),I.beq a a=true
 | .undef| .kk| .int _ _| .bool _| .str _| .ref _ _ _ _| .ptr _ _ _| .nilfn| .fD _| .mp _=>by simp[I.beq]
 | .sl xs e=>by simp[I.beq,oE xs]
 | .eJ a=>by simp[I.beq,I.beq_refl a]
 | .fn f a b=>by simp[I.beq,oE a,oE b]
 | .agg a=>by simp[I.beq,oE a]
 | .bL a=>by simp[I.beq,oE a]
theorem oE:∀(a:List I),mK a a=true
 | []=>rfl
 | x::xs=>by simp[mK,I.beq_refl x,oE xs]
end
def xT:Option (List I)->Option (List I)->Bool
 | none,none=>true
 | some a,some b=>mK a b
 | _,_=>false
theorem Qe {a b:Option (List I)} (h:xT a b=true):a=b:=by
 cases a<;>cases b<;>simp only[xT,Bool.false_eq_true] at h
 · rfl
 · rw[rI _ _ h]
theorem xU (a:Option (List I)):xT a a=true:=by
 cases a
 · rfl
 · exact oE _
section eval
variable (G:Nat->Option I)
def aR.ev (F:Nat->I):aR->I
 | .t n=>F n
 | .c v=>v
 | .g i=>match G i with
   | some v=> .eJ v
   | none=> .undef
 | .f n=> .fn n [] []
def gE (op:BinOp) (k:IntKind) (a b:Int):Option I:=
 match op with
 | .add=>some (.int k (k.wrap (a+b)))
 | .sub=>some (.int k (k.wrap (a - b)))
 | .mul=>some (.int k (k.wrap (a*b)))
 | .quo=>if b=0 then none else some (.int k (k.wrap (a.tdiv b)))
 | .rem=>if b=0 then none else some (.int k (a.tmod b))
 | .and=>some (.int k (k.wrap ((BitVec.ofInt k.bits a&&&BitVec.ofInt k.bits b).toNat)))
 | .or=>some (.int k (k.wrap ((BitVec.ofInt k.bits a|||BitVec.ofInt k.bits b).toNat)))
 | .xor=>some (.int k (k.wrap ((BitVec.ofInt k.bits a ^^^ BitVec.ofInt k.bits b).toNat)))
 | .andNot=>some (.int k (k.wrap ((BitVec.ofInt k.bits a&&& ~~~(BitVec.ofInt k.bits b)).toNat)))
 | .eql=>some (.bool (a == b))
 | .neq=>some (.bool (a != b))
 | .lss=>some (.bool (decide (a<b)))
 | .leq=>some (.bool (decide (a<=b)))
 | .gtr=>some (.bool (decide (a>b)))
 | .geq=>some (.bool (decide (a>=b)))
 | _=>none
def fU (op:BinOp) (k:IntKind) (a b:Int):Option I:=
 if b<0 then none else
 match op with
 | .shl=>some (.int k (k.wrap (a*2^(Min.min b.toNat k.bits))))
 | .shr=>some (.int k (a.fdiv (2^(Min.min b.toNat k.bits))))
 | _=>none
def fM (ty:Nat) (op:BinOp):I->I->Option I
 | .int k a,.int k' b=>if op= .shl\/op= .shr then fU op k a b else if k=k' then gE op k a b else none
 | .bool a,.bool b=>if ty=1 then match op with
   | .eql=>some (.bool (a == b))
   | .neq=>some (.bool (!(a == b)))
   | _=>none else none
 | .str a,.str b=>match op with
   | .eql=>some (.bool (a.toList == b.toList))
   | .neq=>some (.bool (!(a.toList == b.toList)))
   | _=>none
 | _,_=>none
def fN (op:UnOp):I->Option I
 | .int k n=>match op with
   | .neg=>some (.int k (k.wrap (0 - n)))
   | .xor=>some (.int k (k.wrap ((BitVec.ofInt k.bits (if k.signed then -1 else k.max) ^^^ BitVec.ofInt k.bits n).toNat)))
   | _=>none
 | .bool b=>match op with
   | .not=>some (.bool !b)
   | _=>none
 | _=>none
def e3:List I->List I->Option Bool
 | [],[]=>some true
 | .int k a::xs,.int k' b::ys=>if k=k' then (e3 xs ys).map fun r=>(a == b)&&r else none
 | _,_=>none
def e4 (cells:List I) (a6:aR->I):List (Nat × Nat × aR)->Option (List I)
 | []=>some cells
 | (off,size,x)::rest=>
   if (a6 x).cells.length=size/\off+size<=cells.length/\((a6 x).cells.all I.cb)=true then e4 (e2 cells off (a6 x).cells) a6 rest else none
def e5 (sz:Nat) (es:List I) (a6:aR->I):List (Nat × aR)->Option (List I)
 | []=>some es
 | (i,x)::rest=>
   if (a6 x).cells.length=sz/\i<es.length/\(a6 x).ei=true then e5 sz (es.set i (a6 x)) a6 rest else none
def bound (d:Nat) (a6:aR->I):Option aR->Option Nat
 | none=>some d
 | some x=>match a6 x with
   | .int _ n=>if 0<=n then some n.toNat else none
   | _=>none
def elems (h:ai):I->Option (List I)
 | .sl xs _=>some xs
 | .ref id off len _=>match h.cells id with
   | some blk=>if off+len<=blk.length then some ((blk.drop off).take len) else none
   | none=>none
 | _=>none
def sizedB (sz:Nat):Option (List I)->Bool
 | some blk=>decide (0<blk.length)&&blk.all fun e=>e.cells.length == sz
 | none=>false
def kl:I->Bool
 | .sl .. =>true
 | _=>false
def dz (h:ai):I->Option (I × List Nat)
 | .ref id off len _=>match h.cells id with
   | some blk=>if off+len<=blk.length/\(blk.all I.ei)=true then some (.sl ((blk.drop off).take len) false,[id]) else none
   | none=>none
 | .int k n=>some (.int k n,[])
 | .bool b=>some (.bool b,[])
 | .str s=>some (.str s,[])
 | .sl xs e=>some (.sl xs e,[])
 | .nilfn=>some (.nilfn,[])
 | .mp m=>some (.mp m,[])
 | _=>none
def eE (h:ai):List I->Option (List I × List Nat)
 | []=>some ([],[])
 | v::vs=>match dz h v,eE h vs with
   | some (j1,a),some (mh,b)=>some (j1::mh,a++b)
   | _,_=>none
def gF (h:ai):I->Option (I × List Nat)
 | .agg cs=>(eE h cs).map fun(jr,a)=>(.agg jr,a)
 | v=>dz h v
def eo (h:ai):List I->Option (List I × List Nat)
 | []=>some ([],[])
 | v::vs=>match gF h v,eo h vs with
   | some (j1,a),some (mh,b)=>some (j1::mh,a++b)
   | _,_=>none
def js (h:ai):I->Option (I × List Nat)
 | .bL vs=>(eo h vs).map fun(mh,a)=>(.bL mh,a)
 | v=>gF h v
def ai.close (h:ai) (ids:List Nat):ai:={h with shut:=fun k=>h.shut k||ids.contains k}
def ai.new (h:ai) (r:Nat) (blk:List I):ai:={h with cells:=ar h.cells r (some blk)}
def jI (f:Int->Int->Int):List I->Option I
 | [.int k a]=>some (.int k a)
 | .int k a:: .int k' b::rest=>if k=k' then jI f (.int k (f a b)::rest) else none
 | _=>none
termination_by l=>l.length
def evalOp (aZ r:Nat) (a6:aR->I) (h:ai):jZ->Option (I × ai × dN)
 | .mv x=>some (a6 x,h,.pure)
 | .pick c a b=>match a6 c with
   | .bool t=>some (if t then a6 a else a6 b,h,.pure)
   | _=>none
 | .alloc z=>some (.ptr r 0 0,h.new r [z],.jb)
 | .box x=>if (a6 x).cells.all I.cb then some (.ptr r 0 0,h.new r [a6 x],.jb) else none
 | .build z ps=>(e4 z a6 ps).map fun cs=>(.agg cs,h,.pure)
 | .bsl sz z n ps=>if z.cells.length=sz/\0<sz/\z.ei=true then (e5 sz (List.replicate n z) a6 ps).map fun es=>(.sl es true,h,.pure) else none
 | .load bQ sz x=>match a6 x with
   | .eJ v=>(cut v.cells 0 sz).bind fun cs=>(partOf bQ cs).map fun u=>(u,h,.pure)
   | .ptr id idx cC=>(h.cells id).bind fun blk=>(blk[idx]?).bind fun e=>(cut e.cells cC sz).bind fun cs=>(partOf bQ cs).map fun u=>(u,h,if id<aZ then .lA id else .wr)
   | _=>none
 | .store sz a v=>match a6 a with
   | .ptr id idx cC=>
     if h.shut id=true then none else
     (h.cells id).bind fun blk=>(blk[idx]?).bind fun e=>
       if (a6 v).cells.length=sz/\cC+sz<=e.cells.length/\((a6 v).cells.all I.cb)=true then
        match e with
        | .agg cs=>some (.undef,h.new id (blk.set idx (.agg (e2 cs cC (a6 v).cells))),.wr)
        | _=>match (a6 v).cells with
          | [u]=>some (.undef,h.new id (blk.set idx u),.wr)
          | _=>none
       else none
   | _=>none
 | .bin ty op x y=>(fM ty op (a6 x) (a6 y)).map fun v=>(v,h,.pure)
 | .eqA neg n x y=>match a6 x,a6 y with
   | .agg xs,.agg ys=>if xs.length=n then (e3 xs ys).map fun b=>(.bool (b != neg),h,.pure) else none
   | _,_=>none
 | .un op x=>(fN op (a6 x)).map fun v=>(v,h,.pure)
 | .conv k x=>match a6 x with
   | .int _ n=>some (.int k (k.wrap n),h,.pure)
   | _=>none
 | .mkfn f first caps=>some (.fn f (first.map a6) (caps.map a6),h,.pure)
 | .mksl z sz bytes l c=>match a6 l,a6 c with
   | .int _ a,.int _ b=>
     if 0<=a/\a<=b/\b*bytes<=140737488355328/\0<bytes/\z.cells.length=sz/\0<sz/\(z.cells.all I.cb)=true
     then some (.ref r 0 a.toNat b.toNat,h.new r (List.replicate b.toNat z),.jb) else none
   | _,_=>none
 | .slice sz x cj ab jq=>match a6 x with
   | .ref id off len cap=>match bound 0 a6 cj,bound len a6 ab,bound cap a6 jq with
     | some l,some u,some m=>if l<=u/\u<=m/\m<=cap/\(l=0\/sizedB sz (h.cells id)=true) then some (.ref id (off+l) (u - l) (m - l),h,if id<aZ then .rd else .wr) else none
     | _,_,_=>none
   | .sl xs ex=>match bound 0 a6 cj,bound xs.length a6 ab,bound xs.length a6 jq with
     | some l,some u,some m=>if l<=u/\u<=m/\m<=xs.length/\(l=0\/(xs.all fun e=>e.cells.length == sz)=true) then some (.sl ((xs.drop l).take (u - l)) ((jq.isSome||ex)&&m == u),h,.pure) else none
     | _,_,_=>none
   | _=>none
 | .faddr bQ off sz x=>match a6 x with
   | .eJ v=>(cut v.cells off sz).bind fun cs=>(partOf bQ cs).map fun u=>(.eJ u,h,.pure)
   | .ptr id idx cC=>some (.ptr id idx (cC+off),h,.pure)
   | _=>none
 | .field bQ off sz x=>match a6 x with
   | .agg cs=>(cut cs off sz).bind fun cs=>(partOf bQ cs).map fun u=>(u,h,.pure)
   | _=>none
 | .iaddrS sz x i=>match a6 x,a6 i with
   | .sl xs _,.int _ n=>if 0<=n then (xs[n.toNat]?).bind fun e=>if e.cells.length=sz then some (.eJ e,h,.pure) else none else none
   | .ref id off len _,.int _ n=>if 0<=n/\n<len/\sizedB sz (h.cells id)=true then some (.ptr id (off+n.toNat) 0,h,if id<aZ then .rd else .wr) else none
   | _,_=>none
 | .iaddrA bQ n sz x i=>match a6 x,a6 i with
   | .eJ v,.int _ j=>if 0<=j/\j<n then (cut v.cells (j.toNat*sz) sz).bind fun cs=>(partOf bQ cs).map fun u=>(.eJ u,h,.pure) else none
   | .ptr id idx cC,.int _ j=>if 0<=j/\j<n then some (.ptr id idx (cC+j.toNat*sz),h,.pure) else none
   | _,_=>none
 | .idxA bQ n sz x i=>match a6 x,a6 i with
   | .agg cs,.int _ j=>if 0<=j/\j<n then (cut cs (j.toNat*sz) sz).bind fun cs=>(partOf bQ cs).map fun u=>(u,h,.pure) else none
   | _,_=>none
 | .idxS x i=>match a6 x,a6 i with
   | .str s,.int _ j=>if 0<=j then (s[j.toNat]?).map fun b=>(.int .u8 b.toNat,h,.pure) else none
   | _,_=>none
 | .extract x i=>match a6 x with
   | .bL vs=>(vs[i]?).map fun v=>(v,h,.pure)
   | _=>none
 | .len str x=>match a6 x with
   | .sl xs _=>if str=false then some (.int .i64 xs.length,h,.pure) else none
   | .ref _ _ len _=>if str=false then some (.int .i64 len,h,.pure) else none
   | .str s=>if str=true then some (.int .i64 s.size,h,.pure) else none
   | _=>none
 | .mlook x i=>match a6 x,a6 i with
   | .mp m,.int .i64 n=>some (.bL [match m.lookup n with
     | some f=> .fn f [] []
     | none=> .nilfn,.bool (m.lookup n).isSome],h,.pure)
   | _,_=>none
 | .isnil neg x=>match a6 x with
   | .sl xs _=>if 0<xs.length then some (.bool neg,h,.pure) else none
   | .ref _ _ len cap=>if 0<len\/0<cap then some (.bool neg,h,.pure) else none
   | _=>none
 | .app sz bytes x y=>(elems h (a6 y)).bind fun ys=>
   if 0<sz/\0<bytes/\(ys.all fun e=>e.cells.length == sz&&e.cells.all I.cb)=true then
    match a6 x with
    | .sl xs ex=>if ys.length=0 then some (.sl xs ex,h,if kl (a6 y) then .pure else .wr) else if ex=true/\(xs.length+ys.length)*bytes<=35184372088832/\0<ys.length/\(xs.all fun e=>e.cells.length == sz)=true
        then some (.ref r 0 (xs.length+ys.length) (xs.length+ys.length),h.new r (xs++ys),if kl (a6 y) then .jb else .wr) else none
    | .ref id off len cap=>if ys.length=0 then some (.ref id off len cap,h,if kl (a6 y) then .pure else .wr) else if h.shut id=true then none else (h.cells id).bind fun blk=>
        if off+len<=blk.length/\(len+ys.length)*bytes<=35184372088832/\0<ys.length/\(blk.all fun e=>e.cells.length == sz)=true then
         if len+ys.length<=cap then
          if off+cap<=blk.length then some (.ref id off (len+ys.length) cap,h.new id (blk.take (off+len)++ys++blk.drop (off+len+ys.length)),.wr) else none
         else if off=0/\0<len then some (.ref r 0 (len+ys.length) (len+ys.length),{h with cells:=ar (ar h.cells id none) r (some (blk.take len++ys))},.wr) else none
        else none
    | _=>none
   else none
 | .min xs=>(jI (fun a b=>if b<a then b else a) (xs.map a6)).map fun v=>(v,h,.pure)
 | .max xs=>(jI (fun a b=>if a<b then b else a) (xs.map a6)).map fun v=>(v,h,.pure)
 | .call .. =>none
end eval
def cI (F:Nat->I) (d:Option Nat) (v:I):Nat->I:=
 match d with
 | some t=>ar F t v
 | none=>F
def qt (aZ:Nat) (h h':ai):Nat->Bool:=fun id=>decide (id<aZ)&&xT (h.cells id) (h'.cells id)
def km:dN->dN->Bool
 | .pure,_|_,.pure=>true
 | .lA id,.lg k| .lg k,.lA id=>k id
 | .lg _,.jb=>true
 | .wr,_|_,.wr=>false
 | .lg _,_|_,.lg _=>false
 | _,_=>true
def tw (cs:List dN) (rJ:List Nat):Bool:=
 cs.zipIdx.all fun(c,j)=>cs.zipIdx.all fun(d,i)=>!(decide (i<j))||(rJ.getD j 0).testBit i||km d c
section exec
variable (G:Nat->Option I) (Φ:FuncId->Option aP) (tab:FuncId->Option (List I->Option I))
def ec (args:List I):Nat->I:=fun i=>args.getD i .undef
def e6 (h:ai) (F:Nat->I):mg->Option I
 | .tmp t=>some (F t)
 | .cell t bQ sz=>match F t with
   | .ptr id idx cC=>(h.cells id).bind fun blk=>(blk[idx]?).bind fun e=>(cut e.cells cC sz).bind fun cs=>partOf bQ cs
   | _=>none
def dZ (h:ai) (F:Nat->I) (rs:List mg):Option I:=
 (rs.mapM (e6 h F)).map fun
   | [v]=>v
   | vs=> .bL vs
inductive kM where
 | fn (f:FuncId)
 | k7 (id:Nat)
def c4 (cc:kM->List I->ai->Option (I × ai)) (aZ r:Nat) (e:aY) (s:aK):Option (aK × dN):=
 match e.op with
 | .call f args=>match f.ev G s.F with
   | .fn n first caps=>match tab n with
     | some T=>match eo s.h (first++args.map (aR.ev G s.F)++caps) with
       | some (vs,ids)=>(T vs).map fun v=>(⟨cI s.F e.dst v,s.h.close ids⟩,if ids.isEmpty then .pure else if ids.all (fun i=>decide (i<aZ)) then .rd else .wr)
       | none=>none
     | none=>(cc (.fn n) (first++args.map (aR.ev G s.F)++caps) s.h).map fun(v,h')=>(⟨cI s.F e.dst v,h'⟩,.lg (qt aZ s.h h'))
   | .fD id=>(cc (.k7 id) (args.map (aR.ev G s.F)) s.h).map fun(v,h')=>(⟨cI s.F e.dst v,h'⟩,.wr)
   | _=>none
 | op=>(evalOp aZ r (aR.ev G s.F) s.h op).map fun(v,h',c)=>(⟨cI s.F e.dst v,h'⟩,c)
def cJ (cc:kM->List I->ai->Option (I × ai)) (aZ r:Nat) (e:aY) (s:aK):Option (aK × dN):=
 match e.guard with
 | none=>c4 G tab cc aZ r e s
 | some (t,want)=>match s.F t with
   | .bool b=>if b=want then c4 G tab cc aZ r e s else some (⟨cI s.F e.dst .kk,s.h⟩,.pure)
   | .kk=>some (⟨cI s.F e.dst .kk,s.h⟩,.pure)
   | _=>none
def cV (cc:kM->List I->ai->Option (I × ai)) (aZ:Nat):List (aY × Nat)->aK->Option (aK × List dN)
 | [],s=>some (s,[])
 | (e,i)::es,s=>match cJ G tab cc aZ (aZ+i) e s with
   | some (an,c)=>(cV cc aZ es an).map fun(Bu,cs)=>(Bu,c::cs)
   | none=>none
def eF (cc:kM->List I->ai->Option (I × ai)) (draw:Bool) (ops:List aY) (eK:List Nat) (s:aK):Option aK:=
 match cV G tab cc s.h.next ops.zipIdx ⟨s.F,{s.h with next:=s.h.next+ops.length}⟩ with
 | some (an,cs)=>if !draw||tw cs eK then some an else none
 | none=>none
structure cy where
 id:Nat
 F:Nat->I
 ps:List Nat
 dt:cU
 body:cU
def nU (id:Nat):List cy->Option (cy × List cy)
 | []=>none
 | L::Y=>if L.id=id then some (L,Y) else nU id Y
def mM (F:Nat->I):List Nat->List I->(Nat->I)
 | p::ps,v::vs=>mM (ar F p v) ps vs
 | _,_=>F
def ai.set (h:ai) (id:Nat) (p:Option fu):ai:={h with aU:=ar h.aU id p}
def exec:Nat->List cy->cU->aK->Option (da × aK)
 | 0,_,_,_=>none
 | n+1,Y,c,s=>match c with
   | .skip=>some (.normal,s)
   | .ret=>some (.ret,s)
   | .exit id=>some (.exit id,s)
   | .region draw ops eK=>(eF G tab
       (fun t args h=>match t with
         | .fn f=>match Φ f with
           | some fn=>match exec n Y fn.body ⟨ec args,h⟩ with
             | some (.normal,an)|some (.ret,an)=>(dZ an.h an.F fn.res).map fun v=>(v,an.h)
             | _=>none
           | none=>none
         | .k7 id=>match nU id Y with
           | some (L,Y')=>if L.ps.length=args.length then
              match exec n Y' L.dt ⟨mM L.F L.ps args,h⟩ with
              | some (.normal,s1)=>match s1.h.aU id with
                | some .ready=>match exec n Y' L.body ⟨s1.F,s1.h.set id (some .busy)⟩ with
                  | some (e,an)=>match an.h.aU id with
                    | some .busy=>match e with
                      | .normal=>some (.bool true,an.h.set id (some .ready))
                      | e=>some (.bool false,an.h.set id (some (.done e)))
                    | _=>none
                  | none=>none
                | _=>none
              | _=>none
             else none
           | none=>none) draw ops eK s).map fun an=>(.normal,an)
   | .seq a b=>match exec n Y a s with
     | some (.normal,an)=>exec n Y b an
     | r=>r
   | .cond x a b=>match x.ev G s.F with
     | .bool t=>if t then exec n Y a s else exec n Y b s
     | _=>none
   | .block id b=>match exec n Y b s with
     | some (.exit i,an)=>if i=id then some (.normal,an) else some (.exit i,an)
     | r=>r
   | .loop b=>match exec n Y b s with
     | some (.normal,an)=>exec n Y (.loop b) an
     | r=>r
   | .k6 f ps dt body=>match f.ev G s.F with
     | .fn g first caps=>match Φ g with
       | some fn=>match exec n (⟨s.h.next,s.F,ps,dt,body⟩::Y) fn.body ⟨ec (first++ [.fD s.h.next]++caps),{s.h with next:=s.h.next+1,aU:=ar s.h.aU s.h.next (some .ready)}⟩ with
         | some (.normal,an)|some (.ret,an)=>match dZ an.h an.F fn.res with
           | some _=>match an.h.aU s.h.next with
             | some .ready=>some (.normal,⟨s.F,an.h.set s.h.next none⟩)
             | some (.done e)=>some (e,⟨s.F,an.h.set s.h.next none⟩)
             | _=>none
           | none=>none
         | _=>none
       | none=>none
     | _=>none
def xV (n:Nat) (Y:List cy) (f:FuncId) (args:List I) (h:ai):Option (I × ai):=
 match Φ f with
 | some fn=>match exec G Φ tab n Y fn.body ⟨ec args,h⟩ with
   | some (.normal,an)|some (.ret,an)=>(dZ an.h an.F fn.res).map fun v=>(v,an.h)
   | _=>none
 | none=>none
def aF:ai:={cells:=fun _=>none,shut:=fun _=>false,next:=0}
def mi (n:Nat) (f:FuncId) (args:List I):Option I:=
 (xV G Φ tab n [] f args aF).bind fun(v,h)=>(js h v).map (·.1)
end exec
end Go.Eng
namespace Go.Eng
open Go
def qu:Value->Option I
 | .int k n=>some (.int k n)
 | .bool b=>some (.bool b)
 | .string s=>some (.str s)
 | .slice none 0 0=>some (.sl [] true)
 | .nilFunc=>some .nilfn
 | _=>none
def xW:List Value->Option (List I)
 | []=>some []
 | v::vs=>match qu v,xW vs with
   | some a,some as=>some (a::as)
   | _,_=>none
def qv:Value->Option I
 | .agg cs=>(xW cs.toList).map .agg
 | v=>qu v
def dV:Operand->Option aR
 | .tmp t=>some (.t t)
 | .const v=>(qv v).map .c
 | .global g=>some (.g g)
 | .func f=>some (.f f)
def pz:List Operand->Option (List aR)
 | []=>some []
 | x::xs=>match dV x,pz xs with
   | some a,some as=>some (a::as)
   | _,_=>none
def rK:Option Operand->Option (Option aR)
 | none=>some none
 | some x=>(dV x).map some
section
variable (P:Program)
def iR (t:TypeId):Option Nat:=(P.info? t).map (·.size)
def Bv (t:TypeId):Option Nat:=(P.info? t).map (·.bytes)
def zeroOf (t:TypeId):Option I:=(P.info? t).bind fun i=>i.zero.bind qv
def mN (t:TypeId):Option Bool:=
 match P.underlying t with
 | some (.struct _)|some (.array _ _)=>some true
 | some _=>some false
 | none=>none
def xX (b2:Array Field):List (Nat × Operand)->Option (List (Nat × Nat × aR))
 | []=>some []
 | (i,x)::r=>match b2[i]?,dV x,xX b2 r with
   | some f,some y,some ps=>match iR P f.type with
     | some s=>some ((f.offset,s,y)::ps)
     | none=>none
   | _,_,_=>none
def Bw (b2:List Field):Bool:=b2.all fun f=>(iR P f.type).isSome
def xY (s:Nat):List (Nat × Operand)->Option (List (Nat × Nat × aR))
 | []=>some []
 | (i,x)::r=>match dV x,xY s r with
   | some y,some ps=>some ((i*s,s,y)::ps)
   | _,_=>none
def xZ:List (Nat × Operand)->Option (List (Nat × aR))
 | []=>some []
 | (i,x)::r=>match dV x,xZ r with
   | some y,some ps=>some ((i,y)::ps)
   | _,_=>none
def fv:Op->Option jZ
 | .move x| .assign x=>(dV x).map .mv
 | .pick c a b=>match dV c,dV a,dV b with
   | some c,some a,some b=>some (.pick c a b)
   | _,_,_=>none
 | .alloc e=>(zeroOf P e).map .alloc
 | .box _ x=>(dV x).map .box
 | .build t ps=>match P.underlying t,zeroOf P t with
   | some (.struct b2),some z=>if Bw P b2.toList then (xX P b2 ps.toList).map (.build z.cells) else none
   | some (.array _ e),some z=>match iR P e with
     | some s=>(xY s ps.toList).map (.build z.cells)
     | none=>none
   | _,_=>none
 | .buildSlice t n ps=>match P.underlying t with
   | some (.slice e)=>match iR P e,zeroOf P e,xZ ps.toList with
     | some s,some z,some ps=>if n*s<=2^24 then some (.bsl s z n ps) else none
     | _,_,_=>none
   | _=>none
 | .load t x=>match mN P t,iR P t,dV x with
   | some bQ,some s,some x=>if bQ||s == 1 then some (.load bQ s x) else none
   | _,_,_=>none
 | .store t a v=>match iR P t,dV a,dV v with
   | some s,some a,some v=>some (.store s a v)
   | _,_,_=>none
 | .binOp op t x y _=>match dV x,dV y with
   | some kn,some oF=>match P.underlying t with
     | some (.int _)=>some (.bin 0 op kn oF)
     | some .bool=>some (.bin 1 op kn oF)
     | some .string=>some (.bin 2 op kn oF)
     | some (.array n e)=>match P.underlying e,iR P e with
       | some (.int _),some 1=>if op= .eql then some (.eqA false n kn oF) else if op= .neq then some (.eqA true n kn oF) else none
       | _,_=>none
     | some (.slice _)=>match oF with
       | .c (.sl [] true)=>if op= .eql then some (.isnil false kn) else if op= .neq then some (.isnil true kn) else none
       | _=>none
     | _=>none
   | _,_=>none
 | .lookup t x i true=>match P.underlying t with
   | some (.map k e)=>match P.underlying k,zeroOf P e,dV x,dV i with
     | some (.int .i64),some .nilfn,some x,some i=>some (.mlook x i)
     | _,_,_,_=>none
   | _=>none
 | .unOp op _ x=>(dV x).map (.un op)
 | .convert s d x=>match P.underlying s,P.underlying d,dV x with
   | some (.int _),some (.int k),some x=>some (.conv k x)
   | _,_,_=>none
 | .makeFunc (.func f) first caps=>match pz first.toList,pz caps.toList with
   | some a,some b=>some (.mkfn f a b)
   | _,_=>none
 | .makeSlice t l c=>match P.underlying t with
   | some (.slice e)=>match zeroOf P e,iR P e,Bv P e,dV l,dV c with
     | some z,some s,some b,some l,some c=>some (.mksl z s b l c)
     | _,_,_,_,_=>none
   | _=>none
 | .slice t x cj ab jq=>match P.underlying t with
   | some (.slice e)=>match iR P e,dV x,rK cj,rK ab,rK jq with
     | some s,some x,some cj,some ab,some jq=>if jq.isSome&&ab.isNone then none else some (.slice s x cj ab jq)
     | _,_,_,_,_=>none
   | _=>none
 | .fieldAddr s x f=>match P.underlying s with
   | some (.struct b2)=>match b2[f]? with
     | some f=>match mN P f.type,iR P f.type,dV x with
       | some bQ,some sz,some x=>if sz=0 then none else some (.faddr bQ f.offset sz x)
       | _,_,_=>none
     | none=>none
   | _=>none
 | .field s x f=>match P.underlying s with
   | some (.struct b2)=>match b2[f]? with
     | some f=>match mN P f.type,iR P f.type,dV x with
       | some bQ,some sz,some x=>if bQ||sz == 1 then some (.field bQ f.offset sz x) else none
       | _,_,_=>none
     | none=>none
   | _=>none
 | .indexAddr t x i=>match P.underlying t with
   | some (.slice e)=>match iR P e,dV x,dV i with
     | some s,some x,some i=>some (.iaddrS s x i)
     | _,_,_=>none
   | some (.array n e)=>match mN P e,iR P e,dV x,dV i with
     | some bQ,some s,some x,some i=>some (.iaddrA bQ n s x i)
     | _,_,_,_=>none
   | _=>none
 | .index t x i=>match P.underlying t with
   | some (.array n e)=>match mN P e,iR P e,dV x,dV i with
     | some bQ,some s,some x,some i=>if bQ||s == 1 then some (.idxA bQ n s x i) else none
     | _,_,_,_=>none
   | some .string=>match dV x,dV i with
     | some x,some i=>some (.idxS x i)
     | _,_=>none
   | _=>none
 | .extract x i=>(dV x).map fun x=> .extract x i
 | .panic _=>some (.extract (.c .undef) 0)
 | .call {callee:= .value f,args,..}=>match dV f,pz args.toList with
   | some f,some as=>some (.call f as)
   | _,_=>none
 | .call {callee:= .builtin .len,args,argTypes}=>match argTypes[0]?,args.toList with
   | some t,[x]=>match P.underlying t,dV x with
     | some (.slice _),some x=>some (.len false x)
     | some .string,some x=>some (.len true x)
     | _,_=>none
   | _,_=>none
 | .call {callee:= .builtin .append,args,argTypes}=>match argTypes.toList,args.toList with
   | [t,u],[x,y]=>match P.underlying t,P.underlying u with
     | some (.slice e),some (.slice _)=>match iR P e,Bv P e,zeroOf P e,dV x,dV y with
       | some s,some b,some z,some x,some y=>if z.cells.length=s then some (.app s b x y) else none
       | _,_,_,_,_=>none
     | _,_=>none
   | _,_=>none
 | .call {callee:= .builtin .min,args,..}=>(pz args.toList).map .min
 | .call {callee:= .builtin .max,args,..}=>(pz args.toList).map .max
 | _=>none
def pA (N:Nat) (ops:Array Oper) (o:Oper):Option aY:=
 if o.dst.all (fun d=>decide (d<N)) then
  match fv P o.op with
  | some op=>match o.guard with
    | none=>some ⟨o.dst,op,none⟩
    | some (j,w)=>match (ops[j]?).bind (·.dst) with
      | some d=>some ⟨o.dst,op,some (d,w)⟩
      | none=>none
  | none=>none
 else none
def vy (N:Nat) (ops:Array Oper):List Oper->Option (List aY)
 | []=>some []
 | o::os=>match pA P N ops o,vy N ops os with
   | some e,some es=>some (e::es)
   | _,_=>none
def Qf (es:List aY) (b:List Nat):Bool:=
 es.zipIdx.all fun(e,j)=>es.zipIdx.all fun(f,i)=>!(decide (i<j))||(b.getD j 0).testBit i||f.apart e
def x3 (ops:Array Oper):Bool:=ops.toList.zipIdx.all fun(o,i)=>o.after.all fun e=>!Region.binds .any e||decide (e.on<i)
def x4 (ops:Array Oper) (b:List Nat):Bool:=
 ops.toList.zipIdx.all fun(o,i)=>(List.range i).all fun k=>!((b.getD i 0).testBit k)||o.after.any fun e=>Region.binds .any e&&(e.on == k||(decide (k<e.on)&&(b.getD e.on 0).testBit k))
def fE (N:Nat):Code->Option cU
 | .skip=>some .skip
 | .region _ ops draw=>match vy P N ops ops.toList with
   | some es=>if draw then
      (let b:=(Region.before ops).toList
       if Qf es b&&x3 ops&&x4 ops b&&Region.noSelect ops then some (.region true es b) else none)
     else some (.region false es [])
   | none=>none
 | .seq a b=>match fE N a,fE N b with
   | some a,some b=>some (.seq a b)
   | _,_=>none
 | .cond c a b=>match dV c,fE N a,fE N b with
   | some c,some a,some b=>some (.cond c a b)
   | _,_,_=>none
 | .block id c=>(fE N c).map (.block id)
 | .loop c=>(fE N c).map .loop
 | .rangeFunc f ps dt body=>match dV f,fE N dt,fE N body with
   | some f,some a,some b=>if ps.toList.all (fun p=>decide (p<N)) then some (.k6 f ps.toList a b) else none
   | _,_,_=>none
 | .exit id=>some (.exit id)
 | .ret=>some .ret
 | .scope c=>(fE N c).map (.seq .skip)
 | .label _=>some .skip
 | _=>none
def Bx:ResultVar->Option mg
 | .tmp t=>some (.tmp t)
 | .cell a t=>match mN P t,iR P t with
   | some bQ,some s=>if bQ||s == 1 then some (.cell a bQ s) else none
   | _,_=>none
def rL:List ResultVar->Option (List mg)
 | []=>some []
 | r::rs=>match Bx P r,rL rs with
   | some a,some as=>some (a::as)
   | _,_=>none
def By (fn:Func):Option aP:=
 if fn.name == "runtime.NumGoroutine" then none else
 match fn.body with
 | some c=>match fE P fn.ntmps c,rL P fn.results.toList with
   | some b,some rs=>some ⟨b,rs⟩
   | _,_=>none
 | none=>none
def aH (f:FuncId):Option aP:=(P.funcs[f]?).bind (By P)
end
end Go.Eng
namespace Go.Eng
open Go Go.RowKit
inductive dh (w:World) (ok:Nat->Prop):I->Value->Prop
 | int (k:IntKind) (n:Int):dh w ok (.int k n) (.int k n)
 | bool (b:Bool):dh w ok (.bool b) (.bool b)
 | str (s:ByteArray):dh w ok (.str s) (.string s)
 | nilfn:dh w ok .nilfn .nilFunc
 | fn (f:FuncId):dh w ok (.fn f [] []) (.func (.func f) #[] #[])
 | mp (m:List (Int × FuncId)) (r:Nat) (es:Array MapEntry) (clock:Nat):ok r->w.heap[r]? =some (.map es clock)->es.size=m.length->
    (∀i (h:i<m.length) (h':i<es.size),es[i].key= .int .i64 m[i].1/\es[i].val= .func (.func m[i].2) #[] #[])->dh w ok (.mp m) (.map (some r))
 | sl (xs:List I) (ex:Bool) (A:Option Addr) (c sz:Nat) (d_:Nat->Nat->Value):
    xs.length<=c->(ex=true->c=xs.length)->
    (∀i (h:i<xs.length),xs[i].cells.length=sz)->
    (∀i j,i<xs.length->j<sz->∃cm,A=some cm/\ok cm.block/\w.cell? (cm.add (i*sz+j))=some (d_ i j))->
    (0<xs.length->A.isSome=true)->
    (∀i (h:i<xs.length) j (aA:j<xs[i].cells.length),dh w ok (xs[i].cells[j]) (d_ i j))->
    dh w ok (.sl xs ex) (.slice A xs.length c)
 | agg (cs:List I) (vs:Array Value):vs.size=cs.length->
    (∀i (h:i<cs.length) (h':i<vs.size),dh w ok cs[i] vs[i])->dh w ok (.agg cs) (.agg vs)
 | bL (cs:List I) (vs:Array Value):vs.size=cs.length->
    (∀i (h:i<cs.length) (h':i<vs.size),dh w ok cs[i] vs[i])->dh w ok (.bL cs) (.tuple vs)
theorem Addr.qw (a:Addr) (n:Nat):(a.add n).block=a.block:=by unfold Addr.add;split<;>rfl
def tx (w aO:World) (ok oG:Nat->Prop):Prop:=∀b o,w.heap[b]? =some o->((∃arr ty e,o= .cells arr ty e)\/∃es clock,o= .map es clock)->ok b->oG b/\aO.heap[b]? =w.heap[b]?
theorem cells_of_cell {w:World} {cm:Addr} {v:Value} (h:w.cell? cm=some v):∃arr ty e,w.heap[cm.block]? =some (.cells arr ty e):=by
 unfold World.cell? at h
 split at h
 · rename_i arr ty e he;exact ⟨_,_,_,he⟩
 · cases h
theorem dh.mono {w aO:World} {ok oG:Nat->Prop} (ag:tx w aO ok oG)
 {v:I} {cv:Value} (h:dh w ok v cv):dh aO oG v cv:=by
 induction h with
 | int k n=>exact .int k n
 | bool b=>exact .bool b
 | str s=>exact .str s
 | nilfn=>exact .nilfn
 | fn f=>exact .fn f
 | mp m r es clock U h2 aB aS=>
   obtain⟨ck,ep⟩:=ag _ _ h2 (.inr ⟨_,_,rfl⟩) U
   exact .mp m r es clock ck (ep.trans h2) aB aS
 | sl xs ex A c sz d_ U h2 aB aS ck ep a8=>
   refine .sl xs ex A c sz d_ U h2 aB (fun i j ab aA=>?_) ck a8
   obtain⟨cm,e,ay,J⟩:=aS i j ab aA
   obtain⟨arr,ty,au,nr⟩:=cells_of_cell J
   rw[Addr.qw] at nr
   obtain⟨pB,he⟩:=ag _ _ nr (.inl ⟨_,_,_,rfl⟩) ay
   refine⟨cm,e,pB,?_⟩
   rw[<-J]
   exact World.cell?_of_block (w:=w) (by rw[Addr.qw];exact he)
 | agg cs vs az h a8=>exact .agg cs vs az a8
 | bL cs vs az h a8=>exact .bL cs vs az a8
theorem dh.rM {w:World} {ok oG:Nat->Prop} (ag:∀b,b<w.heap.size->ok b->oG b) {v:I} {cv:Value} (h:dh w ok v cv):dh w oG v cv:=
 h.mono fun b o ad _ ay=>⟨ag b (by by_cases bB:b<w.heap.size;exact bB;rw[Array.getElem?_eq_none (by omega)] at ad;cases ad) ay,rfl⟩
def f' (w:World) (b:Nat):Nat:=match w.heap[b]? with
 | some (.cells arr _ _)=>arr.size
 | _=>0
inductive a2 (w:World) (ok:Nat->Prop) (σ:Nat->Option (Nat × Nat)):I->Value->Prop
 | undef (cv:Value):a2 w ok σ .undef cv
 | kk:a2 w ok σ .kk Go.undef
 | val (v:I) (cv:Value):dh w ok v cv->a2 w ok σ v cv
 | ref (id off len cap:Nat) (A:Option Addr) (c b sz:Nat):σ id=some (b,sz)->len<=c->cap<=c->
    (0<c->A=some ⟨b,off*sz,none⟩/\(off+c)*sz<=f' w b)->a2 w ok σ (.ref id off len cap) (.slice A len c)
 | ptr (id idx cC b sz:Nat):σ id=some (b,sz)->a2 w ok σ (.ptr id idx cC) (.pointer (some ⟨b,idx*sz+cC,none⟩))
 | eJ (v:I) (cm:Addr) (d_:Nat->Value):
    (∀j,j<v.cells.length->ok cm.block/\w.cell? (cm.add j)=some (d_ j))->
    (∀j (h:j<v.cells.length),dh w ok (v.cells[j]) (d_ j))->a2 w ok σ (.eJ v) (.pointer (some cm))
 | fD (id l s:Nat):σ id=some (l,s)->a2 w ok σ (.fD id) (.func (.yield l) #[] #[])
 | fn (f:FuncId) (first caps:List I) (eR cv:Array Value):eR.size=first.length->cv.size=caps.length->
    (∀i (h:i<first.length) (h':i<eR.size),a2 w ok σ first[i] eR[i])->
    (∀i (h:i<caps.length) (h':i<cv.size),a2 w ok σ caps[i] cv[i])->a2 w ok σ (.fn f first caps) (.func (.func f) eR cv)
 | agg (cs:List I) (vs:Array Value):vs.size=cs.length->
    (∀i (h:i<cs.length) (h':i<vs.size),a2 w ok σ cs[i] vs[i])->a2 w ok σ (.agg cs) (.agg vs)
 | bL (cs:List I) (vs:Array Value):vs.size=cs.length->
    (∀i (h:i<cs.length) (h':i<vs.size),a2 w ok σ cs[i] vs[i])->a2 w ok σ (.bL cs) (.tuple vs)
theorem a2.mono {w aO:World} {ok oG:Nat->Prop} {σ bc:Nat->Option (Nat × Nat)}
 (ag:tx w aO ok oG) (aw:∀id x,σ id=some x->bc id=some x)
 (av:∀b,f' w b<=f' aO b) {v:I} {cv:Value} (h:a2 w ok σ v cv):a2 aO oG bc v cv:=by
 induction h with
 | undef cv=>exact .undef cv
 | kk=>exact .kk
 | val v cv h=>exact .val _ _ (h.mono ag)
 | ref id off len cap A c b sz U h2 aB aS=>exact .ref id off len cap A c b sz (aw _ _ U) h2 aB (fun J=>⟨(aS J).1,Nat.le_trans (aS J).2 (av b)⟩)
 | ptr id idx cC b sz U=>exact .ptr id idx cC b sz (aw _ _ U)
 | fD id l s U=>exact .fD id l s (aw _ _ U)
 | eJ v cm d_ U h2=>
   refine .eJ v cm d_ (fun j aA=>?_) (fun j aA=>(h2 j aA).mono ag)
   obtain⟨ay,J⟩:=U j aA
   obtain⟨arr,ty,au,nr⟩:=cells_of_cell J
   rw[Addr.qw] at nr
   obtain⟨pB,he⟩:=ag _ _ nr (.inl ⟨_,_,_,rfl⟩) ay
   exact ⟨pB,by rw[<-J];exact World.cell?_of_block (w:=w) (by rw[Addr.qw];exact he)⟩
 | fn f first caps eR cv U h2 aB aS Qg Qh=>exact .fn f first caps eR cv U h2 Qg Qh
 | agg cs vs az h a8=>exact .agg cs vs az a8
 | bL cs vs az h a8=>exact .bL cs vs az a8
section inversion
variable {w:World} {ok:Nat->Prop} {σ:Nat->Option (Nat × Nat)}
theorem a2.jt {k:IntKind} {n:Int} {cv:Value} (h:a2 w ok σ (.int k n) cv):cv= .int k n:=by
 cases h with
 | val _ _ h=>cases h;rfl
theorem a2.qx {b:Bool} {cv:Value} (h:a2 w ok σ (.bool b) cv):cv= .bool b:=by
 cases h with
 | val _ _ h=>cases h;rfl
theorem a2.vz {s:ByteArray} {cv:Value} (h:a2 w ok σ (.str s) cv):cv= .string s:=by
 cases h with
 | val _ _ h=>cases h;rfl
theorem a2.Qi {cv:Value} (h:a2 w ok σ .kk cv):cv=Go.undef:=by
 cases h with
 | val _ _ h=>cases h
 | kk=>rfl
theorem a2.Qj {cv:Value} (h:a2 w ok σ .nilfn cv):cv= .nilFunc:=by
 cases h with
 | val _ _ h=>cases h;rfl
theorem a2.GP {m:List (Int × FuncId)} {cv:Value} (h:a2 w ok σ (.mp m) cv):dh w ok (.mp m) cv:=by
 cases h with
 | val _ _ h=>exact h
theorem a2.qy {xs:List I} {ex:Bool} {cv:Value} (h:a2 w ok σ (.sl xs ex) cv):dh w ok (.sl xs ex) cv:=by
 cases h with
 | val _ _ h=>exact h
theorem a2.qz {id off len cap:Nat} {cv:Value} (h:a2 w ok σ (.ref id off len cap) cv):
 ∃A c b sz,cv= .slice A len c/\σ id=some (b,sz)/\len<=c/\cap<=c/\(0<c->A=some ⟨b,off*sz,none⟩/\(off+c)*sz<=f' w b):=by
 cases h with
 | val _ _ h=>cases h
 | ref _ _ _ _ A c b sz U h2 aB aS=>exact ⟨A,c,b,sz,rfl,U,h2,aB,aS⟩
theorem a2.vA {id idx cC:Nat} {cv:Value} (h:a2 w ok σ (.ptr id idx cC) cv):
 ∃b sz,cv= .pointer (some ⟨b,idx*sz+cC,none⟩)/\σ id=some (b,sz):=by
 cases h with
 | val _ _ h=>cases h
 | ptr _ _ _ b sz U=>exact ⟨b,sz,rfl,U⟩
theorem a2.x5 {v:I} {cv:Value} (h:a2 w ok σ (.eJ v) cv):
 ∃(cm:Addr) (d_:Nat->Value),cv= .pointer (some cm)/\(∀j,j<v.cells.length->ok cm.block/\w.cell? (cm.add j)=some (d_ j))/\(∀j (h:j<v.cells.length),dh w ok (v.cells[j]) (d_ j)):=by
 cases h with
 | val _ _ h=>cases h
 | eJ _ cm d_ U h2=>exact ⟨cm,d_,rfl,U,h2⟩
theorem a2.GQ {f:FuncId} {first caps:List I} {v:Value} (h:a2 w ok σ (.fn f first caps) v):
 ∃eR cv,v= .func (.func f) eR cv/\eR.size=first.length/\cv.size=caps.length/\
  (∀i (h:i<first.length) (h':i<eR.size),a2 w ok σ first[i] eR[i])/\(∀i (h:i<caps.length) (h':i<cv.size),a2 w ok σ caps[i] cv[i]):=by
 cases h with
 | val _ _ h=>cases h;exact ⟨#[],#[],rfl,rfl,rfl,fun i h=>absurd h (Nat.not_lt_zero i),fun i h=>absurd h (Nat.not_lt_zero i)⟩
 | fn _ _ _ eR cv U h2 aB aS=>exact ⟨eR,cv,rfl,U,h2,aB,aS⟩
theorem a2.Qk {id:Nat} {cv:Value} (h:a2 w ok σ (.fD id) cv):∃l s,cv= .func (.yield l) #[] #[]/\σ id=some (l,s):=by
 cases h with
 | val _ _ h=>cases h
 | fD _ l s U=>exact ⟨l,s,rfl,U⟩
theorem a2.tz {cs:List I} {v:Value} (h:a2 w ok σ (.agg cs) v):
 ∃vs,v= .agg vs/\vs.size=cs.length/\(∀i (h:i<cs.length) (h':i<vs.size),a2 w ok σ cs[i] vs[i]):=by
 cases h with
 | val _ _ h=>cases h with
   | agg _ vs U h2=>exact ⟨vs,rfl,U,fun i h h'=> .val _ _ (h2 i h h')⟩
 | agg _ vs U h2=>exact ⟨vs,rfl,U,h2⟩
theorem a2.GR {cs:List I} {v:Value} (h:a2 w ok σ (.bL cs) v):
 ∃vs,v= .tuple vs/\vs.size=cs.length/\(∀i (h:i<cs.length) (h':i<vs.size),a2 w ok σ cs[i] vs[i]):=by
 cases h with
 | val _ _ h=>cases h with
   | bL _ vs U h2=>exact ⟨vs,rfl,U,fun i h h'=> .val _ _ (h2 i h h')⟩
 | bL _ vs U h2=>exact ⟨vs,rfl,U,h2⟩
theorem a2.vB {v:I} {cv:Value} (h:a2 w ok σ v cv) (aw:v.cb=true):cv.oneCell'=true:=by
 cases h with
 | undef=>simp[I.cb] at aw
 | kk=>simp[I.cb] at aw
 | val _ _ h=>cases h<;>first|rfl|simp[I.cb] at aw
 | agg=>simp[I.cb] at aw
 | bL=>simp[I.cb] at aw
 | _=>rfl
theorem a2.cells {v:I} {cv:Value} (h:a2 w ok σ v cv) (hu:v.cells.all I.cb=true\/∃cs,v= .agg cs):
 cv.cells.size=v.cells.length/\∀i (h:i<v.cells.length) (h':i<cv.cells.size),a2 w ok σ v.cells[i] cv.cells[i]:=by
 by_cases aC:∃cs,v= .agg cs
 · obtain⟨cs,rfl⟩:=aC
   obtain⟨vs,rfl,U,h2⟩:=h.tz
   exact ⟨U,h2⟩
 · have al:v.cells= [v]:=by
    cases v<;>first|rfl|exact absurd ⟨_,rfl⟩ aC
   have aw:v.cb=true:=by
    rcases hu with hu|hu
    · rw[al] at hu;simpa using hu
    · exact absurd hu aC
   have J:cv.cells= #[cv]:=by
    have:=h.vB aw
    cases cv<;>first|rfl|simp[Value.oneCell'] at this
   rw[al,J]
   refine⟨rfl,fun i U h2=>?_⟩
   have:i=0:=by simpa using U
   subst this
   exact h
end inversion
def bn (base:Nat) (okin:Nat->Prop) (σ:Nat->Option (Nat × Nat)) (h:ai) (b:Nat):Prop:=
 (b<base/\okin b)\/(base<=b/\∀id sz,σ id=some (b,sz)->(h.cells id).isSome=true->h.shut id=true)
structure cz (base:Nat) (okin:Nat->Prop) (σ:Nat->Option (Nat × Nat)) (h:ai) (w:World):Prop where
 val:∀id b sz,σ id=some (b,sz)->base<=b/\b<w.heap.size
 blk:∀id blk,h.cells id=some blk->∃b sz arr ty,σ id=some (b,sz)/\w.heap[b]? =some (.cells arr ty (0,0))/\
  ∀i (ab:i<blk.length),blk[i].cells.length=sz/\∀j (aA:j<blk[i].cells.length),∃v,arr[i*sz+j]? =some v/\a2 w (bn base okin σ h) σ (blk[i].cells[j]) v
 inj:∀id fO b sz fw,(h.cells id).isSome=true->(h.cells fO).isSome=true->σ id=some (b,sz)->σ fO=some (b,fw)->id=fO
 base:base<=w.heap.size
structure Prog (base:Nat) (okin:Nat->Prop) (σ:Nat->Option (Nat × Nat)) (h:ai) (w:World) (bc:Nat->Option (Nat × Nat)) (h':ai) (aO:World):Prop where
 sub:∀id x,σ id=some x->bc id=some x
 qs:∀b,b<w.heap.size->bn base okin σ h b->bn base okin bc h' b/\aO.heap[b]? =w.heap[b]?
 below:Below base w aO
 grow:∀b,f' w b<=f' aO b
theorem Prog.refl (base:Nat) (okin:Nat->Prop) (σ:Nat->Option (Nat × Nat)) (h:ai) (w:World):Prog base okin σ h w σ h w:=
 ⟨fun _ _ h=>h,fun _ _ h=>⟨h,rfl⟩,Below.refl _ _,fun _=>Nat.le_refl _⟩
theorem Prog.trans {base:Nat} {okin:Nat->Prop} {σ jc pC:Nat->Option (Nat × Nat)} {h U h2:ai} {w ca dc:World}
 (p:Prog base okin σ h w jc U ca) (q:Prog base okin jc U ca pC h2 dc):Prog base okin σ h w pC h2 dc:=
 ⟨fun id x ae=>q.sub id x (p.sub id x ae),fun b ad ay=>by
   obtain⟨jJ,aq⟩:=p.qs b ad ay
   obtain⟨dj,au⟩:=q.qs b (Nat.lt_of_lt_of_le ad p.below.size) jJ
   exact ⟨dj,au.trans aq⟩,p.below.trans q.below,fun b=>Nat.le_trans (p.grow b) (q.grow b)⟩
theorem Prog.still {base:Nat} {okin:Nat->Prop} {σ bc:Nat->Option (Nat × Nat)} {h h':ai} {w aO:World} (p:Prog base okin σ h w bc h' aO):tx w aO (bn base okin σ h) (bn base okin bc h'):=
 fun b o ad _ ay=>p.qs b (by by_cases bB:b<w.heap.size;exact bB;rw[Array.getElem?_eq_none (by omega)] at ad;cases ad) ay
theorem Prog.rep {base:Nat} {okin:Nat->Prop} {σ bc:Nat->Option (Nat × Nat)} {h h':ai} {w aO:World} (p:Prog base okin σ h w bc h' aO)
 {v:I} {cv:Value} (r:a2 w (bn base okin σ h) σ v cv):a2 aO (bn base okin bc h') bc v cv:=r.mono p.still p.sub p.grow
end Go.Eng
namespace Go.Eng
open Go Go.RowKit
theorem GS (w:World) (o:Obj) (b:Nat):f' w b<=f' (w.alloc o) b:=by
 by_cases h:b<w.heap.size
 · unfold f';rw[Below.heap_alloc _ _ _ h];exact Nat.le_refl _
 · unfold f';rw[Array.getElem?_eq_none (by omega)];exact Nat.zero_le _
theorem Bz (w:World) (arr:Array Value) (ty:TypeId):f' (w.alloc (.cells arr ty)) w.heap.size=arr.size:=by
 have:(w.alloc (.cells arr ty)).heap[w.heap.size]? =some (.cells arr ty):=by show (w.heap.push _)[w.heap.size]? =_;simp
 unfold f';rw[this]
theorem GU (w:World) (g:Nat) (arr arr':Array Value) (ty:TypeId) (bE:Nat × Nat) (aW:w.heap[g]? =some (.cells arr ty bE)) (az:arr.size<=arr'.size) (b:Nat):f' w b<=f' (w.setRow g arr') b:=by
 by_cases h:b=g
 · subst h;unfold f';rw[aW,setRow_heap _ _ _ _ _ _ aW];exact az
 · unfold f';rw[setRow_other _ _ _ _ h];exact Nat.le_refl _
theorem Ql {w aO:World} (h:Below w.heap.size w aO) (b:Nat):f' w b<=f' aO b:=by
 by_cases ad:b<w.heap.size
 · unfold f';rw[h.block b ad];exact Nat.le_refl _
 · unfold f';rw[Array.getElem?_eq_none (by omega)];exact Nat.zero_le _
section
variable {base:Nat} {okin:Nat->Prop} {σ:Nat->Option (Nat × Nat)} {h:ai} {w:World}
theorem cz.BA (H:cz base okin σ h w) {r:Nat} (aT:σ r=none):h.cells r=none:=by
 cases J:h.cells r with
 | none=>rfl
 | some blk=>
   obtain⟨b,sz,_,_,e,_⟩:=H.blk r blk J
   rw[aT] at e;cases e
theorem cz.alloc (H:cz base okin σ h w) {r:Nat} (aT:σ r=none) (blk:List I) (arr:Array Value) (ty:TypeId) (sz:Nat)
 (ad:∀i (ab:i<blk.length),blk[i].cells.length=sz/\∀j (aA:j<blk[i].cells.length),∃v,arr[i*sz+j]? =some v/\a2 w (bn base okin σ h) σ (blk[i].cells[j]) v):
 cz base okin (ar σ r (some (w.heap.size,sz))) (h.new r blk) (w.alloc (.cells arr ty))/\
 Prog base okin σ h w (ar σ r (some (w.heap.size,sz))) (h.new r blk) (w.alloc (.cells arr ty)):=by
 have Qm:=H.BA aT
 have sub:∀id x,σ id=some x->ar σ r (some (w.heap.size,sz)) id=some x:=by
  intro id x ae
  unfold ar
  by_cases e:id=r
  · subst e;rw[aT] at ae;cases ae
  · rw[if_neg e];exact ae
 have P:Prog base okin σ h w (ar σ r (some (w.heap.size,sz))) (h.new r blk) (w.alloc (.cells arr ty)):=by
  refine⟨sub,fun b ad ay=>⟨?_,Below.heap_alloc _ _ _ ad⟩,(Below.refl _ _).alloc H.base _,GS w _⟩
  rcases ay with ay|⟨U,h2⟩
  · exact .inl ay
  · refine .inr ⟨U,fun id s aw az=>?_⟩
    unfold ar at aw
    by_cases e:id=r
    · rw[if_pos e] at aw
      have:w.heap.size=b:=by injection aw with aw;injection aw
      omega
    · rw[if_neg e] at aw
      refine h2 id s aw ?_
      simpa[ai.new,ar,e] using az
 refine⟨⟨?_,?_,?_,?_⟩,P⟩
 · intro id b s aw
   unfold ar at aw
   by_cases e:id=r
   · rw[if_pos e] at aw
     injection aw with aw;injection aw with U h2
     subst U
     exact ⟨H.base,by simp⟩
   · rw[if_neg e] at aw
     obtain⟨a1,eG⟩:=H.val id b s aw
     exact ⟨a1,by simp;omega⟩
 · intro id fF ga
   by_cases e:id=r
   · subst e
     have:blk=fF:=by simpa[ai.new,ar] using ga
     subst this
     refine⟨w.heap.size,sz,arr,ty,by simp[ar],by show (w.heap.push _)[w.heap.size]? =_;simp,fun i ab=>⟨(ad i ab).1,fun j aA=>?_⟩⟩
     obtain⟨v,aq,au⟩:=(ad i ab).2 j aA
     exact ⟨v,aq,P.rep au⟩
   · have pD:h.cells id=some fF:=by simpa[ai.new,ar,e] using ga
     obtain⟨b,s,a,t,aq,au,aV⟩:=H.blk id fF pD
     refine⟨b,s,a,t,sub _ _ aq,?_,fun i ab=>⟨(aV i ab).1,fun j aA=>?_⟩⟩
     · rw[Below.heap_alloc _ _ _ (H.val _ _ _ aq).2];exact au
     · obtain⟨v,f1,f2⟩:=(aV i ab).2 j aA
       exact ⟨v,f1,P.rep f2⟩
 · intro id fO b s an U h2 aq au
   by_cases e:id=r<;>by_cases e':fO=r
   · rw[e,e']
   · exfalso
     simp only[ar,e,e',if_true,if_false] at aq au
     injection aq with aq;injection aq with aq _
     have:=(H.val _ _ _ au).2
     omega
   · exfalso
     simp only[ar,e,e',if_true,if_false] at aq au
     injection au with au;injection au with au _
     have:=(H.val _ _ _ aq).2
     omega
   · simp only[ar,e,e',if_false] at aq au
     exact H.inj id fO b s an (by simpa[ai.new,ar,e] using U) (by simpa[ai.new,ar,e'] using h2) aq au
 · simp;have:=H.base;omega
theorem cz.write (H:cz base okin σ h w) {id:Nat} {blk blk':List I} {b sz:Nat} {arr arr':Array Value} {ty:TypeId} (J:h.cells id=some blk) (aw:h.shut id=false)
 (he:σ id=some (b,sz)) (aC:w.heap[b]? =some (.cells arr ty (0,0))) (rN:arr.size<=arr'.size)
 (ad:∀i (ab:i<blk'.length),blk'[i].cells.length=sz/\∀j (aA:j<blk'[i].cells.length),∃v,arr'[i*sz+j]? =some v/\a2 w (bn base okin σ h) σ (blk'[i].cells[j]) v):
 cz base okin σ (h.new id blk') (w.setRow b arr')/\Prog base okin σ h w σ (h.new id blk') (w.setRow b arr'):=by
 have x6:∀i,(((h.new id blk').cells i).isSome=true)↔((h.cells i).isSome=true):=by
  intro i
  by_cases e:i=id
  · subst e;simp[ai.new,ar,J]
  · simp[ai.new,ar,e]
 have j2:∀k,bn base okin σ h k↔bn base okin σ (h.new id blk') k:=by
  intro k
  unfold bn
  constructor
  · rintro (a|⟨a,c⟩)
    · exact .inl a
    · exact .inr ⟨a,fun i s ab az=>c i s ab ((x6 i).1 az)⟩
  · rintro (a|⟨a,c⟩)
    · exact .inl a
    · exact .inr ⟨a,fun i s ab az=>c i s ab ((x6 i).2 az)⟩
 have vC:=H.val _ _ _ he
 have P:Prog base okin σ h w σ (h.new id blk') (w.setRow b arr'):=by
  refine⟨fun _ _ x=>x,fun k ag ay=>⟨(j2 k).1 ay,?_⟩,⟨rfl,rfl,rfl,by simp,fun k ag=>setRow_other _ _ _ _ (by omega)⟩,GU _ _ _ _ _ _ aC rN⟩
  refine setRow_other _ _ _ _ ?_
  rintro rfl
  rcases ay with⟨a,_⟩|⟨_,c⟩
  · omega
  · have:=c id sz he (by simp[J])
    rw[aw] at this;cases this
 refine⟨⟨?_,?_,?_,?_⟩,P⟩
 · intro i k s ab
   have:=H.val i k s ab
   exact ⟨this.1,by simpa using this.2⟩
 · intro i fF ga
   by_cases e:i=id
   · subst e
     have:blk'=fF:=by simpa[ai.new,ar] using ga
     subst this
     refine⟨b,sz,arr',ty,he,setRow_heap _ _ _ _ _ _ aC,fun i ab=>⟨(ad i ab).1,fun j aA=>?_⟩⟩
     obtain⟨v,aq,au⟩:=(ad i ab).2 j aA
     exact ⟨v,aq,P.rep au⟩
   · have pD:h.cells i=some fF:=by simpa[ai.new,ar,e] using ga
     obtain⟨j0,s,a,t,aq,au,aV⟩:=H.blk i fF pD
     refine⟨j0,s,a,t,aq,?_,fun i ab=>⟨(aV i ab).1,fun j aA=>?_⟩⟩
     · rw[setRow_other]
       · exact au
       · rintro rfl
         exact e (H.inj i id _ _ _ (by simp[pD]) (by simp[J]) aq he)
     · obtain⟨v,f1,f2⟩:=(aV i ab).2 j aA
       exact ⟨v,f1,P.rep f2⟩
 · intro i gG k s an U h2 aq au
   exact H.inj i gG k s an ((x6 i).1 U) ((x6 gG).1 h2) aq au
 · simpa using H.base
theorem cz.close (H:cz base okin σ h w) (ids:List Nat):cz base okin σ (h.close ids) w/\Prog base okin σ h w σ (h.close ids) w:=by
 have P:Prog base okin σ h w σ (h.close ids) w:=by
  refine⟨fun _ _ x=>x,fun b ad ay=>⟨?_,rfl⟩,Below.refl _ _,fun _=>Nat.le_refl _⟩
  rcases ay with ay|⟨U,h2⟩
  · exact .inl ay
  · exact .inr ⟨U,fun id s aw az=>by simp[ai.close,h2 id s aw az]⟩
 refine⟨⟨H.val,fun id fF ga=>?_,H.inj,H.base⟩,P⟩
 obtain⟨b,s,a,t,aq,au,aV⟩:=H.blk id fF ga
 refine⟨b,s,a,t,aq,au,fun i ab=>⟨(aV i ab).1,fun j aA=>?_⟩⟩
 obtain⟨v,f1,f2⟩:=(aV i ab).2 j aA
 exact ⟨v,f1,P.rep f2⟩
theorem cz.rename (H:cz base okin σ h w) {id r:Nat} {blk blk':List I} {b sz:Nat} {arr arr':Array Value} {ty:TypeId} (J:h.cells id=some blk) (aw:h.shut id=false) (aT:σ r=none)
 (he:σ id=some (b,sz)) (aC:w.heap[b]? =some (.cells arr ty (0,0))) (rN:arr.size<=arr'.size)
 (ad:∀i (ab:i<blk'.length),blk'[i].cells.length=sz/\∀j (aA:j<blk'[i].cells.length),∃v,arr'[i*sz+j]? =some v/\a2 w (bn base okin σ h) σ (blk'[i].cells[j]) v):
 cz base okin (ar σ r (some (b,sz))) {h with cells:=ar (ar h.cells id none) r (some blk')} (w.setRow b arr')/\
 Prog base okin σ h w (ar σ r (some (b,sz))) {h with cells:=ar (ar h.cells id none) r (some blk')} (w.setRow b arr'):=by
 have bO:id≠r:=by rintro rfl;rw[aT] at he;cases he
 have Qm:=H.BA aT
 have vC:=H.val _ _ _ he
 have sub:∀i x,σ i=some x->ar σ r (some (b,sz)) i=some x:=by
  intro i x ae
  unfold ar
  by_cases e:i=r
  · subst e;rw[aT] at ae;cases ae
  · rw[if_neg e];exact ae
 have P:Prog base okin σ h w (ar σ r (some (b,sz))) {h with cells:=ar (ar h.cells id none) r (some blk')} (w.setRow b arr'):=by
  have GV:∀k,bn base okin σ h k->k≠b:=by
   rintro k ay rfl
   rcases ay with⟨a,_⟩|⟨_,c⟩
   · omega
   · have:=c id sz he (by simp[J])
     rw[aw] at this;cases this
  refine⟨sub,fun k ag ay=>⟨?_,setRow_other _ _ _ _ (GV k ay)⟩,⟨rfl,rfl,rfl,by simp,fun k ag=>setRow_other _ _ _ _ (by omega)⟩,GU _ _ _ _ _ _ aC rN⟩
  have Qn:=GV k ay
  rcases ay with ay|⟨U,h2⟩
  · exact .inl ay
  · refine .inr ⟨U,fun i s ab az=>?_⟩
    by_cases e:i=r
    · simp only[ar,e,if_true] at ab
      injection ab with ab;injection ab with ab _
      exact absurd ab.symm Qn
    · simp only[ar,e,if_false] at ab az
      by_cases e':i=id
      · simp[e'] at az
      · exact h2 i s ab (by simpa[e'] using az)
 refine⟨⟨?_,?_,?_,?_⟩,P⟩
 · intro i k s ab
   by_cases e:i=r
   · simp only[ar,e,if_true] at ab
     injection ab with ab;injection ab with U h2
     subst U
     exact ⟨vC.1,by simpa using vC.2⟩
   · simp only[ar,e,if_false] at ab
     have:=H.val i k s ab
     exact ⟨this.1,by simpa using this.2⟩
 · intro i fF ga
   by_cases e:i=r
   · subst e
     have:blk'=fF:=by simpa[ar] using ga
     subst this
     refine⟨b,sz,arr',ty,by simp[ar],setRow_heap _ _ _ _ _ _ aC,fun i ab=>⟨(ad i ab).1,fun j aA=>?_⟩⟩
     obtain⟨v,aq,au⟩:=(ad i ab).2 j aA
     exact ⟨v,aq,P.rep au⟩
   · by_cases e':i=id
     · simp[ar,e'] at ga
       exact absurd ga.1 bO
     · have pD:h.cells i=some fF:=by simpa[ar,e,e'] using ga
       obtain⟨j0,s,a,t,aq,au,aV⟩:=H.blk i fF pD
       refine⟨j0,s,a,t,sub _ _ aq,?_,fun i ab=>⟨(aV i ab).1,fun j aA=>?_⟩⟩
       · rw[setRow_other]
         · exact au
         · rintro rfl
           exact e' (H.inj i id _ _ _ (by simp[pD]) (by simp[J]) aq he)
       · obtain⟨v,f1,f2⟩:=(aV i ab).2 j aA
         exact ⟨v,f1,P.rep f2⟩
 · intro i gG k s an U h2 aq au
   by_cases e:i=r<;>by_cases e':gG=r
   · rw[e,e']
   · exfalso
     simp only[ar,e,e',if_true,if_false] at aq au h2
     by_cases rO:gG=id
     · simp[rO] at h2
     · rw[if_neg rO] at h2
       injection aq with aq;injection aq with aq _;subst aq
       exact rO (H.inj gG id _ _ _ h2 (by simp[J]) au he)
   · exfalso
     simp only[ar,e,e',if_true,if_false] at aq au U
     by_cases rO:i=id
     · simp[rO] at U
     · rw[if_neg rO] at U
       injection au with au;injection au with au _;subst au
       exact rO (H.inj i id _ _ _ U (by simp[J]) aq he)
   · simp only[ar,e,e',if_false] at aq au U h2
     by_cases f:i=id
     · simp[f] at U
     · by_cases pE:gG=id
       · simp[pE] at h2
       · rw[if_neg f] at U;rw[if_neg pE] at h2
         exact H.inj i gG k s an U h2 aq au
 · simpa using H.base
end
section consts
variable {w:World} {ok:Nat->Prop}
theorem GW {v:Value} {a:I} (h:qu v=some a):dh w ok a v/\v.cells= #[v]/\a.cells= [a]:=by
 unfold qu at h
 split at h<;>try(cases h;done)
 · cases h;exact ⟨.int _ _,rfl,rfl⟩
 · cases h;exact ⟨.bool _,rfl,rfl⟩
 · cases h;exact ⟨.str _,rfl,rfl⟩
 · cases h
   refine⟨?_,rfl,rfl⟩
   exact .sl [] true none 0 0 (fun _ _=>undef) (by simp) (by simp) (fun i h=>absurd h (by simp)) (fun i j h=>absurd h (by simp)) (by simp) (fun i h=>absurd h (by simp))
 · cases h;exact ⟨.nilfn,rfl,rfl⟩
theorem GX:∀ {vs:List Value} {as:List I},xW vs=some as->as.length=vs.length/\∀i (h:i<as.length) (h':i<vs.length),dh w ok as[i] vs[i]/\as[i].cb=true
 | [],as,h=>by cases h;exact ⟨rfl,fun i h=>absurd h (by simp)⟩
 | v::vs,as,h=>by
   simp only[xW] at h
   split at h<;>try(cases h;done)
   rename_i a BB U h2
   cases h
   obtain⟨l,r⟩:=GX h2
   refine⟨by simp[l],fun i ab bS=>?_⟩
   cases i with
   | zero=>
     refine⟨(GW U).1,?_⟩
     unfold qu at U
     split at U<;>first|(cases U;done)|(cases U;rfl)
   | succ i=>exact r i (by simpa using ab) (by simpa using bS)
theorem GY {v:Value} {a:I} (h:qv v=some a):dh w ok a v/\a.cells.all I.cb=true/\a.cells.length=v.cells.size:=by
 unfold qv at h
 split at h
 · rename_i cs
   obtain⟨as,U,rfl⟩:=Option.map_eq_some_iff.1 h
   obtain⟨l,r⟩:=GX (w:=w) (ok:=ok) U
   refine⟨.agg as cs (by simpa using l.symm) (fun i ab bS=>(r i ab (by simpa using bS)).1),?_,by simpa[I.cells,Value.cells] using l⟩
   simp only[I.cells,List.all_eq_true]
   intro x ae
   obtain⟨i,ab,rfl⟩:=List.getElem_of_mem ae
   exact (r i ab (by omega)).2
 · obtain⟨aq,au,aV⟩:=GW (w:=w) (ok:=ok) h
   refine⟨aq,?_,by rw[au,aV];rfl⟩
   rw[aV]
   unfold qu at h
   split at h<;>first|(cases h;done)|(cases h;rfl)
end consts
structure j3 (G:Nat->Option I) (ok:Nat->Prop) (σ:Nat->Option (Nat × Nat)) (w:World) (F:Nat->I) (a:Act):Prop where
 slot:∀t,a2 w ok σ (F t) (a.tmps.getD t undef)
 mO:∀g v,G g=some v->a2 w ok σ (.eJ v) (.pointer (some ⟨g,0,none⟩))
theorem j3.dO {G:Nat->Option I} {ok:Nat->Prop} {σ:Nat->Option (Nat × Nat)} {w:World} {F:Nat->I} {a:Act} (h:j3 G ok σ w F a)
 {x:Operand} {y:aR} (ae:dV x=some y):a2 w ok σ (y.ev G F) (a.eval x):=by
 cases x with
 | tmp t=>cases ae;exact h.slot t
 | const v=>
   obtain⟨c,U,rfl⟩:=Option.map_eq_some_iff.1 ae
   exact .val _ _ (GY U).1
 | global g=>
   cases ae
   simp only[aR.ev,Act.eval]
   split
   · exact h.mO _ _ ‹_›
   · exact .undef _
 | func f=>cases ae;exact .fn f [] [] #[] #[] rfl rfl (fun i h=>absurd h (by simp)) (fun i h=>absurd h (by simp))
end Go.Eng
namespace Go.Eng
open Go Go.RowKit
section runs
variable {P:Program} {w:World} {t:TypeId}
theorem vD {b:Bool} (h:mN P t=some b):(isAgg t).run P w= .ok b w:=by
 unfold mN at h
 unfold isAgg
 cases hu:P.underlying t with
 | none=>rw[hu] at h;cases h
 | some d=>
   rw[hu] at h
   simp only[Sem.run_bind,run_underlying hu,Result.andThen_ok]
   cases d<;>simp at h<;>subst h<;>rfl
theorem run_typeInfo {i:TypeInfo} (h:P.info? t=some i):(typeInfo t).run P w= .ok i w:=by
 simp[typeInfo,h]
theorem run_sizeOf {s:Nat} (h:iR P t=some s):(sizeOf t).run P w= .ok s w:=by
 obtain⟨i,ab,rfl⟩:=Option.map_eq_some_iff.1 h
 simp[sizeOf,run_typeInfo ab]
theorem GZ {a:I} (h:zeroOf P t=some a):∃z,(zeroValue t).run P w= .ok z w/\qv z=some a/\∃i,P.info? t=some i/\i.zero=some z:=by
 unfold zeroOf at h
 obtain⟨i,ab,h⟩:=Option.bind_eq_some_iff.1 h
 obtain⟨z,av,h⟩:=Option.bind_eq_some_iff.1 h
 exact ⟨z,by simp[zeroValue,run_typeInfo ab,av],h,i,ab,av⟩
end runs
theorem I.vE (cs:List I):(I.agg cs).cells=cs:=rfl
theorem tA {cs jr:List I} {off sz:Nat} (h:cut cs off sz=some jr):off+sz<=cs.length/\jr.length=sz/\∀j (aA:j<jr.length) (kd:off+j<cs.length),jr[j]=cs[off+j]:=by
 unfold cut at h
 split at h
 · cases h
   refine⟨‹_›,by simp;omega,fun j aA kd=>by simp⟩
 · cases h
theorem BC {bQ:Bool} {cs:List I} {u:I} (h:partOf bQ cs=some u):(bQ=true/\u= .agg cs)\/(bQ=false/\cs= [u]/\u.cb=true):=by
 unfold partOf at h
 cases bQ with
 | true=>exact .inl ⟨rfl,by simpa using h.symm⟩
 | false=>
   simp only[Bool.false_eq_true,if_false] at h
   split at h
   · split at h
     · cases h;exact .inr ⟨rfl,rfl,‹_›⟩
     · cases h
   · cases h
theorem pF (b x j:Nat):(⟨b,x,none⟩:Addr).add j=⟨b,x+j,none⟩:=by
 unfold Addr.add;split<;>simp_all
theorem add_add (a:Addr) (i j:Nat) (h:a.spot=none\/0<i+j):(a.add i).add j=a.add (i+j):=by
 cases a with
 | mk b o s=>
   unfold Addr.add
   by_cases ab:i=0<;>by_cases aA:j=0<;>simp_all<;>omega
section ops
variable {P:Program} {base:Nat} {okin:Nat->Prop} {σ:Nat->Option (Nat × Nat)} {h:ai} {w:World}
def tB (base:Nat) (okin:Nat->Prop) (σ:Nat->Option (Nat × Nat)) (h:ai) (w:World) (r:Nat) (v:I) (h':ai) (res:Result Next):Prop:=
 ∃bc cv aO,(res= .ok (.value cv) aO\/(res= .ok .skip aO/\cv=undef))/\Prog base okin σ h w bc h' aO/\cz base okin bc h' aO/\
  a2 aO (bn base okin bc h') bc v cv/\∀id,id≠r->bc id=σ id
theorem tB.pure (H:cz base okin σ h w) {r:Nat} {v:I} {cv:Value} {res:Result Next} (e:res= .ok (.value cv) w) (aT:a2 w (bn base okin σ h) σ v cv):
 tB base okin σ h w r v h res:=⟨σ,cv,w,.inl e,Prog.refl ..,H,aT,fun _ _=>rfl⟩
theorem BD {ok:Nat->Prop} {t:TypeId} {bQ:Bool} {sz:Nat} (dr:mN P t=some bQ) (cW:iR P t=some sz) (U:(bQ||sz == 1)=true) (cm:Addr) (d_:Nat->Value)
 (J:∀j,j<sz->w.cell? (cm.add j)=some (d_ j)) {cs:List I} (az:cs.length=sz) (aT:∀j (aA:j<cs.length),a2 w ok σ cs[j] (d_ j)) {u:I} (aE:partOf bQ cs=some u):
 ∃cv,(loadVar t cm).run P w= .ok cv w/\a2 w ok σ u cv:=by
 rcases BC aE with⟨rfl,rfl⟩|⟨rfl,rfl,_⟩
 · refine⟨.agg ((List.range sz).map d_).toArray,?_,?_⟩
   · simp[loadVar,vD dr,run_sizeOf cW,run_loadCells w cm sz d_ J]
   · refine .agg _ _ (by simp[az]) (fun i ab bS=>?_)
     simpa using aT i ab
 · have:sz=1:=by simpa using az.symm
   subst this
   refine⟨d_ 0,?_,aT 0 (by simp)⟩
   have:=J 0 (by omega)
   have e:cm.add 0=cm:=by unfold Addr.add;simp
   rw[e] at this
   simp[loadVar,vD dr,this]
theorem cz.elem (H:cz base okin σ h w) {id idx cC sz b b5:Nat} {blk:List I} {e:I} (ad:h.cells id=some blk) (he:blk[idx]? =some e) (aw:σ id=some (b,b5))
 {cs:List I} (J:cut e.cells cC sz=some cs):
 ∃d_:Nat->Value,(∀j,j<sz->w.cell? ((⟨b,idx*b5+cC,none⟩:Addr).add j)=some (d_ j))/\(∀j (aA:j<cs.length),a2 w (bn base okin σ h) σ cs[j] (d_ j)):=by
 obtain⟨j0,fw,arr,ty,aq,au,aV⟩:=H.blk id blk ad
 rw[aw] at aq;cases aq
 obtain⟨ab,rfl⟩:=List.getElem?_eq_some_iff.1 he
 obtain⟨bY,bP,cr⟩:=tA J
 have hlen:=(aV idx ab).1
 refine⟨fun j=>(arr[idx*b5+(cC+j)]?).getD undef,fun j aA=>?_,fun j aA=>?_⟩
 · obtain⟨v,f1,_⟩:=(aV idx ab).2 (cC+j) (by omega)
   rw[pF]
   simp only[World.cell?,au,Option.isSome_none,Bool.false_eq_true,if_false]
   rw[Nat.add_assoc,f1];rfl
 · obtain⟨v,f1,f2⟩:=(aV idx ab).2 (cC+j) (by omega)
   rw[cr j aA (by omega)]
   show a2 w _ σ _ ((arr[idx*b5+(cC+j)]?).getD undef)
   rw[f1]
   exact f2
theorem Qo (H:cz base okin σ h w) {aZ r:Nat} {t:TypeId} {bQ:Bool} {sz:Nat} (dr:mN P t=some bQ) (cW:iR P t=some sz) (U:(bQ||sz == 1)=true)
 {G:Nat->Option I} {F:Nat->I} {x:aR} {jd:Value} (ae:a2 w (bn base okin σ h) σ (x.ev G F) jd) {v:I} {h':ai} {c:dN}
 (he:evalOp aZ r (aR.ev G F) h (.load bQ sz x)=some (v,h',c)):
 h'=h/\∃cv,(Instr.loadAt t jd).run P w= .ok cv w/\a2 w (bn base okin σ h) σ v cv:=by
 simp only[evalOp] at he
 split at he
 · rename_i u hu
   rw[hu] at ae
   obtain⟨cm,d_,rfl,bJ,ch⟩:=ae.x5
   obtain⟨cs,J,he⟩:=Option.bind_eq_some_iff.1 he
   obtain⟨p,aE,he⟩:=Option.map_eq_some_iff.1 he
   cases he
   obtain⟨bY,bP,cr⟩:=tA J
   refine⟨rfl,?_⟩
   obtain⟨cv,aq,au⟩:=BD (P:=P) (w:=w) (σ:=σ) (ok:=bn base okin σ h) dr cW U cm d_ (fun j aA=>(bJ j (by omega)).2) bP
    (fun j aA=>by rw[cr j aA (by omega)];simpa using a2.val _ _ (ch j (by omega))) aE
   exact ⟨cv,by simpa[Instr.loadAt,Instr.sureAddr] using aq,au⟩
 · rename_i id idx cC hu
   rw[hu] at ae
   obtain⟨b,b5,rfl,aw⟩:=ae.vA
   obtain⟨blk,ad,he⟩:=Option.bind_eq_some_iff.1 he
   obtain⟨e,kN,he⟩:=Option.bind_eq_some_iff.1 he
   obtain⟨cs,J,he⟩:=Option.bind_eq_some_iff.1 he
   obtain⟨p,aE,he⟩:=Option.map_eq_some_iff.1 he
   cases he
   obtain⟨bY,bP,cr⟩:=tA J
   obtain⟨d_,bJ,ch⟩:=H.elem ad kN aw J
   refine⟨rfl,?_⟩
   obtain⟨cv,aq,au⟩:=BD (P:=P) (w:=w) (σ:=σ) (ok:=bn base okin σ h) dr cW U _ d_ bJ bP ch aE
   exact ⟨cv,by simpa[Instr.loadAt,Instr.sureAddr] using aq,au⟩
 · cases he
theorem a2.vF {ok:Nat->Prop} {v:I} {cv:Value} (aT:a2 w ok σ v cv) (hu:v.cells.all I.cb=true):
 cv.cells.toList.length=v.cells.length/\(∀j (aA:j<v.cells.length) (kd:j<cv.cells.toList.length),a2 w ok σ v.cells[j] cv.cells.toList[j])/\∀x∈cv.cells.toList,x.oneCell'=true:=by
 obtain⟨aq,au⟩:=aT.cells (.inl hu)
 refine⟨by simpa using aq,fun j aA kd=>by simpa using au j aA (by simpa using kd),fun x ae=>?_⟩
 obtain⟨i,ab,rfl⟩:=List.getElem_of_mem ae
 have bS:i<v.cells.length:=by simp at ab;omega
 refine(au i bS (by simpa using ab)).vB ?_
 exact List.all_eq_true.1 hu _ (List.getElem_mem bS)
theorem x7 {cs vs:List I} {off:Nat} (h:off+vs.length<=cs.length):(e2 cs off vs).length=cs.length:=by
 simp[e2];omega
theorem qA {α:Type} {cs vs:List α} {off:Nat} (h:off+vs.length<=cs.length) (j:Nat) (aA:j<(cs.take off++vs++cs.drop (off+vs.length)).length) (kd:j<cs.length):
 (cs.take off++vs++cs.drop (off+vs.length))[j]=if cK:off<=j/\j<off+vs.length then vs[j - off]'(by omega) else cs[j]:=by
 by_cases U:j<off
 · rw[List.getElem_append_left (by simp;omega),List.getElem_append_left (by simp;omega),dif_neg (by omega)]
   simp
 · by_cases h2:j<off+vs.length
   · rw[List.getElem_append_left (by simp;omega),List.getElem_append_right (by simp;omega),dif_pos (by omega)]
     simp[Nat.min_eq_left (show off<=cs.length by omega)]
   · rw[List.getElem_append_right (by simp;omega),dif_neg (by omega)]
     have e:off+vs.length+(j -(min off cs.length+vs.length))=j:=by rw[Nat.min_eq_left (by omega)];omega
     simp[e]
theorem Qp (H:cz base okin σ h w) {aZ r:Nat} {t:TypeId} {sz:Nat} (cW:iR P t=some sz)
 {G:Nat->Option I} {F:Nat->I} {x y:aR} {jd ju:Value} (ae:a2 w (bn base okin σ h) σ (x.ev G F) jd) (aQ:a2 w (bn base okin σ h) σ (y.ev G F) ju) {v:I} {h':ai} {c:dN}
 (he:evalOp aZ r (aR.ev G F) h (.store sz x y)=some (v,h',c)):
 v= .undef/\∃aO,(Instr.storeAt t jd ju).run P w= .ok () aO/\Prog base okin σ h w σ h' aO/\cz base okin σ h' aO:=by
 simp only[evalOp] at he
 split at he
 · rename_i id idx cC hu
   rw[hu] at ae
   obtain⟨b,b5,rfl,aw⟩:=ae.vA
   split at he
   · cases he
   · rename_i cX
     have cX:h.shut id=false:=by simpa using cX
     obtain⟨blk,ad,he⟩:=Option.bind_eq_some_iff.1 he
     obtain⟨e,kN,he⟩:=Option.bind_eq_some_iff.1 he
     split at he
     · rename_i nV
       obtain⟨bq,b',cY⟩:=nV
       obtain⟨cG,dn,mP⟩:=aQ.vF cY
       obtain⟨j0,fw,arr,ty,aq,au,aV⟩:=H.blk id blk ad
       rw[aw] at aq;cases aq
       obtain⟨ab,rfl⟩:=List.getElem?_eq_some_iff.1 kN
       have hlen:=(aV idx ab).1
       have pG:idx*b5+(cC+sz)<=arr.size:=by
        by_cases av:cC+sz=0
        · by_cases Qq:b5=0
          · simp[Qq,av]
          · obtain⟨v0,f1,_⟩:=(aV idx ab).2 0 (by omega)
            have:=(Array.getElem?_eq_some_iff.1 f1).1
            omega
        · obtain⟨v0,f1,_⟩:=(aV idx ab).2 (cC+sz - 1) (by omega)
          have:=(Array.getElem?_eq_some_iff.1 f1).1
          omega
       have cl:(Instr.storeAt t (.pointer (some ⟨b,idx*b5+cC,none⟩)) ju).run P w= .ok () (w.setRow b (arr.toList.take (idx*b5+cC)++ju.cells.toList++arr.toList.drop (idx*b5+cC+ju.cells.toList.length)).toArray):=by
        have h2:=run_storeCells_at (P:=P) b (idx*b5+cC) ty ju.cells.toList 0 arr w au (by simp only[Nat.add_zero];rw[cG,bq];omega) mP
        simp only[Nat.add_zero] at h2
        have bO:ju.cells.size=sz:=by rw[<-bq,<-cG];simp
        simp[Instr.storeAt,Instr.sureAddr,storeVar,run_sizeOf cW,bO,h2]
       have key:∀e',e'.cells.length=b5->(∀j (aA:j<e'.cells.length),∃lB,(arr.toList.take (idx*b5+cC)++ju.cells.toList++arr.toList.drop (idx*b5+cC+ju.cells.toList.length)).toArray[idx*b5+j]? =some lB/\a2 w (bn base okin σ h) σ (e'.cells[j]) lB)->
        Prog base okin σ h w σ (h.new id (blk.set idx e')) (w.setRow b (arr.toList.take (idx*b5+cC)++ju.cells.toList++arr.toList.drop (idx*b5+cC+ju.cells.toList.length)).toArray)/\
        cz base okin σ (h.new id (blk.set idx e')) (w.setRow b (arr.toList.take (idx*b5+cC)++ju.cells.toList++arr.toList.drop (idx*b5+cC+ju.cells.toList.length)).toArray):=by
        intro e' qB mQ
        have:=H.write (blk':=blk.set idx e') (arr':=(arr.toList.take (idx*b5+cC)++ju.cells.toList++arr.toList.drop (idx*b5+cC+ju.cells.toList.length)).toArray) ad cX aw au (by simp;omega) ?_
        · exact ⟨this.2,this.1⟩
        · intro i bS
          have BE:i<blk.length:=by simpa using bS
          by_cases vG:i=idx
          · subst vG
            simp only[List.getElem_set_self]
            exact ⟨qB,mQ⟩
          · have bO:(blk.set idx e')[i]=blk[i]:=by rw[List.getElem_set_ne (Ne.symm vG)]
            rw[bO]
            refine⟨(aV i BE).1,fun j aA=>?_⟩
            obtain⟨v0,f1,f2⟩:=(aV i BE).2 j aA
            refine⟨v0,?_,f2⟩
            have bB:=(Array.getElem?_eq_some_iff.1 f1).1
            have lC:=(Array.getElem?_eq_some_iff.1 f1).2
            have rP:j<b5:=by have:=(aV i BE).1;omega
            have mR:¬(idx*b5+cC<=i*b5+j/\i*b5+j<idx*b5+cC+ju.cells.toList.length):=by
             rw[cG,bq]
             rintro ⟨c7,c8⟩
             rcases Nat.lt_or_gt_of_ne vG with q|q
             · have:(i+1)*b5<=idx*b5:=Nat.mul_le_mul_right _ q
               rw[Nat.add_mul] at this;omega
             · have:(idx+1)*b5<=i*b5:=Nat.mul_le_mul_right _ q
               rw[Nat.add_mul] at this;omega
            have hle:idx*b5+cC+ju.cells.toList.length<=arr.toList.length:=by rw[cG,bq];simp;omega
            rw[List.getElem?_toArray,List.getElem?_eq_getElem (by simp;omega),qA hle _ _ (by simpa using bB),dif_neg mR]
            simpa using lC
       have hle:idx*b5+cC+ju.cells.toList.length<=arr.toList.length:=by rw[cG,bq];simp;omega
       have G0:∀j (aA:j<b5),∃lB,(arr.toList.take (idx*b5+cC)++ju.cells.toList++arr.toList.drop (idx*b5+cC+ju.cells.toList.length)).toArray[idx*b5+j]? =some lB/\
        (∀(cK:cC<=j/\j<cC+sz),a2 w (bn base okin σ h) σ ((y.ev G F).cells[j - cC]'(by omega)) lB)/\(¬(cC<=j/\j<cC+sz)->a2 w (bn base okin σ h) σ (blk[idx].cells[j]'(by omega)) lB):=by
        intro j aA
        obtain⟨v0,f1,f2⟩:=(aV idx ab).2 j (by omega)
        have bB:=(Array.getElem?_eq_some_iff.1 f1).1
        have lC:=(Array.getElem?_eq_some_iff.1 f1).2
        rw[List.getElem?_toArray,List.getElem?_eq_getElem (by simp;omega)]
        refine⟨_,rfl,fun cK=>?_,fun cK=>?_⟩
        · rw[qA hle _ _ (by simpa using bB),dif_pos (by rw[cG,bq];omega)]
          have:=dn (j - cC) (by omega) (by omega)
          have e:idx*b5+j -(idx*b5+cC)=j - cC:=by omega
          simpa[e] using this
        · rw[qA hle _ _ (by simpa using bB),dif_neg (by rw[cG,bq];omega)]
          simp only[Array.getElem_toList]
          rw[lC];exact f2
       split at he
       · rename_i cs G1
         cases he
         refine⟨rfl,_,cl,?_⟩
         rw[G1] at hlen
         simp only[I.vE] at hlen
         have iS:cC+(y.ev G F).cells.length<=cs.length:=by omega
         refine key _ (by simp only[I.vE];rw[x7 iS];exact hlen) (fun j aA=>?_)
         have kd:j<b5:=by simp only[I.vE] at aA;rw[x7 iS] at aA;omega
         obtain⟨lB,lh,lT,BF⟩:=G0 j kd
         refine⟨lB,lh,?_⟩
         simp only[I.vE,e2]
         rw[qA iS j _ (by omega)]
         split
         · rename_i cK;exact lT (by omega)
         · rename_i cK
           have:=BF (by omega)
           simpa[G1,I.vE] using this
       · rename_i Qr
         split at he
         · rename_i u BG
           cases he
           refine⟨rfl,_,cl,?_⟩
           have nr:blk[idx].cells.length=1:=by
            cases cK:blk[idx]<;>first|rfl|exact absurd cK (Qr _)
           have vH:sz=1:=by rw[<-bq,BG];rfl
           have BH:u.cb=true:=by rw[BG] at cY;simpa using cY
           have BI:u.cells= [u]:=by cases u<;>first|rfl|simp[I.cb] at BH
           refine key u (by rw[BI];simp;omega) (fun j aA=>?_)
           have Qs:j=0:=by rw[BI] at aA;simpa using aA
           subst Qs
           obtain⟨lB,lh,lT,_⟩:=G0 0 (by omega)
           refine⟨lB,lh,?_⟩
           have:=lT (by omega)
           simpa[BI,BG] using this
         · cases he
     · cases he
 · cases he
end ops
end Go.Eng
namespace Go.Eng
open Go Go.RowKit
section ops
variable {P:Program} {base:Nat} {okin:Nat->Prop} {σ:Nat->Option (Nat × Nat)} {h:ai} {w:World} {G:Nat->Option I} {F:Nat->I} {a:Act}
theorem rQ (bE:j3 G (bn base okin σ h) σ w F a):∀ {xs:List Operand} {ys:List aR},pz xs=some ys->
 ys.length=xs.length/\∀i (ab:i<ys.length) (bS:i<xs.length),a2 w (bn base okin σ h) σ (ys[i].ev G F) (a.eval xs[i])
 | [],ys,e=>by cases e;exact ⟨rfl,fun i ab=>absurd ab (by simp)⟩
 | x::xs,ys,e=>by
   simp only[pz] at e
   split at e<;>try(cases e;done)
   rename_i y agM U h2
   cases e
   obtain⟨l,r⟩:=rQ bE h2
   refine⟨by simp[l],fun i ab bS=>?_⟩
   cases i with
   | zero=>exact bE.dO U
   | succ i=>exact r i (by simpa using ab) (by simpa using bS)
theorem G2 {ok:Nat->Prop} {t:TypeId} {bQ:Bool} {sz off:Nat} (dr:mN P t=some bQ) (cW:iR P t=some sz) (U:(bQ||sz == 1)=true) {cs:List I} {vs:Array Value}
 (az:vs.size=cs.length) (aT:∀i (h:i<cs.length) (h':i<vs.size),a2 w ok σ cs[i] vs[i]) {jr:List I} (J:cut cs off sz=some jr) {u:I} (aE:partOf bQ jr=some u):
 ∃cv,(part t vs off).run P w= .ok cv w/\a2 w ok σ u cv:=by
 obtain⟨bY,bP,cr⟩:=tA J
 rcases BC aE with⟨rfl,rfl⟩|⟨rfl,rfl,_⟩
 · refine⟨.agg (vs.extract off (off+sz)),by simp[part,vD dr,run_sizeOf cW],?_⟩
   refine .agg _ _ (by simp;omega) (fun i ab bS=>?_)
   rw[cr i ab (by omega)]
   simpa using aT (off+i) (by omega) (by omega)
 · have oH:sz=1:=by simpa using bP.symm
   have bB:off<vs.size:=by omega
   refine⟨vs[off],by simp[part,vD dr,bB],?_⟩
   have:=aT off (by omega) bB
   have e:=cr 0 (by simp) (by omega)
   simp only[List.getElem_cons_zero,Nat.add_zero] at e
   rw[e];exact this
def x8 (op:BinOp) (k:IntKind) (x y:Int):Sem Value:=
 match op with
 | .add| .sub| .mul=>Op.intArith op k x y
 | .quo| .rem=>Op.intDiv op k x y
 | .and| .or| .xor| .andNot=>Op.intBits op k x y
 | _=>Op.intCmp op x y
theorem Qt (op:BinOp) (k:IntKind) (x y:Int) {v:I} (ad:gE op k x y=some v):
 ∃cv,(x8 op k x y).run P w= .ok cv w/\∀ok σ,a2 w ok σ v cv:=by
 cases op<;>simp only[gE] at ad<;>first
  | (cases ad;done)
  | (cases ad;exact ⟨_,rfl,fun _ _=> .val _ _ (.int _ _)⟩)
  | (cases ad;exact ⟨_,rfl,fun _ _=> .val _ _ (.bool _)⟩)
  | (split at ad
     · cases ad
     · cases ad;rename_i av;exact ⟨_,by simp[x8,Op.intDiv,av],fun _ _=> .val _ _ (.int _ _)⟩)
theorem BJ (ty:Nat) (op:BinOp) (t:TypeId) (X Y:Operand) {u v r:I} {ns cv:Value} {ok:Nat->Prop} (hu:a2 w ok σ u ns) (al:a2 w ok σ v cv) (ad:fM ty op u v=some r)
 (aw:ty=1->P.underlying t=some .bool):
 ∃rR,(do eqGuard op t X Y ns cv;binOp op t ns cv:Sem Value).run P w= .ok rR w/\a2 w ok σ r rR:=by
 have aW:∀ {a b:Value},(∀c,a≠ .nilIface/\a≠ .agg c)->(eqGuard op t X Y a b).run P w= .ok () w:=by
  intro a b aC
  cases a<;>first|exact absurd rfl (aC #[]).1|exact absurd rfl (aC _).2|(cases op<;>rfl)
 unfold fM at ad
 split at ad
 · rename_i k x k' y
   obtain rfl:=hu.jt
   obtain rfl:=al.jt
   simp only[Sem.run_bind,aW (a:= .int k x) (b:= .int k' y) (fun c=>⟨by simp,by simp⟩),Result.andThen_ok]
   split at ad
   · rename_i cA
     unfold fU at ad
     split at ad
     · cases ad
     · rename_i G3
       rcases cA with rfl|rfl
       · cases ad
         exact ⟨_,by simp[binOp,Op.shift,G3],.val _ _ (.int _ _)⟩
       · cases ad
         exact ⟨_,by simp[binOp,Op.shift,G3],.val _ _ (.int _ _)⟩
   · rename_i cA
     split at ad
     · rename_i ag
       subst ag
       obtain⟨rR,aq,au⟩:=Qt (P:=P) (w:=w) op k x y ad
       refine⟨rR,?_,au _ _⟩
       have:binOp op t (.int k x) (.int k y)=x8 op k x y:=by
        cases op<;>first|exact absurd (.inl rfl) cA|exact absurd (.inr rfl) cA|simp[binOp,x8]
       rw[this];exact aq
     · cases ad
 · rename_i x y
   obtain rfl:=hu.qx
   obtain rfl:=al.qx
   split at ad<;>try(cases ad;done)
   rename_i Qu
   have BK:=aw Qu
   have heq:(Op.equal t (.bool x) (.bool y)).run P w= .ok (x == y) w:=by
    show (Op.equalIn (9999+1) t (.bool x) (.bool y)).run P w=_
    unfold Op.equalIn
    simp[run_underlying BK]
   simp only[Sem.run_bind,aW (a:= .bool x) (b:= .bool y) (fun c=>⟨by simp,by simp⟩),Result.andThen_ok]
   split at ad
   · cases ad
     refine⟨.bool (x == y),?_,.val _ _ (.bool _)⟩
     show (do pure (.bool (<-Op.equal t (.bool x) (.bool y))):Sem Value).run P w=_
     simp[heq]
   · cases ad
     refine⟨.bool (!(x == y)),?_,.val _ _ (.bool _)⟩
     show (do pure (.bool !(<-Op.equal t (.bool x) (.bool y))):Sem Value).run P w=_
     simp[heq]
   · cases ad
 · rename_i x y
   obtain rfl:=hu.vz
   obtain rfl:=al.vz
   simp only[Sem.run_bind,aW (a:= .string x) (b:= .string y) (fun c=>⟨by simp,by simp⟩),Result.andThen_ok]
   split at ad
   · cases ad
     exact ⟨.bool (x.toList == y.toList),by rw[show binOp .eql t (.string x) (.string y)=Op.stringOp .eql x y by simp[binOp]];simp[Op.stringOp],.val _ _ (.bool _)⟩
   · cases ad
     exact ⟨.bool (!(x.toList == y.toList)),by rw[show binOp .neq t (.string x) (.string y)=Op.stringOp .neq x y by simp[binOp]];simp[Op.stringOp],.val _ _ (.bool _)⟩
   · cases ad
 · cases ad
theorem Qv (op:UnOp) {u r:I} {ns:Value} {ok:Nat->Prop} (hu:a2 w ok σ u ns) (ad:fN op u=some r):
 ∃rR,(Op.unary op ns).run P w= .ok rR w/\a2 w ok σ r rR:=by
 unfold fN at ad
 split at ad
 · obtain rfl:=hu.jt
   split at ad
   · cases ad;exact ⟨_,rfl,.val _ _ (.int _ _)⟩
   · cases ad;exact ⟨_,rfl,.val _ _ (.int _ _)⟩
   · cases ad
 · obtain rfl:=hu.qx
   split at ad
   · cases ad;exact ⟨_,rfl,.val _ _ (.bool _)⟩
   · cases ad
 · cases ad
theorem tC {ok:Nat->Prop} {d y:Nat} {X:Operand} {x:aR} {l:Nat} (ae:a2 w ok σ (x.ev G F) (a.eval X)) (ad:bound d (aR.ev G F) (some x)=some l) (az:l<=y) (code:BoundsCode):
 (Instr.sliceBound (a.eval X) y code).run P w= .ok l w:=by
 unfold bound at ad
 simp only at ad
 split at ad
 · rename_i k n hu
   rw[hu] at ae
   rw[ae.jt]
   split at ad
   · rename_i ak
     cases ad
     have:n<=(y:Int):=by omega
     simp[Instr.sliceBound,asIntOf,ak,this]
   · cases ad
 · cases ad
theorem tD (bE:j3 G (bn base okin σ h) σ w F a) {X:Option Operand} {x:Option aR} (e:rK X=some x):
 (X=none/\x=none)\/∃pH kn,X=some pH/\x=some kn/\a2 w (bn base okin σ h) σ (kn.ev G F) (a.eval pH):=by
 cases X with
 | none=>cases e;exact .inl ⟨rfl,rfl⟩
 | some pH=>
   obtain⟨kn,U,rfl⟩:=Option.map_eq_some_iff.1 e
   exact .inr ⟨pH,kn,rfl,rfl,bE.dO U⟩
theorem G4 (bE:j3 G (bn base okin σ h) σ w F a) {cj ab jq:Option Operand} {tE bS ko:Option aR} (aq:rK cj=some tE) (au:rK ab=some bS) (aV:rK jq=some ko)
 (tF:(ko.isSome&&bS.isNone)=false) (len cap tG:Nat) (nt:cap<=tG) (agN:ko=none->len<=tG) {l u m:Nat} (b1:bound 0 (aR.ev G F) tE=some l) (dW:bound len (aR.ev G F) bS=some u) (kO:bound cap (aR.ev G F) ko=some m)
 (c7:l<=u) (c8:u<=m) (fo:m<=cap) (Qw:Bool):
 (Instr.sliceBounds Qw len tG (cj.map a.eval) (ab.map a.eval) (jq.map a.eval)).run P w= .ok (l,u,if ko.isSome then m else tG) w:=by
 unfold Instr.sliceBounds
 rcases tD bE aV with⟨rfl,rfl⟩|⟨M,mL,rfl,rfl,eU⟩
 · have em:m=cap:=by cases kO;rfl
   rcases tD bE au with⟨rfl,rfl⟩|⟨Qx,h',rfl,rfl,BL⟩
   · have G5:u=len:=by cases dW;rfl
     rcases tD bE aq with⟨rfl,rfl⟩|⟨L,lD,rfl,rfl,nu⟩
     · have el:l=0:=by cases b1;rfl
       simp[G5,el]
     · have:=tC (P:=P) (a:=a) (y:=len) nu b1 (by omega) .sliceB
       simp[this,G5]
   · have cK:=fun c=>tC (P:=P) (a:=a) (y:=tG) BL dW (by omega) c
     rcases tD bE aq with⟨rfl,rfl⟩|⟨L,lD,rfl,rfl,nu⟩
     · have el:l=0:=by cases b1;rfl
       simp[cK,el]
     · have:=tC (P:=P) (a:=a) (y:=u) nu b1 (by omega) .sliceB
       simp[this,cK]
 · have hm:=fun c=>tC (P:=P) (a:=a) (y:=tG) eU kO (by omega) c
   rcases tD bE au with⟨rfl,rfl⟩|⟨Qx,h',rfl,rfl,BL⟩
   · simp at tF
   · have cK:=fun c=>tC (P:=P) (a:=a) (y:=m) BL dW (by omega) c
     rcases tD bE aq with⟨rfl,rfl⟩|⟨L,lD,rfl,rfl,nu⟩
     · have el:l=0:=by cases b1;rfl
       simp[hm,cK,el]
     · have:=tC (P:=P) (a:=a) (y:=u) nu b1 (by omega) .slice3C
       simp[hm,cK,this]
end ops
end Go.Eng
namespace Go.Eng
open Go Go.RowKit
section fill
variable {P:Program} {base:Nat} {okin:Nat->Prop} {σ:Nat->Option (Nat × Nat)} {h:ai} {w:World} {G:Nat->Option I} {F:Nat->I} {a:Act}
def setFrom (cs:Array Value) (off:Nat) (l:List Value):Array Value:=(l.zipIdx 0).foldl (fun cs (c,j)=>cs.setIfInBounds (off+j) c) cs
theorem G6 (l:List Value):∀(s off:Nat) (cs:Array Value),((l.zipIdx s).foldl (fun cs (c,j)=>cs.setIfInBounds (off+j) c) cs).size=cs.size/\
 ∀k (ag:k<cs.size) (jK:k<((l.zipIdx s).foldl (fun cs (c,j)=>cs.setIfInBounds (off+j) c) cs).size),
  ((l.zipIdx s).foldl (fun cs (c,j)=>cs.setIfInBounds (off+j) c) cs)[k]=if cK:off+s<=k/\k<off+s+l.length then l[k -(off+s)]'(by omega) else cs[k]:=by
 induction l with
 | nil=>intro s off cs;exact ⟨rfl,fun k ag jK=>by
   rw[dif_neg (fun cK=>by simp at cK;omega)]
   simp[List.zipIdx]⟩
 | cons v l a8=>
   intro s off cs
   have:=a8 (s+1) off (cs.setIfInBounds (off+s) v)
   refine⟨by simpa[List.zipIdx_cons] using this.1,fun k ag jK=>?_⟩
   have e:=this.2 k (by simpa using ag) (by simpa[List.zipIdx_cons] using jK)
   simp only[List.zipIdx_cons,List.foldl_cons]
   rw[e]
   by_cases U:k=off+s
   · subst U
     rw[dif_neg (by omega),dif_pos (by simp)]
     simp
   · by_cases h2:off+s<=k/\k<off+s+(v::l).length
     · have hlen:(v::l).length=l.length+1:=rfl
       rw[dif_pos (by omega),dif_pos h2]
       have:k -(off+s)=(k -(off+(s+1)))+1:=by omega
       simp[this]
     · have hlen:(v::l).length=l.length+1:=rfl
       rw[dif_neg (by omega),dif_neg h2]
       rw[Array.getElem_setIfInBounds_ne (h:=by omega)]
theorem fold_eq (cs:Array Value) (off:Nat) (v:Array Value):v.zipIdx.foldl (fun cs (c,j)=>cs.setIfInBounds (off+j) c) cs=setFrom cs off v.toList:=by
 rw[<-Array.foldl_toList,Array.toList_zipIdx];rfl
def rS (w:World) (ok:Nat->Prop) (σ:Nat->Option (Nat × Nat)) (cs:List I) (vs:Array Value):Prop:=vs.size=cs.length/\∀i (h:i<cs.length) (h':i<vs.size),a2 w ok σ cs[i] vs[i]
theorem rS.e2 {ok:Nat->Prop} {cs:List I} {arr:Array Value} (J:rS w ok σ cs arr) {v:I} {cv:Value} (al:a2 w ok σ v cv) (aw:v.cells.all I.cb=true) {off:Nat} (ay:off+v.cells.length<=cs.length):
 rS w ok σ (Eng.e2 cs off v.cells) (setFrom arr off cv.cells.toList):=by
 obtain⟨cG,dn,_⟩:=al.vF aw
 obtain⟨bH,dR⟩:=J
 have A:=G6 cv.cells.toList 0 off arr
 refine⟨by rw[x7 ay,<-bH];exact A.1,fun i ab bS=>?_⟩
 have ab:i<cs.length:=by rw[x7 ay] at ab;exact ab
 have e:=A.2 i (by omega) bS
 show a2 w ok σ _ (((cv.cells.toList.zipIdx 0).foldl (fun cs (c,j)=>cs.setIfInBounds (off+j) c) arr)[i])
 rw[e]
 simp only[Eng.e2]
 rw[qA ay i _ ab]
 by_cases cK:off<=i/\i<off+v.cells.length
 · rw[dif_pos cK,dif_pos (by omega)]
   exact dn _ (by omega) (by omega)
 · rw[dif_neg cK,dif_neg (by omega)]
   exact dR i ab (by omega)
theorem BM (bE:j3 G (bn base okin σ h) σ w F a) (place:Nat->Option (Nat × Nat)):∀(ps:List (Nat × Operand)) (eV:List (Nat × Nat × aR)),
 (eV.length=ps.length/\∀k (ag:k<eV.length) (jK:k<ps.length),place (ps[k].1)=some (eV[k].1,eV[k].2.1)/\dV (ps[k].2)=some (eV[k].2.2))->
 ∀(cs:List I) (arr:Array Value) (jr:List I),rS w (bn base okin σ h) σ cs arr->e4 cs (aR.ev G F) eV=some jr->
  ∃arr',Instr.fill place arr (ps.map fun(i,x)=>(i,a.eval x))=some arr'/\rS w (bn base okin σ h) σ jr arr'
 | [],[],_,cs,arr,jr,J,a_=>by
   simp only[e4] at a_;cases a_
   exact ⟨arr,rfl,J⟩
 | [],_::_,aE,_,_,_,_,_=>by simp at aE
 | _::_,[],aE,_,_,_,_,_=>by simp at aE
 | (i,x)::ps,(off,size,y)::eV,aE,cs,arr,jr,J,a_=>by
   simp only[e4] at a_
   split at a_<;>try(cases a_;done)
   rename_i nV
   obtain⟨bq,b',cY⟩:=nV
   obtain⟨bb,bC⟩:=aE
   have q:=bC 0 (by simp) (by simp)
   simp only[List.getElem_cons_zero] at q
   have al:=bE.dO q.2
   obtain⟨cG,dn,_⟩:=al.vF cY
   have cW:(a.eval x).cells.size=size:=by rw[<-bq,<-cG];simp
   obtain⟨arr',aq,au⟩:=BM bE place ps eV ⟨by simpa using bb,fun k ag jK=>by
    have:=bC (k+1) (by simp;omega) (by simp;omega)
    simpa using this⟩ _ _ jr (J.e2 al cY (by omega)) a_
   refine⟨arr',?_,au⟩
   simp only[List.map_cons,Instr.fill,q.1]
   rw[if_neg (by simp[cW];have:=J.1;omega),fold_eq]
   exact aq
theorem G7 {b2:Array Field}:∀ {ps:List (Nat × Operand)} {eV:List (Nat × Nat × aR)},xX P b2 ps=some eV->
 eV.length=ps.length/\∀k (ag:k<eV.length) (jK:k<ps.length),((b2[ps[k].1]?).bind fun f=>(iR P f.type).map fun s=>(f.offset,s))=some (eV[k].1,eV[k].2.1)/\dV (ps[k].2)=some (eV[k].2.2)
 | [],eV,e=>by cases e;exact ⟨rfl,fun k ag=>absurd ag (by simp)⟩
 | (i,x)::r,eV,e=>by
   simp only[xX] at e
   split at e<;>try(cases e;done)
   rename_i f y BN U h2 aB
   split at e<;>try(cases e;done)
   rename_i s aw
   cases e
   obtain⟨l,q⟩:=G7 aB
   refine⟨by simp[l],fun k ag jK=>?_⟩
   cases k with
   | zero=>simp[U,h2,aw]
   | succ k=>exact q k (by simpa using ag) (by simpa using jK)
theorem G8 {s:Nat}:∀ {ps:List (Nat × Operand)} {eV:List (Nat × Nat × aR)},xY s ps=some eV->
 eV.length=ps.length/\∀k (ag:k<eV.length) (jK:k<ps.length),(some (ps[k].1*s,s):Option (Nat × Nat))=some (eV[k].1,eV[k].2.1)/\dV (ps[k].2)=some (eV[k].2.2)
 | [],eV,e=>by cases e;exact ⟨rfl,fun k ag=>absurd ag (by simp)⟩
 | (i,x)::r,eV,e=>by
   simp only[xY] at e
   split at e<;>try(cases e;done)
   rename_i y BN U h2
   cases e
   obtain⟨l,q⟩:=G8 h2
   refine⟨by simp[l],fun k ag jK=>?_⟩
   cases k with
   | zero=>simp[U]
   | succ k=>exact q k (by simpa using ag) (by simpa using jK)
theorem tH {ok:Nat->Prop} {t:TypeId} {z:I} (av:zeroOf P t=some z):∃ao,(zeroValue t).run P w= .ok ao w/\rS w ok σ z.cells ao.cells/\z.cells.all I.cb=true/\dh w ok z ao/\∃i,P.info? t=some i/\i.zero=some ao:=by
 obtain⟨ao,aq,au,aV⟩:=GZ (w:=w) av
 obtain⟨f1,f2,f3⟩:=GY (w:=w) (ok:=ok) au
 refine⟨ao,aq,?_,f2,f1,aV⟩
 exact (a2.val (σ:=σ) _ _ f1).cells (.inl f2)
theorem Qy (b2:List Field) (a_:Bw P b2=true):∃pl:List (Nat × Nat),(b2.mapM (fun f=>do pure (f.offset,<-sizeOf f.type):Field->Sem (Nat × Nat))).run P w= .ok pl w/\
 ∀i:Nat,pl[i]? =(b2[i]?).bind fun f=>(iR P f.type).map fun s=>(f.offset,s):=by
 induction b2 with
 | nil=>exact ⟨[],by simp,fun i=>by simp⟩
 | cons f b2 a8=>
   simp only[Bw,List.all_cons,Bool.and_eq_true] at a_
   obtain⟨s,aw⟩:=Option.isSome_iff_exists.1 a_.1
   obtain⟨pl,aq,au⟩:=a8 a_.2
   refine⟨(f.offset,s)::pl,by simp[List.mapM_cons,run_sizeOf aw] at aq|-;simp[aq],fun i=>?_⟩
   cases i with
   | zero=>simp[aw]
   | succ i=>simpa using au i
theorem Qz (bE:j3 G (bn base okin σ h) σ w F a) {t:TypeId} {ps:Array (Nat × Operand)} {lU:jZ} (J:fv P (.build t ps)=some lU) {aZ r:Nat} {v:I} {h':ai} {c:dN}
 (he:evalOp aZ r (aR.ev G F) h lU=some (v,h',c)):
 h'=h/\∃cv,(Instr.build t (ps.map fun(i,x)=>(i,a.eval x))).run P w= .ok cv w/\a2 w (bn base okin σ h) σ v cv:=by
 simp only[fv] at J
 split at J
 · rename_i b2 z hu av
   split at J<;>try(cases J;done)
   rename_i QA
   obtain⟨eV,aE,rfl⟩:=Option.map_eq_some_iff.1 J
   simp only[evalOp] at he
   obtain⟨cs,a_,he⟩:=Option.map_eq_some_iff.1 he
   cases he
   obtain⟨ao,dS,gH,_⟩:=tH (w:=w) (σ:=σ) (ok:=bn base okin σ h) av
   obtain⟨pl,aq,au⟩:=Qy (w:=w) b2.toList QA
   obtain⟨arr',f1,f2⟩:=BM bE (fun x=>pl[x]?) ps.toList eV (by
    obtain⟨l,q⟩:=G7 aE
    exact ⟨l,fun k ag jK=>by have:=q k ag jK;refine⟨?_,this.2⟩;rw[au];simpa using this.1⟩) _ _ cs gH a_
   refine⟨rfl,.agg arr',?_,.agg _ _ f2.1 f2.2⟩
   have QB:(b2.mapM (fun f=>do pure (f.offset,<-sizeOf f.type):Field->Sem (Nat × Nat))).run P w= .ok pl.toArray w:=by
    rw[Array.mapM_eq_mapM_toList,Sem.run_map,aq];rfl
   simp only[Instr.build,Sem.run_bind,dS,Result.andThen_ok,run_underlying hu,QB]
   have:(fun x:Nat=>pl.toArray[x]?)=fun x=>pl[x]? :=by funext x;simp
   simp only[this,Array.toList_map,f1]
   simp
 · rename_i n e z hu av
   split at J<;>try(cases J;done)
   rename_i s aw
   obtain⟨eV,aE,rfl⟩:=Option.map_eq_some_iff.1 J
   simp only[evalOp] at he
   obtain⟨cs,a_,he⟩:=Option.map_eq_some_iff.1 he
   cases he
   obtain⟨ao,dS,gH,_⟩:=tH (w:=w) (σ:=σ) (ok:=bn base okin σ h) av
   obtain⟨arr',f1,f2⟩:=BM bE (fun i=>some (i*s,s)) ps.toList eV (G8 aE) _ _ cs gH a_
   refine⟨rfl,.agg arr',?_,.agg _ _ f2.1 f2.2⟩
   simp only[Instr.build,Sem.run_bind,dS,Result.andThen_ok,run_underlying hu,run_sizeOf aw,Array.toList_map,f1]
   simp
 · cases J
end fill
end Go.Eng
namespace Go.Eng
open Go Go.RowKit
section
variable {P:Program} {base:Nat} {okin:Nat->Prop} {σ:Nat->Option (Nat × Nat)} {h:ai} {w:World} {G:Nat->Option I} {F:Nat->I} {a:Act}
theorem G9 (H:cz base okin σ h w) {r:Nat} (aT:σ r=none) {t:TypeId} {z:I} {ao:Value} (av:a2 w (bn base okin σ h) σ z ao) (aw:z.cells.all I.cb=true):
 ∃bc aO,(newVar t ao).run P w= .ok ⟨w.heap.size,0,none⟩ aO/\Prog base okin σ h w bc (h.new r [z]) aO/\cz base okin bc (h.new r [z]) aO/\
  a2 aO (bn base okin bc (h.new r [z])) bc (.ptr r 0 0) (.pointer (some ⟨w.heap.size,0,none⟩))/\∀id,id≠r->bc id=σ id:=by
 obtain⟨bY,bP⟩:=av.cells (.inl aw)
 have A:=H.alloc aT [z] ao.cells t z.cells.length (fun i ab=>by
  have:i=0:=by simpa using ab
  subst this
  refine⟨rfl,fun j aA=>?_⟩
  have kd:j<z.cells.length:=aA
  refine⟨ao.cells[j]'(by omega),?_,bP j kd (by omega)⟩
  rw[Nat.zero_mul,Nat.zero_add]
  exact Array.getElem?_eq_getElem (by omega))
 refine⟨_,_,?_,A.2,A.1,?_,?_⟩
 · simp[newVar,newRow]
 · have:=a2.ptr (w:=w.alloc (.cells ao.cells t)) (ok:=bn base okin (ar σ r (some (w.heap.size,z.cells.length))) (h.new r [z])) (σ:=ar σ r (some (w.heap.size,z.cells.length))) r 0 0 w.heap.size z.cells.length (by simp[ar])
   simpa using this
 · intro id bs;simp[ar,bs]
theorem dh.G_ {ok:Nat->Prop} {v:I} {cv:Value} (aT:a2 w ok σ v cv) (ad:v.eb=true):dh w ok v cv:=by
 cases aT with
 | undef=>simp[I.eb] at ad
 | kk=>simp[I.eb] at ad
 | val _ _ h=>exact h
 | agg=>simp[I.eb] at ad
 | bL=>simp[I.eb] at ad
 | ref=>simp[I.eb] at ad
 | ptr=>simp[I.eb] at ad
 | eJ=>simp[I.eb] at ad
 | fn f first caps eR cv U h2=>
   cases first with
   | cons=>simp[I.eb] at ad
   | nil=>
     cases caps with
     | cons=>simp[I.eb] at ad
     | nil=>
       obtain rfl:=Array.eq_empty_of_size_eq_zero U
       obtain rfl:=Array.eq_empty_of_size_eq_zero h2
       exact .fn f
 | fD=>simp[I.eb] at ad
theorem I.QC {v:I} (h:v.eb=true):v.cb=true:=by
 cases v<;>first|rfl|simp[I.eb] at h
theorem I.QD {v:I} (h:v.ei=true):v.cells.all I.cb=true:=by
 simp only[I.ei,List.all_eq_true] at h|-
 exact fun x ae=>I.QC (h x ae)
def lV (w:World) (ok:Nat->Prop) (σ:Nat->Option (Nat × Nat)) (sz:Nat) (es:List I) (arr:Array Value):Prop:=
 arr.size=es.length*sz/\∀i (ab:i<es.length),es[i].cells.length=sz/\∀j (aA:j<es[i].cells.length) (ag:i*sz+j<arr.size),a2 w ok σ es[i].cells[j] arr[i*sz+j]
theorem oI {i j n sz:Nat} (ab:i<n) (aA:j<sz):i*sz+j<n*sz:=by
 have:(i+1)*sz<=n*sz:=Nat.mul_le_mul_right _ ab
 rw[Nat.add_mul] at this;omega
theorem lV.set {ok:Nat->Prop} {sz:Nat} {es:List I} {arr:Array Value} (H:lV w ok σ sz es arr) {i:Nat} {v:I} {cv:Value} (al:a2 w ok σ v cv) (aw:v.cells.all I.cb=true) (az:v.cells.length=sz) (ab:i<es.length):
 lV w ok σ sz (es.set i v) (setFrom arr (i*sz) cv.cells.toList):=by
 obtain⟨cG,dn,_⟩:=al.vF aw
 obtain⟨bH,dR⟩:=H
 have A:=G6 cv.cells.toList 0 (i*sz) arr
 have rN:(setFrom arr (i*sz) cv.cells.toList).size=arr.size:=A.1
 refine⟨by rw[rN,bH];simp,fun k ag=>?_⟩
 have jK:k<es.length:=by simpa using ag
 by_cases lW:k=i
 · subst lW
   simp only[List.getElem_set_self]
   refine⟨az,fun j aA pI=>?_⟩
   have bB:k*sz+j<arr.size:=by rw[rN] at pI;exact pI
   have e:=A.2 (k*sz+j) bB pI
   show a2 w ok σ _ (((cv.cells.toList.zipIdx 0).foldl (fun cs (c,j)=>cs.setIfInBounds (k*sz+j) c) arr)[k*sz+j])
   rw[e,dif_pos (by omega)]
   have au:k*sz+j -(k*sz+0)=j:=by omega
   simp only[au]
   exact dn j (by omega) (by omega)
 · have bO:(es.set i v)[k]=es[k]:=by rw[List.getElem_set_ne (Ne.symm lW)]
   rw[bO]
   refine⟨(dR k jK).1,fun j aA pI=>?_⟩
   have bB:k*sz+j<arr.size:=by rw[rN] at pI;exact pI
   have QE:j<sz:=by have:=(dR k jK).1;omega
   have e:=A.2 (k*sz+j) bB pI
   show a2 w ok σ _ (((cv.cells.toList.zipIdx 0).foldl (fun cs (c,j)=>cs.setIfInBounds (i*sz+j) c) arr)[k*sz+j])
   rw[e,dif_neg]
   · exact (dR k jK).2 j aA bB
   · rw[cG,az]
     rintro ⟨c7,c8⟩
     rcases Nat.lt_or_gt_of_ne lW with q|q
     · have:=oI q QE;omega
     · have:=oI (i:=i) (n:=k) q (j:=0) (sz:=sz) (by omega)
       have:(i+1)*sz<=k*sz:=Nat.mul_le_mul_right _ q
       rw[Nat.add_mul] at this;omega
theorem G' (bE:j3 G (bn base okin σ h) σ w F a) {sz:Nat}:∀(ps:List (Nat × Operand)) (eV:List (Nat × aR)),xZ ps=some eV->
 ∀(es:List I) (arr:Array Value) (qC:List I),lV w (bn base okin σ h) σ sz es arr->(∀e∈es,e.ei=true)->e5 sz es (aR.ev G F) eV=some qC->
  ∃arr',Instr.fill (fun i=>some (i*sz,sz)) arr (ps.map fun(i,x)=>(i,a.eval x))=some arr'/\lV w (bn base okin σ h) σ sz qC arr'/\(∀e∈qC,e.ei=true)/\qC.length=es.length
 | [],eV,aE,es,arr,qC,H,ad,a_=>by
   cases aE
   simp only[e5] at a_;cases a_
   exact ⟨arr,rfl,H,ad,rfl⟩
 | (i,x)::ps,eV,aE,es,arr,qC,H,ad,a_=>by
   simp only[xZ] at aE
   split at aE<;>try(cases aE;done)
   rename_i y BN U h2
   cases aE
   simp only[e5] at a_
   split at a_<;>try(cases a_;done)
   rename_i nV
   obtain⟨bq,b',cY⟩:=nV
   have al:=bE.dO U
   have nv:=I.QD cY
   obtain⟨cG,_,_⟩:=al.vF nv
   have cW:(a.eval x).cells.size=sz:=by rw[<-bq,<-cG];simp
   obtain⟨arr',aq,au,aV,bR⟩:=G' bE ps BN h2 _ _ qC (H.set al nv bq b') (fun e he=>by
    rcases List.mem_or_eq_of_mem_set he with he|rfl
    · exact ad e he
    · exact cY) a_
   refine⟨arr',?_,au,aV,by simpa using bR⟩
   simp only[List.map_cons,Instr.fill]
   rw[if_neg,fold_eq]
   · exact aq
   · simp only[cW,ne_eq,not_true_eq_false,decide_false,Bool.false_or,decide_eq_true_eq,Nat.not_lt]
     rw[H.1]
     have:(i+1)*sz<=es.length*sz:=Nat.mul_le_mul_right _ b'
     rw[Nat.add_mul] at this;omega
theorem Ha {ok:Nat->Prop} {z:I} {ao:Value} (av:rS w ok σ z.cells ao.cells) (agO:0<z.cells.length) (n:Nat):
 lV w ok σ z.cells.length (List.replicate n z) (madeCells ao.cells (n*z.cells.length)):=by
 refine⟨by simp[madeCells],fun i ab=>?_⟩
 have bS:i<n:=by simpa using ab
 simp only[List.getElem_replicate]
 refine⟨trivial,fun j aA ag=>?_⟩
 have e:(madeCells ao.cells (n*z.cells.length))[i*z.cells.length+j]=ao.cells[j]'(by rw[av.1];exact aA):=by
  simp only[madeCells,Array.getElem_map,Array.getElem_range]
  have:(i*z.cells.length+j)%ao.cells.size=j:=by
   rw[av.1,Nat.add_comm,Nat.add_mul_mod_self_right];exact Nat.mod_eq_of_lt aA
  rw[this]
  exact getElem!_pos _ _ _
 rw[e]
 exact av.2 j aA _
theorem QF (H:cz base okin σ h w) (bE:j3 G (bn base okin σ h) σ w F a) {t:TypeId} {n:Nat} {ps:Array (Nat × Operand)} {lU:jZ} (J:fv P (.buildSlice t n ps)=some lU) {aZ r:Nat} {v:I} {h':ai} {c:dN}
 (he:evalOp aZ r (aR.ev G F) h lU=some (v,h',c)):
 h'=h/\∃cv aO,(Instr.buildSlice t n (ps.map fun(i,x)=>(i,a.eval x))).run P w= .ok cv aO/\Prog base okin σ h w σ h aO/\cz base okin σ h aO/\a2 aO (bn base okin σ h) σ v cv:=by
 simp only[fv] at J
 split at J<;>try(cases J;done)
 rename_i e hu
 split at J<;>try(cases J;done)
 rename_i sz z eV aw av aE
 split at J<;>try(cases J;done)
 rename_i rT
 cases J
 simp only[evalOp] at he
 split at he<;>try(cases he;done)
 rename_i nV
 obtain⟨bq,b',cY⟩:=nV
 obtain⟨es,a_,he⟩:=Option.map_eq_some_iff.1 he
 cases he
 obtain⟨ao,dS,gH,x9,_,_⟩:=tH (w:=w) (σ:=σ) (ok:=bn base okin σ h) av
 have M:=Ha (σ:=σ) gH (by omega) n
 rw[bq] at M
 obtain⟨arr,f1,f2,f3,f4⟩:=G' bE ps.toList eV aE _ _ es M (fun e he=>by rw[List.eq_of_mem_replicate he];exact cY) a_
 have BO:Prog base okin σ h w σ h (w.alloc (.cells arr e)):=⟨fun _ _ x=>x,fun b ad ay=>⟨ay,Below.heap_alloc _ _ _ ad⟩,(Below.refl _ _).alloc H.base _,GS w _⟩
 have H1:cz base okin σ h (w.alloc (.cells arr e)):=by
  refine⟨fun id b s ab=>?_,fun id fF ga=>?_,H.inj,by simp;have:=H.base;omega⟩
  · have:=H.val id b s ab;exact ⟨this.1,by simp;omega⟩
  · obtain⟨b,s,qD,ty,aq,au,aV⟩:=H.blk id fF ga
    refine⟨b,s,qD,ty,aq,by rw[Below.heap_alloc _ _ _ (H.val _ _ _ aq).2];exact au,fun i ab=>⟨(aV i ab).1,fun j aA=>?_⟩⟩
    obtain⟨lB,bJ,ch⟩:=(aV i ab).2 j aA
    exact ⟨lB,bJ,BO.rep ch⟩
 have hlen:es.length=n:=by simpa using f4
 refine⟨rfl,.slice (some ⟨w.heap.size,0,none⟩) n n,_,?_,BO,H1,?_⟩
 · have QG:¬2^24<n*sz:=by omega
   have vI:Instr.fill (fun i=>some (i*sz,sz)) (madeCells ao.cells (n*sz)) (List.map (fun x=>(x.fst,a.eval x.snd)) ps.toList)=some arr:=f1
   unfold madeCells at vI
   by_cases aF:n*sz=0
   · have bG:Array.range (n*sz)= #[]:=by rw[aF];rfl
     rw[bG] at vI
     simp only[List.map_toArray,List.map_nil] at vI
     simp[Instr.buildSlice,run_underlying hu,run_sizeOf aw,aF,newRow,Array.range_zero',vI]
   · simp[Instr.buildSlice,run_underlying hu,run_sizeOf aw,QG,aF,dS,vI,newRow]
 · refine .val _ _ ?_
   have:=dh.sl (w:=w.alloc (.cells arr e)) (ok:=bn base okin σ h) es true (some ⟨w.heap.size,0,none⟩) es.length sz (fun i j=>(arr[i*sz+j]?).getD undef) (Nat.le_refl _) (fun _=>rfl) (fun i ab=>(f2.2 i ab).1)
    (fun i j ab aA=>?_) (fun _=>rfl) (fun i ab j aA=>?_)
   · rw[hlen] at this;exact this
   · refine⟨_,rfl,.inr ⟨H.base,fun id s nw az=>?_⟩,?_⟩
     · have:=(H.val _ _ _ nw).2;simp at this
     · rw[pF,Nat.zero_add]
       have bB:=oI ab aA
       have:i*sz+j<arr.size:=by rw[f2.1];exact bB
       show World.cell? _ _=some ((arr[i*sz+j]?).getD undef)
       rw[Array.getElem?_eq_getElem this]
       show World.cell? (w.alloc (.cells arr e)) ⟨w.heap.size,i*sz+j,none⟩=_
       rw[World.cell?_alloc_new]
       exact Array.getElem?_eq_getElem this
   · have cW:=(f2.2 i ab).1
     have bB:=oI ab (show j<sz by omega)
     have ag:i*sz+j<arr.size:=by rw[f2.1];exact bB
     show dh _ _ _ ((arr[i*sz+j]?).getD undef)
     rw[Array.getElem?_eq_getElem ag]
     refine dh.G_ (BO.rep ((f2.2 i ab).2 j aA ag)) ?_
     have:=f3 _ (List.getElem_mem ab)
     exact List.all_eq_true.1 this _ (List.getElem_mem aA)
theorem QH (H:cz base okin σ h w) (bE:j3 G (bn base okin σ h) σ w F a) {r:Nat} (aT:σ r=none) {t:TypeId} {X Y:Operand} {lU:jZ} (J:fv P (.makeSlice t X Y)=some lU) {aZ:Nat} {v:I} {h':ai} {c:dN}
 (he:evalOp aZ r (aR.ev G F) h lU=some (v,h',c)):
 ∃bc cv aO,(Instr.makeSlice t (a.eval X) (a.eval Y)).run P w= .ok cv aO/\Prog base okin σ h w bc h' aO/\cz base okin bc h' aO/\a2 aO (bn base okin bc h') bc v cv/\∀id,id≠r->bc id=σ id:=by
 simp only[fv] at J
 split at J<;>try(cases J;done)
 rename_i e hu
 split at J<;>try(cases J;done)
 rename_i z sz bytes x y av aw vJ ae aQ
 cases J
 simp only[evalOp] at he
 split at he<;>try(cases he;done)
 rename_i bq l b' eO az nW
 split at he<;>try(cases he;done)
 rename_i nV
 obtain⟨c7,c8,fo,j4,vK,QI,QJ⟩:=nV
 cases he
 have rx:=bE.dO ae
 have ry:=bE.dO aQ
 rw[az] at rx;rw[nW] at ry
 rw[rx.jt,ry.jt]
 obtain⟨ao,dS,gH,x9,_,i,ab,QK⟩:=tH (w:=w) (σ:=σ) (ok:=bn base okin σ h) av
 have tI:i.size=sz:=by
  obtain⟨gG,aq,au⟩:=Option.map_eq_some_iff.1 aw
  rw[ab] at aq;cases aq;exact au
 have BP:i.bytes=bytes:=by
  obtain⟨gG,aq,au⟩:=Option.map_eq_some_iff.1 vJ
  rw[ab] at aq;cases aq;exact au
 have BQ:eO<=eO*(bytes:Int):=by
  have k8:(1:Int)<=bytes:=by omega
  have BR:0<=eO:=by omega
  have:=Int.mul_le_mul_of_nonneg_left k8 BR
  simpa using this
 have cl:=run_make (P:=P) w t e i ao hu ab QK bq b' l eO c7 c8 (by rw[BP,Int.mul_comm];omega) (by omega)
 have M:=Ha (σ:=σ) gH (by omega) eO.toNat
 rw[vK] at M
 have A:=H.alloc aT (List.replicate eO.toNat z) (madeCells ao.cells (eO.toNat*i.size)) e sz (fun k ag=>by
  refine⟨(M.2 k ag).1,fun j aA=>?_⟩
  rw[tI]
  have bB:k*sz+j<(madeCells ao.cells (eO.toNat*sz)).size:=by rw[M.1];exact oI ag (by have:=(M.2 k ag).1;omega)
  exact ⟨_,Array.getElem?_eq_getElem bB,(M.2 k ag).2 j aA bB⟩)
 refine⟨_,_,_,cl,A.2,A.1,?_,fun id bs=>by simp[ar,bs]⟩
 exact .ref r 0 l.toNat eO.toNat _ eO.toNat w.heap.size sz (by simp[ar]) (by omega) (Nat.le_refl _) (fun _=>⟨by simp,by
  rw[Bz];simp[madeCells,tI]⟩)
end
end Go.Eng
