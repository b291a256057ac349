/- What the claim needs of the walks, put together by a program (shake.py). -/
import Derived.Test.YtemiagcencajeaaGreatDoorXvG
set_option maxRecDepth 100000
set_option linter.unusedSimpArgs false
set_option linter.unusedVariables false
set_option linter.unusedSectionVars false
namespace Go.Proofs.YtemiagcencajeaaGreatDoor
section
@[ext] structure Ser where
  c:Nat->Int
namespace Ser
def conv:Nat->(Nat->Int)->(Nat->Int)->Int
 | 0,f,g=>f 0*g 0
 | n+1,f,g=>f 0*g (n+1)+conv n (fun i=>f (i+1)) g
theorem Gd:∀n f g h,conv n f (fun i=>g i+h i)=conv n f g+conv n f h
 | 0,f,g,h=>by simp only[conv];grind
 | n+1,f,g,h=>by simp only[conv];rw[Gd n];grind
theorem OD:∀n f g,conv (n+1) f g=conv n f (fun i=>g (i+1))+f (n+1)*g 0
 | 0,f,g=>by simp only[conv]
 | n+1,f,g=>by
   rw[conv,OD n,conv];grind
theorem vH:∀n f g,conv n f g=conv n g f
 | 0,f,g=>by simp only[conv];grind
 | n+1,f,g=>by rw[conv,OD,vH n];grind
theorem OE (n f g h):conv n (fun i=>g i+h i) f=conv n g f+conv n h f:=by
 rw[vH,Gd,vH n f g,vH n f h]
theorem OF:∀n c f g,conv n (fun i=>c*f i) g=c*conv n f g
 | 0,c,f,g=>by simp only[conv];grind
 | n+1,c,f,g=>by simp only[conv];rw[OF n c (fun i=>f (i+1))];grind
theorem OG:∀n f g h,conv n (fun k=>conv k f g) h=conv n f (fun k=>conv k g h)
 | 0,f,g,h=>by simp only[conv];grind
 | n+1,f,g,h=>by
   rw[conv]
   simp only[conv]
   rw[OE,OF,OG n]
   grind
theorem OH:∀n f,conv n f (fun _=>0)=0
 | 0,f=>by simp only[conv];grind
 | n+1,f=>by simp only[conv];rw[OH n];grind
def C (z:Int):Ser:=⟨fun i=>if i=0 then z else 0⟩
theorem OI (n:Nat) (z:Int) (g:Nat->Int):conv n (C z).c g=z*g n:=by
 cases n with
 | zero=>simp[conv,C]
 | succ n=>
   rw[conv,vH]
   have:(fun i=>(C z).c (i+1))=fun _=>0:=by funext i;simp[C]
   rw[this,OH]
   simp[C]
instance:Add Ser:=⟨fun f g=>⟨fun i=>f.c i+g.c i⟩⟩
instance:Mul Ser:=⟨fun f g=>⟨fun i=>conv i f.c g.c⟩⟩
instance:Neg Ser:=⟨fun f=>⟨fun i=> -f.c i⟩⟩
instance:Sub Ser:=⟨fun f g=>⟨fun i=>f.c i - g.c i⟩⟩
instance:NatCast Ser:=⟨fun n=>C n⟩
instance:IntCast Ser:=⟨C⟩
instance (n:Nat):OfNat Ser n:=⟨C n⟩
def npow (f:Ser):Nat->Ser
 | 0=>C 1
 | n+1=>npow f n*f
instance:HPow Ser Nat Ser:=⟨npow⟩
instance:SMul Nat Ser:=⟨fun n f=>(C n)*f⟩
instance:SMul Int Ser:=⟨fun n f=>(C n)*f⟩
theorem m9 (f g:Ser) (i:Nat):(f+g).c i=f.c i+g.c i:=rfl
theorem OJ (f g:Ser) (i:Nat):(f - g).c i=f.c i - g.c i:=rfl
theorem OK (f:Ser) (i:Nat):(-f).c i= -f.c i:=rfl
theorem OL (f g:Ser) (i:Nat):(f*g).c i=conv i f.c g.c:=rfl
theorem n6 (z:Int) (i:Nat):(C z).c i=if i=0 then z else 0:=rfl
theorem mH (z:Int) (f:Ser) (i:Nat):(C z*f).c i=z*f.c i:=OI i z f.c
theorem OM (a b:Int):C (a+b)=C a+C b:=by ext i;simp only[m9,n6];split<;>simp
theorem aaI (a:Int):C (-a)= -C a:=by ext i;simp only[OK,n6];split<;>simp
theorem yb (a b:Int):C (a*b)=C a*C b:=by ext i;rw[mH];simp only[n6];split<;>simp
theorem A5 (f g:Ser):f*g=g*f:=by ext i;exact vH i f.c g.c
instance:Lean.Grind.CommRing Ser where
 nsmul:=inferInstance
 zsmul:=inferInstance
 add_zero a:=by ext i;show a.c i+(C 0).c i=a.c i;simp[n6]
 add_comm a b:=by ext i;simp only[m9];omega
 add_assoc a b c:=by ext i;simp only[m9];omega
 mul_assoc a b c:=by ext i;exact OG i a.c b.c c.c
 mul_one a:=by rw[A5];ext i;show (C 1*a).c i=a.c i;rw[mH];simp
 left_distrib a b c:=by ext i;exact Gd i a.c b.c c.c
 zero_mul a:=by ext i;show (C 0*a).c i=(C 0).c i;rw[mH];simp[n6]
 pow_zero a:=rfl
 pow_succ a n:=rfl
 ofNat_succ n:=by show C ((n+1:Nat):Int)=C n+C 1;rw[<-OM];rfl
 neg_add_cancel a:=by ext i;show -a.c i+a.c i=(C 0).c i;simp[n6];omega
 sub_eq_add_neg a b:=by ext i;show a.c i - b.c i=a.c i+ -b.c i;omega
 neg_zsmul n a:=by show C (-n)*a= -(C n*a);ext i;rw[OK,mH,mH,Int.neg_mul]
 intCast_neg n:=aaI n
 mul_comm:=A5
 one_mul a:=by ext i;show (C 1*a).c i=a.c i;rw[mH];simp
 right_distrib a b c:=by ext i;exact OE i c.c a.c b.c
 mul_zero a:=by rw[A5];ext i;show (C 0*a).c i=(C 0).c i;rw[mH];simp[n6]
theorem aaJ:C 0=0:=rfl
theorem ON:C 1=1:=rfl
theorem A6 (i:Nat):(0:Ser).c i=0:=by show (if i=0 then (0:Int) else 0)=0;split<;>rfl
def mono (n:Nat) (z:Int):Ser:=⟨fun i=>if i=n then z else 0⟩
theorem tF (n:Nat) (z:Int) (i:Nat):(mono n z).c i=if i=n then z else 0:=rfl
theorem OO (z:Int):mono 0 z=C z:=rfl
def X:Ser:=mono 1 1
theorem vI (f:Ser) (i:Nat):(X*f).c i=if i=0 then 0 else f.c (i - 1):=by
 rw[OL]
 cases i with
 | zero=>simp[conv,X,tF]
 | succ i=>
   have e:(fun i=>X.c (i+1))=(C 1).c:=by
    funext i
    by_cases h:i=0<;>simp[X,tF,n6,h]
   rw[conv,e,OI]
   simp[X,tF]
theorem OP (n:Nat) (z:Int):X*mono n z=mono (n+1) z:=by
 ext i
 rw[vI,tF,tF]
 cases i with
 | zero=>simp
 | succ i=>simp
theorem vJ:∀(n:Nat) (z:Int),mono n z=C z*X^n
 | 0,z=>by rw[OO];grind
 | n+1,z=>by rw[<-OP,vJ n z];grind
end Ser
open Ser
def a2 (l:List Int):Ser:=⟨fun i=>l.getD i 0⟩
theorem lf (l:List Int) (i:Nat):(a2 l).c i=l.getD i 0:=rfl
theorem mI:a2 []=0:=by ext i;rw[A6];rfl
theorem oR (x:Int) (l:List Int):a2 (x::l)=C x+X*a2 l:=by
 ext i
 rw[m9,vI,n6,lf]
 cases i<;>simp[lf]
theorem OQ:∀(a b:List Int),a2 (a++b)=a2 a+X^a.length*a2 b
 | [],b=>by rw[mI,List.nil_append,List.length_nil];grind
 | x::a,b=>by rw[List.cons_append,oR,OQ a b,oR,List.length_cons];grind
theorem aaK {l:List Int} {i:Nat} (h:i<l.length) (v:Int):a2 (l.set i v)=a2 l+mono i (v - l.getD i 0):=by
 ext j
 rw[m9,tF,lf,lf]
 by_cases e:i=j
 · subst e;simp[h];omega
 · simp[List.getElem?_set_ne e];rw[if_neg (by omega)];omega
theorem A7 (l:List Int) (i:Nat):a2 (l.take (i+1))=a2 (l.take i)+mono i (l.getD i 0):=by
 ext j
 rw[m9,tF,lf,lf]
 simp only[List.getD_eq_getElem?_getD,List.getElem?_take]
 by_cases h:j<i
 · rw[if_pos (by omega),if_pos h,if_neg (by omega)];omega
 · by_cases e:j=i
   · subst e;simp
   · rw[if_neg (by omega),if_neg h,if_neg e];rfl
theorem OR (n:Nat):a2 (List.replicate n 0)=0:=by
 ext i;rw[lf,A6];simp[List.getElem?_replicate];split<;>rfl
def cl (l:List Int):Prop:=l= []\/l.getD (l.length - 1) 0≠0
theorem kA {a b:List Int} (aA:cl a) (ad:cl b) (h:a2 a=a2 b):a=b:=by
 have J:∀i,a.getD i 0=b.getD i 0:=fun i=>congrArg (fun s=>s.c i) h
 have aux:∀ {a b:List Int},cl b->(∀i,a.getD i 0=b.getD i 0)->b.length<=a.length:=by
  intro a b ad J
  refine Nat.le_of_not_lt fun ay=>?_
  rcases ad with rfl|ad
  · simp at ay
  · apply ad;rw[<-J,List.getD_eq_getElem?_getD,List.getElem?_eq_none (by omega)];rfl
 have ay:a.length=b.length:=Nat.le_antisymm (aux aA fun i=>(J i).symm) (aux ad J)
 refine List.ext_getElem ay fun i U h2=>?_
 have:=J i
 simpa[List.getD_eq_getElem?_getD,U,h2] using this
def strip:List Int->List Int
 | []=>[]
 | x::l=>match strip l with
   | []=>if x=0 then [] else [x]
   | y::r=>x::y::r
theorem mJ:∀l,a2 (strip l)=a2 l
 | []=>rfl
 | x::l=>by
   rw[oR,<-mJ l,strip]
   cases h:strip l with
   | nil=>
     simp only
     split
     · rename_i ae;rw[ae,mI,aaJ];grind
     · rw[oR]
   | cons y r=>simp only;rw[oR x]
theorem pK:∀l,cl (strip l)
 | []=> .inl rfl
 | x::l=>by
   rw[strip]
   have a8:=pK l
   cases h:strip l with
   | nil=>
     simp only
     split
     · exact .inl rfl
     · exact .inr (by simpa)
   | cons y r=>
     rw[h] at a8
     right
     rcases a8 with a8|a8
     · cases a8
     · simpa using a8
theorem oS:∀l,(strip l).length<=l.length
 | []=>Nat.le_refl _
 | x::l=>by
   rw[strip]
   have a8:=oS l
   cases h:strip l with
   | nil=>simp only;split<;>simp
   | cons y r=>rw[h] at a8;simp only[List.length_cons] at*;omega
theorem A8 {l:List Int} (h:cl l):strip l=l:=kA (pK l) h (mJ l)
theorem yc {a l:List Int} (h:cl a) (e:a2 a=a2 l):strip l=a:=kA (pK l) h (by rw[mJ,e])
end
section
open Ser Lean.Grind
attribute [local instance] Lean.Grind.Ring.intCast
section ev
variable {R:Type} [CommRing R]
def ev (y:R):List Int->R
 | []=>0
 | x::l=>(x:R)+y*ev y l
def al (x y:R):Nat->List Int->R
 | _,[]=>0
 | n,c::l=>(c:R)*y^n+x*al x y (n - 1) l
def n7:List Int->List Int->List Int
 | [],b=>b
 | a,[]=>a
 | x::a,y::b=>(x+y)::n7 a b
def nJ:List Int->List Int->List Int
 | [],_=>[]
 | x::a,b=>n7 (b.map fun y=>x*y) (0::nJ a b)
theorem OS (a b:Int):((a+b:Int):R)=(a:R)+(b:R):=Ring.intCast_add a b
theorem A9 (a b:Int):((a*b:Int):R)=(a:R)*(b:R):=Ring.intCast_mul a b
theorem yd:((0:Int):R)=0:=Ring.intCast_zero
theorem aaL:((1:Int):R)=1:=Ring.intCast_one
theorem aaM (a:Int):((-a:Int):R)= -(a:R):=Ring.intCast_neg a
theorem A_ (a:Int):∀n:Nat,((a^n:Int):R)=(a:R)^n
 | 0=>by rw[Int.pow_zero,aaL,Semiring.pow_zero]
 | n+1=>by rw[Int.pow_succ,A9,A_ a n,Semiring.pow_succ]
theorem A' (y:R):∀a b,ev y (n7 a b)=ev y a+ev y b
 | [],b=>by simp only[n7,ev];grind
 | x::a,[]=>by simp only[n7,ev];grind
 | x::a,z::b=>by simp only[n7,ev,A' y a b,OS];grind
theorem Ge (y:R) (c:Int):∀a,ev y (a.map fun x=>c*x)=(c:R)*ev y a
 | []=>by simp only[List.map_nil,ev];grind
 | x::a=>by simp only[List.map_cons,ev,Ge y c a,A9];grind
theorem ye (y:R):∀a b,ev y (nJ a b)=ev y a*ev y b
 | [],b=>by simp only[nJ,ev];grind
 | x::a,b=>by simp only[nJ,A',Ge,ev,ye y a b,yd];grind
theorem yf (y:R):∀a,(∀i,a.getD i 0=0)->ev y a=0
 | [],_=>rfl
 | x::a,h=>by
   rw[ev,yf y a fun i=>by simpa using h (i+1),show x=0 by simpa using h 0,yd];grind
theorem OT (y:R):∀a b:List Int,(∀i,a.getD i 0=b.getD i 0)->ev y a=ev y b
 | [],b,h=>(yf y b fun i=>(h i).symm).symm
 | x::a,[],h=>yf y (x::a) h
 | x::a,z::b,h=>by
   rw[ev,ev,OT y a b fun i=>by simpa using h (i+1),show x=z by simpa using h 0]
theorem eG (y:R) {a b:List Int} (h:a2 a=a2 b):ev y a=ev y b:=OT y a b fun i=>congrArg (fun s=>s.c i) h
theorem OU (y:R):∀a b,ev y (a++b)=ev y a+y^a.length*ev y b
 | [],b=>by simp only[List.nil_append,ev,List.length_nil];grind
 | x::a,b=>by simp only[List.cons_append,ev,OU y a b,List.length_cons];grind
theorem Gf (x y:R):∀n a b,al x y n (n7 a b)=al x y n a+al x y n b
 | n,[],b=>by simp only[n7,al];grind
 | n,z::a,[]=>by simp only[n7,al];grind
 | n,z::a,w::b=>by simp only[n7,al,Gf x y (n - 1) a b,OS];grind
theorem Gg (x y:R) (c:Int):∀n a,al x y n (a.map fun z=>c*z)=(c:R)*al x y n a
 | n,[]=>by simp only[List.map_nil,al];grind
 | n,z::a=>by simp only[List.map_cons,al,Gg x y c (n - 1) a,A9];grind
theorem Gh (y:R) (n:Nat):∀m,y^(n+m)=y^n*y^m
 | 0=>by rw[Nat.add_zero,Semiring.pow_zero,Semiring.mul_one]
 | m+1=>by rw[<-Nat.add_assoc,Semiring.pow_succ,Gh y n m,Semiring.pow_succ];grind
theorem OV (x y:R) (m:Nat):∀n a,a.length<=n+1->al x y (n+m) a=y^m*al x y n a
 | n,[],_=>by simp only[al];grind
 | 0,[z],_=>by simp only[al,Nat.zero_add];grind
 | 0,z::w::a,h=>by simp at h
 | n+1,z::a,h=>by
   have e:n+1+m - 1=n+m:=by omega
   simp only[al,e,Nat.add_sub_cancel,OV x y m n a (by simpa using h),Gh y (n+1) m];grind
theorem Gi (x y:R):∀n a,(∀i,a.getD i 0=0)->al x y n a=0
 | n,[],_=>rfl
 | n,z::a,h=>by
   rw[al,Gi x y _ a fun i=>by simpa using h (i+1),show z=0 by simpa using h 0,yd];grind
theorem OW (x y:R):∀n (a b:List Int),(∀i,a.getD i 0=b.getD i 0)->al x y n a=al x y n b
 | n,[],b,h=>(Gi x y n b fun i=>(h i).symm).symm
 | n,z::a,[],h=>Gi x y n (z::a) h
 | n,z::a,w::b,h=>by
   rw[al,al,OW x y _ a b fun i=>by simpa using h (i+1),show z=w by simpa using h 0]
theorem aaN (x y:R) (n:Nat) {a b:List Int} (h:a2 a=a2 b):al x y n a=al x y n b:=OW x y n a b fun i=>congrArg (fun s=>s.c i) h
theorem OX (x y:R) (m:Nat):∀n a b,a.length<=n+1->b.length<=m+1->al x y (n+m) (nJ a b)=al x y n a*al x y m b
 | n,[],b,_,_=>by simp only[nJ,al];grind
 | 0,[z],b,_,ad=>by simp only[nJ,Gf,Gg,al,yd,Nat.zero_add];grind
 | 0,z::w::a,b,h,_=>by simp at h
 | n+1,z::a,b,h,ad=>by
   have e:n+1+m - 1=n+m:=by omega
   have av:al x y (n+1+m) b=y^(n+1)*al x y m b:=by rw[Nat.add_comm,OV x y (n+1) m b ad]
   simp only[nJ,Gf,Gg,al,yd,e,OX x y m n a b (by simpa using h) ad,av,Nat.add_sub_cancel];grind
end ev
theorem l5:∀l,a2 l=ev X l
 | []=>mI
 | x::l=>by rw[oR,l5 l,ev];rfl
theorem aaO (a b:List Int):a2 (n7 a b)=a2 a+a2 b:=by rw[l5,l5,l5,A']
theorem Ba (a b:List Int):a2 (nJ a b)=a2 a*a2 b:=by rw[l5,l5,l5,ye]
theorem OY (c:Int) (a:List Int):a2 (a.map fun x=>c*x)=C c*a2 a:=by rw[l5,l5,Ge];rfl
def dz (a b:List Int):List Int:=strip ((List.range (max a.length b.length)).map fun i=>a.getD i 0+b.getD i 0)
def jk (a b:List Int):List Int:=strip ((List.range (max a.length b.length)).map fun i=>a.getD i 0 - b.getD i 0)
def a' (a b:List Int):List Int:=strip ((List.range (a.length+b.length - 1)).map fun i=>conv i (a2 a).c (a2 b).c)
def iw (a:List Int) (c:Int):List Int:=strip (a.map fun x=>x*c)
theorem rU (n:Nat) (f:Nat->Int) (i:Nat):((List.range n).map f).getD i 0=if i<n then f i else 0:=by
 simp only[List.getD_eq_getElem?_getD,List.getElem?_map]
 by_cases h:i<n
 · simp[h]
 · simp[h]
theorem oT {l:List Int} {i:Nat} (h:l.length<=i):l.getD i 0=0:=by simp[List.getD_eq_getElem?_getD,h]
theorem Bb {n:Nat} {f:Nat->Int} {s:Ser} (U:∀i,i<n->s.c i=f i) (h2:∀i,n<=i->s.c i=0):a2 ((List.range n).map f)=s:=by
 ext i
 rw[lf,rU]
 split
 · exact (U i ‹_›).symm
 · exact (h2 i (by omega)).symm
theorem l6 (a b:List Int):a2 (dz a b)=a2 a+a2 b:=by
 rw[dz,mJ]
 refine Bb (fun i _=>rfl) fun i h=>?_
 rw[m9,lf,lf,oT (by omega),oT (by omega)];rfl
theorem vK (a b:List Int):a2 (jk a b)=a2 a - a2 b:=by
 rw[jk,mJ]
 refine Bb (fun i _=>rfl) fun i h=>?_
 rw[OJ,lf,lf,oT (by omega),oT (by omega)];rfl
theorem Gj {f g:Nat->Int}:∀n,(∀i,i<=n->f i=0\/g (n - i)=0)->conv n f g=0
 | 0,h=>by rcases h 0 (Nat.le_refl _) with h|h<;>simp_all[conv]
 | n+1,h=>by
   rw[conv]
   have a8:=Gj (f:=fun i=>f (i+1)) (g:=g) n fun i ab=>by
    have:=h (i+1) (by omega)
    rwa [show n+1 -(i+1)=n - i by omega] at this
   rw[a8]
   rcases h 0 (by omega) with h|h
   · rw[h];simp
   · rw[Nat.sub_zero] at h;rw[h];simp
theorem aaP {a b:List Int} {i:Nat} (h:a.length+b.length<=i+1):conv i (a2 a).c (a2 b).c=0:=Gj i fun k ag=>by
 by_cases pL:a.length<=k
 · exact .inl (oT pL)
 · exact .inr (oT (by omega))
theorem fG (a b:List Int):a2 (a' a b)=a2 a*a2 b:=by
 rw[a',mJ]
 exact Bb (fun i _=>rfl) fun i h=>aaP (by omega)
theorem Bc (a:List Int) (c:Int):a2 (iw a c)=C c*a2 a:=by
 rw[iw,mJ,<-OY]
 congr 2;funext x;exact Int.mul_comm ..
theorem oU (a b:List Int):cl (dz a b):=pK _
theorem vL (a b:List Int):cl (jk a b):=pK _
theorem lJ (a b:List Int):cl (a' a b):=pK _
theorem OZ (a:List Int) (c:Int):cl (iw a c):=pK _
theorem O0 {f g:Nat->Int}:∀n m,(∀i,n<i->f i=0)->(∀i,m<i->g i=0)->conv (n+m) f g=f n*g m
 | 0,m,bc,aX=>by
   rw[Nat.zero_add]
   cases m with
   | zero=>rfl
   | succ m=>rw[conv,Gj m fun i _=> .inl (bc _ (by omega))];simp
 | n+1,m,bc,aX=>by
   rw[show n+1+m=n+m+1 by omega,conv,aX (n+m+1) (by omega),O0 (f:=fun i=>f (i+1)) n m (fun i ab=>bc _ (by omega)) aX]
   simp
def lead (a:List Int):Int:=a.getD (a.length - 1) 0
theorem pM {a:List Int} (h:cl a) (h2:a≠ []):lead a≠0:=h.resolve_left h2
theorem O1 {a b:List Int} (aA:a≠ []) (ad:b≠ []):conv (a.length+b.length - 2) (a2 a).c (a2 b).c=lead a*lead b:=by
 have U:=List.length_pos_iff.2 aA
 have h2:=List.length_pos_iff.2 ad
 rw[show a.length+b.length - 2=(a.length - 1)+(b.length - 1) by omega]
 exact O0 _ _ (fun i ab=>oT (by omega)) fun i ab=>oT (by omega)
theorem aaQ {l:List Int} (h:l.getD (l.length - 1) 0≠0):cl l:= .inr h
theorem O2 {a b:List Int} (aA:cl a) (ad:cl b) (dt:a≠ []) (cp:b≠ []):a' a b=(List.range (a.length+b.length - 1)).map fun i=>conv i (a2 a).c (a2 b).c:=by
 have U:=List.length_pos_iff.2 dt
 have h2:=List.length_pos_iff.2 cp
 refine A8 (aaQ ?_)
 rw[List.length_map,List.length_range,rU,if_pos (by omega),show a.length+b.length - 1 - 1=a.length+b.length - 2 by omega,O1 dt cp]
 exact Int.mul_ne_zero (pM aA dt) (pM ad cp)
theorem Bd {a b:List Int} (aA:cl a) (ad:cl b) (dt:a≠ []) (cp:b≠ []):(a' a b).length=a.length+b.length - 1:=by
 rw[O2 aA ad dt cp];simp
theorem O3 {a b:List Int} (aA:cl a) (ad:cl b) (dt:a≠ []) (cp:b≠ []):lead (a' a b)=lead a*lead b:=by
 have U:=List.length_pos_iff.2 dt
 have h2:=List.length_pos_iff.2 cp
 rw[lead,Bd aA ad dt cp,O2 aA ad dt cp,rU,if_pos (by omega),show a.length+b.length - 1 - 1=a.length+b.length - 2 by omega,O1 dt cp]
theorem vM (b:List Int):a' [] b= []:=kA (lJ _ _) (.inl rfl) (by rw[fG,mI];grind)
theorem vN (b:List Int):a' b []= []:=kA (lJ _ _) (.inl rfl) (by rw[fG,mI];grind)
theorem aaR {a b:List Int} (aA:cl a) (ad:cl b):a' a b= []↔a= []\/b= []:=by
 constructor
 · intro h
   refine Decidable.byContradiction fun ai=>?_
   have dt:a≠ []:=fun h=>ai (.inl h)
   have cp:b≠ []:=fun h=>ai (.inr h)
   have:=O3 aA ad dt cp
   rw[h] at this
   exact Int.mul_ne_zero (pM aA dt) (pM ad cp) this.symm
 · rintro (rfl|rfl)
   · exact vM b
   · exact vN a
def D (f:Ser):Ser:=⟨fun i=>f.c (i+1)*((i:Int)+1)⟩
theorem Gk (f g:Ser):D (f+g)=D f+D g:=by ext i;simp only[D,m9];grind
theorem O4 (c:Int) (f:Ser):D (C c*f)=C c*D f:=by ext i;simp only[D,mH];grind
theorem O5 (c:Int):D (C c)=0:=by ext i;simp[D,n6,A6]
theorem O6 (f:Ser):D (X*f)=f+X*D f:=by
 ext i
 simp only[D,m9,vI]
 cases i with
 | zero=>simp
 | succ i=>simp;grind
theorem O7 (b:Ser):∀a,D (a2 a*b)=D (a2 a)*b+a2 a*D b
 | []=>by rw[mI,show (0:Ser)*b=C 0*b from rfl,O4,show D (0:Ser)=0 from O5 0];show (0:Ser)*D b=_;grind
 | x::a=>by
   rw[oR,show (C x+X*a2 a)*b=C x*b+X*(a2 a*b) by grind,Gk,Gk,O4,O5,O6,O6,O7 b a]
   grind
def ea (p:List Int):List Int:=(List.range (p.length - 1)).map fun i=>p.getD (i+1) 0*((i:Int)+1)
theorem vO (p:List Int):a2 (ea p)=D (a2 p):=Bb (fun i _=>rfl) fun i h=>by
 simp only[D,lf];rw[oT (by omega)];simp
theorem Be {p:List Int} (h:cl p):cl (ea p):=by
 by_cases h2:p.length<=1
 · left;simp[ea];omega
 · right
   have aF:p≠ []:=fun h=>by simp[h] at h2
   have:=pM h aF
   rw[ea,List.length_map,List.length_range,rU,if_pos (by omega),show p.length - 1 - 1+1=p.length - 1 by omega]
   exact Int.mul_ne_zero this (by omega)
end
section
open Ser Lean.Grind
attribute [local instance] Lean.Grind.Ring.intCast
theorem aaS (l:List Int) (f:Nat->Int->Int) (bc:∀i,f i 0=0) (i:Nat):((List.range l.length).map fun k=>f k (l.getD k 0)).getD i 0=f i (l.getD i 0):=by
 rw[rU]
 split
 · rfl
 · rw[oT (by omega),bc]
def cM (c:Int):List Int->List Int
 | []=>[]
 | x::l=>dz (a' (cM c l) (strip [c,1])) (strip [x])
theorem Gl (x:Int):a2 (strip [x])=C x:=by rw[mJ,oR,mI];grind
theorem Gm (c:Int):a2 (strip [c,1])=C c+X:=by rw[mJ,oR,oR,mI,ON];grind
theorem yg (c:Int):∀l,a2 (cM c l)=ev (X+C c) l
 | []=>mI
 | x::l=>by
   rw[cM,l6,fG,yg c l,Gl,Gm,ev]
   show _=C x+_
   grind
theorem yh (c:Int):∀l,cl (cM c l)
 | []=> .inl rfl
 | _::_=>oU _ _
theorem aaT (c:Int) (a b:List Int):cM c (a' a b)=a' (cM c a) (cM c b):=by
 refine kA (yh _ _) (lJ _ _) ?_
 rw[yg,fG,yg,yg,eG (a:=a' a b) (b:=nJ a b) _ (by rw[fG,Ba]),ye]
def ic (l:List Int):List Int:=(List.range l.length).map fun i=>if i%2=1 then -l.getD i 0 else l.getD i 0
theorem Gn (l:List Int) (i:Nat):(ic l).getD i 0=if i%2=1 then -l.getD i 0 else l.getD i 0:=aaS l (fun i x=>if i%2=1 then -x else x) (fun i=>by simp) i
theorem O8 {R:Type} [CommRing R] (y:R):∀(s:Bool) (a b:List Int),(∀i,b.getD i 0=if (i%2=1)=(s=false) then -a.getD i 0 else a.getD i 0)->ev y b=(if s=true then -1 else 1)*ev (-y) a
 | s,[],b,h=>by
   rw[yf y b fun i=>by rw[h];simp];simp only[ev];grind
 | s,x::a,[],h=>by
   have:=yf (-y) (x::a) fun i=>by
    have:=h i
    rw[List.getD_nil] at this
    split at this<;>omega
   rw[this];simp only[ev];grind
 | s,x::a,z::b,h=>by
   have aD:=h 0
   have a8:=O8 y (!s) a b fun i=>by
    have:=h (i+1)
    simp only[List.getD_cons_succ] at this
    rw[this]
    cases s<;>simp<;>(split<;>split<;>first|rfl|omega)
   simp only[ev,a8]
   cases s
   · simp at aD|-;subst aD;grind
   · simp at aD|-;subst aD;rw[aaM];grind
theorem Gp {R:Type} [CommRing R] (y:R) (l:List Int):ev y (ic l)=ev (-y) l:=by
 have:=O8 y false l (ic l) fun i=>by rw[Gn];simp
 rw[this];simp;grind
theorem O9 (l:List Int):(ic l).length=l.length:=by simp[ic]
theorem Gq {l:List Int} (h:cl l):cl (ic l):=by
 rcases h with rfl|h
 · exact .inl rfl
 · right
   rw[O9,Gn]
   split<;>omega
theorem aaU {a b:List Int}:ic (a' a b)=a' (ic a) (ic b):=by
 refine kA (Gq (lJ _ _)) (lJ _ _) ?_
 rw[l5,Gp,fG,l5,Gp,l5,Gp,eG (a:=a' a b) (b:=nJ a b) _ (by rw[fG,Ba]),ye]
def fw (n:Nat) (l:List Int):List Int:=(List.range l.length).map fun i=>l.getD i 0*2^(n*(l.length - 1 - i))
theorem aaV (n:Nat) (l:List Int):(fw n l).length=l.length:=by simp[fw]
theorem Gr {n:Nat} {l:List Int} (h:cl l):cl (fw n l):=by
 rcases h with rfl|h
 · exact .inl rfl
 · right
   by_cases aD:l.length=0
   · rw[List.length_eq_zero_iff] at aD;subst aD;exact absurd rfl h
   · rw[aaV,fw,rU,if_pos (by omega)]
     exact Int.mul_ne_zero h (Int.ne_of_gt (Int.pow_pos (by decide)))
theorem O_ {R:Type} [CommRing R] (x:R) (y:Int):∀(m:Nat) (l:List Int),l.length<=m+1->al x (y:R) m l=ev x ((List.range l.length).map fun i=>l.getD i 0*y^(m - i))
 | m,[],_=>rfl
 | 0,[z],_=>by
   simp only[al,List.length_singleton,List.range_one,List.map_cons,List.map_nil,ev,List.getD_cons_zero,Nat.sub_self,Int.pow_zero,Int.mul_one]
   grind
 | 0,z::w::a,h=>by simp at h
 | m+1,z::l,h=>by
   rw[al,List.length_cons,List.range_succ_eq_map,List.map_cons,List.map_map,ev,Nat.add_sub_cancel,O_ x y m l (by simpa using h),A9,A_]
   congr 2
   congr 1
   refine List.map_congr_left fun i _=>?_
   simp
theorem Gs {R:Type} [CommRing R] (x:R) (n:Nat) (l:List Int):ev x (fw n l)=al x ((2^n:Int):R) (l.length - 1) l:=by
 rw[O_ _ _ _ _ (by omega),fw]
 congr 1
 refine List.map_congr_left fun i _=>?_
 rw[Int.pow_mul]
theorem O' {R:Type} [CommRing R] (x y:R) {a b:List Int} (aA:cl a) (ad:cl b):al x y ((a' a b).length - 1) (a' a b)=al x y (a.length - 1) a*al x y (b.length - 1) b:=by
 by_cases dt:a= []
 · subst dt;rw[vM];simp only[al];grind
 by_cases cp:b= []
 · subst cp;rw[vN];simp only[al];grind
 have U:=List.length_pos_iff.2 dt
 have h2:=List.length_pos_iff.2 cp
 rw[Bd aA ad dt cp,aaN (a:=a' a b) (b:=nJ a b) x y _ (by rw[fG,Ba]),show a.length+b.length - 1 - 1=(a.length - 1)+(b.length - 1) by omega,OX x y _ _ _ _ (by omega) (by omega)]
theorem aaW (n:Nat) {a b:List Int} (aA:cl a) (ad:cl b):fw n (a' a b)=a' (fw n a) (fw n b):=by
 refine kA (Gr (lJ _ _)) (lJ _ _) ?_
 rw[l5,Gs,fG,l5,Gs,l5,Gs,O' _ _ aA ad]
def fx (l:List Int):List Int:=strip l.reverse
theorem Pa {R:Type} [CommRing R] (y:R):∀(l:List Int),ev y l.reverse=al 1 y (l.length - 1) l
 | []=>rfl
 | z::l=>by
   rw[List.reverse_cons,OU,Pa y l,al,List.length_cons,List.length_reverse,Nat.add_sub_cancel]
   simp only[ev]
   by_cases h:l= []
   · subst h;simp only[List.length_nil,al];grind
   · have U:=List.length_pos_iff.2 h
     grind
theorem Gt (l:List Int):a2 (fx l)=al 1 X (l.length - 1) l:=by rw[fx,mJ,l5,Pa]
theorem Pb (l:List Int):cl (fx l):=pK _
theorem aaX {a b:List Int} (aA:cl a) (ad:cl b):fx (a' a b)=a' (fx a) (fx b):=by
 refine kA (Pb _) (lJ _ _) ?_
 rw[Gt,fG,Gt,Gt,O' _ _ aA ad]
def term (c:Int) (n:Nat):List Int:=strip (List.replicate n 0++ [c])
theorem Pc (c:Int) (n:Nat):a2 (term c n)=mono n c:=by
 rw[term,mJ,OQ,OR,List.length_replicate,oR,mI,vJ];grind
def n8 (b:List Int):Nat->List Int × List Int->List Int × List Int
 | 0,s=>s
 | k+1,(q,r)=>n8 b k (dz (iw q (lead b)) (term (r.getD (k+(b.length - 1)) 0) k),jk (iw r (lead b)) (a' (term (r.getD (k+(b.length - 1)) 0) k) b))
theorem Pd (n:Nat) (z:Int) (f:Ser) (i:Nat):(mono n z*f).c i=if i<n then 0 else z*f.c (i - n):=by
 induction n generalizing i with
 | zero=>rw[OO,mH];simp
 | succ n a8=>
   rw[<-OP,show X*mono n z*f=X*(mono n z*f) by grind,vI]
   cases i with
   | zero=>simp
   | succ i=>simp[a8]
theorem Pe {l:List Int} (h:cl l) {n:Nat} (ai:∀i,n<=i->(a2 l).c i=0):l.length<=n:=by
 refine Nat.le_of_not_lt fun ay=>?_
 rcases h with rfl|h
 · simp at ay
 · exact h (ai _ (by omega))
theorem yi {l:List Int} {i:Nat} (h:l.length<=i):(a2 l).c i=0:=oT h
theorem Pf {b:List Int} (cp:b≠ []):∀(k:Nat) (q r:List Int),cl q->cl r->r.length<=k+(b.length - 1)->
 cl (n8 b k (q,r)).1/\cl (n8 b k (q,r)).2/\(n8 b k (q,r)).2.length<=b.length - 1/\
 a2 (n8 b k (q,r)).1*a2 b+a2 (n8 b k (q,r)).2=C (lead b^k)*(a2 q*a2 b+a2 r)
 | 0,q,r,aM,aR,ay=>by
   refine⟨aM,aR,by simpa[n8] using ay,?_⟩
   show a2 q*a2 b+a2 r=_
   rw[Int.pow_zero,ON];grind
 | k+1,q,r,aM,aR,ay=>by
   have U:=List.length_pos_iff.2 cp
   have e:a2 (jk (iw r (lead b)) (a' (term (r.getD (k+(b.length - 1)) 0) k) b))=C (lead b)*a2 r - mono k (r.getD (k+(b.length - 1)) 0)*a2 b:=by
    rw[vK,Bc,fG,Pc]
   have av:a2 (dz (iw q (lead b)) (term (r.getD (k+(b.length - 1)) 0) k))=C (lead b)*a2 q+mono k (r.getD (k+(b.length - 1)) 0):=by
    rw[l6,Bc,Pc]
   have a8:=Pf cp k _ _ (oU (iw q (lead b)) (term (r.getD (k+(b.length - 1)) 0) k)) (vL (iw r (lead b)) (a' (term (r.getD (k+(b.length - 1)) 0) k) b)) (Pe (vL _ _) fun i ab=>by
    rw[e,OJ,mH,Pd]
    by_cases my:i=k+(b.length - 1)
    · subst my
      rw[if_neg (by omega),show k+(b.length - 1) - k=b.length - 1 by omega]
      show lead b*(a2 r).c _ - r.getD _ 0*(a2 b).c _=0
      rw[lf,lf,lead,Int.mul_comm];omega
    · rw[yi (by omega),if_neg (by omega),yi (by omega)];simp)
   refine⟨a8.1,a8.2.1,a8.2.2.1,?_⟩
   show a2 (n8 b k _).1*a2 b+a2 (n8 b k _).2=_
   rw[a8.2.2.2,e,av,Int.pow_succ,yb]
   grind
def exact (a b:Int):Option Int:=if b≠0/\b∣a then some (a/b) else none
def vP (b:List Int):Nat->List Int × List Int->Option (List Int × List Int)
 | 0,s=>some s
 | k+1,(q,r)=>(exact (r.getD (k+(b.length - 1)) 0) (lead b)).bind fun c=>vP b k (dz q (term c k),jk r (a' (term c k) b))
def Gu (a b:List Int):Option (List Int):=
 if b= [] then none else (vP b (a.length+1 - b.length) ([],a)).bind fun(q,r)=>if r= [] then some q else none
theorem Pg {b:List Int}:∀(k:Nat) (q r:List Int) (s:List Int × List Int),cl q->cl r->vP b k (q,r)=some s->cl s.1/\cl s.2/\a2 s.1*a2 b+a2 s.2=a2 q*a2 b+a2 r
 | 0,q,r,s,aM,aR,h=>by cases h;exact ⟨aM,aR,rfl⟩
 | k+1,q,r,s,aM,aR,h=>by
   rw[vP,Option.bind_eq_some_iff] at h
   obtain⟨c,J,h⟩:=h
   have a8:=Pg k _ _ s (oU _ _) (vL _ _) h
   refine⟨a8.1,a8.2.1,?_⟩
   rw[a8.2.2,l6,vK,fG]
   grind
end
section
open Ser Lean.Grind
def b6 (p:List Int):Nat:=p.foldl (fun g c=>Nat.gcd g c.natAbs) 0
theorem Gv:∀(p:List Int) (g:Nat),p.foldl (fun g c=>Nat.gcd g c.natAbs) g=Nat.gcd g (b6 p)
 | [],g=>by simp[b6]
 | x::p,g=>by
   rw[b6,List.foldl_cons,List.foldl_cons,Gv p,Gv p,Nat.gcd_zero_left,Nat.gcd_assoc]
theorem vQ:b6 []=0:=rfl
theorem Gw (x:Int) (p:List Int):b6 (x::p)=Nat.gcd x.natAbs (b6 p):=by
 rw[b6,List.foldl_cons,Nat.gcd_zero_left,Gv]
theorem tG {d:Nat}:∀ {p:List Int},d∣b6 p↔∀i,(d:Int)∣p.getD i 0
 | []=>by simp[vQ]
 | x::p=>by
   rw[Gw,Nat.dvd_gcd_iff,tG (p:=p),<-Int.ofNat_dvd_left]
   constructor
   · rintro ⟨h,k⟩ i
     cases i with
     | zero=>exact h
     | succ i=>exact k i
   · exact fun h=>⟨h 0,fun i=>h (i+1)⟩
theorem tH (p:List Int) (i:Nat):(b6 p:Int)∣p.getD i 0:=tG.1 (Nat.dvd_refl _) i
theorem aaY {p:List Int} (i:Nat) (h:p.getD i 0≠0):b6 p<=(p.getD i 0).natAbs:=Nat.le_of_dvd (by omega) (Int.ofNat_dvd_left.1 (tH p i))
theorem Ph {p:List Int}:b6 p=0↔∀i,p.getD i 0=0:=by
 constructor
 · intro h i
   have:=tH p i
   rw[h] at this
   simpa using this
 · intro h
   have:b6 p∣0/\0∣b6 p:=⟨Nat.dvd_zero _,tG.2 fun i=>by rw[h];exact Int.dvd_refl _⟩
   exact Nat.eq_zero_of_zero_dvd this.2
theorem vR {p:List Int} (h:cl p) (aD:p≠ []):0<b6 p:=by
 refine Nat.pos_of_ne_zero fun aq=>?_
 exact pM h aD (Ph.1 aq _)
theorem aaZ {a b:List Int} (h:a2 a=a2 b):b6 a=b6 b:=by
 have J:∀i,a.getD i 0=b.getD i 0:=fun i=>congrArg (fun s=>s.c i) h
 exact Nat.dvd_antisymm (tG.2 fun i=>by rw[<-J];exact tH a i) (tG.2 fun i=>by rw[J];exact tH b i)
theorem aa0 (c:Int) (a:List Int):b6 (a.map fun x=>c*x)=c.natAbs*b6 a:=by
 induction a with
 | nil=>rfl
 | cons x a a8=>rw[List.map_cons,Gw,a8,Gw,Int.natAbs_mul,Nat.gcd_mul_left]
def tI (c:Int) (p:List Int):List Int:=p.map fun x=>x/c
theorem Pj (c:Int) (p:List Int):(tI c p).length=p.length:=by simp[tI]
theorem yj (c:Int) (p:List Int) (i:Nat):(tI c p).getD i 0=p.getD i 0/c:=by
 simp only[tI,List.getD_eq_getElem?_getD,List.getElem?_map]
 cases p[i]? <;>simp
theorem aa1 {c:Int} {p:List Int} (h:∀i,c∣p.getD i 0):C c*a2 (tI c p)=a2 p:=by
 ext i
 rw[mH,lf,lf,yj]
 exact Int.mul_ediv_cancel' (h i)
theorem aa2 {c:Int} {p:List Int} (aF:cl p) (h:∀i,c∣p.getD i 0):cl (tI c p):=by
 rcases aF with rfl|aF
 · exact .inl rfl
 · right
   rw[Pj,yj]
   intro aD
   have:=Int.mul_ediv_cancel' (h (p.length - 1))
   rw[aD] at this
   simp at this
   exact aF this.symm
def fH (p:List Int):Int:=if lead p<0 then -(b6 p:Int) else b6 p
theorem rV (p:List Int):(fH p).natAbs=b6 p:=by rw[fH];split<;>omega
theorem Bf (p:List Int) (i:Nat):fH p∣p.getD i 0:=by
 have:=tH p i
 rw[fH];split
 · exact Int.neg_dvd.2 this
 · exact this
def dc (p:List Int):List Int:=tI (fH p) p
theorem oV (p:List Int):C (fH p)*a2 (dc p)=a2 p:=aa1 (Bf p)
theorem Pk {p:List Int} (h:cl p):cl (dc p):=aa2 h (Bf p)
theorem yk (p:List Int):(dc p).length=p.length:=Pj _ _
theorem Gx {p:List Int} (h:cl p) (aD:p≠ []):fH p≠0:=by
 have:=vR h aD
 rw[fH];split<;>omega
theorem Pl {a p:List Int} {c:Int} (h:a2 p=C c*a2 a):b6 p=c.natAbs*b6 a:=by
 rw[aaZ (b:=a.map fun x=>c*x) (by rw[h,OY]),aa0]
theorem Gy {p:List Int} (h:cl p) (aD:p≠ []):b6 (dc p)=1:=by
 have:=Pl (oV p).symm
 rw[rV] at this
 have:=vR h aD
 exact Nat.eq_of_mul_eq_mul_left this (by omega)
theorem aa3 {p:List Int} (h:cl p) (aD:p≠ []):0<lead (dc p):=by
 have e:lead p=fH p*lead (dc p):=by
  rw[lead,lead,yk,dc,yj]
  exact (Int.mul_ediv_cancel' (Bf p _)).symm
 have U:=pM h aD
 have h2:=vR h aD
 rw[fH] at e
 split at e
 · refine Int.lt_of_not_ge fun ai=>?_
   have:=Int.mul_nonneg (a:= -(-(b6 p:Int))) (b:= -lead (dc p)) (by omega) (by omega)
   grind
 · refine Int.lt_of_not_ge fun ai=>?_
   have:=Int.mul_nonneg (a:=(b6 p:Int)) (b:= -lead (dc p)) (by omega) (by omega)
   have:lead p<=0:=by grind
   omega
def tJ (p:Nat):Prop:=2<=p/\∀d,d∣p->d=1\/d=p
theorem aa4:∀(n:Nat),2<=n->∃p,tJ p/\p∣n:=by
 intro n
 induction n using Nat.strongRecOn with
 | _ n a8=>
   intro h
   by_cases aF:tJ n
   · exact ⟨n,aF,Nat.dvd_refl _⟩
   · have:∃d,d∣n/\d≠1/\d≠n:=Classical.byContradiction fun ai=>aF ⟨h,fun d a3=>Classical.byContradiction fun J=>ai ⟨d,a3,fun e=>J (.inl e),fun e=>J (.inr e)⟩⟩
     obtain⟨d,a3,U,h2⟩:=this
     have:=Nat.le_of_dvd (by omega) a3
     have:d≠0:=fun e=>by subst e;rw[Nat.zero_dvd] at a3;omega
     obtain⟨p,aF,Gz⟩:=a8 d (by omega) (by omega)
     exact ⟨p,aF,Nat.dvd_trans Gz a3⟩
theorem tJ.dvd_mul {p a b:Nat} (aF:tJ p) (h:p∣a*b):p∣a\/p∣b:=by
 rcases aF.2 _ (Nat.gcd_dvd_left p a) with U|U
 · exact .inr (Nat.Coprime.dvd_of_dvd_mul_left U h)
 · left;rw[<-U];exact Nat.gcd_dvd_right p a
theorem tJ.aa5 {p:Nat} {a b:Int} (aF:tJ p) (h:(p:Int)∣a*b):(p:Int)∣a\/(p:Int)∣b:=by
 rw[Int.ofNat_dvd_left,Int.natAbs_mul] at h
 rw[Int.ofNat_dvd_left,Int.ofNat_dvd_left]
 exact aF.dvd_mul h
theorem Pm {p:Nat} {f:Nat->Int} (h:∃i,¬(p:Int)∣f i):∃i,¬(p:Int)∣f i/\∀j,j<i->(p:Int)∣f j:=by
 obtain⟨i,ab⟩:=h
 induction i using Nat.strongRecOn with
 | _ i a8=>
   by_cases aC:∃j,j<i/\¬(p:Int)∣f j
   · obtain⟨j,aC,ai⟩:=aC
     exact a8 j aC ai
   · exact ⟨i,ab,fun j re=>Classical.byContradiction fun ai=>aC ⟨j,re,ai⟩⟩
theorem Pn {p:Int} {f g:Nat->Int}:∀n,(∀i,i<=n->p∣f i\/p∣g (n - i))->p∣conv n f g
 | 0,h=>by
   rcases h 0 (Nat.le_refl _) with h|h
   · exact Int.dvd_mul_of_dvd_left h
   · exact Int.dvd_mul_of_dvd_right h
 | n+1,h=>by
   rw[conv]
   refine Int.dvd_add ?_ (Pn n fun i ab=>by have:=h (i+1) (by omega);rwa [show n+1 -(i+1)=n - i by omega] at this)
   rcases h 0 (by omega) with h|h
   · exact Int.dvd_mul_of_dvd_left h
   · exact Int.dvd_mul_of_dvd_right h
theorem Po {p:Int} {f g:Nat->Int}:∀n m,(∀i,i<n->p∣f i)->(∀i,i<m->p∣g i)->p∣conv (n+m) f g - f n*g m
 | 0,m,bc,aX=>by
   rw[Nat.zero_add]
   cases m with
   | zero=>rw[conv];simp
   | succ m=>
     rw[conv,show f 0*g (m+1)+conv m (fun i=>f (i+1)) g - f 0*g (m+1)=conv m (fun i=>f (i+1)) g by omega]
     exact Pn m fun i _=> .inr (aX _ (by omega))
 | n+1,m,bc,aX=>by
   rw[show n+1+m=n+m+1 by omega,conv]
   have a8:=Po (p:=p) (f:=fun i=>f (i+1)) n m (fun i ab=>bc _ (by omega)) aX
   have aD:p∣f 0*g (n+m+1):=Int.dvd_mul_of_dvd_left (bc 0 (by omega))
   have:=Int.dvd_add aD a8
   rwa [<-Int.add_sub_assoc] at this
theorem aa6 {a b:List Int} (aA:b6 a=1) (ad:b6 b=1):b6 (a' a b)=1:=by
 refine Classical.byContradiction fun ai=>?_
 have aD:b6 (a' a b)≠0\/b6 (a' a b)=0:=by omega
 have:∃p,tJ p/\p∣b6 (a' a b):=by
  by_cases aq:b6 (a' a b)=0
  · exact ⟨2,⟨Nat.le_refl _,fun d a3=>by have:=Nat.le_of_dvd (by decide) a3;rcases d with _|_|_|d<;>simp_all⟩,by rw[aq];exact Nat.dvd_zero _⟩
  · exact aa4 _ (by omega)
 obtain⟨p,aF,a3⟩:=this
 have aux:∀ {l:List Int},b6 l=1->∃i,¬(p:Int)∣l.getD i 0:=fun {l} ay=>Classical.byContradiction fun J=>by
  have:p∣b6 l:=tG.2 fun i=>Classical.byContradiction fun ai=>J ⟨i,ai⟩
  rw[ay,Nat.dvd_one] at this
  have:=aF.1;omega
 obtain⟨i,ab,my⟩:=Pm (aux aA)
 obtain⟨j,aC,aa7⟩:=Pm (aux ad)
 have U:=Po (p:=p) (f:=fun i=>a.getD i 0) (g:=fun i=>b.getD i 0) i j my aa7
 have h2:(p:Int)∣conv (i+j) (fun i=>a.getD i 0) (fun i=>b.getD i 0):=by
  have aB:=tG.1 a3 (i+j)
  have:(a' a b).getD (i+j) 0=(a2 a*a2 b).c (i+j):=by rw[<-fG];rfl
  rwa [this] at aB
 have aS:=Int.dvd_sub h2 U
 rw[Int.sub_sub_self] at aS
 rcases aF.aa5 aS with h|h
 · exact ab h
 · exact aC h
theorem Pp {a b:List Int} (aA:cl a) (ad:cl b):b6 (a' a b)=b6 a*b6 b:=by
 by_cases dt:a= []
 · subst dt;rw[vM,vQ,Nat.zero_mul]
 by_cases cp:b= []
 · subst cp;rw[vN,vQ,Nat.mul_zero]
 have h:=aa6 (Gy aA dt) (Gy ad cp)
 have e:a2 (a' a b)=C (fH a*fH b)*a2 (a' (dc a) (dc b)):=by
  rw[fG,fG,yb,<-oV a,<-oV b]
  rw[oV,oV,<-oV a,<-oV b]
  generalize a2 (dc a)=u
  generalize a2 (dc b)=v
  grind
 rw[Pl e,h,Int.natAbs_mul,rV,rV,Nat.mul_one]
theorem aa8 {x y:Int} (ae:x≠0) (aN:y≠0):(x*y<0)↔(decide (x<0)≠decide (y<0)):=by
 rcases Int.lt_or_gt_of_ne ae with h|h<;>rcases Int.lt_or_gt_of_ne aN with h2|h2
 · have:=Int.mul_pos_of_neg_of_neg h h2;simp[h,h2];omega
 · have:=Int.mul_neg_of_neg_of_pos h h2;simp[h,this,Int.not_lt.2 (Int.le_of_lt h2)]
 · have:=Int.mul_neg_of_pos_of_neg h h2;simp[h2,this,Int.not_lt.2 (Int.le_of_lt h)]
 · have:=Int.mul_pos h h2;simp[Int.not_lt.2 (Int.le_of_lt h),Int.not_lt.2 (Int.le_of_lt h2)];omega
theorem Pq {a b:List Int} (aA:cl a) (ad:cl b) (dt:a≠ []) (cp:b≠ []):fH (a' a b)=fH a*fH b:=by
 have h:=aa8 (pM aA dt) (pM ad cp)
 rw[fH,Pp aA ad,O3 aA ad dt cp,fH,fH]
 by_cases U:lead a<0<;>by_cases h2:lead b<0<;>simp only[U,h2,decide_true,decide_false] at h<;>simp[h,U,h2]<;>grind
theorem aa9 {c:Int} (J:c≠0) {f g:Ser} (h:C c*f=C c*g):f=g:=by
 ext i
 have:=congrArg (fun s=>s.c i) h
 simp only[mH] at this
 exact Int.eq_of_mul_eq_mul_left J this
theorem aba {a b:List Int} (aA:cl a) (ad:cl b):dc (a' a b)=a' (dc a) (dc b):=by
 by_cases dt:a= []
 · subst dt;rw[vM,show dc []= [] from rfl,vM]
 by_cases cp:b= []
 · subst cp;rw[vN,show dc []= [] from rfl,vN]
 refine kA (Pk (lJ _ _)) (lJ _ _) ?_
 have aD:fH (a' a b)≠0:=by rw[Pq aA ad dt cp];exact Int.mul_ne_zero (Gx aA dt) (Gx ad cp)
 refine aa9 aD ?_
 rw[oV,fG,fG,Pq aA ad dt cp,yb]
 have U:=oV a
 have h2:=oV b
 generalize a2 (dc a)=u at*
 generalize a2 (dc b)=v at*
 rw[<-U,<-h2]
 grind
end
section
open Ser Lean.Grind
def cQ (q:Rat) (p:List Int):Rat:=ev q p
def lK (n d:Int) (p:List Int):Int:=al n d (p.length - 1) p
theorem Pr (x y:Int):∀n p,((al x y n p:Int):Rat)=al (x:Rat) (y:Rat) n p
 | n,[]=>rfl
 | n,c::p=>by
   show ((c*y^n+x*al x y (n - 1) p:Int):Rat)=(c:Rat)*(y:Rat)^n+(x:Rat)*al (x:Rat) (y:Rat) (n - 1) p
   rw[Rat.intCast_add,Rat.intCast_mul,Rat.intCast_mul,Pr x y _ p]
   congr 2
   exact A_ (R:=Rat) y n
theorem Ps {R:Type} [CommRing R] (x y q:R) (h:x=q*y):∀n p,p.length<=n+1->al x y n p=y^n*ev q p
 | n,[],_=>by simp only[al,ev];grind
 | 0,[z],_=>by simp only[al,ev];grind
 | 0,z::w::a,h=>by simp at h
 | n+1,z::p,ay=>by
   rw[al,Nat.add_sub_cancel,Ps x y q h n p (by simpa using ay),ev,h]
   grind
theorem abb (q:Rat):(q.den:Int)≠0:=by have:=q.den_pos;omega
theorem Pt (q:Rat):((q.den:Int):Rat)≠0:=by
 intro h;exact abb q (Rat.intCast_inj.1 (by rw[h];rfl))
theorem Pu (q:Rat):((q.num:Int):Rat)=q*((q.den:Int):Rat):=by
 have h:=Rat.num_divInt_den q
 rw[Rat.divInt_eq_div] at h
 have:=Pt q
 generalize ((q.den:Int):Rat)=d at*
 generalize ((q.num:Int):Rat)=n at*
 subst h
 grind
theorem Pv (q:Rat) (p:List Int):((lK q.num q.den p:Int):Rat)=((q.den:Int):Rat)^(p.length - 1)*cQ q p:=by
 rw[lK,Pr,cQ,Ps _ _ q (Pu q) _ _ (by omega)]
theorem Pw {d:Rat} (h:d≠0):∀n:Nat,d^n≠0
 | 0=>by rw[Semiring.pow_zero];decide
 | n+1=>by
   have:=Pw h n
   rw[Semiring.pow_succ]
   grind
theorem Px (a:Int):∀n:Nat,((a^n:Int):Rat)=(a:Rat)^n:=A_ (R:=Rat) a
theorem GA (q:Rat) (p:List Int):Rat.divInt (lK q.num q.den p) ((q.den:Int)^(p.length - 1))=cQ q p:=by
 rw[Rat.divInt_eq_div,Pv,Px]
 have:=Pw (Pt q) (p.length - 1)
 generalize ((q.den:Int):Rat)^(p.length - 1)=d at*
 grind
def GB (z:Int):Int:=if z=0 then 0 else if z<0 then -1 else 1
theorem abc (q:Rat) (p:List Int):GB (lK q.num q.den p)=GB (cQ q p).num:=by
 have h:=Pv q p
 have aF:((q.den:Int):Rat)^(p.length - 1)=((((q.den:Int)^(p.length - 1)):Int):Rat):=(Px _ _).symm
 rw[aF] at h
 have a3:0<(q.den:Int)^(p.length - 1):=Int.pow_pos (by have:=q.den_pos;omega)
 generalize (q.den:Int)^(p.length - 1)=d at*
 generalize lK q.num q.den p=v at*
 generalize cQ q p=w at*
 have e:w=Rat.divInt v d:=by
  rw[Rat.divInt_eq_div]
  have:((d:Int):Rat)≠0:=fun h=>by have:=(Rat.intCast_inj (a:=d) (b:=0)).1 (by rw[h];rfl);omega
  grind
 have av:w.num*d=v*w.den:=by
  have U:=Pu w
  have h2:(((w.num*d:Int)):Rat)=((v*(w.den:Int):Int):Rat):=by
   rw[Rat.intCast_mul,Rat.intCast_mul,U,h];grind
  exact Rat.intCast_inj.1 h2
 have aB:0<(w.den:Int):=by have:=w.den_pos;omega
 simp only[GB]
 have s1:w.num=0↔v=0:=by
  constructor
  · intro h;rw[h,Int.zero_mul] at av
    exact (Int.mul_eq_zero.1 av.symm).resolve_right (by omega)
  · intro h;rw[h,Int.zero_mul] at av
    exact (Int.mul_eq_zero.1 av).resolve_right (by omega)
 have s2:w.num<0↔v<0:=by
  constructor
  · intro h
    have:=Int.mul_neg_of_neg_of_pos h a3
    refine Int.lt_of_not_ge fun al=>?_
    have:=Int.mul_nonneg al (Int.le_of_lt aB)
    omega
  · intro h
    have:=Int.mul_neg_of_neg_of_pos h aB
    refine Int.lt_of_not_ge fun al=>?_
    have:=Int.mul_nonneg al (Int.le_of_lt a3)
    omega
 simp only[s1,s2]
theorem GC (q:Rat) {a b:List Int} (h:a2 a=a2 b):cQ q a=cQ q b:=eG q h
theorem Py (q:Rat) (a b:List Int):cQ q (dz a b)=cQ q a+cQ q b:=by
 rw[GC (b:=n7 a b) q (by rw[l6,aaO])];exact A' q a b
theorem abd (q:Rat) (a b:List Int):cQ q (a' a b)=cQ q a*cQ q b:=by
 rw[GC (b:=nJ a b) q (by rw[fG,Ba])];exact ye q a b
theorem abe (q:Rat) (a b:List Int):cQ q (jk a b)=cQ q a - cQ q b:=by
 have h:dz (jk a b) b=strip a:=kA (oU _ _) (pK _) (by rw[l6,vK,mJ];grind)
 have h2:=Py q (jk a b) b
 rw[h,GC (b:=a) q (mJ a)] at h2
 grind
end
section
set_option maxHeartbeats 8000000
open Go Go.Eng Go.RowKit
attribute [local simp] aU.m aU.o aU.n aU.g eZ ej cR cx cW evalOp.eq_1 evalOp.eq_2 evalOp.eq_3 evalOp.eq_4 evalOp.eq_5 evalOp.eq_6 evalOp.eq_7 evalOp.eq_8 evalOp.eq_9 evalOp.eq_10 evalOp.eq_11 evalOp.eq_12 evalOp.eq_13 evalOp.eq_14 evalOp.eq_15 evalOp.eq_16 evalOp.eq_17 evalOp.eq_18 evalOp.eq_19 evalOp.eq_20 evalOp.eq_21 evalOp.eq_22 evalOp.eq_23 evalOp.eq_24 evalOp.eq_25 evalOp.eq_27 evalOp.eq_28 evalOp.eq_29 h7 aT.ev cw au ah.new dM I.cells I.ca I.dK I.dQ ga gd gb gf gh gg hr hs ht fi fj cut partOf bound elems hx hy hz hA hB hC hD hE hF hG hH hI fs hJ hK hL hM hN hO hP hQ hR hS hT hU hV hW hX hY hZ h0 h1 h3 h4 h5 h6 ei ec dE eT gj fA ah.close ah.set fQ h8 h9 h_ hv fB e0 eJ dj eV fM fm eW fN fO fP eQ eR eS eP gk bj fK gl fL gm gn eH gp eI gq gr gu ff hq gv gw gx gy gz gA gB gC gD gE gF gG gH gI gJ gK gL gM gN fl gO gP gQ gR gS gT gU gV gW gX gY gZ g0 g1 g2
attribute [local simp high] hn ho hp g3 g4 g5 g6 g7 g8 g9 g_ g' ha hb hc hd hf hg hh hi hj hk hl
attribute [local simp] aD List.getElem?_cons_zero List.getElem?_cons_succ dp cB e5 Nat.mod_eq_of_lt ij ik il im e_ iq ir iu
section
attribute [local irreducible] ba
attribute [local simp] cY cI cm
noncomputable def Pz:FuncId->Option (List I->Option I):=cf [(87,lY)]
theorem Bg:∀f T,Pz f=some T->aH Tryz.prog G f T:=cg (by simp only[List.forall_mem_cons];exact ⟨ti,fun _ h=>absurd h (by simp)⟩)
theorem abf:Pz 87=some lY:=rfl
attribute [local simp] abf
theorem abg:∃e,Tryz.prog.underlying 22=some (.slice e):=by
 have h:z1 (Tryz.prog.underlying 22)=true:=by kernel_rfl
 unfold z1 at h
 split at h
 · rename_i e he;exact ⟨e,he⟩
 · cases h
theorem PA (w:World) (A:Option Addr) (c:Nat):Sem.run Tryz.prog (binOp BinOp.eql 22 (Value.slice A 0 c) (Value.slice none 0 0)) w= .ok (.bool A.isNone) w:=by
 obtain⟨e,hu⟩:=abg
 have ao:(Op.equal 22 (.slice A 0 c) (.slice none 0 0)).run Tryz.prog w= .ok A.isNone w:=by
  unfold Op.equal Op.maxDepth Op.equalIn
  cases A<;>simp[run_underlying hu]
 show (do pure (.bool (<-Op.equal 22 (.slice A 0 c) (.slice none 0 0))):Sem Value).run Tryz.prog w=_
 simp[ao]
theorem abh (w:World) (R:Ending->World->Prop) (c:Nat) (h:R (.returned (.slice none 0 0)) w):Calls Tryz.prog 118 #[.slice none 0 c] w R:=by
 have ao:=fun w=>PA w none c
 simp only[Option.isNone_none] at ao
 go_enter Tryz.func118,Tryz.ntmps118
 go_wp2
 exact h
theorem abi (w:World) (R:Ending->World->Prop) (A:Addr) (c:Nat) (h:∀t,R (.returned (.slice (some ⟨w.heap.size,0,none⟩) 0 0)) (w.alloc (.cells #[] t))):Calls Tryz.prog 118 #[.slice (some A) 0 c] w R:=by
 have ao:=fun w=>PA w (some A) c
 simp only[Option.isNone_some] at ao
 go_enter Tryz.func118,Tryz.ntmps118
 go_wp2
 exact h _
def PB:List I->Option I
 | [.sl [] _]=>some (.sl [] false)
 | _=>none
theorem abj:aH Tryz.prog G 118 PB:=by
 intro args v cA ok w dh c6 fr qg
 unfold PB at cA
 split at cA<;>try(cases cA;done)
 rename_i e
 cases cA
 have aw:dh.size=1:=by simpa using c6
 obtain⟨x,rfl⟩:∃x,dh= #[x]:=by
  match dh,aw with
  | ⟨[x]⟩,_=>exact ⟨x,rfl⟩
 have aD:=fr 0 (by simp) (by simp)
 simp only[List.getElem_cons_zero] at aD
 refine .inl ⟨zn Tryz.func118 rfl (by decide) _ _,?_⟩
 cases aD with
 | sl _ _ A c _ _ _ _ _ _ _ _=>
   cases A with
   | none=>exact abh _ _ _ ⟨_,rfl,z2 _ _ _,Below.refl _ _⟩
   | some A=>exact abi _ _ _ _ fun t=>⟨_,rfl,z2 _ _ _,(Below.refl _ _).alloc (Nat.le_refl _) _⟩
theorem abk:aH Tryz.prog G 118 (a9 (fun l:List Int=>l≠ []/\l.length<=1000000) (fun l=>[ax l false]) (fun l=>ax l false)):=by
 refine bf mixed Bg Ea fun l aq=>?_
 obtain⟨ai,ay⟩:=aq
 have U:0<l.length:=List.length_pos_iff.2 ai
 have ap:=rm (bH.nil (sz:=2) (h:=aD) (by simp[aD])) (by decide) (bytes:=32) (by decide) (ys:=l.map fun z=>aj z) (by simpa using U) (by simp[I.cells,I.ca]) (by simp;omega)
 simp only[aD,List.length_nil,Nat.zero_add,List.length_map,List.nil_append] at ap
 unfold i118
 refine aJ [0,2,4] fun F K=>?_
 obtain⟨f0,f2,f4⟩:=K
 have H:=bs U ap
 have K:=bA f0 f2 f4;clear f0 f2 f4
 refine bB [0,2,4] fun F k=>?_;clear K H
 obtain⟨f0,f2,f4⟩:=k
 rw[List.take_of_length_le (by simp)]
 simp
noncomputable def tK:List I->Option I:=a9 (fun l:List Int=>l.length<=1000000) (fun l=>[ax l false]) (fun l=>ax l false)
theorem PC (l:List Int) (ay:l.length<=1000000) {args:List I} (he:args.map I.loose= [ax l false]):tK args=some (ax l false):=
 bk (fun z w h=>by simp only[List.cons.injEq,bS,and_true] at h;simp[h]) l ay he
theorem PD:aH Tryz.prog G 118 tK:=
 L3 abj abk fun args v cA=>by
  unfold tK a9 at cA
  obtain⟨l,U,h2,rfl⟩:=uY cA
  by_cases ai:l= []
  · subst ai
    left
    match args,h2 with
    | [],h2=>simp at h2
    | _::_::_,h2=>simp at h2
    | [x],h2=>
      simp only[List.map_cons,List.map_nil,List.cons.injEq,and_true] at h2
      obtain⟨e,rfl⟩:=L6 h2.symm
      rfl
  · right
    exact bk (fun z w h=>by simp only[List.cons.injEq,bS,and_true] at h;simp[h]) l ⟨ai,U⟩ h2.symm
theorem pN {l:List Int} {i:Nat} (h:i<l.length):(l.map fun z=>aj z)[i]? =some (aj (l.getD i 0)):=by
 simp[h,List.getD_eq_getElem?_getD]
noncomputable def Bh:List I->Option I:=a9 (fun z:List Int × Nat=>z.2<4611686018427387904/\z.1.length<=1000000) (fun z=>[ax z.1 false,aK z.2]) (fun z=>aj (z.1.getD z.2 0))
theorem PE (z:List Int × Nat) (h:z.2<4611686018427387904/\z.1.length<=1000000) {args:List I} (he:args.map I.loose= [ax z.1 false,aK z.2]):Bh args=some (aj (z.1.getD z.2 0)):=bk (fun z w h=>by simp only[List.cons.injEq,I.int.injEq,I.bool.injEq,I.sl.injEq,bX,bU,bS,b4,b2,bo,bE,bZ,bj,true_and,and_true] at h;simp[h]) z h he
theorem abl:aH Tryz.prog G 208 Bh:=by
 refine bf mixed Bg U7 fun z aq=>?_
 obtain⟨l,i⟩:=z
 obtain⟨ab,ay⟩:=aq
 simp only at ab ay|-
 unfold i208
 by_cases h:i<l.length
 · have g:=pN h
   generalize l.getD i 0=c at*
   refine aJ [0,1,4,8] fun F K=>?_
   obtain⟨f0,f1,f4,f8⟩:=K
   have H:=bs h g
   have K:=bN f0 f1 f4 f8;clear f0 f1 f4 f8
   exact a4 [0,1,4,8]
 · have e:l.getD i 0=0:=by simp[List.getD_eq_getElem?_getD,show l.length<=i by omega]
   rw[e]
   have dC:aa 0= []:=eE
   have dv:a7 0=false:=rfl
   refine aJ [0,1,4,8] fun F K=>?_
   obtain⟨f0,f1,f4,f8⟩:=K
   have H:=h
   have K:=bN f0 f1 f4 f8;clear f0 f1 f4 f8
   repeat' (first|refine dU ?_|refine dV ?_|((first|refine eL ?_|refine eM ?_|refine eN ?_|exact dX|refine dW ?_);try(refine ew [0,1,4,8] fun F k=>?_;replace K:=k;clear k))|(refine dY (fun J=>?_) (fun J=>?_)<;>first|(exfalso;simp(disch:=omega) [H] at J;done)|(exfalso;simp at J;omega)|simp at J)|((first|refine b3 ?_|refine c_ ?_);simp(disch:=omega) [H,K,dC,dv])|exact trivial)
   all_goals obtain⟨f0,f1,f4,f8⟩:=K
theorem abm {n:Nat} (h:n<=1000000):IntKind.i64.wrap (Z n - Z 1)=(n:Int) - 1:=by rw[wrap_i64 (by simp only[Z];omega) (by simp only[Z];omega)];rfl
noncomputable def rW:List I->Option I:=a9 (fun z:List Int=>z.length<=1000000) (fun z=>[ax z false]) (fun z=> .int .i64 ((z.length:Int) - 1))
theorem yl (z:List Int) (h:z.length<=1000000) {args:List I} (he:args.map I.loose= [ax z false]):rW args=some (.int .i64 ((z.length:Int) - 1)):=bk (fun z w h=>by simp only[List.cons.injEq,I.int.injEq,I.bool.injEq,I.sl.injEq,bX,bU,bS,b4,b2,bo,bE,bZ,bj,true_and,and_true] at h;simp[h]) z h he
theorem GD:aH Tryz.prog G 62 rW:=by
 refine bf mixed Bg Kh fun l ay=>?_
 have e:=abm ay
 unfold i62
 refine aJ [0,2] fun F K=>?_
 obtain⟨f0,f2⟩:=K
 have H:=e
 have K:=bs f0 f2;clear f0 f2
 exact a4 [0,2]
theorem abn {l:List Int} {m:Nat} (hm:m<=l.length) (aq:∀i,m<=i->l.getD i 0=0) (he:m=0\/l.getD (m - 1) 0≠0):l.take m=strip l:=by
 have ay:(l.take m).length=m:=by rw[List.length_take];omega
 have aX:∀i,(l.take m).getD i 0=l.getD i 0:=fun i=>by
  by_cases h:i<m
  · simp[List.getD_eq_getElem?_getD,h]
  · rw[aq i (by omega),List.getD_eq_getElem?_getD,List.getElem?_eq_none (by omega)];rfl
 refine(yc ?_ ?_).symm
 · rcases he with rfl|he
   · exact .inl (by simp)
   · right;rw[ay,aX];exact he
 · ext i;exact aX i
noncomputable def rX:List I->Option I:=a9 (fun z:List Int=>z.length<=1000000) (fun z=>[ax z false]) (fun z=>ax (strip z) false)
theorem Bi (z:List Int) (h:z.length<=1000000) {args:List I} (he:args.map I.loose= [ax z false]):rX args=some (ax (strip z) false):=bk (fun z w h=>by simp only[List.cons.injEq,I.int.injEq,I.bool.injEq,I.sl.injEq,bX,bU,bS,b4,b2,bo,bE,bZ,bj,true_and,and_true] at h;simp[h]) z h he
theorem GF:aH Tryz.prog G 64 rX:=by
 refine bf mixed Bg Ki fun l ay=>?_
 unfold i64
 refine aJ [0,2,3,16] fun F K=>?_
 obtain⟨f0,f2,f3,f16⟩:=K
 have H:=trivial
 have K:=bN f0 f2 f3 f16;clear f0 f2 f3 f16
 refine bB [0,2,3,16] fun F k=>?_;clear K H
 obtain⟨f0,f2,f3,f16⟩:=k
 refine mY (fun m s=>m<=l.length/\(∀i,m<=i->l.getD i 0=0)/\s.F 3=aK m) (fun s=>∃m,m<=l.length/\(∀i,m<=i->l.getD i 0=0)/\(m=0\/l.getD (m - 1) 0≠0)/\s.F 3=aK m) (fun _=>False) l.length ?_ ?_ ?_ (fun _ _ h=>h.elim)
 · exact ⟨Nat.le_refl _,fun i ab=>by simp[List.getD_eq_getElem?_getD,ab],by first|rfl|exact f3⟩
 · rintro m s ag ⟨hm,aq,eB⟩
   replace f0:=(ag 0 rfl).trans f0
   clear f3
   have f3:=eB
   have K:=bs f0 f3;clear f0 f3
   refine bO [0,3,16] fun F k=>?_;clear K
   obtain⟨f0,f3,f16⟩:=k
   cases m with
   | zero=>
     have H:=trivial
     have K:=bA f0 f3 f16;clear f0 f3 f16
     refine bB [0,3,16] fun F k=>?_;clear K H
     obtain⟨f0,f3,f16⟩:=k
     exact ⟨0,by omega,aq,.inl rfl,by first|rfl|exact f3⟩
   | succ m=>
     have go:=pN (show m<l.length by omega)
     have hw:IntKind.i64.wrap (Z (m+1) - Z 1)=Z m:=by rw[cB (by omega) (by omega)];rfl
     have rP:0<m+1:=by omega
     have dS:=vf (l.getD m 0) trivial (args:=[aj (l.getD m 0)]) (by simp)
     obtain⟨c,nN⟩:∃c,c=l.getD m 0:=⟨_,rfl⟩
     rw[<-nN] at go dS
     by_cases ae:c=0
     · have kH:e7 c=Z 0:=by rw[ae];rfl
       rw[kH] at dS
       have H:=bN go hw rP dS
       have K:=bA f0 f3 f16;clear f0 f3 f16
       refine bB [0,3,16] fun F k=>?_;clear K H
       obtain⟨f0,f3,f16⟩:=k
       refine⟨m,by omega,by omega,fun i ab=>?_,by first|rfl|exact f3⟩
       by_cases e:i=m
       · subst e;exact nN.symm.trans ae
       · exact aq i (by omega)
     · obtain⟨s1,s2⟩:=A4 ae
       generalize e7 c=Gc at*
       have H:=c9 go hw rP dS s1 s2
       have K:=bA f0 f3 f16;clear f0 f3 f16
       refine bB [0,3,16] fun F k=>?_;clear K H
       obtain⟨f0,f3,f16⟩:=k
       exact ⟨m+1,hm,aq,.inr (by rw[Nat.add_sub_cancel];exact fun h=>ae (nN.trans h)),by first|rfl|exact f3⟩
 · rintro s ag ⟨m,hm,aq,jF,eB⟩
   replace f0:=(ag 0 rfl).trans f0
   clear f3
   have f3:=eB
   have aO:=abn hm aq jF
   have s9:List.take m (l.map fun z=>aj z)=(strip l).map fun z=>aj z:=by rw[<-List.map_take,aO]
   have K:=bs f0 f3;clear f0 f3
   refine bO [0,2,3] fun F k=>?_;clear K
   obtain⟨f0,f2,f3⟩:=k
   have H:=bs hm s9
   have K:=bA f0 f2 f3;clear f0 f2 f3
   exact a4 [0,2,3]
end
section
attribute [local irreducible] ba
attribute [local simp] cY cI cm ji
noncomputable def eO:FuncId->Option (List I->Option I):=cf [(52,lv),(119,k9),(143,qy),(90,n4),(110,n3),(86,AS),(208,Bh),(62,rW),(64,rX)]
theorem vS:∀f T,eO f=some T->aH Tryz.prog G f T:=cg (by simp only[List.forall_mem_cons];exact ⟨rQ,rE,EZ,xF,xE,Zn,abl,GD,GF,fun _ h=>absurd h (by simp)⟩)
theorem Bj:eO 52=some lv:=rfl
theorem Bk:eO 119=some k9:=rfl
theorem Bl:eO 143=some qy:=rfl
theorem Bm:eO 90=some n4:=rfl
theorem Bn:eO 110=some n3:=rfl
theorem Bo:eO 86=some AS:=rfl
theorem Bp:eO 208=some Bh:=rfl
theorem Bq:eO 62=some rW:=rfl
theorem Br:eO 64=some rX:=rfl
theorem Bs:eO 108=none:=rfl
theorem Bt:eO 206=none:=rfl
theorem Bu:eO 140=none:=rfl
theorem Bv:eO 207=none:=rfl
theorem Bw:eO 117=none:=rfl
theorem Bx:eO 109=none:=rfl
theorem By:eO 114=none:=rfl
theorem Bz:eO 120=none:=rfl
theorem BA:eO 123=none:=rfl
theorem BB:eO 141=none:=rfl
theorem BC:eO 142=none:=rfl
theorem BD:eO 118=none:=rfl
theorem BE:eO 122=none:=rfl
theorem BF:eO 103=none:=rfl
theorem BG:eO 28=none:=rfl
attribute [local simp] Bj Bk Bl Bm Bn Bo Bp Bq Br Bs Bt Bu Bv Bw Bx By Bz BA BB BC BD BE BF BG
theorem abo (Y:List cy) (g:ah) (aw:∀j,g.next<=j->g.shut j=false) {c:Nat} {k:Int} (J:g.cells c=some [aj k]) (m1:c<g.next) {i:Nat} {p:Int × Bool} (bJ:aG p.1<=500000) (dG:aG k<=500000) (iC:min (aG p.1) (aG k)<48):
 ∃dT,ey G (aI Tryz.prog) eO Y (.fn 117) [aK i,dP p,.ptr c 0 0] g=some (dP (p.1*k,false),dT)/\Kept g dT:=by
 obtain⟨x,l7⟩:=p
 simp only at bJ iC|-
 have t:=nI (x,k) ⟨bJ,dG,iC⟩ (args:=[dP (x,l7),aj k]) (by simp)
 simp only at t
 generalize x*k=bQ at*
 obtain⟨v,dT,e,rfl,K⟩:=je (Φ:=aI Tryz.prog) (G:=G) (tab:=eO) (Y:=Y) (h:=g) (args:=[aK i,dP (x,l7),.ptr c 0 0]) (R:=fun v h'=>v=dP (bQ,false)/\Kept g h') US (by
  unfold i117
  refine aJ [1,2,4,5] fun F K=>?_
  obtain⟨f1,f2,f4,f5⟩:=K
  have H:=bN J m1 t aw
  have K:=bN f1 f2 f4 f5;clear f1 f2 f4 f5
  refine cu [1,2,4,5] fun F k=>?_;clear K H
  obtain⟨f1,f2,f4,f5⟩:=k
  try refine b3 ?_
  simp[iM,f5]
  exact ⟨by(try simp only);omega,fun j aC=>by(try simp only[au]);repeat (first|rfl|rw[if_neg (by omega)]),rfl,rfl⟩)
 exact ⟨dT,e,K⟩
theorem abp (Y:List cy) (g:ah) (aw:∀j,g.next<=j->g.shut j=false) {i:Nat} (ab:i<=1000000) {p:Int × Bool} (bJ:aG p.1<=500000):
 ∃dT,ey G (aI Tryz.prog) eO Y (.fn 109) [aK i,dP p] g=some (dP (p.1*((i:Int)+1),false),dT)/\Kept g dT:=by
 obtain⟨x,l7⟩:=p
 simp only at bJ|-
 have li:aG (((i+1:Nat):Int))<=1:=by rw[xQ];exact cC.2 (by rw[mZ];omega)
 have t:=nI (x,((i+1:Nat):Int)) ⟨bJ,by simp only;omega,by simp only;omega⟩ (args:=[dP (x,l7),aj ((i+1:Nat):Int)]) (by simp)
 have to:=MM ((i+1:Nat):Int) (by omega) (args:=[aK (i+1)]) rfl
 simp only at t
 have hw:IntKind.i64.wrap (Z i+Z 1)=Z (i+1):=dp (by omega)
 rw[show x*((i:Int)+1)=x*((i+1:Nat):Int) by rw[Int.natCast_add];rfl]
 generalize ((i+1:Nat):Int)=k at*
 generalize x*k=bQ at*
 obtain⟨v,dT,e,rfl,K⟩:=je (Φ:=aI Tryz.prog) (G:=G) (tab:=eO) (Y:=Y) (h:=g) (args:=[aK i,dP (x,l7)]) (R:=fun v h'=>v=dP (bQ,false)/\Kept g h') Ky (by
  unfold i109
  refine aJ [0,1,3,4] fun F K=>?_
  obtain⟨f0,f1,f3,f4⟩:=K
  have H:=bN t to hw aw
  have K:=bN f0 f1 f3 f4;clear f0 f1 f3 f4
  refine cu [0,1,3,4] fun F k=>?_;clear K H
  obtain⟨f0,f1,f3,f4⟩:=k
  try refine b3 ?_
  simp[iM,f4]
  exact ⟨by(try simp only);omega,fun j aC=>by(try simp only[au]);repeat (first|rfl|rw[if_neg (by omega)]),rfl,rfl⟩)
 exact ⟨dT,e,K⟩
theorem abq (Y:List cy) (g:ah) (aw:∀j,g.next<=j->g.shut j=false) {c d n:Nat} {l:List Int} (J:g.cells c=some [aK n]) (a3:g.cells d=some [ax l false]) (m1:c<g.next) (vT:d<g.next) (ai:n<=1000) (ay:l.length<=1000) {i:Nat} (ab:i<l.length) {p:Int × Bool} (bJ:aG p.1<=500000):
 ∃dT,ey G (aI Tryz.prog) eO Y (.fn 120) [aK i,dP p,.ptr c 0 0,.ptr d 0 0] g=some (dP (p.1*2^(n*(l.length - 1 - i)),false),dT)/\Kept g dT:=by
 obtain⟨x,l7⟩:=p
 simp only at bJ|-
 have nr:n*(l.length - 1 - i)<=1000*1000:=Nat.mul_le_mul ai (by omega)
 have t:=Zm (x,n*(l.length - 1 - i)) ⟨by simp only;omega,by simp only;omega⟩ (args:=[dP (x,l7),aK (n*(l.length - 1 - i))]) (by simp)
 have d':=yl l (by omega) (args:=[ax l false]) (by simp)
 simp only at t
 have b7:IntKind.i64.wrap ((l.length:Int) - 1 - Z i)=Z (l.length - 1 - i):=by rw[wrap_i64 (by simp only[Z];omega) (by simp only[Z];omega)];simp only[Z];omega
 have c4:IntKind.i64.wrap (Z n*Z (l.length - 1 - i))=Z (n*(l.length - 1 - i)):=pn (by omega)
 generalize n*(l.length - 1 - i)=m at*
 generalize l.length - 1 - i=o0 at*
 generalize (l.length:Int) - 1=akc at*
 generalize x*2^m=bQ at*
 obtain⟨v,dT,e,rfl,K⟩:=je (Φ:=aI Tryz.prog) (G:=G) (tab:=eO) (Y:=Y) (h:=g) (args:=[aK i,dP (x,l7),.ptr c 0 0,.ptr d 0 0]) (R:=fun v h'=>v=dP (bQ,false)/\Kept g h') KF (by
  unfold i120
  refine aJ [0,1,2,3,5,6] fun F K=>?_
  obtain⟨f0,f1,f2,f3,f5,f6⟩:=K
  have H:=ia J a3 m1 vT d' b7 c4 t aw
  have K:=c9 f0 f1 f2 f3 f5 f6;clear f0 f1 f2 f3 f5 f6
  refine cu [0,1,2,3,5,6] fun F k=>?_;clear K H
  obtain⟨f0,f1,f2,f3,f5,f6⟩:=k
  try refine b3 ?_
  simp[iM,f6]
  exact ⟨by(try simp only);omega,fun j aC=>by(try simp only[au]);repeat (first|rfl|rw[if_neg (by omega)]),rfl,rfl⟩)
 exact ⟨dT,e,K⟩
theorem abr (Y:List cy) (g:ah) (aw:∀j,g.next<=j->g.shut j=false) {i:Nat} (ab:i<=1000000) {p:Int × Bool} (bJ:aG p.1<=500000):
 ∃dT,ey G (aI Tryz.prog) eO Y (.fn 123) [aK i,dP p] g=some (dP (if i%2=1 then (-p.1,false) else p),dT)/\Kept g dT:=by
 obtain⟨x,l7⟩:=p
 simp only at bJ|-
 have pG:(i&&&1)=i%2:=Nat.and_one_is_mod i
 have PF:i<9223372036854775808:=by omega
 have t:=EX x (by omega) (args:=[dP (x,l7)]) (by simp)
 generalize -x=bQ at*
 obtain⟨v,dT,e,rfl,K⟩:=je (Φ:=aI Tryz.prog) (G:=G) (tab:=eO) (Y:=Y) (h:=g) (args:=[aK i,dP (x,l7)]) (R:=fun v h'=>v=dP (if i%2=1 then (bQ,false) else (x,l7))/\Kept g h') KG (by
  unfold i123
  by_cases az:i%2=1
  · rw[if_pos az]
    refine aJ [0,1,3,4,7] fun F K=>?_
    obtain⟨f0,f1,f3,f4,f7⟩:=K
    have H:=bx PF pG az t aw
    have K:=bx f0 f1 f3 f4 f7;clear f0 f1 f3 f4 f7
    refine cu [0,1,3,4,7] fun F k=>?_;clear K H
    obtain⟨f0,f1,f3,f4,f7⟩:=k
    try refine b3 ?_
    simp[iM,f4]
    exact ⟨by(try simp only);omega,fun j aC=>by(try simp only[au]);repeat (first|rfl|rw[if_neg (by omega)]),rfl,rfl⟩
  · rw[if_neg az]
    have he:i%2=0:=by omega
    refine aJ [0,1,3,4,7] fun F K=>?_
    obtain⟨f0,f1,f3,f4,f7⟩:=K
    have H:=bx PF pG he t aw
    have K:=bx f0 f1 f3 f4 f7;clear f0 f1 f3 f4 f7
    refine cu [0,1,3,4,7] fun F k=>?_;clear K H
    obtain⟨f0,f1,f3,f4,f7⟩:=k
    try refine b3 ?_
    simp[iM,f4]
    exact ⟨by(try simp only);omega,fun j aC=>by(try simp only[au]);repeat (first|rfl|rw[if_neg (by omega)]),rfl,rfl⟩)
 exact ⟨dT,e,K⟩
theorem abt (Y:List cy) (g:ah) (aw:∀j,g.next<=j->g.shut j=false) {b c d:Nat} {f:FuncId} {T:List I->Option I} (cA:eO f=some T) {x y:List Int} (ad:g.cells b=some [.fn f [] []]) (J:g.cells c=some [ax x false]) (a3:g.cells d=some [ax y false]) (vC:b<g.next) (m1:c<g.next) (vT:d<g.next) (ae:x.length<=1000000) (aN:y.length<=1000000) {i:Nat} (ab:i<=1000000) {r:Int} (t:T [aj (x.getD i 0),aj (y.getD i 0)]=some (aj r)):
 ∃dT,ey G (aI Tryz.prog) eO Y (.fn 207) [aK i,.bool false,.ptr b 0 0,.ptr c 0 0,.ptr d 0 0] g=some (dP (r,false),dT)/\Kept g dT:=by
 have t1:=PE (x,i) ⟨by simp only;omega,ae⟩ (args:=[ax x false,aK i]) (by simp)
 have t2:=PE (y,i) ⟨by simp only;omega,aN⟩ (args:=[ax y false,aK i]) (by simp)
 simp only at t1 t2
 generalize x.getD i 0=akd at*
 generalize y.getD i 0=ake at*
 obtain⟨v,dT,e,rfl,K⟩:=je (Φ:=aI Tryz.prog) (G:=G) (tab:=eO) (Y:=Y) (h:=g) (args:=[aK i,.bool false,.ptr b 0 0,.ptr c 0 0,.ptr d 0 0]) (R:=fun v h'=>v=dP (r,false)/\Kept g h') U6 (by
  unfold i207
  refine aJ [0,2,3,4,7] fun F K=>?_
  obtain⟨f0,f2,f3,f4,f7⟩:=K
  have H:=kL ad J a3 vC m1 vT t1 t2 cA t aw
  have K:=bx f0 f2 f3 f4 f7;clear f0 f2 f3 f4 f7
  refine cu [0,2,3,4,7] fun F k=>?_;clear K H
  obtain⟨f0,f2,f3,f4,f7⟩:=k
  try refine b3 ?_
  simp[iM,f7]
  exact ⟨by(try simp only);omega,fun j aC=>by(try simp only[au]);repeat (first|rfl|rw[if_neg (by omega)]),rfl,rfl⟩)
 exact ⟨dT,e,K⟩
end
section
attribute [local irreducible] ba
attribute [local simp] cY cI cm
noncomputable def rY:FuncId->Option (List I->Option I):=cf [(205,vB)]
theorem abu:∀f T,rY f=some T->aH Tryz.prog G f T:=cg (by simp only[List.forall_mem_cons];exact ⟨OA,fun _ h=>absurd h (by simp)⟩)
theorem abv:rY 205=some vB:=rfl
theorem abw:rY 138=none:=rfl
theorem abx:rY 204=none:=rfl
theorem aby:rY 53=none:=rfl
attribute [local simp] abv abw abx aby
structure tL (a b:Nat) (h:ah):Prop where
 b8:∃xs e,h.cells 1=some [.sl xs e]
 k1:h.cells 5=some [af a]
 mW:h.cells 6=some [af b]
 s1:h.shut 1=false
 kS:h.shut 5=false
 oI:h.shut 6=false
 jW:h.aV 10=some .ready
 c2:10<h.next
theorem tL.bump {a b:Nat} {h:ah} (ak:tL a b h) (n:Nat) (ai:h.next<=n):tL a b ⟨h.cells,h.shut,n,h.aV⟩:=
 ⟨ak.b8,ak.k1,ak.mW,ak.s1,ak.kS,ak.oI,ak.jW,Nat.lt_of_lt_of_le ak.c2 ai⟩
theorem abz (Y:List cy) {F:Nat->I} (f5:F 5= .ptr 1 0 0) {h:ah} {a b:Nat} (ak:tL a b h):
 ∃u h',ey G (aI Tryz.prog) rY (⟨10,F,[10,11],(.region false [⟨(some 6),(.mv (.t 10)),none⟩] []),(.block 1 (.region false [⟨(some 12),(.mv (.t 6)),none⟩,⟨none,(.store 1 (.t 5) (.t 12)),none⟩] []))⟩::Y) (.lk 10) [af a,af b] h=some (u,h')/\u= .bool true/\tL a b h'/\h'.cells 1=some [af a]/\h.next<=h'.next:=by
 obtain⟨xs,e,b8⟩:=ak.b8
 have k1:=ak.k1
 have mW:=ak.mW
 have s1:=ak.s1
 have c2:=ak.c2
 refine DX (L:=⟨10,F,[10,11],(.region false [⟨(some 6),(.mv (.t 10)),none⟩] []),(.block 1 (.region false [⟨(some 12),(.mv (.t 6)),none⟩,⟨none,(.store 1 (.t 5) (.t 12)),none⟩] []))⟩) (Y':=Y) (by simp[oe]) rfl ?_
 simp only[nc]
 refine bl nW ?_
 simp[ak.jW,Nat.add_assoc]
 refine jX (bl nW ?_)
 simp(disch:=omega) [aD,List.getElem?_cons_zero,List.getElem?_cons_succ,dp,cB,e5,Nat.mod_eq_of_lt,ij,ik,il,im,e_,iq,ir,iu,f5,b8,s1,Nat.add_assoc,uk,kD,yR,o1,qY]
 exact ⟨⟨_,_,rfl⟩,by simp[au,k1],by simp[au,mW],s1,ak.kS,ak.oI,by simp[au],by show 10<h.next+3;omega⟩
theorem abA (Y:List cy) (h:ah) (a b:Nat):
 ey G (aI Tryz.prog) rY Y (.fn 138) [af a,af b] h=some (.fn 204 [] [.ptr h.next 0 0,.ptr (h.next+1) 0 0],⟨au (au h.cells h.next (some [af a])) (h.next+1) (some [af b]),h.shut,h.next+5,h.aV⟩):=by
 obtain⟨v,h',e,rfl,rfl⟩:=je (Φ:=aI Tryz.prog) (G:=G) (tab:=rY) (Y:=Y) (h:=h) (args:=[af a,af b]) (R:=fun v h'=>v= .fn 204 [] [.ptr h.next 0 0,.ptr (h.next+1) 0 0]/\h'=⟨au (au h.cells h.next (some [af a])) (h.next+1) (some [af b]),h.shut,h.next+5,h.aV⟩) KJ (by
  unfold i138
  refine aJ [0,1,2,3,4] fun F K=>?_
  obtain⟨f0,f1,f2,f3,f4⟩:=K
  have H:=(@Nat.add_assoc)
  have K:=bx f0 f1 f2 f3 f4;clear f0 f1 f2 f3 f4
  refine cu [0,1,2,3,4] fun F k=>?_;clear K H
  obtain⟨f0,f1,f2,f3,f4⟩:=k
  try refine b3 ?_
  simp[iM,f4])
 exact e
noncomputable def rZ:List I->Option I:=a9 (fun z:Nat × Nat=>(aa z.1).length<=1000000/\(aa z.2).length<=1000000) (fun z=>[af z.1,af z.2]) (fun z=>af (Nat.gcd z.1 z.2))
theorem GG (z:Nat × Nat) (h:(aa z.1).length<=1000000/\(aa z.2).length<=1000000) {args:List I} (he:args.map I.loose= [af z.1,af z.2]):rZ args=some (af (Nat.gcd z.1 z.2)):=bk (fun z w h=>by simp only[List.cons.injEq,I.int.injEq,I.bool.injEq,I.sl.injEq,bX,bU,bS,b4,b2,bo,bE,bZ,bj,true_and,and_true] at h;simp[h]) z h he
theorem GH:aH Tryz.prog G 53 rZ:=by
 refine bf mixed abu Ke fun z aq=>?_
 obtain⟨a,b⟩:=z
 obtain⟨br,bn⟩:=aq
 simp only at br bn|-
 unfold i53
 refine aJ [0,1,4,5,6,9,10] fun F K=>?_
 obtain⟨f0,f1,f4,f5,f6,f9,f10⟩:=K
 have H:=(@abA)
 have K:=de f0 f1 f4 f5 f6 f9 f10;clear f0 f1 f4 f5 f6 f9 f10
 refine cu [0,1,4,5,6,9,10] fun F k=>?_;clear K H
 obtain⟨f0,f1,f4,f5,f6,f9,f10⟩:=k
 refine jX (DW f9 K7 ?_)
 have dy:=f5
 clear f0 f1 f5 f9
 unfold i204
 simp
 refine aJ [0,1,2] fun F K=>?_
 obtain⟨f0,f1,f2⟩:=K
 refine mY (fun k s=>∃x y,y=k/\(aa x).length<=1000000/\(aa y).length<=1000000/\Nat.gcd x y=Nat.gcd a b/\tL x y s.h) (fun s=>tL (Nat.gcd a b) 0 s.h/\s.h.cells 1=some [af (Nat.gcd a b)]) (fun _=>False) b ?_ ?_ ?_ (fun _ _ h=>h.elim)
 · refine⟨a,b,rfl,br,bn,rfl,?_⟩
   exact ⟨⟨[],true,by simp[au]⟩,by simp[au],by simp[au],by simp,by simp,by simp,by simp[au],by simp⟩
 · rintro k s ag ⟨x,y,rfl,L0,tz,aX,ak⟩
   replace f0:=(ag 0 rfl).trans f0;replace f1:=(ag 1 rfl).trans f1;replace f2:=(ag 2 rfl).trans f2
   have k1:=ak.k1
   have mW:=ak.mW
   have kS:=ak.kS
   have oI:=ak.oI
   have c2:=ak.c2
   obtain⟨u,h',o6,rfl,k8,b8,ai⟩:=abz [] dy (ak.bump (s.h.next+9) (by omega))
   simp only at ai
   have abB:=k8.k1
   have PG:=k8.mW
   have abC:=k8.kS
   have abD:=k8.oI
   have akf:=k8.c2
   have K:=bA f0 f1 f2;clear f0 f1 f2
   refine bO [0,1,2,5,15] fun F k=>?_;clear K
   obtain⟨f0,f1,f2,f5,f15⟩:=k
   by_cases aN:y=0
   · subst aN
     have dC:aa 0= []:=eE
     have H:=bx k1 mW o6 PG dC
     have K:=bx f0 f1 f2 f5 f15;clear f0 f1 f2 f5 f15
     refine cu [0,1,2,5,15] fun F k=>?_;clear K H
     obtain⟨f0,f1,f2,f5,f15⟩:=k
     rw[Nat.gcd_zero_right] at aX
     rw[aX] at k8 b8
     exact ⟨k8.bump _ (by omega),b8⟩
   · have hyp:0<(aa y).length:=lG.2 aN
     have abE:¬aa y= []:=fun h=>aN (iW.1 h)
     have d':=Oa (x,y) ⟨by simp only;omega,by simp only;omega⟩ (args:=[af x,af y]) (by simp)
     simp only[if_neg aN] at d'
     have H:=kb k1 mW o6 abB PG abC abD hyp abE d'
     have K:=bx f0 f1 f2 f5 f15;clear f0 f1 f2 f5 f15
     refine cu [0,1,2,5,15] fun F k=>?_;clear K H
     obtain⟨f0,f1,f2,f5,f15⟩:=k
     refine⟨x%y,Nat.mod_lt _ (by omega),y,tz,?_,?_,?_⟩
     · exact Nat.le_trans (ib (Nat.le_of_lt (Nat.mod_lt _ (by omega)))) tz
     · rw[<-aX,Nat.gcd_comm y (x%y),<-Nat.gcd_rec y x,Nat.gcd_comm]
     · exact ⟨⟨_,_,b8⟩,by simp[au],by simp[au],k8.s1,k8.kS,k8.oI,k8.jW,by simp only;omega⟩
 · rintro s ag ⟨ak,b8⟩
   have c2:=ak.c2
   refine⟨trivial,⟨_,rfl⟩,?_⟩
   simp only[ak.jW]
   simp
   have f5:=dy
   have K:=f5;clear f5
   refine bO [4,5,13] fun F k=>?_;clear K
   obtain⟨f4,f5,f13⟩:=k
   have H:=b8
   have K:=bA f4 f5 f13;clear f4 f5 f13
   exact j1 [4,5,13]
end
end
end Go.Proofs.YtemiagcencajeaaGreatDoor
