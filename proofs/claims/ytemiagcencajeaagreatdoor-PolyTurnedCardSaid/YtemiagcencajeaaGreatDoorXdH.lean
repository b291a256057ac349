/- What the claim needs of the walks, put together by a program (shake.py). -/
import Derived.Test.YtemiagcencajeaaGreatDoorXdG
set_option maxRecDepth 100000
set_option linter.unusedSimpArgs false
set_option linter.unusedVariables false
set_option linter.unusedSectionVars false
namespace Go.Proofs.YtemiagcencajeaaGreatDoor
section
@[ext] structure Ser where
  c:Nat->Int
namespace Ser
def conv:Nat->(Nat->Int)->(Nat->Int)->Int
 | 0,f,g=>f 0*g 0
 | n+1,f,g=>f 0*g (n+1)+conv n (fun i=>f (i+1)) g
theorem Ge:∀n f g h,conv n f (fun i=>g i+h i)=conv n f g+conv n f h
 | 0,f,g,h=>by simp only[conv];grind
 | n+1,f,g,h=>by simp only[conv];rw[Ge n];grind
theorem OE:∀n f g,conv (n+1) f g=conv n f (fun i=>g (i+1))+f (n+1)*g 0
 | 0,f,g=>by simp only[conv]
 | n+1,f,g=>by
   rw[conv,OE n,conv];grind
theorem vK:∀n f g,conv n f g=conv n g f
 | 0,f,g=>by simp only[conv];grind
 | n+1,f,g=>by rw[conv,OE,vK n];grind
theorem OF (n f g h):conv n (fun i=>g i+h i) f=conv n g f+conv n h f:=by
 rw[vK,Ge,vK n f g,vK n f h]
theorem OG:∀n c f g,conv n (fun i=>c*f i) g=c*conv n f g
 | 0,c,f,g=>by simp only[conv];grind
 | n+1,c,f,g=>by simp only[conv];rw[OG n c (fun i=>f (i+1))];grind
theorem OH:∀n f g h,conv n (fun k=>conv k f g) h=conv n f (fun k=>conv k g h)
 | 0,f,g,h=>by simp only[conv];grind
 | n+1,f,g,h=>by
   rw[conv]
   simp only[conv]
   rw[OF,OG,OH n]
   grind
theorem OI:∀n f,conv n f (fun _=>0)=0
 | 0,f=>by simp only[conv];grind
 | n+1,f=>by simp only[conv];rw[OI n];grind
def C (z:Int):Ser:=⟨fun i=>if i=0 then z else 0⟩
theorem OJ (n:Nat) (z:Int) (g:Nat->Int):conv n (C z).c g=z*g n:=by
 cases n with
 | zero=>simp[conv,C]
 | succ n=>
   rw[conv,vK]
   have:(fun i=>(C z).c (i+1))=fun _=>0:=by funext i;simp[C]
   rw[this,OI]
   simp[C]
instance:Add Ser:=⟨fun f g=>⟨fun i=>f.c i+g.c i⟩⟩
instance:Mul Ser:=⟨fun f g=>⟨fun i=>conv i f.c g.c⟩⟩
instance:Neg Ser:=⟨fun f=>⟨fun i=> -f.c i⟩⟩
instance:Sub Ser:=⟨fun f g=>⟨fun i=>f.c i - g.c i⟩⟩
instance:NatCast Ser:=⟨fun n=>C n⟩
instance:IntCast Ser:=⟨C⟩
instance (n:Nat):OfNat Ser n:=⟨C n⟩
def npow (f:Ser):Nat->Ser
 | 0=>C 1
 | n+1=>npow f n*f
instance:HPow Ser Nat Ser:=⟨npow⟩
instance:SMul Nat Ser:=⟨fun n f=>(C n)*f⟩
instance:SMul Int Ser:=⟨fun n f=>(C n)*f⟩
theorem nb (f g:Ser) (i:Nat):(f+g).c i=f.c i+g.c i:=rfl
theorem OK (f g:Ser) (i:Nat):(f - g).c i=f.c i - g.c i:=rfl
theorem OL (f:Ser) (i:Nat):(-f).c i= -f.c i:=rfl
theorem OM (f g:Ser) (i:Nat):(f*g).c i=conv i f.c g.c:=rfl
theorem oa (z:Int) (i:Nat):(C z).c i=if i=0 then z else 0:=rfl
theorem mK (z:Int) (f:Ser) (i:Nat):(C z*f).c i=z*f.c i:=OJ i z f.c
theorem ON (a b:Int):C (a+b)=C a+C b:=by ext i;simp only[nb,oa];split<;>simp
theorem OO (a:Int):C (-a)= -C a:=by ext i;simp only[OL,oa];split<;>simp
theorem yj (a b:Int):C (a*b)=C a*C b:=by ext i;rw[mK];simp only[oa];split<;>simp
theorem Ba (f g:Ser):f*g=g*f:=by ext i;exact vK i f.c g.c
instance:Lean.Grind.CommRing Ser where
 nsmul:=inferInstance
 zsmul:=inferInstance
 add_zero a:=by ext i;show a.c i+(C 0).c i=a.c i;simp[oa]
 add_comm a b:=by ext i;simp only[nb];omega
 add_assoc a b c:=by ext i;simp only[nb];omega
 mul_assoc a b c:=by ext i;exact OH i a.c b.c c.c
 mul_one a:=by rw[Ba];ext i;show (C 1*a).c i=a.c i;rw[mK];simp
 left_distrib a b c:=by ext i;exact Ge i a.c b.c c.c
 zero_mul a:=by ext i;show (C 0*a).c i=(C 0).c i;rw[mK];simp[oa]
 pow_zero a:=rfl
 pow_succ a n:=rfl
 ofNat_succ n:=by show C ((n+1:Nat):Int)=C n+C 1;rw[<-ON];rfl
 neg_add_cancel a:=by ext i;show -a.c i+a.c i=(C 0).c i;simp[oa];omega
 sub_eq_add_neg a b:=by ext i;show a.c i - b.c i=a.c i+ -b.c i;omega
 neg_zsmul n a:=by show C (-n)*a= -(C n*a);ext i;rw[OL,mK,mK,Int.neg_mul]
 intCast_neg n:=OO n
 mul_comm:=Ba
 one_mul a:=by ext i;show (C 1*a).c i=a.c i;rw[mK];simp
 right_distrib a b c:=by ext i;exact OF i c.c a.c b.c
 mul_zero a:=by rw[Ba];ext i;show (C 0*a).c i=(C 0).c i;rw[mK];simp[oa]
theorem aaF:C 0=0:=rfl
theorem OP:C 1=1:=rfl
theorem Bb (i:Nat):(0:Ser).c i=0:=by show (if i=0 then (0:Int) else 0)=0;split<;>rfl
def mono (n:Nat) (z:Int):Ser:=⟨fun i=>if i=n then z else 0⟩
theorem tH (n:Nat) (z:Int) (i:Nat):(mono n z).c i=if i=n then z else 0:=rfl
theorem OQ (z:Int):mono 0 z=C z:=rfl
def X:Ser:=mono 1 1
theorem vL (f:Ser) (i:Nat):(X*f).c i=if i=0 then 0 else f.c (i - 1):=by
 rw[OM]
 cases i with
 | zero=>simp[conv,X,tH]
 | succ i=>
   have e:(fun i=>X.c (i+1))=(C 1).c:=by
    funext i
    by_cases h:i=0<;>simp[X,tH,oa,h]
   rw[conv,e,OJ]
   simp[X,tH]
theorem OR (n:Nat) (z:Int):X*mono n z=mono (n+1) z:=by
 ext i
 rw[vL,tH,tH]
 cases i with
 | zero=>simp
 | succ i=>simp
theorem vM:∀(n:Nat) (z:Int),mono n z=C z*X^n
 | 0,z=>by rw[OQ];grind
 | n+1,z=>by rw[<-OR,vM n z];grind
end Ser
open Ser
def a2 (l:List Int):Ser:=⟨fun i=>l.getD i 0⟩
theorem lo (l:List Int) (i:Nat):(a2 l).c i=l.getD i 0:=rfl
theorem mL:a2 []=0:=by ext i;rw[Bb];rfl
theorem oY (x:Int) (l:List Int):a2 (x::l)=C x+X*a2 l:=by
 ext i
 rw[nb,vL,oa,lo]
 cases i<;>simp[lo]
theorem OS:∀(a b:List Int),a2 (a++b)=a2 a+X^a.length*a2 b
 | [],b=>by rw[mL,List.nil_append,List.length_nil];grind
 | x::a,b=>by rw[List.cons_append,oY,OS a b,oY,List.length_cons];grind
theorem aaG {l:List Int} {i:Nat} (h:i<l.length) (v:Int):a2 (l.set i v)=a2 l+mono i (v - l.getD i 0):=by
 ext j
 rw[nb,tH,lo,lo]
 by_cases e:i=j
 · subst e;simp[h];omega
 · simp[List.getElem?_set_ne e];rw[if_neg (by omega)];omega
theorem Bc (l:List Int) (i:Nat):a2 (l.take (i+1))=a2 (l.take i)+mono i (l.getD i 0):=by
 ext j
 rw[nb,tH,lo,lo]
 simp only[List.getD_eq_getElem?_getD,List.getElem?_take]
 by_cases h:j<i
 · rw[if_pos (by omega),if_pos h,if_neg (by omega)];omega
 · by_cases e:j=i
   · subst e;simp
   · rw[if_neg (by omega),if_neg h,if_neg e];rfl
theorem OT (n:Nat):a2 (List.replicate n 0)=0:=by
 ext i;rw[lo,Bb];simp[List.getElem?_replicate];split<;>rfl
def cl (l:List Int):Prop:=l= []\/l.getD (l.length - 1) 0≠0
theorem kq {a b:List Int} (aC:cl a) (ad:cl b) (h:a2 a=a2 b):a=b:=by
 have J:∀i,a.getD i 0=b.getD i 0:=fun i=>congrArg (fun s=>s.c i) h
 have aux:∀ {a b:List Int},cl b->(∀i,a.getD i 0=b.getD i 0)->b.length<=a.length:=by
  intro a b ad J
  refine Nat.le_of_not_lt fun az=>?_
  rcases ad with rfl|ad
  · simp at az
  · apply ad;rw[<-J,List.getD_eq_getElem?_getD,List.getElem?_eq_none (by omega)];rfl
 have az:a.length=b.length:=Nat.le_antisymm (aux aC fun i=>(J i).symm) (aux ad J)
 refine List.ext_getElem az fun i U h2=>?_
 have:=J i
 simpa[List.getD_eq_getElem?_getD,U,h2] using this
def strip:List Int->List Int
 | []=>[]
 | x::l=>match strip l with
   | []=>if x=0 then [] else [x]
   | y::r=>x::y::r
theorem mM:∀l,a2 (strip l)=a2 l
 | []=>rfl
 | x::l=>by
   rw[oY,<-mM l,strip]
   cases h:strip l with
   | nil=>
     simp only
     split
     · rename_i ae;rw[ae,mL,aaF];grind
     · rw[oY]
   | cons y r=>simp only;rw[oY x]
theorem qJ:∀l,cl (strip l)
 | []=> .inl rfl
 | x::l=>by
   rw[strip]
   have a6:=qJ l
   cases h:strip l with
   | nil=>
     simp only
     split
     · exact .inl rfl
     · exact .inr (by simpa)
   | cons y r=>
     rw[h] at a6
     right
     rcases a6 with a6|a6
     · cases a6
     · simpa using a6
theorem oZ:∀l,(strip l).length<=l.length
 | []=>Nat.le_refl _
 | x::l=>by
   rw[strip]
   have a6:=oZ l
   cases h:strip l with
   | nil=>simp only;split<;>simp
   | cons y r=>rw[h] at a6;simp only[List.length_cons] at*;omega
theorem vN {l:List Int} (h:cl l):strip l=l:=kq (qJ l) h (mM l)
theorem yk {a l:List Int} (h:cl a) (e:a2 a=a2 l):strip l=a:=kq (qJ l) h (by rw[mM,e])
end
section
open Ser Lean.Grind
attribute [local instance] Lean.Grind.Ring.intCast
section ev
variable {R:Type} [CommRing R]
def ev (y:R):List Int->R
 | []=>0
 | x::l=>(x:R)+y*ev y l
def an (x y:R):Nat->List Int->R
 | _,[]=>0
 | n,c::l=>(c:R)*y^n+x*an x y (n - 1) l
def ob:List Int->List Int->List Int
 | [],b=>b
 | a,[]=>a
 | x::a,y::b=>(x+y)::ob a b
def nO:List Int->List Int->List Int
 | [],_=>[]
 | x::a,b=>ob (b.map fun y=>x*y) (0::nO a b)
theorem OU (a b:Int):((a+b:Int):R)=(a:R)+(b:R):=Ring.intCast_add a b
theorem Bd (a b:Int):((a*b:Int):R)=(a:R)*(b:R):=Ring.intCast_mul a b
theorem yl:((0:Int):R)=0:=Ring.intCast_zero
theorem OV:((1:Int):R)=1:=Ring.intCast_one
theorem aaH (a:Int):((-a:Int):R)= -(a:R):=Ring.intCast_neg a
theorem Be (a:Int):∀n:Nat,((a^n:Int):R)=(a:R)^n
 | 0=>by rw[Int.pow_zero,OV,Semiring.pow_zero]
 | n+1=>by rw[Int.pow_succ,Bd,Be a n,Semiring.pow_succ]
theorem Bf (y:R):∀a b,ev y (ob a b)=ev y a+ev y b
 | [],b=>by simp only[ob,ev];grind
 | x::a,[]=>by simp only[ob,ev];grind
 | x::a,z::b=>by simp only[ob,ev,Bf y a b,OU];grind
theorem Gf (y:R) (c:Int):∀a,ev y (a.map fun x=>c*x)=(c:R)*ev y a
 | []=>by simp only[List.map_nil,ev];grind
 | x::a=>by simp only[List.map_cons,ev,Gf y c a,Bd];grind
theorem ym (y:R):∀a b,ev y (nO a b)=ev y a*ev y b
 | [],b=>by simp only[nO,ev];grind
 | x::a,b=>by simp only[nO,Bf,Gf,ev,ym y a b,yl];grind
theorem yn (y:R):∀a,(∀i,a.getD i 0=0)->ev y a=0
 | [],_=>rfl
 | x::a,h=>by
   rw[ev,yn y a fun i=>by simpa using h (i+1),show x=0 by simpa using h 0,yl];grind
theorem OW (y:R):∀a b:List Int,(∀i,a.getD i 0=b.getD i 0)->ev y a=ev y b
 | [],b,h=>(yn y b fun i=>(h i).symm).symm
 | x::a,[],h=>yn y (x::a) h
 | x::a,z::b,h=>by
   rw[ev,ev,OW y a b fun i=>by simpa using h (i+1),show x=z by simpa using h 0]
theorem eH (y:R) {a b:List Int} (h:a2 a=a2 b):ev y a=ev y b:=OW y a b fun i=>congrArg (fun s=>s.c i) h
theorem OX (y:R):∀a b,ev y (a++b)=ev y a+y^a.length*ev y b
 | [],b=>by simp only[List.nil_append,ev,List.length_nil];grind
 | x::a,b=>by simp only[List.cons_append,ev,OX y a b,List.length_cons];grind
theorem Gg (x y:R):∀n a b,an x y n (ob a b)=an x y n a+an x y n b
 | n,[],b=>by simp only[ob,an];grind
 | n,z::a,[]=>by simp only[ob,an];grind
 | n,z::a,w::b=>by simp only[ob,an,Gg x y (n - 1) a b,OU];grind
theorem Gh (x y:R) (c:Int):∀n a,an x y n (a.map fun z=>c*z)=(c:R)*an x y n a
 | n,[]=>by simp only[List.map_nil,an];grind
 | n,z::a=>by simp only[List.map_cons,an,Gh x y c (n - 1) a,Bd];grind
theorem Gi (y:R) (n:Nat):∀m,y^(n+m)=y^n*y^m
 | 0=>by rw[Nat.add_zero,Semiring.pow_zero,Semiring.mul_one]
 | m+1=>by rw[<-Nat.add_assoc,Semiring.pow_succ,Gi y n m,Semiring.pow_succ];grind
theorem OY (x y:R) (m:Nat):∀n a,a.length<=n+1->an x y (n+m) a=y^m*an x y n a
 | n,[],_=>by simp only[an];grind
 | 0,[z],_=>by simp only[an,Nat.zero_add];grind
 | 0,z::w::a,h=>by simp at h
 | n+1,z::a,h=>by
   have e:n+1+m - 1=n+m:=by omega
   simp only[an,e,Nat.add_sub_cancel,OY x y m n a (by simpa using h),Gi y (n+1) m];grind
theorem Gj (x y:R):∀n a,(∀i,a.getD i 0=0)->an x y n a=0
 | n,[],_=>rfl
 | n,z::a,h=>by
   rw[an,Gj x y _ a fun i=>by simpa using h (i+1),show z=0 by simpa using h 0,yl];grind
theorem OZ (x y:R):∀n (a b:List Int),(∀i,a.getD i 0=b.getD i 0)->an x y n a=an x y n b
 | n,[],b,h=>(Gj x y n b fun i=>(h i).symm).symm
 | n,z::a,[],h=>Gj x y n (z::a) h
 | n,z::a,w::b,h=>by
   rw[an,an,OZ x y _ a b fun i=>by simpa using h (i+1),show z=w by simpa using h 0]
theorem aaI (x y:R) (n:Nat) {a b:List Int} (h:a2 a=a2 b):an x y n a=an x y n b:=OZ x y n a b fun i=>congrArg (fun s=>s.c i) h
theorem O0 (x y:R) (m:Nat):∀n a b,a.length<=n+1->b.length<=m+1->an x y (n+m) (nO a b)=an x y n a*an x y m b
 | n,[],b,_,_=>by simp only[nO,an];grind
 | 0,[z],b,_,ad=>by simp only[nO,Gg,Gh,an,yl,Nat.zero_add];grind
 | 0,z::w::a,b,h,_=>by simp at h
 | n+1,z::a,b,h,ad=>by
   have e:n+1+m - 1=n+m:=by omega
   have av:an x y (n+1+m) b=y^(n+1)*an x y m b:=by rw[Nat.add_comm,OY x y (n+1) m b ad]
   simp only[nO,Gg,Gh,an,yl,e,O0 x y m n a b (by simpa using h) ad,av,Nat.add_sub_cancel];grind
end ev
theorem lp:∀l,a2 l=ev X l
 | []=>mL
 | x::l=>by rw[oY,lp l,ev];rfl
theorem aaJ (a b:List Int):a2 (ob a b)=a2 a+a2 b:=by rw[lp,lp,lp,Bf]
theorem Bg (a b:List Int):a2 (nO a b)=a2 a*a2 b:=by rw[lp,lp,lp,ym]
theorem O1 (c:Int) (a:List Int):a2 (a.map fun x=>c*x)=C c*a2 a:=by rw[lp,lp,Gf];rfl
def et (a b:List Int):List Int:=strip ((List.range (max a.length b.length)).map fun i=>a.getD i 0+b.getD i 0)
def lG (a b:List Int):List Int:=strip ((List.range (max a.length b.length)).map fun i=>a.getD i 0 - b.getD i 0)
def bl (a b:List Int):List Int:=strip ((List.range (a.length+b.length - 1)).map fun i=>conv i (a2 a).c (a2 b).c)
def ir (a:List Int) (c:Int):List Int:=strip (a.map fun x=>x*c)
theorem rZ (n:Nat) (f:Nat->Int) (i:Nat):((List.range n).map f).getD i 0=if i<n then f i else 0:=by
 simp only[List.getD_eq_getElem?_getD,List.getElem?_map]
 by_cases h:i<n
 · simp[h]
 · simp[h]
theorem o0 {l:List Int} {i:Nat} (h:l.length<=i):l.getD i 0=0:=by simp[List.getD_eq_getElem?_getD,h]
theorem Bh {n:Nat} {f:Nat->Int} {s:Ser} (U:∀i,i<n->s.c i=f i) (h2:∀i,n<=i->s.c i=0):a2 ((List.range n).map f)=s:=by
 ext i
 rw[lo,rZ]
 split
 · exact (U i ‹_›).symm
 · exact (h2 i (by omega)).symm
theorem mN (a b:List Int):a2 (et a b)=a2 a+a2 b:=by
 rw[et,mM]
 refine Bh (fun i _=>rfl) fun i h=>?_
 rw[nb,lo,lo,o0 (by omega),o0 (by omega)];rfl
theorem yo (a b:List Int):a2 (lG a b)=a2 a - a2 b:=by
 rw[lG,mM]
 refine Bh (fun i _=>rfl) fun i h=>?_
 rw[OK,lo,lo,o0 (by omega),o0 (by omega)];rfl
theorem Gk {f g:Nat->Int}:∀n,(∀i,i<=n->f i=0\/g (n - i)=0)->conv n f g=0
 | 0,h=>by rcases h 0 (Nat.le_refl _) with h|h<;>simp_all[conv]
 | n+1,h=>by
   rw[conv]
   have a6:=Gk (f:=fun i=>f (i+1)) (g:=g) n fun i ab=>by
    have:=h (i+1) (by omega)
    rwa [show n+1 -(i+1)=n - i by omega] at this
   rw[a6]
   rcases h 0 (by omega) with h|h
   · rw[h];simp
   · rw[Nat.sub_zero] at h;rw[h];simp
theorem aaK {a b:List Int} {i:Nat} (h:a.length+b.length<=i+1):conv i (a2 a).c (a2 b).c=0:=Gk i fun k ag=>by
 by_cases pK:a.length<=k
 · exact .inl (o0 pK)
 · exact .inr (o0 (by omega))
theorem fI (a b:List Int):a2 (bl a b)=a2 a*a2 b:=by
 rw[bl,mM]
 exact Bh (fun i _=>rfl) fun i h=>aaK (by omega)
theorem Bi (a:List Int) (c:Int):a2 (ir a c)=C c*a2 a:=by
 rw[ir,mM,<-O1]
 congr 2;funext x;exact Int.mul_comm ..
theorem pL (a b:List Int):cl (et a b):=qJ _
theorem vO (a b:List Int):cl (lG a b):=qJ _
theorem lY (a b:List Int):cl (bl a b):=qJ _
theorem O2 (a:List Int) (c:Int):cl (ir a c):=qJ _
theorem O3 {f g:Nat->Int}:∀n m,(∀i,n<i->f i=0)->(∀i,m<i->g i=0)->conv (n+m) f g=f n*g m
 | 0,m,bb,aY=>by
   rw[Nat.zero_add]
   cases m with
   | zero=>rfl
   | succ m=>rw[conv,Gk m fun i _=> .inl (bb _ (by omega))];simp
 | n+1,m,bb,aY=>by
   rw[show n+1+m=n+m+1 by omega,conv,aY (n+m+1) (by omega),O3 (f:=fun i=>f (i+1)) n m (fun i ab=>bb _ (by omega)) aY]
   simp
def lead (a:List Int):Int:=a.getD (a.length - 1) 0
theorem tI {a:List Int} (h:cl a) (h2:a≠ []):lead a≠0:=h.resolve_left h2
theorem O4 {a b:List Int} (aC:a≠ []) (ad:b≠ []):conv (a.length+b.length - 2) (a2 a).c (a2 b).c=lead a*lead b:=by
 have U:=List.length_pos_iff.2 aC
 have h2:=List.length_pos_iff.2 ad
 rw[show a.length+b.length - 2=(a.length - 1)+(b.length - 1) by omega]
 exact O3 _ _ (fun i ab=>o0 (by omega)) fun i ab=>o0 (by omega)
theorem aaL {l:List Int} (h:l.getD (l.length - 1) 0≠0):cl l:= .inr h
theorem O5 {a b:List Int} (aC:cl a) (ad:cl b) (eg:a≠ []) (cR:b≠ []):bl a b=(List.range (a.length+b.length - 1)).map fun i=>conv i (a2 a).c (a2 b).c:=by
 have U:=List.length_pos_iff.2 eg
 have h2:=List.length_pos_iff.2 cR
 refine vN (aaL ?_)
 rw[List.length_map,List.length_range,rZ,if_pos (by omega),show a.length+b.length - 1 - 1=a.length+b.length - 2 by omega,O4 eg cR]
 exact Int.mul_ne_zero (tI aC eg) (tI ad cR)
theorem Gl {a b:List Int} (aC:cl a) (ad:cl b) (eg:a≠ []) (cR:b≠ []):(bl a b).length=a.length+b.length - 1:=by
 rw[O5 aC ad eg cR];simp
theorem aaM {a b:List Int} (aC:cl a) (ad:cl b) (eg:a≠ []) (cR:b≠ []):lead (bl a b)=lead a*lead b:=by
 have U:=List.length_pos_iff.2 eg
 have h2:=List.length_pos_iff.2 cR
 rw[lead,Gl aC ad eg cR,O5 aC ad eg cR,rZ,if_pos (by omega),show a.length+b.length - 1 - 1=a.length+b.length - 2 by omega,O4 eg cR]
theorem yp (b:List Int):bl [] b= []:=kq (lY _ _) (.inl rfl) (by rw[fI,mL];grind)
theorem yq (b:List Int):bl b []= []:=kq (lY _ _) (.inl rfl) (by rw[fI,mL];grind)
def D (f:Ser):Ser:=⟨fun i=>f.c (i+1)*((i:Int)+1)⟩
theorem Gm (f g:Ser):D (f+g)=D f+D g:=by ext i;simp only[D,nb];grind
theorem O6 (c:Int) (f:Ser):D (C c*f)=C c*D f:=by ext i;simp only[D,mK];grind
theorem O7 (c:Int):D (C c)=0:=by ext i;simp[D,oa,Bb]
theorem O8 (f:Ser):D (X*f)=f+X*D f:=by
 ext i
 simp only[D,nb,vL]
 cases i with
 | zero=>simp
 | succ i=>simp;grind
theorem O9 (b:Ser):∀a,D (a2 a*b)=D (a2 a)*b+a2 a*D b
 | []=>by rw[mL,show (0:Ser)*b=C 0*b from rfl,O6,show D (0:Ser)=0 from O7 0];show (0:Ser)*D b=_;grind
 | x::a=>by
   rw[oY,show (C x+X*a2 a)*b=C x*b+X*(a2 a*b) by grind,Gm,Gm,O6,O7,O8,O8,O9 b a]
   grind
def d' (p:List Int):List Int:=(List.range (p.length - 1)).map fun i=>p.getD (i+1) 0*((i:Int)+1)
theorem vP (p:List Int):a2 (d' p)=D (a2 p):=Bh (fun i _=>rfl) fun i h=>by
 simp only[D,lo];rw[o0 (by omega)];simp
theorem Bj {p:List Int} (h:cl p):cl (d' p):=by
 by_cases h2:p.length<=1
 · left;simp[d'];omega
 · right
   have aF:p≠ []:=fun h=>by simp[h] at h2
   have:=tI h aF
   rw[d',List.length_map,List.length_range,rZ,if_pos (by omega),show p.length - 1 - 1+1=p.length - 1 by omega]
   exact Int.mul_ne_zero this (by omega)
end
section
open Ser Lean.Grind
attribute [local instance] Lean.Grind.Ring.intCast
theorem aaN (l:List Int) (f:Nat->Int->Int) (bb:∀i,f i 0=0) (i:Nat):((List.range l.length).map fun k=>f k (l.getD k 0)).getD i 0=f i (l.getD i 0):=by
 rw[rZ]
 split
 · rfl
 · rw[o0 (by omega),bb]
def cn (c:Int):List Int->List Int
 | []=>[]
 | x::l=>et (bl (cn c l) (strip [c,1])) (strip [x])
theorem Gn (x:Int):a2 (strip [x])=C x:=by rw[mM,oY,mL];grind
theorem Gp (c:Int):a2 (strip [c,1])=C c+X:=by rw[mM,oY,oY,mL,OP];grind
theorem vQ (c:Int):∀l,a2 (cn c l)=ev (X+C c) l
 | []=>mL
 | x::l=>by
   rw[cn,mN,fI,vQ c l,Gn,Gp,ev]
   show _=C x+_
   grind
theorem vR (c:Int):∀l,cl (cn c l)
 | []=> .inl rfl
 | _::_=>pL _ _
theorem aaO (c:Int) (a b:List Int):cn c (bl a b)=bl (cn c a) (cn c b):=by
 refine kq (vR _ _) (lY _ _) ?_
 rw[vQ,fI,vQ,vQ,eH (a:=bl a b) (b:=nO a b) _ (by rw[fI,Bg]),ym]
theorem Gq {R:Type} [CommRing R] (y:R) (c:Int):∀l,ev y (cn c l)=ev (y+(c:R)) l
 | []=>rfl
 | x::l=>by
   rw[cn,eH (a:=et _ _) (b:=ob (nO (cn c l) [c,1]) [x]) y (by rw[mN,fI,mM,mM,aaJ,Bg]),Bf,ym,Gq y c l]
   simp only[ev,OV]
   grind
theorem aaP (c:Int) {l:List Int} (h:cl l):cn (-c) (cn c l)=l:=by
 refine kq (vR _ _) h ?_
 rw[vQ,Gq,show X+C (-c)+((c:Int):Ser)=X by rw[OO];show X+ -C c+C c=X;grind,<-lp]
def fg (l:List Int):List Int:=(List.range l.length).map fun i=>if i%2=1 then -l.getD i 0 else l.getD i 0
theorem Gr (l:List Int) (i:Nat):(fg l).getD i 0=if i%2=1 then -l.getD i 0 else l.getD i 0:=aaN l (fun i x=>if i%2=1 then -x else x) (fun i=>by simp) i
theorem O_ {R:Type} [CommRing R] (y:R):∀(s:Bool) (a b:List Int),(∀i,b.getD i 0=if (i%2=1)=(s=false) then -a.getD i 0 else a.getD i 0)->ev y b=(if s=true then -1 else 1)*ev (-y) a
 | s,[],b,h=>by
   rw[yn y b fun i=>by rw[h];simp];simp only[ev];grind
 | s,x::a,[],h=>by
   have:=yn (-y) (x::a) fun i=>by
    have:=h i
    rw[List.getD_nil] at this
    split at this<;>omega
   rw[this];simp only[ev];grind
 | s,x::a,z::b,h=>by
   have aG:=h 0
   have a6:=O_ y (!s) a b fun i=>by
    have:=h (i+1)
    simp only[List.getD_cons_succ] at this
    rw[this]
    cases s<;>simp<;>(split<;>split<;>first|rfl|omega)
   simp only[ev,a6]
   cases s
   · simp at aG|-;subst aG;grind
   · simp at aG|-;subst aG;rw[aaH];grind
theorem vS {R:Type} [CommRing R] (y:R) (l:List Int):ev y (fg l)=ev (-y) l:=by
 have:=O_ y false l (fg l) fun i=>by rw[Gr];simp
 rw[this];simp;grind
theorem O' (l:List Int):(fg l).length=l.length:=by simp[fg]
theorem yr {l:List Int} (h:cl l):cl (fg l):=by
 rcases h with rfl|h
 · exact .inl rfl
 · right
   rw[O',Gr]
   split<;>omega
theorem aaQ {a b:List Int}:fg (bl a b)=bl (fg a) (fg b):=by
 refine kq (yr (lY _ _)) (lY _ _) ?_
 rw[lp,vS,fI,lp,vS,lp,vS,eH (a:=bl a b) (b:=nO a b) _ (by rw[fI,Bg]),ym]
theorem aaR {l:List Int} (h:cl l):fg (fg l)=l:=by
 refine kq (yr (yr h)) h ?_
 rw[lp,vS,vS,show (- -X:Ser)=X by grind,<-lp]
def fh (n:Nat) (l:List Int):List Int:=(List.range l.length).map fun i=>l.getD i 0*2^(n*(l.length - 1 - i))
theorem aaS (n:Nat) (l:List Int):(fh n l).length=l.length:=by simp[fh]
theorem Gs {n:Nat} {l:List Int} (h:cl l):cl (fh n l):=by
 rcases h with rfl|h
 · exact .inl rfl
 · right
   by_cases aG:l.length=0
   · rw[List.length_eq_zero_iff] at aG;subst aG;exact absurd rfl h
   · rw[aaS,fh,rZ,if_pos (by omega)]
     exact Int.mul_ne_zero h (Int.ne_of_gt (Int.pow_pos (by decide)))
theorem Pa {R:Type} [CommRing R] (x:R) (y:Int):∀(m:Nat) (l:List Int),l.length<=m+1->an x (y:R) m l=ev x ((List.range l.length).map fun i=>l.getD i 0*y^(m - i))
 | m,[],_=>rfl
 | 0,[z],_=>by
   simp only[an,List.length_singleton,List.range_one,List.map_cons,List.map_nil,ev,List.getD_cons_zero,Nat.sub_self,Int.pow_zero,Int.mul_one]
   grind
 | 0,z::w::a,h=>by simp at h
 | m+1,z::l,h=>by
   rw[an,List.length_cons,List.range_succ_eq_map,List.map_cons,List.map_map,ev,Nat.add_sub_cancel,Pa x y m l (by simpa using h),Bd,Be]
   congr 2
   congr 1
   refine List.map_congr_left fun i _=>?_
   simp
theorem Bk {R:Type} [CommRing R] (x:R) (n:Nat) (l:List Int):ev x (fh n l)=an x ((2^n:Int):R) (l.length - 1) l:=by
 rw[Pa _ _ _ _ (by omega),fh]
 congr 1
 refine List.map_congr_left fun i _=>?_
 rw[Int.pow_mul]
theorem Pb {R:Type} [CommRing R] (x y:R) {a b:List Int} (aC:cl a) (ad:cl b):an x y ((bl a b).length - 1) (bl a b)=an x y (a.length - 1) a*an x y (b.length - 1) b:=by
 by_cases eg:a= []
 · subst eg;rw[yp];simp only[an];grind
 by_cases cR:b= []
 · subst cR;rw[yq];simp only[an];grind
 have U:=List.length_pos_iff.2 eg
 have h2:=List.length_pos_iff.2 cR
 rw[Gl aC ad eg cR,aaI (a:=bl a b) (b:=nO a b) x y _ (by rw[fI,Bg]),show a.length+b.length - 1 - 1=(a.length - 1)+(b.length - 1) by omega,O0 x y _ _ _ _ (by omega) (by omega)]
theorem aaT (n:Nat) {a b:List Int} (aC:cl a) (ad:cl b):fh n (bl a b)=bl (fh n a) (fh n b):=by
 refine kq (Gs (lY _ _)) (lY _ _) ?_
 rw[lp,Bk,fI,lp,Bk,lp,Bk,Pb _ _ aC ad]
def ek (l:List Int):List Int:=strip l.reverse
theorem Pc {R:Type} [CommRing R] (y:R):∀(l:List Int),ev y l.reverse=an 1 y (l.length - 1) l
 | []=>rfl
 | z::l=>by
   rw[List.reverse_cons,OX,Pc y l,an,List.length_cons,List.length_reverse,Nat.add_sub_cancel]
   simp only[ev]
   by_cases h:l= []
   · subst h;simp only[List.length_nil,an];grind
   · have U:=List.length_pos_iff.2 h
     grind
theorem Gt (l:List Int):a2 (ek l)=an 1 X (l.length - 1) l:=by rw[ek,mM,lp,Pc]
theorem Pd (l:List Int):cl (ek l):=qJ _
theorem aaU {a b:List Int} (aC:cl a) (ad:cl b):ek (bl a b)=bl (ek a) (ek b):=by
 refine kq (Pd _) (lY _ _) ?_
 rw[Gt,fI,Gt,Gt,Pb _ _ aC ad]
theorem Pe {l:List Int} (h:l.getD 0 0≠0):ek l=l.reverse:=vN (by
 by_cases aG:l= []
 · subst aG;exact absurd rfl h
 · right
   have:=List.length_pos_iff.2 aG
   rw[List.length_reverse,List.getD_eq_getElem?_getD,List.getElem?_reverse (by omega),<-List.getD_eq_getElem?_getD,show l.length - 1 -(l.length - 1)=0 by omega]
   exact h)
theorem aaV {l:List Int} (az:cl l) (h:l.getD 0 0≠0):ek (ek l)=l:=by
 rw[Pe h,ek,List.reverse_reverse,vN az]
theorem aaW {l:List Int} (h:l.getD 0 0≠0):(ek l).length=l.length:=by rw[Pe h,List.length_reverse]
def term (c:Int) (n:Nat):List Int:=strip (List.replicate n 0++ [c])
theorem Pf (c:Int) (n:Nat):a2 (term c n)=mono n c:=by
 rw[term,mM,OS,OT,List.length_replicate,oY,mL,vM];grind
def oc (b:List Int):Nat->List Int × List Int->List Int × List Int
 | 0,s=>s
 | k+1,(q,r)=>oc b k (et (ir q (lead b)) (term (r.getD (k+(b.length - 1)) 0) k),lG (ir r (lead b)) (bl (term (r.getD (k+(b.length - 1)) 0) k) b))
theorem Pg (n:Nat) (z:Int) (f:Ser) (i:Nat):(mono n z*f).c i=if i<n then 0 else z*f.c (i - n):=by
 induction n generalizing i with
 | zero=>rw[OQ,mK];simp
 | succ n a6=>
   rw[<-OR,show X*mono n z*f=X*(mono n z*f) by grind,vL]
   cases i with
   | zero=>simp
   | succ i=>simp[a6]
theorem Ph {l:List Int} (h:cl l) {n:Nat} (ak:∀i,n<=i->(a2 l).c i=0):l.length<=n:=by
 refine Nat.le_of_not_lt fun az=>?_
 rcases h with rfl|h
 · simp at az
 · exact h (ak _ (by omega))
theorem yt {l:List Int} {i:Nat} (h:l.length<=i):(a2 l).c i=0:=o0 h
theorem Pj {b:List Int} (cR:b≠ []):∀(k:Nat) (q r:List Int),cl q->cl r->r.length<=k+(b.length - 1)->
 cl (oc b k (q,r)).1/\cl (oc b k (q,r)).2/\(oc b k (q,r)).2.length<=b.length - 1/\
 a2 (oc b k (q,r)).1*a2 b+a2 (oc b k (q,r)).2=C (lead b^k)*(a2 q*a2 b+a2 r)
 | 0,q,r,aM,aR,az=>by
   refine⟨aM,aR,by simpa[oc] using az,?_⟩
   show a2 q*a2 b+a2 r=_
   rw[Int.pow_zero,OP];grind
 | k+1,q,r,aM,aR,az=>by
   have U:=List.length_pos_iff.2 cR
   have e:a2 (lG (ir r (lead b)) (bl (term (r.getD (k+(b.length - 1)) 0) k) b))=C (lead b)*a2 r - mono k (r.getD (k+(b.length - 1)) 0)*a2 b:=by
    rw[yo,Bi,fI,Pf]
   have av:a2 (et (ir q (lead b)) (term (r.getD (k+(b.length - 1)) 0) k))=C (lead b)*a2 q+mono k (r.getD (k+(b.length - 1)) 0):=by
    rw[mN,Bi,Pf]
   have a6:=Pj cR k _ _ (pL (ir q (lead b)) (term (r.getD (k+(b.length - 1)) 0) k)) (vO (ir r (lead b)) (bl (term (r.getD (k+(b.length - 1)) 0) k) b)) (Ph (vO _ _) fun i ab=>by
    rw[e,OK,mK,Pg]
    by_cases nB:i=k+(b.length - 1)
    · subst nB
      rw[if_neg (by omega),show k+(b.length - 1) - k=b.length - 1 by omega]
      show lead b*(a2 r).c _ - r.getD _ 0*(a2 b).c _=0
      rw[lo,lo,lead,Int.mul_comm];omega
    · rw[yt (by omega),if_neg (by omega),yt (by omega)];simp)
   refine⟨a6.1,a6.2.1,a6.2.2.1,?_⟩
   show a2 (oc b k _).1*a2 b+a2 (oc b k _).2=_
   rw[a6.2.2.2,e,av,Int.pow_succ,yj]
   grind
def exact (a b:Int):Option Int:=if b≠0/\b∣a then some (a/b) else none
def vT (b:List Int):Nat->List Int × List Int->Option (List Int × List Int)
 | 0,s=>some s
 | k+1,(q,r)=>(exact (r.getD (k+(b.length - 1)) 0) (lead b)).bind fun c=>vT b k (et q (term c k),lG r (bl (term c k) b))
def Gu (a b:List Int):Option (List Int):=
 if b= [] then none else (vT b (a.length+1 - b.length) ([],a)).bind fun(q,r)=>if r= [] then some q else none
theorem Pk {b:List Int}:∀(k:Nat) (q r:List Int) (s:List Int × List Int),cl q->cl r->vT b k (q,r)=some s->cl s.1/\cl s.2/\a2 s.1*a2 b+a2 s.2=a2 q*a2 b+a2 r
 | 0,q,r,s,aM,aR,h=>by cases h;exact ⟨aM,aR,rfl⟩
 | k+1,q,r,s,aM,aR,h=>by
   rw[vT,Option.bind_eq_some_iff] at h
   obtain⟨c,J,h⟩:=h
   have a6:=Pk k _ _ s (pL _ _) (vO _ _) h
   refine⟨a6.1,a6.2.1,?_⟩
   rw[a6.2.2,mN,yo,fI]
   grind
end
section
open Ser Lean.Grind
def b2 (p:List Int):Nat:=p.foldl (fun g c=>Nat.gcd g c.natAbs) 0
theorem Gv:∀(p:List Int) (g:Nat),p.foldl (fun g c=>Nat.gcd g c.natAbs) g=Nat.gcd g (b2 p)
 | [],g=>by simp[b2]
 | x::p,g=>by
   rw[b2,List.foldl_cons,List.foldl_cons,Gv p,Gv p,Nat.gcd_zero_left,Nat.gcd_assoc]
theorem vU:b2 []=0:=rfl
theorem Gw (x:Int) (p:List Int):b2 (x::p)=Nat.gcd x.natAbs (b2 p):=by
 rw[b2,List.foldl_cons,Nat.gcd_zero_left,Gv]
theorem tJ {d:Nat}:∀ {p:List Int},d∣b2 p↔∀i,(d:Int)∣p.getD i 0
 | []=>by simp[vU]
 | x::p=>by
   rw[Gw,Nat.dvd_gcd_iff,tJ (p:=p),<-Int.ofNat_dvd_left]
   constructor
   · rintro ⟨h,k⟩ i
     cases i with
     | zero=>exact h
     | succ i=>exact k i
   · exact fun h=>⟨h 0,fun i=>h (i+1)⟩
theorem tK (p:List Int) (i:Nat):(b2 p:Int)∣p.getD i 0:=tJ.1 (Nat.dvd_refl _) i
theorem aaX {p:List Int} (i:Nat) (h:p.getD i 0≠0):b2 p<=(p.getD i 0).natAbs:=Nat.le_of_dvd (by omega) (Int.ofNat_dvd_left.1 (tK p i))
theorem Pl {p:List Int}:b2 p=0↔∀i,p.getD i 0=0:=by
 constructor
 · intro h i
   have:=tK p i
   rw[h] at this
   simpa using this
 · intro h
   have:b2 p∣0/\0∣b2 p:=⟨Nat.dvd_zero _,tJ.2 fun i=>by rw[h];exact Int.dvd_refl _⟩
   exact Nat.eq_zero_of_zero_dvd this.2
theorem vV {p:List Int} (h:cl p) (aG:p≠ []):0<b2 p:=by
 refine Nat.pos_of_ne_zero fun ar=>?_
 exact tI h aG (Pl.1 ar _)
theorem aaY {a b:List Int} (h:a2 a=a2 b):b2 a=b2 b:=by
 have J:∀i,a.getD i 0=b.getD i 0:=fun i=>congrArg (fun s=>s.c i) h
 exact Nat.dvd_antisymm (tJ.2 fun i=>by rw[<-J];exact tK a i) (tJ.2 fun i=>by rw[J];exact tK b i)
theorem aaZ (c:Int) (a:List Int):b2 (a.map fun x=>c*x)=c.natAbs*b2 a:=by
 induction a with
 | nil=>rfl
 | cons x a a6=>rw[List.map_cons,Gw,a6,Gw,Int.natAbs_mul,Nat.gcd_mul_left]
def tL (c:Int) (p:List Int):List Int:=p.map fun x=>x/c
theorem Pm (c:Int) (p:List Int):(tL c p).length=p.length:=by simp[tL]
theorem yu (c:Int) (p:List Int) (i:Nat):(tL c p).getD i 0=p.getD i 0/c:=by
 simp only[tL,List.getD_eq_getElem?_getD,List.getElem?_map]
 cases p[i]? <;>simp
theorem aa0 {c:Int} {p:List Int} (h:∀i,c∣p.getD i 0):C c*a2 (tL c p)=a2 p:=by
 ext i
 rw[mK,lo,lo,yu]
 exact Int.mul_ediv_cancel' (h i)
theorem aa1 {c:Int} {p:List Int} (aF:cl p) (h:∀i,c∣p.getD i 0):cl (tL c p):=by
 rcases aF with rfl|aF
 · exact .inl rfl
 · right
   rw[Pm,yu]
   intro aG
   have:=Int.mul_ediv_cancel' (h (p.length - 1))
   rw[aG] at this
   simp at this
   exact aF this.symm
def fJ (p:List Int):Int:=if lead p<0 then -(b2 p:Int) else b2 p
theorem r1 (p:List Int):(fJ p).natAbs=b2 p:=by rw[fJ];split<;>omega
theorem Bl (p:List Int) (i:Nat):fJ p∣p.getD i 0:=by
 have:=tK p i
 rw[fJ];split
 · exact Int.neg_dvd.2 this
 · exact this
def df (p:List Int):List Int:=tL (fJ p) p
theorem o1 (p:List Int):C (fJ p)*a2 (df p)=a2 p:=aa0 (Bl p)
theorem Pn {p:List Int} (h:cl p):cl (df p):=aa1 h (Bl p)
theorem yv (p:List Int):(df p).length=p.length:=Pm _ _
theorem Gx {p:List Int} (h:cl p) (aG:p≠ []):fJ p≠0:=by
 have:=vV h aG
 rw[fJ];split<;>omega
theorem Po {a p:List Int} {c:Int} (h:a2 p=C c*a2 a):b2 p=c.natAbs*b2 a:=by
 rw[aaY (b:=a.map fun x=>c*x) (by rw[h,O1]),aaZ]
theorem Gy {p:List Int} (h:cl p) (aG:p≠ []):b2 (df p)=1:=by
 have:=Po (o1 p).symm
 rw[r1] at this
 have:=vV h aG
 exact Nat.eq_of_mul_eq_mul_left this (by omega)
theorem aa2 {p:List Int} (h:cl p) (aG:p≠ []):0<lead (df p):=by
 have e:lead p=fJ p*lead (df p):=by
  rw[lead,lead,yv,df,yu]
  exact (Int.mul_ediv_cancel' (Bl p _)).symm
 have U:=tI h aG
 have h2:=vV h aG
 rw[fJ] at e
 split at e
 · refine Int.lt_of_not_ge fun ak=>?_
   have:=Int.mul_nonneg (a:= -(-(b2 p:Int))) (b:= -lead (df p)) (by omega) (by omega)
   grind
 · refine Int.lt_of_not_ge fun ak=>?_
   have:=Int.mul_nonneg (a:=(b2 p:Int)) (b:= -lead (df p)) (by omega) (by omega)
   have:lead p<=0:=by grind
   omega
def tM (p:Nat):Prop:=2<=p/\∀d,d∣p->d=1\/d=p
theorem aa3:∀(n:Nat),2<=n->∃p,tM p/\p∣n:=by
 intro n
 induction n using Nat.strongRecOn with
 | _ n a6=>
   intro h
   by_cases aF:tM n
   · exact ⟨n,aF,Nat.dvd_refl _⟩
   · have:∃d,d∣n/\d≠1/\d≠n:=Classical.byContradiction fun ak=>aF ⟨h,fun d a3=>Classical.byContradiction fun J=>ak ⟨d,a3,fun e=>J (.inl e),fun e=>J (.inr e)⟩⟩
     obtain⟨d,a3,U,h2⟩:=this
     have:=Nat.le_of_dvd (by omega) a3
     have:d≠0:=fun e=>by subst e;rw[Nat.zero_dvd] at a3;omega
     obtain⟨p,aF,aa4⟩:=a6 d (by omega) (by omega)
     exact ⟨p,aF,Nat.dvd_trans aa4 a3⟩
theorem tM.dvd_mul {p a b:Nat} (aF:tM p) (h:p∣a*b):p∣a\/p∣b:=by
 rcases aF.2 _ (Nat.gcd_dvd_left p a) with U|U
 · exact .inr (Nat.Coprime.dvd_of_dvd_mul_left U h)
 · left;rw[<-U];exact Nat.gcd_dvd_right p a
theorem tM.aa5 {p:Nat} {a b:Int} (aF:tM p) (h:(p:Int)∣a*b):(p:Int)∣a\/(p:Int)∣b:=by
 rw[Int.ofNat_dvd_left,Int.natAbs_mul] at h
 rw[Int.ofNat_dvd_left,Int.ofNat_dvd_left]
 exact aF.dvd_mul h
theorem Pp {p:Nat} {f:Nat->Int} (h:∃i,¬(p:Int)∣f i):∃i,¬(p:Int)∣f i/\∀j,j<i->(p:Int)∣f j:=by
 obtain⟨i,ab⟩:=h
 induction i using Nat.strongRecOn with
 | _ i a6=>
   by_cases aB:∃j,j<i/\¬(p:Int)∣f j
   · obtain⟨j,aB,ak⟩:=aB
     exact a6 j aB ak
   · exact ⟨i,ab,fun j rk=>Classical.byContradiction fun ak=>aB ⟨j,rk,ak⟩⟩
theorem Pq {p:Int} {f g:Nat->Int}:∀n,(∀i,i<=n->p∣f i\/p∣g (n - i))->p∣conv n f g
 | 0,h=>by
   rcases h 0 (Nat.le_refl _) with h|h
   · exact Int.dvd_mul_of_dvd_left h
   · exact Int.dvd_mul_of_dvd_right h
 | n+1,h=>by
   rw[conv]
   refine Int.dvd_add ?_ (Pq n fun i ab=>by have:=h (i+1) (by omega);rwa [show n+1 -(i+1)=n - i by omega] at this)
   rcases h 0 (by omega) with h|h
   · exact Int.dvd_mul_of_dvd_left h
   · exact Int.dvd_mul_of_dvd_right h
theorem Pr {p:Int} {f g:Nat->Int}:∀n m,(∀i,i<n->p∣f i)->(∀i,i<m->p∣g i)->p∣conv (n+m) f g - f n*g m
 | 0,m,bb,aY=>by
   rw[Nat.zero_add]
   cases m with
   | zero=>rw[conv];simp
   | succ m=>
     rw[conv,show f 0*g (m+1)+conv m (fun i=>f (i+1)) g - f 0*g (m+1)=conv m (fun i=>f (i+1)) g by omega]
     exact Pq m fun i _=> .inr (aY _ (by omega))
 | n+1,m,bb,aY=>by
   rw[show n+1+m=n+m+1 by omega,conv]
   have a6:=Pr (p:=p) (f:=fun i=>f (i+1)) n m (fun i ab=>bb _ (by omega)) aY
   have aG:p∣f 0*g (n+m+1):=Int.dvd_mul_of_dvd_left (bb 0 (by omega))
   have:=Int.dvd_add aG a6
   rwa [<-Int.add_sub_assoc] at this
theorem aa6 {a b:List Int} (aC:b2 a=1) (ad:b2 b=1):b2 (bl a b)=1:=by
 refine Classical.byContradiction fun ak=>?_
 have aG:b2 (bl a b)≠0\/b2 (bl a b)=0:=by omega
 have:∃p,tM p/\p∣b2 (bl a b):=by
  by_cases ar:b2 (bl a b)=0
  · exact ⟨2,⟨Nat.le_refl _,fun d a3=>by have:=Nat.le_of_dvd (by decide) a3;rcases d with _|_|_|d<;>simp_all⟩,by rw[ar];exact Nat.dvd_zero _⟩
  · exact aa3 _ (by omega)
 obtain⟨p,aF,a3⟩:=this
 have aux:∀ {l:List Int},b2 l=1->∃i,¬(p:Int)∣l.getD i 0:=fun {l} az=>Classical.byContradiction fun J=>by
  have:p∣b2 l:=tJ.2 fun i=>Classical.byContradiction fun ak=>J ⟨i,ak⟩
  rw[az,Nat.dvd_one] at this
  have:=aF.1;omega
 obtain⟨i,ab,nB⟩:=Pp (aux aC)
 obtain⟨j,aB,aa7⟩:=Pp (aux ad)
 have U:=Pr (p:=p) (f:=fun i=>a.getD i 0) (g:=fun i=>b.getD i 0) i j nB aa7
 have h2:(p:Int)∣conv (i+j) (fun i=>a.getD i 0) (fun i=>b.getD i 0):=by
  have aA:=tJ.1 a3 (i+j)
  have:(bl a b).getD (i+j) 0=(a2 a*a2 b).c (i+j):=by rw[<-fI];rfl
  rwa [this] at aA
 have aT:=Int.dvd_sub h2 U
 rw[Int.sub_sub_self] at aT
 rcases aF.aa5 aT with h|h
 · exact ab h
 · exact aB h
theorem Ps {a b:List Int} (aC:cl a) (ad:cl b):b2 (bl a b)=b2 a*b2 b:=by
 by_cases eg:a= []
 · subst eg;rw[yp,vU,Nat.zero_mul]
 by_cases cR:b= []
 · subst cR;rw[yq,vU,Nat.mul_zero]
 have h:=aa6 (Gy aC eg) (Gy ad cR)
 have e:a2 (bl a b)=C (fJ a*fJ b)*a2 (bl (df a) (df b)):=by
  rw[fI,fI,yj,<-o1 a,<-o1 b]
  rw[o1,o1,<-o1 a,<-o1 b]
  generalize a2 (df a)=u
  generalize a2 (df b)=v
  grind
 rw[Po e,h,Int.natAbs_mul,r1,r1,Nat.mul_one]
theorem aa8 {x y:Int} (ae:x≠0) (aQ:y≠0):(x*y<0)↔(decide (x<0)≠decide (y<0)):=by
 rcases Int.lt_or_gt_of_ne ae with h|h<;>rcases Int.lt_or_gt_of_ne aQ with h2|h2
 · have:=Int.mul_pos_of_neg_of_neg h h2;simp[h,h2];omega
 · have:=Int.mul_neg_of_neg_of_pos h h2;simp[h,this,Int.not_lt.2 (Int.le_of_lt h2)]
 · have:=Int.mul_neg_of_pos_of_neg h h2;simp[h2,this,Int.not_lt.2 (Int.le_of_lt h)]
 · have:=Int.mul_pos h h2;simp[Int.not_lt.2 (Int.le_of_lt h),Int.not_lt.2 (Int.le_of_lt h2)];omega
theorem Pt {a b:List Int} (aC:cl a) (ad:cl b) (eg:a≠ []) (cR:b≠ []):fJ (bl a b)=fJ a*fJ b:=by
 have h:=aa8 (tI aC eg) (tI ad cR)
 rw[fJ,Ps aC ad,aaM aC ad eg cR,fJ,fJ]
 by_cases U:lead a<0<;>by_cases h2:lead b<0<;>simp only[U,h2,decide_true,decide_false] at h<;>simp[h,U,h2]<;>grind
theorem aa9 {c:Int} (J:c≠0) {f g:Ser} (h:C c*f=C c*g):f=g:=by
 ext i
 have:=congrArg (fun s=>s.c i) h
 simp only[mK] at this
 exact Int.eq_of_mul_eq_mul_left J this
theorem aba {a b:List Int} (aC:cl a) (ad:cl b):df (bl a b)=bl (df a) (df b):=by
 by_cases eg:a= []
 · subst eg;rw[yp,show df []= [] from rfl,yp]
 by_cases cR:b= []
 · subst cR;rw[yq,show df []= [] from rfl,yq]
 refine kq (Pn (lY _ _)) (lY _ _) ?_
 have aG:fJ (bl a b)≠0:=by rw[Pt aC ad eg cR];exact Int.mul_ne_zero (Gx aC eg) (Gx ad cR)
 refine aa9 aG ?_
 rw[o1,fI,fI,Pt aC ad eg cR,yj]
 have U:=o1 a
 have h2:=o1 b
 generalize a2 (df a)=u at*
 generalize a2 (df b)=v at*
 rw[<-U,<-h2]
 grind
end
section
open Ser Lean.Grind
def dO (q:Rat) (p:List Int):Rat:=ev q p
def lZ (n d:Int) (p:List Int):Int:=an n d (p.length - 1) p
theorem Pu (x y:Int):∀n p,((an x y n p:Int):Rat)=an (x:Rat) (y:Rat) n p
 | n,[]=>rfl
 | n,c::p=>by
   show ((c*y^n+x*an x y (n - 1) p:Int):Rat)=(c:Rat)*(y:Rat)^n+(x:Rat)*an (x:Rat) (y:Rat) (n - 1) p
   rw[Rat.intCast_add,Rat.intCast_mul,Rat.intCast_mul,Pu x y _ p]
   congr 2
   exact Be (R:=Rat) y n
theorem Gz {R:Type} [CommRing R] (x y q:R) (h:x=q*y):∀n p,p.length<=n+1->an x y n p=y^n*ev q p
 | n,[],_=>by simp only[an,ev];grind
 | 0,[z],_=>by simp only[an,ev];grind
 | 0,z::w::a,h=>by simp at h
 | n+1,z::p,az=>by
   rw[an,Nat.add_sub_cancel,Gz x y q h n p (by simpa using az),ev,h]
   grind
theorem abb (q:Rat):(q.den:Int)≠0:=by have:=q.den_pos;omega
theorem Pv (q:Rat):((q.den:Int):Rat)≠0:=by
 intro h;exact abb q (Rat.intCast_inj.1 (by rw[h];rfl))
theorem Pw (q:Rat):((q.num:Int):Rat)=q*((q.den:Int):Rat):=by
 have h:=Rat.num_divInt_den q
 rw[Rat.divInt_eq_div] at h
 have:=Pv q
 generalize ((q.den:Int):Rat)=d at*
 generalize ((q.num:Int):Rat)=n at*
 subst h
 grind
theorem Px (q:Rat) (p:List Int):((lZ q.num q.den p:Int):Rat)=((q.den:Int):Rat)^(p.length - 1)*dO q p:=by
 rw[lZ,Pu,dO,Gz _ _ q (Pw q) _ _ (by omega)]
theorem Py {d:Rat} (h:d≠0):∀n:Nat,d^n≠0
 | 0=>by rw[Semiring.pow_zero];decide
 | n+1=>by
   have:=Py h n
   rw[Semiring.pow_succ]
   grind
theorem GA (a:Int):∀n:Nat,((a^n:Int):Rat)=(a:Rat)^n:=Be (R:=Rat) a
theorem GB (q:Rat) (p:List Int):Rat.divInt (lZ q.num q.den p) ((q.den:Int)^(p.length - 1))=dO q p:=by
 rw[Rat.divInt_eq_div,Px,GA]
 have:=Py (Pv q) (p.length - 1)
 generalize ((q.den:Int):Rat)^(p.length - 1)=d at*
 grind
def GC (z:Int):Int:=if z=0 then 0 else if z<0 then -1 else 1
theorem abc (q:Rat) (p:List Int):GC (lZ q.num q.den p)=GC (dO q p).num:=by
 have h:=Px q p
 have aF:((q.den:Int):Rat)^(p.length - 1)=((((q.den:Int)^(p.length - 1)):Int):Rat):=(GA _ _).symm
 rw[aF] at h
 have a3:0<(q.den:Int)^(p.length - 1):=Int.pow_pos (by have:=q.den_pos;omega)
 generalize (q.den:Int)^(p.length - 1)=d at*
 generalize lZ q.num q.den p=v at*
 generalize dO q p=w at*
 have e:w=Rat.divInt v d:=by
  rw[Rat.divInt_eq_div]
  have:((d:Int):Rat)≠0:=fun h=>by have:=(Rat.intCast_inj (a:=d) (b:=0)).1 (by rw[h];rfl);omega
  grind
 have av:w.num*d=v*w.den:=by
  have U:=Pw w
  have h2:(((w.num*d:Int)):Rat)=((v*(w.den:Int):Int):Rat):=by
   rw[Rat.intCast_mul,Rat.intCast_mul,U,h];grind
  exact Rat.intCast_inj.1 h2
 have aA:0<(w.den:Int):=by have:=w.den_pos;omega
 simp only[GC]
 have s1:w.num=0↔v=0:=by
  constructor
  · intro h;rw[h,Int.zero_mul] at av
    exact (Int.mul_eq_zero.1 av.symm).resolve_right (by omega)
  · intro h;rw[h,Int.zero_mul] at av
    exact (Int.mul_eq_zero.1 av).resolve_right (by omega)
 have s2:w.num<0↔v<0:=by
  constructor
  · intro h
    have:=Int.mul_neg_of_neg_of_pos h a3
    refine Int.lt_of_not_ge fun an=>?_
    have:=Int.mul_nonneg an (Int.le_of_lt aA)
    omega
  · intro h
    have:=Int.mul_neg_of_neg_of_pos h aA
    refine Int.lt_of_not_ge fun an=>?_
    have:=Int.mul_nonneg an (Int.le_of_lt a3)
    omega
 simp only[s1,s2]
theorem abd (q:Rat) (c:Int) (p:List Int):dO q (cn c p)=dO (q+(c:Rat)) p:=Gq q c p
theorem abe (q:Rat) (p:List Int):dO q (fg p)=dO (-q) p:=vS q p
theorem abf (q:Rat) (n:Nat) (p:List Int):dO (q*((2^n:Int):Rat)) (fh n p)=dO q p*((2^n:Int):Rat)^(p.length - 1):=by
 have h:=Bk (R:=Rat) (q*((2^n:Int):Rat)) n p
 rw[Gz _ _ q rfl _ _ (by omega)] at h
 rw[dO,h,dO];exact Rat.mul_comm _ _
end
section
set_option maxHeartbeats 8000000
open Go Go.Eng Go.RowKit
attribute [local simp] aU.m aU.o aU.n aU.g e7 ew cT cB cX evalOp.eq_1 evalOp.eq_2 evalOp.eq_3 evalOp.eq_4 evalOp.eq_5 evalOp.eq_6 evalOp.eq_7 evalOp.eq_8 evalOp.eq_9 evalOp.eq_10 evalOp.eq_11 evalOp.eq_12 evalOp.eq_13 evalOp.eq_14 evalOp.eq_15 evalOp.eq_16 evalOp.eq_17 evalOp.eq_18 evalOp.eq_19 evalOp.eq_20 evalOp.eq_21 evalOp.eq_22 evalOp.eq_23 evalOp.eq_24 evalOp.eq_25 evalOp.eq_27 evalOp.eq_28 evalOp.eq_29 ig aS.ev cA au ah.new dQ I.cells I.cd I.dP I.ea gl gn gm gp gr gq hB hC hD fw fx cut partOf bound elems hF hG hH hI hJ hK hL hM hN hO hP hQ fF hR hS hT hU hV hW hX hY hZ h0 h1 h3 h4 h5 h6 h7 h8 h9 h_ ia ib ic ie eu eh dJ eY gu fM ah.close ah.set gf ih ij ik hE fN e8 eS dt e1 f' ft e2 ga gb gd eV eW eX eU gv bj fZ gw f_ gx gy eQ gz eR gA gB gC fs hA gD gE gF gG gH gI gJ gK gL gM gN gO gP gQ gR gS gT gU gV fz gW gX gY gZ g0 g1 g2 g3 g4 g5 g6 g7 g8 g9 g_
attribute [local simp high] hx hy hz g' ha hb hc hd hf hg hh hi hj hk hl hn ho hp hq hr hs ht hv
attribute [local simp] aG List.getElem?_cons_zero List.getElem?_cons_succ dw cM fe Nat.mod_eq_of_lt iw ix iy iz fk iA iB iC
section
attribute [local irreducible] ba
attribute [local simp] cW cI ct
noncomputable def Pz:FuncId->Option (List I->Option I):=cf [(87,l')]
theorem Bm:∀f T,Pz f=some T->aH Tryz.prog G f T:=cg (by simp only[List.forall_mem_cons];exact ⟨tl,fun _ h=>absurd h (by simp)⟩)
theorem abg:Pz 87=some l':=rfl
attribute [local simp] abg
theorem abh:∃e,Tryz.prog.underlying 22=some (.slice e):=by
 have h:z_ (Tryz.prog.underlying 22)=true:=by kernel_rfl
 unfold z_ at h
 split at h
 · rename_i e he;exact ⟨e,he⟩
 · cases h
theorem PA (w:World) (A:Option Addr) (c:Nat):Sem.run Tryz.prog (binOp BinOp.eql 22 (Value.slice A 0 c) (Value.slice none 0 0)) w= .ok (.bool A.isNone) w:=by
 obtain⟨e,hu⟩:=abh
 have aq:(Op.equal 22 (.slice A 0 c) (.slice none 0 0)).run Tryz.prog w= .ok A.isNone w:=by
  unfold Op.equal Op.maxDepth Op.equalIn
  cases A<;>simp[run_underlying hu]
 show (do pure (.bool (<-Op.equal 22 (.slice A 0 c) (.slice none 0 0))):Sem Value).run Tryz.prog w=_
 simp[aq]
theorem abi (w:World) (R:Ending->World->Prop) (c:Nat) (h:R (.returned (.slice none 0 0)) w):Calls Tryz.prog 118 #[.slice none 0 c] w R:=by
 have aq:=fun w=>PA w none c
 simp only[Option.isNone_none] at aq
 go_enter Tryz.func118,Tryz.ntmps118
 go_wp2
 exact h
theorem abj (w:World) (R:Ending->World->Prop) (A:Addr) (c:Nat) (h:∀t,R (.returned (.slice (some ⟨w.heap.size,0,none⟩) 0 0)) (w.alloc (.cells #[] t))):Calls Tryz.prog 118 #[.slice (some A) 0 c] w R:=by
 have aq:=fun w=>PA w (some A) c
 simp only[Option.isNone_some] at aq
 go_enter Tryz.func118,Tryz.ntmps118
 go_wp2
 exact h _
def PB:List I->Option I
 | [.sl [] _]=>some (.sl [] false)
 | _=>none
theorem abk:aH Tryz.prog G 118 PB:=by
 intro args v cD ok w dm c3 fy qf
 unfold PB at cD
 split at cD<;>try(cases cD;done)
 rename_i e
 cases cD
 have ax:dm.size=1:=by simpa using c3
 obtain⟨x,rfl⟩:∃x,dm= #[x]:=by
  match dm,ax with
  | ⟨[x]⟩,_=>exact ⟨x,rfl⟩
 have aG:=fy 0 (by simp) (by simp)
 simp only[List.getElem_cons_zero] at aG
 refine .inl ⟨zu Tryz.func118 rfl (by decide) _ _,?_⟩
 cases aG with
 | sl _ _ A c _ _ _ _ _ _ _ _=>
   cases A with
   | none=>exact abi _ _ _ ⟨_,rfl,z' _ _ _,Below.refl _ _⟩
   | some A=>exact abj _ _ _ _ fun t=>⟨_,rfl,z' _ _ _,(Below.refl _ _).alloc (Nat.le_refl _) _⟩
theorem abl:aH Tryz.prog G 118 (a9 (fun l:List Int=>l≠ []/\l.length<=1000000) (fun l=>[aw l false]) (fun l=>aw l false)):=by
 refine bg mixed Bm Ef fun l ar=>?_
 obtain⟨ak,az⟩:=ar
 have U:0<l.length:=List.length_pos_iff.2 ak
 have ap:=ru (bH.nil (sz:=2) (h:=aG) (by simp[aG])) (by decide) (bytes:=32) (by decide) (ys:=l.map fun z=>ai z) (by simpa using U) (by simp[I.cells,I.cd]) (by simp;omega)
 simp only[aG,List.length_nil,Nat.zero_add,List.length_map,List.nil_append] at ap
 unfold i118
 refine aK [0,2,4] fun F K=>?_
 obtain⟨f0,f2,f4⟩:=K
 have H:=bw U ap
 have K:=b3 f0 f2 f4;clear f0 f2 f4
 refine bA [0,2,4] fun F k=>?_;clear K H
 obtain⟨f0,f2,f4⟩:=k
 rw[List.take_of_length_le (by simp)]
 simp
noncomputable def tN:List I->Option I:=a9 (fun l:List Int=>l.length<=1000000) (fun l=>[aw l false]) (fun l=>aw l false)
theorem PC (l:List Int) (az:l.length<=1000000) {args:List I} (he:args.map I.loose= [aw l false]):tN args=some (aw l false):=
 bk (fun z w h=>by simp only[List.cons.injEq,bU,and_true] at h;simp[h]) l az he
theorem PD:aH Tryz.prog G 118 tN:=
 L4 abk abl fun args v cD=>by
  unfold tN a9 at cD
  obtain⟨l,U,h2,rfl⟩:=u0 cD
  by_cases ak:l= []
  · subst ak
    left
    match args,h2 with
    | [],h2=>simp at h2
    | _::_::_,h2=>simp at h2
    | [x],h2=>
      simp only[List.map_cons,List.map_nil,List.cons.injEq,and_true] at h2
      obtain⟨e,rfl⟩:=L7 h2.symm
      rfl
  · right
    exact bk (fun z w h=>by simp only[List.cons.injEq,bU,and_true] at h;simp[h]) l ⟨ak,U⟩ h2.symm
theorem pM {l:List Int} {i:Nat} (h:i<l.length):(l.map fun z=>ai z)[i]? =some (ai (l.getD i 0)):=by
 simp[h,List.getD_eq_getElem?_getD]
noncomputable def Bn:List I->Option I:=a9 (fun z:List Int × Nat=>z.2<4611686018427387904/\z.1.length<=1000000) (fun z=>[aw z.1 false,aJ z.2]) (fun z=>ai (z.1.getD z.2 0))
theorem PE (z:List Int × Nat) (h:z.2<4611686018427387904/\z.1.length<=1000000) {args:List I} (he:args.map I.loose= [aw z.1 false,aJ z.2]):Bn args=some (ai (z.1.getD z.2 0)):=bk (fun z w h=>by simp only[List.cons.injEq,I.int.injEq,I.bool.injEq,I.sl.injEq,bX,bW,bU,b4,bZ,bq,bE,bY,bj,true_and,and_true] at h;simp[h]) z h he
theorem abm:aH Tryz.prog G 208 Bn:=by
 refine bg mixed Bm U4 fun z ar=>?_
 obtain⟨l,i⟩:=z
 obtain⟨ab,az⟩:=ar
 simp only at ab az|-
 unfold i208
 by_cases h:i<l.length
 · have g:=pM h
   generalize l.getD i 0=c at*
   refine aK [0,1,4,8] fun F K=>?_
   obtain⟨f0,f1,f4,f8⟩:=K
   have H:=bw h g
   have K:=bM f0 f1 f4 f8;clear f0 f1 f4 f8
   exact a7 [0,1,4,8]
 · have e:l.getD i 0=0:=by simp[List.getD_eq_getElem?_getD,show l.length<=i by omega]
   rw[e]
   have dB:aa 0= []:=eT
   have dA:a8 0=false:=rfl
   refine aK [0,1,4,8] fun F K=>?_
   obtain⟨f0,f1,f4,f8⟩:=K
   have H:=h
   have K:=bM f0 f1 f4 f8;clear f0 f1 f4 f8
   repeat' (first|refine dT ?_|refine dU ?_|((first|refine eK ?_|refine eL ?_|refine eM ?_|exact dW|refine dV ?_);try(refine eA [0,1,4,8] fun F k=>?_;replace K:=k;clear k))|(refine dX (fun J=>?_) (fun J=>?_)<;>first|(exfalso;simp(disch:=omega) [H] at J;done)|(exfalso;simp at J;omega)|simp at J)|((first|refine b5 ?_|refine c_ ?_);simp(disch:=omega) [H,K,dB,dA])|exact trivial)
   all_goals obtain⟨f0,f1,f4,f8⟩:=K
theorem abn {n:Nat} (h:n<=1000000):IntKind.i64.wrap (Z n - Z 1)=(n:Int) - 1:=by rw[wrap_i64 (by simp only[Z];omega) (by simp only[Z];omega)];rfl
noncomputable def r2:List I->Option I:=a9 (fun z:List Int=>z.length<=1000000) (fun z=>[aw z false]) (fun z=> .int .i64 ((z.length:Int) - 1))
theorem Bo (z:List Int) (h:z.length<=1000000) {args:List I} (he:args.map I.loose= [aw z false]):r2 args=some (.int .i64 ((z.length:Int) - 1)):=bk (fun z w h=>by simp only[List.cons.injEq,I.int.injEq,I.bool.injEq,I.sl.injEq,bX,bW,bU,b4,bZ,bq,bE,bY,bj,true_and,and_true] at h;simp[h]) z h he
theorem GD:aH Tryz.prog G 62 r2:=by
 refine bg mixed Bm Kk fun l az=>?_
 have e:=abn az
 unfold i62
 refine aK [0,2] fun F K=>?_
 obtain⟨f0,f2⟩:=K
 have H:=e
 have K:=bw f0 f2;clear f0 f2
 exact a7 [0,2]
theorem abo {l:List Int} {m:Nat} (hm:m<=l.length) (ar:∀i,m<=i->l.getD i 0=0) (he:m=0\/l.getD (m - 1) 0≠0):l.take m=strip l:=by
 have az:(l.take m).length=m:=by rw[List.length_take];omega
 have aY:∀i,(l.take m).getD i 0=l.getD i 0:=fun i=>by
  by_cases h:i<m
  · simp[List.getD_eq_getElem?_getD,h]
  · rw[ar i (by omega),List.getD_eq_getElem?_getD,List.getElem?_eq_none (by omega)];rfl
 refine(yk ?_ ?_).symm
 · rcases he with rfl|he
   · exact .inl (by simp)
   · right;rw[az,aY];exact he
 · ext i;exact aY i
noncomputable def r3:List I->Option I:=a9 (fun z:List Int=>z.length<=1000000) (fun z=>[aw z false]) (fun z=>aw (strip z) false)
theorem Bp (z:List Int) (h:z.length<=1000000) {args:List I} (he:args.map I.loose= [aw z false]):r3 args=some (aw (strip z) false):=bk (fun z w h=>by simp only[List.cons.injEq,I.int.injEq,I.bool.injEq,I.sl.injEq,bX,bW,bU,b4,bZ,bq,bE,bY,bj,true_and,and_true] at h;simp[h]) z h he
theorem GF:aH Tryz.prog G 64 r3:=by
 refine bg mixed Bm Kl fun l az=>?_
 unfold i64
 refine aK [0,2,3,16] fun F K=>?_
 obtain⟨f0,f2,f3,f16⟩:=K
 have H:=trivial
 have K:=bM f0 f2 f3 f16;clear f0 f2 f3 f16
 refine bA [0,2,3,16] fun F k=>?_;clear K H
 obtain⟨f0,f2,f3,f16⟩:=k
 refine m3 (fun m s=>m<=l.length/\(∀i,m<=i->l.getD i 0=0)/\s.F 3=aJ m) (fun s=>∃m,m<=l.length/\(∀i,m<=i->l.getD i 0=0)/\(m=0\/l.getD (m - 1) 0≠0)/\s.F 3=aJ m) (fun _=>False) l.length ?_ ?_ ?_ (fun _ _ h=>h.elim)
 · exact ⟨Nat.le_refl _,fun i ab=>by simp[List.getD_eq_getElem?_getD,ab],by first|rfl|exact f3⟩
 · rintro m s ag ⟨hm,ar,eE⟩
   replace f0:=(ag 0 rfl).trans f0
   clear f3
   have f3:=eE
   have K:=bw f0 f3;clear f0 f3
   refine bO [0,3,16] fun F k=>?_;clear K
   obtain⟨f0,f3,f16⟩:=k
   cases m with
   | zero=>
     have H:=trivial
     have K:=b3 f0 f3 f16;clear f0 f3 f16
     refine bA [0,3,16] fun F k=>?_;clear K H
     obtain⟨f0,f3,f16⟩:=k
     exact ⟨0,by omega,ar,.inl rfl,by first|rfl|exact f3⟩
   | succ m=>
     have go:=pM (show m<l.length by omega)
     have hw:IntKind.i64.wrap (Z (m+1) - Z 1)=Z m:=by rw[cM (by omega) (by omega)];rfl
     have rU:0<m+1:=by omega
     have dR:=xL (l.getD m 0) trivial (args:=[ai (l.getD m 0)]) (by simp)
     obtain⟨c,nT⟩:∃c,c=l.getD m 0:=⟨_,rfl⟩
     rw[<-nT] at go dR
     by_cases ae:c=0
     · have kM:fp c=Z 0:=by rw[ae];rfl
       rw[kM] at dR
       have H:=bM go hw rU dR
       have K:=b3 f0 f3 f16;clear f0 f3 f16
       refine bA [0,3,16] fun F k=>?_;clear K H
       obtain⟨f0,f3,f16⟩:=k
       refine⟨m,by omega,by omega,fun i ab=>?_,by first|rfl|exact f3⟩
       by_cases e:i=m
       · subst e;exact nT.symm.trans ae
       · exact ar i (by omega)
     · obtain⟨s1,s2⟩:=yi ae
       generalize fp c=rY at*
       have H:=c7 go hw rU dR s1 s2
       have K:=b3 f0 f3 f16;clear f0 f3 f16
       refine bA [0,3,16] fun F k=>?_;clear K H
       obtain⟨f0,f3,f16⟩:=k
       exact ⟨m+1,hm,ar,.inr (by rw[Nat.add_sub_cancel];exact fun h=>ae (nT.trans h)),by first|rfl|exact f3⟩
 · rintro s ag ⟨m,hm,ar,jE,eE⟩
   replace f0:=(ag 0 rfl).trans f0
   clear f3
   have f3:=eE
   have aN:=abo hm ar jE
   have s':List.take m (l.map fun z=>ai z)=(strip l).map fun z=>ai z:=by rw[<-List.map_take,aN]
   have K:=bw f0 f3;clear f0 f3
   refine bO [0,2,3] fun F k=>?_;clear K
   obtain⟨f0,f2,f3⟩:=k
   have H:=bw hm s'
   have K:=b3 f0 f2 f3;clear f0 f2 f3
   exact a7 [0,2,3]
end
section
attribute [local irreducible] ba
attribute [local simp] cW cI ct jj
noncomputable def eN:FuncId->Option (List I->Option I):=cf [(52,lF),(119,lg),(143,qx),(90,m9),(110,n9),(86,A0),(208,Bn),(62,r2),(64,r3)]
theorem vW:∀f T,eN f=some T->aH Tryz.prog G f T:=cg (by simp only[List.forall_mem_cons];exact ⟨rV,rK,E2,vi,xK,Zk,abm,GD,GF,fun _ h=>absurd h (by simp)⟩)
theorem Bq:eN 52=some lF:=rfl
theorem Br:eN 119=some lg:=rfl
theorem Bs:eN 143=some qx:=rfl
theorem Bt:eN 90=some m9:=rfl
theorem Bu:eN 110=some n9:=rfl
theorem Bv:eN 86=some A0:=rfl
theorem Bw:eN 208=some Bn:=rfl
theorem Bx:eN 62=some r2:=rfl
theorem By:eN 64=some r3:=rfl
theorem Bz:eN 108=none:=rfl
theorem BA:eN 206=none:=rfl
theorem BB:eN 140=none:=rfl
theorem BC:eN 207=none:=rfl
theorem BD:eN 117=none:=rfl
theorem BE:eN 109=none:=rfl
theorem BF:eN 114=none:=rfl
theorem BG:eN 120=none:=rfl
theorem BH:eN 123=none:=rfl
theorem BI:eN 141=none:=rfl
theorem BJ:eN 142=none:=rfl
theorem BK:eN 118=none:=rfl
theorem BL:eN 122=none:=rfl
theorem BM:eN 103=none:=rfl
theorem BN:eN 28=none:=rfl
attribute [local simp] Bq Br Bs Bt Bu Bv Bw Bx By Bz BA BB BC BD BE BF BG BH BI BJ BK BL BM BN
theorem abp (Y:List cJ) (g:ah) (ax:∀j,g.next<=j->g.shut j=false) {c:Nat} {k:Int} (J:g.cells c=some [ai k]) (m5:c<g.next) {i:Nat} {p:Int × Bool} (bG:aE p.1<=500000) (ds:aE k<=500000) (iv:min (aE p.1) (aE k)<48):
 ∃dS,eP G (aI Tryz.prog) eN Y (.fn 117) [aJ i,dN p,.ptr c 0 0] g=some (dN (p.1*k,false),dS)/\Kept g dS:=by
 obtain⟨x,mf⟩:=p
 simp only at bG iv|-
 have t:=nN (x,k) ⟨bG,ds,iv⟩ (args:=[dN (x,mf),ai k]) (by simp)
 simp only at t
 generalize x*k=bQ at*
 obtain⟨v,dS,e,rfl,K⟩:=jX (Φ:=aI Tryz.prog) (G:=G) (tab:=eN) (Y:=Y) (h:=g) (args:=[aJ i,dN (x,mf),.ptr c 0 0]) (R:=fun v h'=>v=dN (bQ,false)/\Kept g h') UM (by
  unfold i117
  refine aK [1,2,4,5] fun F K=>?_
  obtain⟨f1,f2,f4,f5⟩:=K
  have H:=bM J m5 t ax
  have K:=bM f1 f2 f4 f5;clear f1 f2 f4 f5
  refine cV [1,2,4,5] fun F k=>?_;clear K H
  obtain⟨f1,f2,f4,f5⟩:=k
  try refine b5 ?_
  simp[jG,f5]
  exact ⟨by(try simp only);omega,fun j aB=>by(try simp only[au]);repeat (first|rfl|rw[if_neg (by omega)]),rfl,rfl⟩)
 exact ⟨dS,e,K⟩
theorem abq (Y:List cJ) (g:ah) (ax:∀j,g.next<=j->g.shut j=false) {i:Nat} (ab:i<=1000000) {p:Int × Bool} (bG:aE p.1<=500000):
 ∃dS,eP G (aI Tryz.prog) eN Y (.fn 109) [aJ i,dN p] g=some (dN (p.1*((i:Int)+1),false),dS)/\Kept g dS:=by
 obtain⟨x,mf⟩:=p
 simp only at bG|-
 have li:aE (((i+1:Nat):Int))<=1:=by rw[xX];exact cE.2 (by rw[lU];omega)
 have t:=nN (x,((i+1:Nat):Int)) ⟨bG,by simp only;omega,by simp only;omega⟩ (args:=[dN (x,mf),ai ((i+1:Nat):Int)]) (by simp)
 have to:=MM ((i+1:Nat):Int) (by omega) (args:=[aJ (i+1)]) rfl
 simp only at t
 have hw:IntKind.i64.wrap (Z i+Z 1)=Z (i+1):=dw (by omega)
 rw[show x*((i:Int)+1)=x*((i+1:Nat):Int) by rw[Int.natCast_add];rfl]
 generalize ((i+1:Nat):Int)=k at*
 generalize x*k=bQ at*
 obtain⟨v,dS,e,rfl,K⟩:=jX (Φ:=aI Tryz.prog) (G:=G) (tab:=eN) (Y:=Y) (h:=g) (args:=[aJ i,dN (x,mf)]) (R:=fun v h'=>v=dN (bQ,false)/\Kept g h') KB (by
  unfold i109
  refine aK [0,1,3,4] fun F K=>?_
  obtain⟨f0,f1,f3,f4⟩:=K
  have H:=bM t to hw ax
  have K:=bM f0 f1 f3 f4;clear f0 f1 f3 f4
  refine cV [0,1,3,4] fun F k=>?_;clear K H
  obtain⟨f0,f1,f3,f4⟩:=k
  try refine b5 ?_
  simp[jG,f4]
  exact ⟨by(try simp only);omega,fun j aB=>by(try simp only[au]);repeat (first|rfl|rw[if_neg (by omega)]),rfl,rfl⟩)
 exact ⟨dS,e,K⟩
theorem abr (Y:List cJ) (g:ah) (ax:∀j,g.next<=j->g.shut j=false) {c d n:Nat} {l:List Int} (J:g.cells c=some [aJ n]) (a3:g.cells d=some [aw l false]) (m5:c<g.next) (vX:d<g.next) (ak:n<=1000) (az:l.length<=1000) {i:Nat} (ab:i<l.length) {p:Int × Bool} (bG:aE p.1<=500000):
 ∃dS,eP G (aI Tryz.prog) eN Y (.fn 120) [aJ i,dN p,.ptr c 0 0,.ptr d 0 0] g=some (dN (p.1*2^(n*(l.length - 1 - i)),false),dS)/\Kept g dS:=by
 obtain⟨x,mf⟩:=p
 simp only at bG|-
 have nu:n*(l.length - 1 - i)<=1000*1000:=Nat.mul_le_mul ak (by omega)
 have t:=Zj (x,n*(l.length - 1 - i)) ⟨by simp only;omega,by simp only;omega⟩ (args:=[dN (x,mf),aJ (n*(l.length - 1 - i))]) (by simp)
 have d_:=Bo l (by omega) (args:=[aw l false]) (by simp)
 simp only at t
 have b7:IntKind.i64.wrap ((l.length:Int) - 1 - Z i)=Z (l.length - 1 - i):=by rw[wrap_i64 (by simp only[Z];omega) (by simp only[Z];omega)];simp only[Z];omega
 have c9:IntKind.i64.wrap (Z n*Z (l.length - 1 - i))=Z (n*(l.length - 1 - i)):=ql (by omega)
 generalize n*(l.length - 1 - i)=m at*
 generalize l.length - 1 - i=o4 at*
 generalize (l.length:Int) - 1=akc at*
 generalize x*2^m=bQ at*
 obtain⟨v,dS,e,rfl,K⟩:=jX (Φ:=aI Tryz.prog) (G:=G) (tab:=eN) (Y:=Y) (h:=g) (args:=[aJ i,dN (x,mf),.ptr c 0 0,.ptr d 0 0]) (R:=fun v h'=>v=dN (bQ,false)/\Kept g h') KI (by
  unfold i120
  refine aK [0,1,2,3,5,6] fun F K=>?_
  obtain⟨f0,f1,f2,f3,f5,f6⟩:=K
  have H:=fO J a3 m5 vX d_ b7 c9 t ax
  have K:=c7 f0 f1 f2 f3 f5 f6;clear f0 f1 f2 f3 f5 f6
  refine cV [0,1,2,3,5,6] fun F k=>?_;clear K H
  obtain⟨f0,f1,f2,f3,f5,f6⟩:=k
  try refine b5 ?_
  simp[jG,f6]
  exact ⟨by(try simp only);omega,fun j aB=>by(try simp only[au]);repeat (first|rfl|rw[if_neg (by omega)]),rfl,rfl⟩)
 exact ⟨dS,e,K⟩
theorem abt (Y:List cJ) (g:ah) (ax:∀j,g.next<=j->g.shut j=false) {i:Nat} (ab:i<=1000000) {p:Int × Bool} (bG:aE p.1<=500000):
 ∃dS,eP G (aI Tryz.prog) eN Y (.fn 123) [aJ i,dN p] g=some (dN (if i%2=1 then (-p.1,false) else p),dS)/\Kept g dS:=by
 obtain⟨x,mf⟩:=p
 simp only at bG|-
 have pG:(i&&&1)=i%2:=Nat.and_one_is_mod i
 have PF:i<9223372036854775808:=by omega
 have t:=xM x (by omega) (args:=[dN (x,mf)]) (by simp)
 generalize -x=bQ at*
 obtain⟨v,dS,e,rfl,K⟩:=jX (Φ:=aI Tryz.prog) (G:=G) (tab:=eN) (Y:=Y) (h:=g) (args:=[aJ i,dN (x,mf)]) (R:=fun v h'=>v=dN (if i%2=1 then (bQ,false) else (x,mf))/\Kept g h') KJ (by
  unfold i123
  by_cases ay:i%2=1
  · rw[if_pos ay]
    refine aK [0,1,3,4,7] fun F K=>?_
    obtain⟨f0,f1,f3,f4,f7⟩:=K
    have H:=bx PF pG ay t ax
    have K:=bx f0 f1 f3 f4 f7;clear f0 f1 f3 f4 f7
    refine cV [0,1,3,4,7] fun F k=>?_;clear K H
    obtain⟨f0,f1,f3,f4,f7⟩:=k
    try refine b5 ?_
    simp[jG,f4]
    exact ⟨by(try simp only);omega,fun j aB=>by(try simp only[au]);repeat (first|rfl|rw[if_neg (by omega)]),rfl,rfl⟩
  · rw[if_neg ay]
    have he:i%2=0:=by omega
    refine aK [0,1,3,4,7] fun F K=>?_
    obtain⟨f0,f1,f3,f4,f7⟩:=K
    have H:=bx PF pG he t ax
    have K:=bx f0 f1 f3 f4 f7;clear f0 f1 f3 f4 f7
    refine cV [0,1,3,4,7] fun F k=>?_;clear K H
    obtain⟨f0,f1,f3,f4,f7⟩:=k
    try refine b5 ?_
    simp[jG,f4]
    exact ⟨by(try simp only);omega,fun j aB=>by(try simp only[au]);repeat (first|rfl|rw[if_neg (by omega)]),rfl,rfl⟩)
 exact ⟨dS,e,K⟩
theorem abu (Y:List cJ) (g:ah) (ax:∀j,g.next<=j->g.shut j=false) {b c d:Nat} {f:FuncId} {T:List I->Option I} (cD:eN f=some T) {x y:List Int} (ad:g.cells b=some [.fn f [] []]) (J:g.cells c=some [aw x false]) (a3:g.cells d=some [aw y false]) (vF:b<g.next) (m5:c<g.next) (vX:d<g.next) (ae:x.length<=1000000) (aQ:y.length<=1000000) {i:Nat} (ab:i<=1000000) {r:Int} (t:T [ai (x.getD i 0),ai (y.getD i 0)]=some (ai r)):
 ∃dS,eP G (aI Tryz.prog) eN Y (.fn 207) [aJ i,.bool false,.ptr b 0 0,.ptr c 0 0,.ptr d 0 0] g=some (dN (r,false),dS)/\Kept g dS:=by
 have t1:=PE (x,i) ⟨by simp only;omega,ae⟩ (args:=[aw x false,aJ i]) (by simp)
 have t2:=PE (y,i) ⟨by simp only;omega,aQ⟩ (args:=[aw y false,aJ i]) (by simp)
 simp only at t1 t2
 generalize x.getD i 0=akd at*
 generalize y.getD i 0=ake at*
 obtain⟨v,dS,e,rfl,K⟩:=jX (Φ:=aI Tryz.prog) (G:=G) (tab:=eN) (Y:=Y) (h:=g) (args:=[aJ i,.bool false,.ptr b 0 0,.ptr c 0 0,.ptr d 0 0]) (R:=fun v h'=>v=dN (r,false)/\Kept g h') U3 (by
  unfold i207
  refine aK [0,2,3,4,7] fun F K=>?_
  obtain⟨f0,f2,f3,f4,f7⟩:=K
  have H:=kS ad J a3 vF m5 vX t1 t2 cD t ax
  have K:=bx f0 f2 f3 f4 f7;clear f0 f2 f3 f4 f7
  refine cV [0,2,3,4,7] fun F k=>?_;clear K H
  obtain⟨f0,f2,f3,f4,f7⟩:=k
  try refine b5 ?_
  simp[jG,f7]
  exact ⟨by(try simp only);omega,fun j aB=>by(try simp only[au]);repeat (first|rfl|rw[if_neg (by omega)]),rfl,rfl⟩)
 exact ⟨dS,e,K⟩
end
section
attribute [local irreducible] ba
attribute [local simp] cW cI ct
noncomputable def r4:FuncId->Option (List I->Option I):=cf [(205,vE)]
theorem abv:∀f T,r4 f=some T->aH Tryz.prog G f T:=cg (by simp only[List.forall_mem_cons];exact ⟨OB,fun _ h=>absurd h (by simp)⟩)
theorem abw:r4 205=some vE:=rfl
theorem abx:r4 138=none:=rfl
theorem aby:r4 204=none:=rfl
theorem abz:r4 53=none:=rfl
attribute [local simp] abw abx aby abz
structure tO (a b:Nat) (h:ah):Prop where
 b8:∃xs e,h.cells 1=some [.sl xs e]
 k6:h.cells 5=some [af a]
 m1:h.cells 6=some [af b]
 s1:h.shut 1=false
 kY:h.shut 5=false
 oO:h.shut 6=false
 jV:h.aV 10=some .ready
 c0:10<h.next
theorem tO.bump {a b:Nat} {h:ah} (aj:tO a b h) (n:Nat) (ak:h.next<=n):tO a b ⟨h.cells,h.shut,n,h.aV⟩:=
 ⟨aj.b8,aj.k6,aj.m1,aj.s1,aj.kY,aj.oO,aj.jV,Nat.lt_of_lt_of_le aj.c0 ak⟩
theorem abA (Y:List cJ) {F:Nat->I} (f5:F 5= .ptr 1 0 0) {h:ah} {a b:Nat} (aj:tO a b h):
 ∃u h',eP G (aI Tryz.prog) r4 (⟨10,F,[10,11],(.region false [⟨(some 6),(.mv (.t 10)),none⟩] []),(.block 1 (.region false [⟨(some 12),(.mv (.t 6)),none⟩,⟨none,(.store 1 (.t 5) (.t 12)),none⟩] []))⟩::Y) (.lv 10) [af a,af b] h=some (u,h')/\u= .bool true/\tO a b h'/\h'.cells 1=some [af a]/\h.next<=h'.next:=by
 obtain⟨xs,e,b8⟩:=aj.b8
 have k6:=aj.k6
 have m1:=aj.m1
 have s1:=aj.s1
 have c0:=aj.c0
 refine D0 (L:=⟨10,F,[10,11],(.region false [⟨(some 6),(.mv (.t 10)),none⟩] []),(.block 1 (.region false [⟨(some 12),(.mv (.t 6)),none⟩,⟨none,(.store 1 (.t 5) (.t 12)),none⟩] []))⟩) (Y':=Y) (by simp[om]) rfl ?_
 simp only[nh]
 refine bm n3 ?_
 simp[aj.jV,Nat.add_assoc]
 refine jW (bm n3 ?_)
 simp(disch:=omega) [aG,List.getElem?_cons_zero,List.getElem?_cons_succ,dw,cM,fe,Nat.mod_eq_of_lt,iw,ix,iy,iz,fk,iA,iB,iC,f5,b8,s1,Nat.add_assoc,uo,kH,yW,o5,q3]
 exact ⟨⟨_,_,rfl⟩,by simp[au,k6],by simp[au,m1],s1,aj.kY,aj.oO,by simp[au],by show 10<h.next+3;omega⟩
theorem abB (Y:List cJ) (h:ah) (a b:Nat):
 eP G (aI Tryz.prog) r4 Y (.fn 138) [af a,af b] h=some (.fn 204 [] [.ptr h.next 0 0,.ptr (h.next+1) 0 0],⟨au (au h.cells h.next (some [af a])) (h.next+1) (some [af b]),h.shut,h.next+5,h.aV⟩):=by
 obtain⟨v,h',e,rfl,rfl⟩:=jX (Φ:=aI Tryz.prog) (G:=G) (tab:=r4) (Y:=Y) (h:=h) (args:=[af a,af b]) (R:=fun v h'=>v= .fn 204 [] [.ptr h.next 0 0,.ptr (h.next+1) 0 0]/\h'=⟨au (au h.cells h.next (some [af a])) (h.next+1) (some [af b]),h.shut,h.next+5,h.aV⟩) KM (by
  unfold i138
  refine aK [0,1,2,3,4] fun F K=>?_
  obtain⟨f0,f1,f2,f3,f4⟩:=K
  have H:=(@Nat.add_assoc)
  have K:=bx f0 f1 f2 f3 f4;clear f0 f1 f2 f3 f4
  refine cV [0,1,2,3,4] fun F k=>?_;clear K H
  obtain⟨f0,f1,f2,f3,f4⟩:=k
  try refine b5 ?_
  simp[jG,f4])
 exact e
noncomputable def r5:List I->Option I:=a9 (fun z:Nat × Nat=>(aa z.1).length<=1000000/\(aa z.2).length<=1000000) (fun z=>[af z.1,af z.2]) (fun z=>af (Nat.gcd z.1 z.2))
theorem GG (z:Nat × Nat) (h:(aa z.1).length<=1000000/\(aa z.2).length<=1000000) {args:List I} (he:args.map I.loose= [af z.1,af z.2]):r5 args=some (af (Nat.gcd z.1 z.2)):=bk (fun z w h=>by simp only[List.cons.injEq,I.int.injEq,I.bool.injEq,I.sl.injEq,bX,bW,bU,b4,bZ,bq,bE,bY,bj,true_and,and_true] at h;simp[h]) z h he
theorem GH:aH Tryz.prog G 53 r5:=by
 refine bg mixed abv Ki fun z ar=>?_
 obtain⟨a,b⟩:=z
 obtain⟨bs,bp⟩:=ar
 simp only at bs bp|-
 unfold i53
 refine aK [0,1,4,5,6,9,10] fun F K=>?_
 obtain⟨f0,f1,f4,f5,f6,f9,f10⟩:=K
 have H:=(@abB)
 have K:=dh f0 f1 f4 f5 f6 f9 f10;clear f0 f1 f4 f5 f6 f9 f10
 refine cV [0,1,4,5,6,9,10] fun F k=>?_;clear K H
 obtain⟨f0,f1,f4,f5,f6,f9,f10⟩:=k
 refine jW (DZ f9 K7 ?_)
 have dC:=f5
 clear f0 f1 f5 f9
 unfold i204
 simp
 refine aK [0,1,2] fun F K=>?_
 obtain⟨f0,f1,f2⟩:=K
 refine m3 (fun k s=>∃x y,y=k/\(aa x).length<=1000000/\(aa y).length<=1000000/\Nat.gcd x y=Nat.gcd a b/\tO x y s.h) (fun s=>tO (Nat.gcd a b) 0 s.h/\s.h.cells 1=some [af (Nat.gcd a b)]) (fun _=>False) b ?_ ?_ ?_ (fun _ _ h=>h.elim)
 · refine⟨a,b,rfl,bs,bp,rfl,?_⟩
   exact ⟨⟨[],true,by simp[au]⟩,by simp[au],by simp[au],by simp,by simp,by simp,by simp[au],by simp⟩
 · rintro k s ag ⟨x,y,rfl,z9,tC,aY,aj⟩
   replace f0:=(ag 0 rfl).trans f0;replace f1:=(ag 1 rfl).trans f1;replace f2:=(ag 2 rfl).trans f2
   have k6:=aj.k6
   have m1:=aj.m1
   have kY:=aj.kY
   have oO:=aj.oO
   have c0:=aj.c0
   obtain⟨u,h',nX,rfl,lf,b8,ak⟩:=abA [] dC (aj.bump (s.h.next+9) (by omega))
   simp only at ak
   have abC:=lf.k6
   have PG:=lf.m1
   have abD:=lf.kY
   have abE:=lf.oO
   have akf:=lf.c0
   have K:=b3 f0 f1 f2;clear f0 f1 f2
   refine bO [0,1,2,5,15] fun F k=>?_;clear K
   obtain⟨f0,f1,f2,f5,f15⟩:=k
   by_cases aQ:y=0
   · subst aQ
     have dB:aa 0= []:=eT
     have H:=bx k6 m1 nX PG dB
     have K:=bx f0 f1 f2 f5 f15;clear f0 f1 f2 f5 f15
     refine cV [0,1,2,5,15] fun F k=>?_;clear K H
     obtain⟨f0,f1,f2,f5,f15⟩:=k
     rw[Nat.gcd_zero_right] at aY
     rw[aY] at lf b8
     exact ⟨lf.bump _ (by omega),b8⟩
   · have hyp:0<(aa y).length:=lV.2 aQ
     have abF:¬aa y= []:=fun h=>aQ (jJ.1 h)
     have d_:=Ob (x,y) ⟨by simp only;omega,by simp only;omega⟩ (args:=[af x,af y]) (by simp)
     simp only[if_neg aQ] at d_
     have H:=kl k6 m1 nX abC PG abD abE hyp abF d_
     have K:=bx f0 f1 f2 f5 f15;clear f0 f1 f2 f5 f15
     refine cV [0,1,2,5,15] fun F k=>?_;clear K H
     obtain⟨f0,f1,f2,f5,f15⟩:=k
     refine⟨x%y,Nat.mod_lt _ (by omega),y,tC,?_,?_,?_⟩
     · exact Nat.le_trans (gh (Nat.le_of_lt (Nat.mod_lt _ (by omega)))) tC
     · rw[<-aY,Nat.gcd_comm y (x%y),<-Nat.gcd_rec y x,Nat.gcd_comm]
     · exact ⟨⟨_,_,b8⟩,by simp[au],by simp[au],lf.s1,lf.kY,lf.oO,lf.jV,by simp only;omega⟩
 · rintro s ag ⟨aj,b8⟩
   have c0:=aj.c0
   refine⟨trivial,⟨_,rfl⟩,?_⟩
   simp only[aj.jV]
   simp
   have f5:=dC
   have K:=f5;clear f5
   refine bO [4,5,13] fun F k=>?_;clear K
   obtain⟨f4,f5,f13⟩:=k
   have H:=b8
   have K:=b3 f4 f5 f13;clear f4 f5 f13
   exact kU [4,5,13]
end
end
end Go.Proofs.YtemiagcencajeaaGreatDoor
