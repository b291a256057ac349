/- What the claim needs of the walks, put together by a program (shake.py). -/
import Derived.Test.YtemiagcencajeaaGreatDoorXmG
set_option maxRecDepth 100000
set_option linter.unusedSimpArgs false
set_option linter.unusedVariables false
set_option linter.unusedSectionVars false
namespace Go.Proofs.YtemiagcencajeaaGreatDoor
section
set_option maxHeartbeats 8000000
open Go Go.Eng Go.RowKit
theorem Nw (a:List Int) (f:Int->Int):((List.range a.length).map fun i=>f (a.getD i 0))=a.map f:=by
 apply List.ext_getElem
 · simp
 · intro i U h2
   simp[List.getD_eq_getElem?_getD,show i<a.length by simpa using U]
theorem xj {a:List Int} {i:Nat} {p:Int × Bool} (h:(a.map fun z=>(z,false))[i]? =some p):p=(a.getD i 0,false)/\i<a.length:=by
 rw[List.getElem?_map] at h
 obtain⟨x,ae,rfl⟩:=Option.map_eq_some_iff.1 h
 have ab:=(List.getElem?_eq_some_iff.1 ae).1
 refine⟨?_,ab⟩
 rw[List.getD_eq_getElem?_getD,ae];rfl
theorem Zl (n:Nat) (f:Nat->Int):zs ((List.range n).map fun i=>(f i,false))=(List.range n).map f:=by
 rw[zs,List.map_map];rfl
end
section
@[ext] structure Ser where
  c:Nat->Int
namespace Ser
def conv:Nat->(Nat->Int)->(Nat->Int)->Int
 | 0,f,g=>f 0*g 0
 | n+1,f,g=>f 0*g (n+1)+conv n (fun i=>f (i+1)) g
theorem ET:∀n f g h,conv n f (fun i=>g i+h i)=conv n f g+conv n f h
 | 0,f,g,h=>by simp only[conv];grind
 | n+1,f,g,h=>by simp only[conv];rw[ET n];grind
theorem Nx:∀n f g,conv (n+1) f g=conv n f (fun i=>g (i+1))+f (n+1)*g 0
 | 0,f,g=>by simp only[conv]
 | n+1,f,g=>by
   rw[conv,Nx n,conv];grind
theorem u2:∀n f g,conv n f g=conv n g f
 | 0,f,g=>by simp only[conv];grind
 | n+1,f,g=>by rw[conv,Nx,u2 n];grind
theorem Ny (n f g h):conv n (fun i=>g i+h i) f=conv n g f+conv n h f:=by
 rw[u2,ET,u2 n f g,u2 n f h]
theorem Nz:∀n c f g,conv n (fun i=>c*f i) g=c*conv n f g
 | 0,c,f,g=>by simp only[conv];grind
 | n+1,c,f,g=>by simp only[conv];rw[Nz n c (fun i=>f (i+1))];grind
theorem NA:∀n f g h,conv n (fun k=>conv k f g) h=conv n f (fun k=>conv k g h)
 | 0,f,g,h=>by simp only[conv];grind
 | n+1,f,g,h=>by
   rw[conv]
   simp only[conv]
   rw[Ny,Nz,NA n]
   grind
theorem NB:∀n f,conv n f (fun _=>0)=0
 | 0,f=>by simp only[conv];grind
 | n+1,f=>by simp only[conv];rw[NB n];grind
def C (z:Int):Ser:=⟨fun i=>if i=0 then z else 0⟩
theorem NC (n:Nat) (z:Int) (g:Nat->Int):conv n (C z).c g=z*g n:=by
 cases n with
 | zero=>simp[conv,C]
 | succ n=>
   rw[conv,u2]
   have:(fun i=>(C z).c (i+1))=fun _=>0:=by funext i;simp[C]
   rw[this,NB]
   simp[C]
instance:Add Ser:=⟨fun f g=>⟨fun i=>f.c i+g.c i⟩⟩
instance:Mul Ser:=⟨fun f g=>⟨fun i=>conv i f.c g.c⟩⟩
instance:Neg Ser:=⟨fun f=>⟨fun i=> -f.c i⟩⟩
instance:Sub Ser:=⟨fun f g=>⟨fun i=>f.c i - g.c i⟩⟩
instance:NatCast Ser:=⟨fun n=>C n⟩
instance:IntCast Ser:=⟨C⟩
instance (n:Nat):OfNat Ser n:=⟨C n⟩
def npow (f:Ser):Nat->Ser
 | 0=>C 1
 | n+1=>npow f n*f
instance:HPow Ser Nat Ser:=⟨npow⟩
instance:SMul Nat Ser:=⟨fun n f=>(C n)*f⟩
instance:SMul Int Ser:=⟨fun n f=>(C n)*f⟩
theorem mF (f g:Ser) (i:Nat):(f+g).c i=f.c i+g.c i:=rfl
theorem Zm (f g:Ser) (i:Nat):(f - g).c i=f.c i - g.c i:=rfl
theorem ND (f:Ser) (i:Nat):(-f).c i= -f.c i:=rfl
theorem NF (f g:Ser) (i:Nat):(f*g).c i=conv i f.c g.c:=rfl
theorem nL (z:Int) (i:Nat):(C z).c i=if i=0 then z else 0:=rfl
theorem mG (z:Int) (f:Ser) (i:Nat):(C z*f).c i=z*f.c i:=NC i z f.c
theorem NG (a b:Int):C (a+b)=C a+C b:=by ext i;simp only[mF,nL];split<;>simp
theorem Zn (a:Int):C (-a)= -C a:=by ext i;simp only[ND,nL];split<;>simp
theorem Ae (a b:Int):C (a*b)=C a*C b:=by ext i;rw[mG];simp only[nL];split<;>simp
theorem Af (f g:Ser):f*g=g*f:=by ext i;exact u2 i f.c g.c
instance:Lean.Grind.CommRing Ser where
 nsmul:=inferInstance
 zsmul:=inferInstance
 add_zero a:=by ext i;show a.c i+(C 0).c i=a.c i;simp[nL]
 add_comm a b:=by ext i;simp only[mF];omega
 add_assoc a b c:=by ext i;simp only[mF];omega
 mul_assoc a b c:=by ext i;exact NA i a.c b.c c.c
 mul_one a:=by rw[Af];ext i;show (C 1*a).c i=a.c i;rw[mG];simp
 left_distrib a b c:=by ext i;exact ET i a.c b.c c.c
 zero_mul a:=by ext i;show (C 0*a).c i=(C 0).c i;rw[mG];simp[nL]
 pow_zero a:=rfl
 pow_succ a n:=rfl
 ofNat_succ n:=by show C ((n+1:Nat):Int)=C n+C 1;rw[<-NG];rfl
 neg_add_cancel a:=by ext i;show -a.c i+a.c i=(C 0).c i;simp[nL];omega
 sub_eq_add_neg a b:=by ext i;show a.c i - b.c i=a.c i+ -b.c i;omega
 neg_zsmul n a:=by show C (-n)*a= -(C n*a);ext i;rw[ND,mG,mG,Int.neg_mul]
 intCast_neg n:=Zn n
 mul_comm:=Af
 one_mul a:=by ext i;show (C 1*a).c i=a.c i;rw[mG];simp
 right_distrib a b c:=by ext i;exact Ny i c.c a.c b.c
 mul_zero a:=by rw[Af];ext i;show (C 0*a).c i=(C 0).c i;rw[mG];simp[nL]
theorem Zo:C 0=0:=rfl
theorem Zp:C 1=1:=rfl
theorem Ag (i:Nat):(0:Ser).c i=0:=by show (if i=0 then (0:Int) else 0)=0;split<;>rfl
def mono (n:Nat) (z:Int):Ser:=⟨fun i=>if i=n then z else 0⟩
theorem s4 (n:Nat) (z:Int) (i:Nat):(mono n z).c i=if i=n then z else 0:=rfl
theorem NH (z:Int):mono 0 z=C z:=rfl
def X:Ser:=mono 1 1
theorem u3 (f:Ser) (i:Nat):(X*f).c i=if i=0 then 0 else f.c (i - 1):=by
 rw[NF]
 cases i with
 | zero=>simp[conv,X,s4]
 | succ i=>
   have e:(fun i=>X.c (i+1))=(C 1).c:=by
    funext i
    by_cases h:i=0<;>simp[X,s4,nL,h]
   rw[conv,e,NC]
   simp[X,s4]
theorem NI (n:Nat) (z:Int):X*mono n z=mono (n+1) z:=by
 ext i
 rw[u3,s4,s4]
 cases i with
 | zero=>simp
 | succ i=>simp
theorem xk:∀(n:Nat) (z:Int),mono n z=C z*X^n
 | 0,z=>by rw[NH];grind
 | n+1,z=>by rw[<-NI,xk n z];grind
end Ser
open Ser
def bf (l:List Int):Ser:=⟨fun i=>l.getD i 0⟩
theorem lx (l:List Int) (i:Nat):(bf l).c i=l.getD i 0:=rfl
theorem nk:bf []=0:=by ext i;rw[Ag];rfl
theorem rh (x:Int) (l:List Int):bf (x::l)=C x+X*bf l:=by
 ext i
 rw[mF,u3,nL,lx]
 cases i<;>simp[lx]
theorem Zq {l:List Int} {i:Nat} (h:i<l.length) (v:Int):bf (l.set i v)=bf l+mono i (v - l.getD i 0):=by
 ext j
 rw[mF,s4,lx,lx]
 by_cases e:i=j
 · subst e;simp[h];omega
 · simp[List.getElem?_set_ne e];rw[if_neg (by omega)];omega
theorem Ah (l:List Int) (i:Nat):bf (l.take (i+1))=bf (l.take i)+mono i (l.getD i 0):=by
 ext j
 rw[mF,s4,lx,lx]
 simp only[List.getD_eq_getElem?_getD,List.getElem?_take]
 by_cases h:j<i
 · rw[if_pos (by omega),if_pos h,if_neg (by omega)];omega
 · by_cases e:j=i
   · subst e;simp
   · rw[if_neg (by omega),if_neg h,if_neg e];rfl
theorem Zr (n:Nat):bf (List.replicate n 0)=0:=by
 ext i;rw[lx,Ag];simp[List.getElem?_replicate];split<;>rfl
def cO (l:List Int):Prop:=l= []\/l.getD (l.length - 1) 0≠0
theorem k4 {a b:List Int} (aC:cO a) (ad:cO b) (h:bf a=bf b):a=b:=by
 have J:∀i,a.getD i 0=b.getD i 0:=fun i=>congrArg (fun s=>s.c i) h
 have aux:∀ {a b:List Int},cO b->(∀i,a.getD i 0=b.getD i 0)->b.length<=a.length:=by
  intro a b ad J
  refine Nat.le_of_not_lt fun az=>?_
  rcases ad with rfl|ad
  · simp at az
  · apply ad;rw[<-J,List.getD_eq_getElem?_getD,List.getElem?_eq_none (by omega)];rfl
 have az:a.length=b.length:=Nat.le_antisymm (aux aC fun i=>(J i).symm) (aux ad J)
 refine List.ext_getElem az fun i U h2=>?_
 have:=J i
 simpa[List.getD_eq_getElem?_getD,U,h2] using this
def strip:List Int->List Int
 | []=>[]
 | x::l=>match strip l with
   | []=>if x=0 then [] else [x]
   | y::r=>x::y::r
theorem nM:∀l,bf (strip l)=bf l
 | []=>rfl
 | x::l=>by
   rw[rh,<-nM l,strip]
   cases h:strip l with
   | nil=>
     simp only
     split
     · rename_i ae;rw[ae,nk,Zo];grind
     · rw[rh]
   | cons y r=>simp only;rw[rh x]
theorem qj:∀l,cO (strip l)
 | []=> .inl rfl
 | x::l=>by
   rw[strip]
   have a8:=qj l
   cases h:strip l with
   | nil=>
     simp only
     split
     · exact .inl rfl
     · exact .inr (by simpa)
   | cons y r=>
     rw[h] at a8
     right
     rcases a8 with a8|a8
     · cases a8
     · simpa using a8
theorem oy:∀l,(strip l).length<=l.length
 | []=>Nat.le_refl _
 | x::l=>by
   rw[strip]
   have a8:=oy l
   cases h:strip l with
   | nil=>simp only;split<;>simp
   | cons y r=>rw[h] at a8;simp only[List.length_cons] at*;omega
theorem Ai {l:List Int} (h:cO l):strip l=l:=k4 (qj l) h (nM l)
theorem NJ {a l:List Int} (h:cO a) (e:bf a=bf l):strip l=a:=k4 (qj l) h (by rw[nM,e])
end
section
open Ser Lean.Grind
attribute [local instance] Lean.Grind.Ring.intCast
section ev
variable {R:Type} [CommRing R]
def ev (y:R):List Int->R
 | []=>0
 | x::l=>(x:R)+y*ev y l
def al (x y:R):Nat->List Int->R
 | _,[]=>0
 | n,c::l=>(c:R)*y^n+x*al x y (n - 1) l
def pg:List Int->List Int->List Int
 | [],b=>b
 | a,[]=>a
 | x::a,y::b=>(x+y)::pg a b
def nN:List Int->List Int->List Int
 | [],_=>[]
 | x::a,b=>pg (b.map fun y=>x*y) (0::nN a b)
theorem NK (a b:Int):((a+b:Int):R)=(a:R)+(b:R):=Ring.intCast_add a b
theorem Aj (a b:Int):((a*b:Int):R)=(a:R)*(b:R):=Ring.intCast_mul a b
theorem xl:((0:Int):R)=0:=Ring.intCast_zero
theorem Zs:((1:Int):R)=1:=Ring.intCast_one
theorem Zt (a:Int):((-a:Int):R)= -(a:R):=Ring.intCast_neg a
theorem Ak (a:Int):∀n:Nat,((a^n:Int):R)=(a:R)^n
 | 0=>by rw[Int.pow_zero,Zs,Semiring.pow_zero]
 | n+1=>by rw[Int.pow_succ,Aj,Ak a n,Semiring.pow_succ]
theorem NL (y:R):∀a b,ev y (pg a b)=ev y a+ev y b
 | [],b=>by simp only[pg,ev];grind
 | x::a,[]=>by simp only[pg,ev];grind
 | x::a,z::b=>by simp only[pg,ev,NL y a b,NK];grind
theorem EU (y:R) (c:Int):∀a,ev y (a.map fun x=>c*x)=(c:R)*ev y a
 | []=>by simp only[List.map_nil,ev];grind
 | x::a=>by simp only[List.map_cons,ev,EU y c a,Aj];grind
theorem Al (y:R):∀a b,ev y (nN a b)=ev y a*ev y b
 | [],b=>by simp only[nN,ev];grind
 | x::a,b=>by simp only[nN,NL,EU,ev,Al y a b,xl];grind
theorem xm (y:R):∀a,(∀i,a.getD i 0=0)->ev y a=0
 | [],_=>rfl
 | x::a,h=>by
   rw[ev,xm y a fun i=>by simpa using h (i+1),show x=0 by simpa using h 0,xl];grind
theorem NM (y:R):∀a b:List Int,(∀i,a.getD i 0=b.getD i 0)->ev y a=ev y b
 | [],b,h=>(xm y b fun i=>(h i).symm).symm
 | x::a,[],h=>xm y (x::a) h
 | x::a,z::b,h=>by
   rw[ev,ev,NM y a b fun i=>by simpa using h (i+1),show x=z by simpa using h 0]
theorem eA (y:R) {a b:List Int} (h:bf a=bf b):ev y a=ev y b:=NM y a b fun i=>congrArg (fun s=>s.c i) h
theorem NN (y:R):∀a b,ev y (a++b)=ev y a+y^a.length*ev y b
 | [],b=>by simp only[List.nil_append,ev,List.length_nil];grind
 | x::a,b=>by simp only[List.cons_append,ev,NN y a b,List.length_cons];grind
theorem EV (x y:R):∀n a b,al x y n (pg a b)=al x y n a+al x y n b
 | n,[],b=>by simp only[pg,al];grind
 | n,z::a,[]=>by simp only[pg,al];grind
 | n,z::a,w::b=>by simp only[pg,al,EV x y (n - 1) a b,NK];grind
theorem EW (x y:R) (c:Int):∀n a,al x y n (a.map fun z=>c*z)=(c:R)*al x y n a
 | n,[]=>by simp only[List.map_nil,al];grind
 | n,z::a=>by simp only[List.map_cons,al,EW x y c (n - 1) a,Aj];grind
theorem EX (y:R) (n:Nat):∀m,y^(n+m)=y^n*y^m
 | 0=>by rw[Nat.add_zero,Semiring.pow_zero,Semiring.mul_one]
 | m+1=>by rw[<-Nat.add_assoc,Semiring.pow_succ,EX y n m,Semiring.pow_succ];grind
theorem NO (x y:R) (m:Nat):∀n a,a.length<=n+1->al x y (n+m) a=y^m*al x y n a
 | n,[],_=>by simp only[al];grind
 | 0,[z],_=>by simp only[al,Nat.zero_add];grind
 | 0,z::w::a,h=>by simp at h
 | n+1,z::a,h=>by
   have e:n+1+m - 1=n+m:=by omega
   simp only[al,e,Nat.add_sub_cancel,NO x y m n a (by simpa using h),EX y (n+1) m];grind
theorem EY (x y:R):∀n a,(∀i,a.getD i 0=0)->al x y n a=0
 | n,[],_=>rfl
 | n,z::a,h=>by
   rw[al,EY x y _ a fun i=>by simpa using h (i+1),show z=0 by simpa using h 0,xl];grind
theorem NP (x y:R):∀n (a b:List Int),(∀i,a.getD i 0=b.getD i 0)->al x y n a=al x y n b
 | n,[],b,h=>(EY x y n b fun i=>(h i).symm).symm
 | n,z::a,[],h=>EY x y n (z::a) h
 | n,z::a,w::b,h=>by
   rw[al,al,NP x y _ a b fun i=>by simpa using h (i+1),show z=w by simpa using h 0]
theorem Zu (x y:R) (n:Nat) {a b:List Int} (h:bf a=bf b):al x y n a=al x y n b:=NP x y n a b fun i=>congrArg (fun s=>s.c i) h
theorem NQ (x y:R) (m:Nat):∀n a b,a.length<=n+1->b.length<=m+1->al x y (n+m) (nN a b)=al x y n a*al x y m b
 | n,[],b,_,_=>by simp only[nN,al];grind
 | 0,[z],b,_,ad=>by simp only[nN,EV,EW,al,xl,Nat.zero_add];grind
 | 0,z::w::a,b,h,_=>by simp at h
 | n+1,z::a,b,h,ad=>by
   have e:n+1+m - 1=n+m:=by omega
   have au:al x y (n+1+m) b=y^(n+1)*al x y m b:=by rw[Nat.add_comm,NO x y (n+1) m b ad]
   simp only[nN,EV,EW,al,xl,e,NQ x y m n a b (by simpa using h) ad,au,Nat.add_sub_cancel];grind
end ev
theorem nm:∀l,bf l=ev X l
 | []=>nk
 | x::l=>by rw[rh,nm l,ev];rfl
theorem EZ (a b:List Int):bf (nN a b)=bf a*bf b:=by rw[nm,nm,nm,Al]
theorem NR (c:Int) (a:List Int):bf (a.map fun x=>c*x)=C c*bf a:=by rw[nm,nm,EU];rfl
def ek (a b:List Int):List Int:=strip ((List.range (max a.length b.length)).map fun i=>a.getD i 0+b.getD i 0)
def lP (a b:List Int):List Int:=strip ((List.range (max a.length b.length)).map fun i=>a.getD i 0 - b.getD i 0)
def bh (a b:List Int):List Int:=strip ((List.range (a.length+b.length - 1)).map fun i=>conv i (bf a).c (bf b).c)
def gD (a:List Int) (c:Int):List Int:=strip (a.map fun x=>x*c)
theorem ri (n:Nat) (f:Nat->Int) (i:Nat):((List.range n).map f).getD i 0=if i<n then f i else 0:=by
 simp only[List.getD_eq_getElem?_getD,List.getElem?_map]
 by_cases h:i<n
 · simp[h]
 · simp[h]
theorem oz {l:List Int} {i:Nat} (h:l.length<=i):l.getD i 0=0:=by simp[List.getD_eq_getElem?_getD,h]
theorem Am {n:Nat} {f:Nat->Int} {s:Ser} (U:∀i,i<n->s.c i=f i) (h2:∀i,n<=i->s.c i=0):bf ((List.range n).map f)=s:=by
 ext i
 rw[lx,ri]
 split
 · exact (U i ‹_›).symm
 · exact (h2 i (by omega)).symm
theorem nO (a b:List Int):bf (ek a b)=bf a+bf b:=by
 rw[ek,nM]
 refine Am (fun i _=>rfl) fun i h=>?_
 rw[mF,lx,lx,oz (by omega),oz (by omega)];rfl
theorem E0 (a b:List Int):bf (lP a b)=bf a - bf b:=by
 rw[lP,nM]
 refine Am (fun i _=>rfl) fun i h=>?_
 rw[Zm,lx,lx,oz (by omega),oz (by omega)];rfl
theorem E1 {f g:Nat->Int}:∀n,(∀i,i<=n->f i=0\/g (n - i)=0)->conv n f g=0
 | 0,h=>by rcases h 0 (Nat.le_refl _) with h|h<;>simp_all[conv]
 | n+1,h=>by
   rw[conv]
   have a8:=E1 (f:=fun i=>f (i+1)) (g:=g) n fun i ab=>by
    have:=h (i+1) (by omega)
    rwa [show n+1 -(i+1)=n - i by omega] at this
   rw[a8]
   rcases h 0 (by omega) with h|h
   · rw[h];simp
   · rw[Nat.sub_zero] at h;rw[h];simp
theorem Zv {a b:List Int} {i:Nat} (h:a.length+b.length<=i+1):conv i (bf a).c (bf b).c=0:=E1 i fun k ag=>by
 by_cases ph:a.length<=k
 · exact .inl (oz ph)
 · exact .inr (oz (by omega))
theorem fL (a b:List Int):bf (bh a b)=bf a*bf b:=by
 rw[bh,nM]
 exact Am (fun i _=>rfl) fun i h=>Zv (by omega)
theorem NS (a:List Int) (c:Int):bf (gD a c)=C c*bf a:=by
 rw[gD,nM,<-NR]
 congr 2;funext x;exact Int.mul_comm ..
theorem rj (a b:List Int):cO (ek a b):=qj _
theorem E2 (a b:List Int):cO (lP a b):=qj _
theorem ly (a b:List Int):cO (bh a b):=qj _
theorem NT (a:List Int) (c:Int):cO (gD a c):=qj _
theorem NU {f g:Nat->Int}:∀n m,(∀i,n<i->f i=0)->(∀i,m<i->g i=0)->conv (n+m) f g=f n*g m
 | 0,m,a_,aW=>by
   rw[Nat.zero_add]
   cases m with
   | zero=>rfl
   | succ m=>rw[conv,E1 m fun i _=> .inl (a_ _ (by omega))];simp
 | n+1,m,a_,aW=>by
   rw[show n+1+m=n+m+1 by omega,conv,aW (n+m+1) (by omega),NU (f:=fun i=>f (i+1)) n m (fun i ab=>a_ _ (by omega)) aW]
   simp
def lead (a:List Int):Int:=a.getD (a.length - 1) 0
theorem s5 {a:List Int} (h:cO a) (h2:a≠ []):lead a≠0:=h.resolve_left h2
theorem NV {a b:List Int} (aC:a≠ []) (ad:b≠ []):conv (a.length+b.length - 2) (bf a).c (bf b).c=lead a*lead b:=by
 have U:=List.length_pos_iff.2 aC
 have h2:=List.length_pos_iff.2 ad
 rw[show a.length+b.length - 2=(a.length - 1)+(b.length - 1) by omega]
 exact NU _ _ (fun i ab=>oz (by omega)) fun i ab=>oz (by omega)
theorem Zw {l:List Int} (h:l.getD (l.length - 1) 0≠0):cO l:= .inr h
theorem NW {a b:List Int} (aC:cO a) (ad:cO b) (eg:a≠ []) (cP:b≠ []):bh a b=(List.range (a.length+b.length - 1)).map fun i=>conv i (bf a).c (bf b).c:=by
 have U:=List.length_pos_iff.2 eg
 have h2:=List.length_pos_iff.2 cP
 refine Ai (Zw ?_)
 rw[List.length_map,List.length_range,ri,if_pos (by omega),show a.length+b.length - 1 - 1=a.length+b.length - 2 by omega,NV eg cP]
 exact Int.mul_ne_zero (s5 aC eg) (s5 ad cP)
theorem E3 {a b:List Int} (aC:cO a) (ad:cO b) (eg:a≠ []) (cP:b≠ []):(bh a b).length=a.length+b.length - 1:=by
 rw[NW aC ad eg cP];simp
theorem Zx {a b:List Int} (aC:cO a) (ad:cO b) (eg:a≠ []) (cP:b≠ []):lead (bh a b)=lead a*lead b:=by
 have U:=List.length_pos_iff.2 eg
 have h2:=List.length_pos_iff.2 cP
 rw[lead,E3 aC ad eg cP,NW aC ad eg cP,ri,if_pos (by omega),show a.length+b.length - 1 - 1=a.length+b.length - 2 by omega,NV eg cP]
theorem xn (b:List Int):bh [] b= []:=k4 (ly _ _) (.inl rfl) (by rw[fL,nk];grind)
theorem xo (b:List Int):bh b []= []:=k4 (ly _ _) (.inl rfl) (by rw[fL,nk];grind)
def D (f:Ser):Ser:=⟨fun i=>f.c (i+1)*((i:Int)+1)⟩
theorem E4 (f g:Ser):D (f+g)=D f+D g:=by ext i;simp only[D,mF];grind
theorem NX (c:Int) (f:Ser):D (C c*f)=C c*D f:=by ext i;simp only[D,mG];grind
theorem NY (c:Int):D (C c)=0:=by ext i;simp[D,nL,Ag]
theorem NZ (f:Ser):D (X*f)=f+X*D f:=by
 ext i
 simp only[D,mF,u3]
 cases i with
 | zero=>simp
 | succ i=>simp;grind
theorem N0 (b:Ser):∀a,D (bf a*b)=D (bf a)*b+bf a*D b
 | []=>by rw[nk,show (0:Ser)*b=C 0*b from rfl,NX,show D (0:Ser)=0 from NY 0];show (0:Ser)*D b=_;grind
 | x::a=>by
   rw[rh,show (C x+X*bf a)*b=C x*b+X*(bf a*b) by grind,E4,E4,NX,NY,NZ,NZ,N0 b a]
   grind
def dM (p:List Int):List Int:=(List.range (p.length - 1)).map fun i=>p.getD (i+1) 0*((i:Int)+1)
theorem u4 (p:List Int):bf (dM p)=D (bf p):=Am (fun i _=>rfl) fun i h=>by
 simp only[D,lx];rw[oz (by omega)];simp
theorem An {p:List Int} (h:cO p):cO (dM p):=by
 by_cases h2:p.length<=1
 · left;simp[dM];omega
 · right
   have aE:p≠ []:=fun h=>by simp[h] at h2
   have:=s5 h aE
   rw[dM,List.length_map,List.length_range,ri,if_pos (by omega),show p.length - 1 - 1+1=p.length - 1 by omega]
   exact Int.mul_ne_zero this (by omega)
end
section
open Ser Lean.Grind
attribute [local instance] Lean.Grind.Ring.intCast
theorem Zy (l:List Int) (f:Nat->Int->Int) (a_:∀i,f i 0=0) (i:Nat):((List.range l.length).map fun k=>f k (l.getD k 0)).getD i 0=f i (l.getD i 0):=by
 rw[ri]
 split
 · rfl
 · rw[oz (by omega),a_]
def cB (c:Int):List Int->List Int
 | []=>[]
 | x::l=>ek (bh (cB c l) (strip [c,1])) (strip [x])
theorem E5 (x:Int):bf (strip [x])=C x:=by rw[nM,rh,nk];grind
theorem E6 (c:Int):bf (strip [c,1])=C c+X:=by rw[nM,rh,rh,nk,Zp];grind
theorem xp (c:Int):∀l,bf (cB c l)=ev (X+C c) l
 | []=>nk
 | x::l=>by
   rw[cB,nO,fL,xp c l,E5,E6,ev]
   show _=C x+_
   grind
theorem xq (c:Int):∀l,cO (cB c l)
 | []=> .inl rfl
 | _::_=>rj _ _
theorem Zz (c:Int) (a b:List Int):cB c (bh a b)=bh (cB c a) (cB c b):=by
 refine k4 (xq _ _) (ly _ _) ?_
 rw[xp,fL,xp,xp,eA (a:=bh a b) (b:=nN a b) _ (by rw[fL,EZ]),Al]
def fC (l:List Int):List Int:=(List.range l.length).map fun i=>if i%2=1 then -l.getD i 0 else l.getD i 0
theorem E7 (l:List Int) (i:Nat):(fC l).getD i 0=if i%2=1 then -l.getD i 0 else l.getD i 0:=Zy l (fun i x=>if i%2=1 then -x else x) (fun i=>by simp) i
theorem N1 {R:Type} [CommRing R] (y:R):∀(s:Bool) (a b:List Int),(∀i,b.getD i 0=if (i%2=1)=(s=false) then -a.getD i 0 else a.getD i 0)->ev y b=(if s=true then -1 else 1)*ev (-y) a
 | s,[],b,h=>by
   rw[xm y b fun i=>by rw[h];simp];simp only[ev];grind
 | s,x::a,[],h=>by
   have:=xm (-y) (x::a) fun i=>by
    have:=h i
    rw[List.getD_nil] at this
    split at this<;>omega
   rw[this];simp only[ev];grind
 | s,x::a,z::b,h=>by
   have aF:=h 0
   have a8:=N1 y (!s) a b fun i=>by
    have:=h (i+1)
    simp only[List.getD_cons_succ] at this
    rw[this]
    cases s<;>simp<;>(split<;>split<;>first|rfl|omega)
   simp only[ev,a8]
   cases s
   · simp at aF|-;subst aF;grind
   · simp at aF|-;subst aF;rw[Zt];grind
theorem E8 {R:Type} [CommRing R] (y:R) (l:List Int):ev y (fC l)=ev (-y) l:=by
 have:=N1 y false l (fC l) fun i=>by rw[E7];simp
 rw[this];simp;grind
theorem N2 (l:List Int):(fC l).length=l.length:=by simp[fC]
theorem E9 {l:List Int} (h:cO l):cO (fC l):=by
 rcases h with rfl|h
 · exact .inl rfl
 · right
   rw[N2,E7]
   split<;>omega
theorem ZA {a b:List Int}:fC (bh a b)=bh (fC a) (fC b):=by
 refine k4 (E9 (ly _ _)) (ly _ _) ?_
 rw[nm,E8,fL,nm,E8,nm,E8,eA (a:=bh a b) (b:=nN a b) _ (by rw[fL,EZ]),Al]
def fb (n:Nat) (l:List Int):List Int:=(List.range l.length).map fun i=>l.getD i 0*2^(n*(l.length - 1 - i))
theorem ZB (n:Nat) (l:List Int):(fb n l).length=l.length:=by simp[fb]
theorem E_ {n:Nat} {l:List Int} (h:cO l):cO (fb n l):=by
 rcases h with rfl|h
 · exact .inl rfl
 · right
   by_cases aF:l.length=0
   · rw[List.length_eq_zero_iff] at aF;subst aF;exact absurd rfl h
   · rw[ZB,fb,ri,if_pos (by omega)]
     exact Int.mul_ne_zero h (Int.ne_of_gt (Int.pow_pos (by decide)))
theorem N3 {R:Type} [CommRing R] (x:R) (y:Int):∀(m:Nat) (l:List Int),l.length<=m+1->al x (y:R) m l=ev x ((List.range l.length).map fun i=>l.getD i 0*y^(m - i))
 | m,[],_=>rfl
 | 0,[z],_=>by
   simp only[al,List.length_singleton,List.range_one,List.map_cons,List.map_nil,ev,List.getD_cons_zero,Nat.sub_self,Int.pow_zero,Int.mul_one]
   grind
 | 0,z::w::a,h=>by simp at h
 | m+1,z::l,h=>by
   rw[al,List.length_cons,List.range_succ_eq_map,List.map_cons,List.map_map,ev,Nat.add_sub_cancel,N3 x y m l (by simpa using h),Aj,Ak]
   congr 2
   congr 1
   refine List.map_congr_left fun i _=>?_
   simp
theorem E' {R:Type} [CommRing R] (x:R) (n:Nat) (l:List Int):ev x (fb n l)=al x ((2^n:Int):R) (l.length - 1) l:=by
 rw[N3 _ _ _ _ (by omega),fb]
 congr 1
 refine List.map_congr_left fun i _=>?_
 rw[Int.pow_mul]
theorem N4 {R:Type} [CommRing R] (x y:R) {a b:List Int} (aC:cO a) (ad:cO b):al x y ((bh a b).length - 1) (bh a b)=al x y (a.length - 1) a*al x y (b.length - 1) b:=by
 by_cases eg:a= []
 · subst eg;rw[xn];simp only[al];grind
 by_cases cP:b= []
 · subst cP;rw[xo];simp only[al];grind
 have U:=List.length_pos_iff.2 eg
 have h2:=List.length_pos_iff.2 cP
 rw[E3 aC ad eg cP,Zu (a:=bh a b) (b:=nN a b) x y _ (by rw[fL,EZ]),show a.length+b.length - 1 - 1=(a.length - 1)+(b.length - 1) by omega,NQ x y _ _ _ _ (by omega) (by omega)]
theorem ZC (n:Nat) {a b:List Int} (aC:cO a) (ad:cO b):fb n (bh a b)=bh (fb n a) (fb n b):=by
 refine k4 (E_ (ly _ _)) (ly _ _) ?_
 rw[nm,E',fL,nm,E',nm,E',N4 _ _ aC ad]
def fc (l:List Int):List Int:=strip l.reverse
theorem N5 {R:Type} [CommRing R] (y:R):∀(l:List Int),ev y l.reverse=al 1 y (l.length - 1) l
 | []=>rfl
 | z::l=>by
   rw[List.reverse_cons,NN,N5 y l,al,List.length_cons,List.length_reverse,Nat.add_sub_cancel]
   simp only[ev]
   by_cases h:l= []
   · subst h;simp only[List.length_nil,al];grind
   · have U:=List.length_pos_iff.2 h
     grind
theorem Fa (l:List Int):bf (fc l)=al 1 X (l.length - 1) l:=by rw[fc,nM,nm,N5]
theorem N6 (l:List Int):cO (fc l):=qj _
theorem ZD {a b:List Int} (aC:cO a) (ad:cO b):fc (bh a b)=bh (fc a) (fc b):=by
 refine k4 (N6 _) (ly _ _) ?_
 rw[Fa,fL,Fa,Fa,N4 _ _ aC ad]
def term (c:Int) (n:Nat):List Int:=strip (List.replicate n 0++ [c])
def Fb (b:List Int):Nat->List Int × List Int->List Int × List Int
 | 0,s=>s
 | k+1,(q,r)=>Fb b k (ek (gD q (lead b)) (term (r.getD (k+(b.length - 1)) 0) k),lP (gD r (lead b)) (bh (term (r.getD (k+(b.length - 1)) 0) k) b))
theorem ZE (n:Nat) (z:Int) (f:Ser) (i:Nat):(mono n z*f).c i=if i<n then 0 else z*f.c (i - n):=by
 induction n generalizing i with
 | zero=>rw[NH,mG];simp
 | succ n a8=>
   rw[<-NI,show X*mono n z*f=X*(mono n z*f) by grind,u3]
   cases i with
   | zero=>simp
   | succ i=>simp[a8]
theorem ZF {l:List Int} (h:cO l) {n:Nat} (ak:∀i,n<=i->(bf l).c i=0):l.length<=n:=by
 refine Nat.le_of_not_lt fun az=>?_
 rcases h with rfl|h
 · simp at az
 · exact h (ak _ (by omega))
theorem Fc {l:List Int} {i:Nat} (h:l.length<=i):(bf l).c i=0:=oz h
def exact (a b:Int):Option Int:=if b≠0/\b∣a then some (a/b) else none
end
section
open Ser Lean.Grind
def bT (p:List Int):Nat:=p.foldl (fun g c=>Nat.gcd g c.natAbs) 0
theorem Fe:∀(p:List Int) (g:Nat),p.foldl (fun g c=>Nat.gcd g c.natAbs) g=Nat.gcd g (bT p)
 | [],g=>by simp[bT]
 | x::p,g=>by
   rw[bT,List.foldl_cons,List.foldl_cons,Fe p,Fe p,Nat.gcd_zero_left,Nat.gcd_assoc]
theorem u5:bT []=0:=rfl
theorem Ff (x:Int) (p:List Int):bT (x::p)=Nat.gcd x.natAbs (bT p):=by
 rw[bT,List.foldl_cons,Nat.gcd_zero_left,Fe]
theorem s6 {d:Nat}:∀ {p:List Int},d∣bT p↔∀i,(d:Int)∣p.getD i 0
 | []=>by simp[u5]
 | x::p=>by
   rw[Ff,Nat.dvd_gcd_iff,s6 (p:=p),<-Int.ofNat_dvd_left]
   constructor
   · rintro ⟨h,k⟩ i
     cases i with
     | zero=>exact h
     | succ i=>exact k i
   · exact fun h=>⟨h 0,fun i=>h (i+1)⟩
theorem s7 (p:List Int) (i:Nat):(bT p:Int)∣p.getD i 0:=s6.1 (Nat.dvd_refl _) i
theorem ZG {p:List Int} (i:Nat) (h:p.getD i 0≠0):bT p<=(p.getD i 0).natAbs:=Nat.le_of_dvd (by omega) (Int.ofNat_dvd_left.1 (s7 p i))
theorem N7 {p:List Int}:bT p=0↔∀i,p.getD i 0=0:=by
 constructor
 · intro h i
   have:=s7 p i
   rw[h] at this
   simpa using this
 · intro h
   have:bT p∣0/\0∣bT p:=⟨Nat.dvd_zero _,s6.2 fun i=>by rw[h];exact Int.dvd_refl _⟩
   exact Nat.eq_zero_of_zero_dvd this.2
theorem u6 {p:List Int} (h:cO p) (aF:p≠ []):0<bT p:=by
 refine Nat.pos_of_ne_zero fun av=>?_
 exact s5 h aF (N7.1 av _)
theorem ZH {a b:List Int} (h:bf a=bf b):bT a=bT b:=by
 have J:∀i,a.getD i 0=b.getD i 0:=fun i=>congrArg (fun s=>s.c i) h
 exact Nat.dvd_antisymm (s6.2 fun i=>by rw[<-J];exact s7 a i) (s6.2 fun i=>by rw[J];exact s7 b i)
theorem ZI (c:Int) (a:List Int):bT (a.map fun x=>c*x)=c.natAbs*bT a:=by
 induction a with
 | nil=>rfl
 | cons x a a8=>rw[List.map_cons,Ff,a8,Ff,Int.natAbs_mul,Nat.gcd_mul_left]
def s8 (c:Int) (p:List Int):List Int:=p.map fun x=>x/c
theorem N8 (c:Int) (p:List Int):(s8 c p).length=p.length:=by simp[s8]
theorem xr (c:Int) (p:List Int) (i:Nat):(s8 c p).getD i 0=p.getD i 0/c:=by
 simp only[s8,List.getD_eq_getElem?_getD,List.getElem?_map]
 cases p[i]? <;>simp
theorem ZJ {c:Int} {p:List Int} (h:∀i,c∣p.getD i 0):C c*bf (s8 c p)=bf p:=by
 ext i
 rw[mG,lx,lx,xr]
 exact Int.mul_ediv_cancel' (h i)
theorem ZK {c:Int} {p:List Int} (aE:cO p) (h:∀i,c∣p.getD i 0):cO (s8 c p):=by
 rcases aE with rfl|aE
 · exact .inl rfl
 · right
   rw[N8,xr]
   intro aF
   have:=Int.mul_ediv_cancel' (h (p.length - 1))
   rw[aF] at this
   simp at this
   exact aE this.symm
def fm (p:List Int):Int:=if lead p<0 then -(bT p:Int) else bT p
theorem rk (p:List Int):(fm p).natAbs=bT p:=by rw[fm];split<;>omega
theorem Ao (p:List Int) (i:Nat):fm p∣p.getD i 0:=by
 have:=s7 p i
 rw[fm];split
 · exact Int.neg_dvd.2 this
 · exact this
def c_ (p:List Int):List Int:=s8 (fm p) p
theorem oA (p:List Int):C (fm p)*bf (c_ p)=bf p:=ZJ (Ao p)
theorem N9 {p:List Int} (h:cO p):cO (c_ p):=ZK h (Ao p)
theorem xt (p:List Int):(c_ p).length=p.length:=N8 _ _
theorem Fg {p:List Int} (h:cO p) (aF:p≠ []):fm p≠0:=by
 have:=u6 h aF
 rw[fm];split<;>omega
theorem N_ {a p:List Int} {c:Int} (h:bf p=C c*bf a):bT p=c.natAbs*bT a:=by
 rw[ZH (b:=a.map fun x=>c*x) (by rw[h,NR]),ZI]
theorem Fh {p:List Int} (h:cO p) (aF:p≠ []):bT (c_ p)=1:=by
 have:=N_ (oA p).symm
 rw[rk] at this
 have:=u6 h aF
 exact Nat.eq_of_mul_eq_mul_left this (by omega)
theorem ZL {p:List Int} (h:cO p) (aF:p≠ []):0<lead (c_ p):=by
 have e:lead p=fm p*lead (c_ p):=by
  rw[lead,lead,xt,c_,xr]
  exact (Int.mul_ediv_cancel' (Ao p _)).symm
 have U:=s5 h aF
 have h2:=u6 h aF
 rw[fm] at e
 split at e
 · refine Int.lt_of_not_ge fun ak=>?_
   have:=Int.mul_nonneg (a:= -(-(bT p:Int))) (b:= -lead (c_ p)) (by omega) (by omega)
   grind
 · refine Int.lt_of_not_ge fun ak=>?_
   have:=Int.mul_nonneg (a:=(bT p:Int)) (b:= -lead (c_ p)) (by omega) (by omega)
   have:lead p<=0:=by grind
   omega
def s9 (p:Nat):Prop:=2<=p/\∀d,d∣p->d=1\/d=p
theorem ZM:∀(n:Nat),2<=n->∃p,s9 p/\p∣n:=by
 intro n
 induction n using Nat.strongRecOn with
 | _ n a8=>
   intro h
   by_cases aE:s9 n
   · exact ⟨n,aE,Nat.dvd_refl _⟩
   · have:∃d,d∣n/\d≠1/\d≠n:=Classical.byContradiction fun ak=>aE ⟨h,fun d a3=>Classical.byContradiction fun J=>ak ⟨d,a3,fun e=>J (.inl e),fun e=>J (.inr e)⟩⟩
     obtain⟨d,a3,U,h2⟩:=this
     have:=Nat.le_of_dvd (by omega) a3
     have:d≠0:=fun e=>by subst e;rw[Nat.zero_dvd] at a3;omega
     obtain⟨p,aE,ZN⟩:=a8 d (by omega) (by omega)
     exact ⟨p,aE,Nat.dvd_trans ZN a3⟩
theorem s9.dvd_mul {p a b:Nat} (aE:s9 p) (h:p∣a*b):p∣a\/p∣b:=by
 rcases aE.2 _ (Nat.gcd_dvd_left p a) with U|U
 · exact .inr (Nat.Coprime.dvd_of_dvd_mul_left U h)
 · left;rw[<-U];exact Nat.gcd_dvd_right p a
theorem s9.ZO {p:Nat} {a b:Int} (aE:s9 p) (h:(p:Int)∣a*b):(p:Int)∣a\/(p:Int)∣b:=by
 rw[Int.ofNat_dvd_left,Int.natAbs_mul] at h
 rw[Int.ofNat_dvd_left,Int.ofNat_dvd_left]
 exact aE.dvd_mul h
theorem N' {p:Nat} {f:Nat->Int} (h:∃i,¬(p:Int)∣f i):∃i,¬(p:Int)∣f i/\∀j,j<i->(p:Int)∣f j:=by
 obtain⟨i,ab⟩:=h
 induction i using Nat.strongRecOn with
 | _ i a8=>
   by_cases aA:∃j,j<i/\¬(p:Int)∣f j
   · obtain⟨j,aA,ak⟩:=aA
     exact a8 j aA ak
   · exact ⟨i,ab,fun j qJ=>Classical.byContradiction fun ak=>aA ⟨j,qJ,ak⟩⟩
theorem Oa {p:Int} {f g:Nat->Int}:∀n,(∀i,i<=n->p∣f i\/p∣g (n - i))->p∣conv n f g
 | 0,h=>by
   rcases h 0 (Nat.le_refl _) with h|h
   · exact Int.dvd_mul_of_dvd_left h
   · exact Int.dvd_mul_of_dvd_right h
 | n+1,h=>by
   rw[conv]
   refine Int.dvd_add ?_ (Oa n fun i ab=>by have:=h (i+1) (by omega);rwa [show n+1 -(i+1)=n - i by omega] at this)
   rcases h 0 (by omega) with h|h
   · exact Int.dvd_mul_of_dvd_left h
   · exact Int.dvd_mul_of_dvd_right h
theorem Ob {p:Int} {f g:Nat->Int}:∀n m,(∀i,i<n->p∣f i)->(∀i,i<m->p∣g i)->p∣conv (n+m) f g - f n*g m
 | 0,m,a_,aW=>by
   rw[Nat.zero_add]
   cases m with
   | zero=>rw[conv];simp
   | succ m=>
     rw[conv,show f 0*g (m+1)+conv m (fun i=>f (i+1)) g - f 0*g (m+1)=conv m (fun i=>f (i+1)) g by omega]
     exact Oa m fun i _=> .inr (aW _ (by omega))
 | n+1,m,a_,aW=>by
   rw[show n+1+m=n+m+1 by omega,conv]
   have a8:=Ob (p:=p) (f:=fun i=>f (i+1)) n m (fun i ab=>a_ _ (by omega)) aW
   have aF:p∣f 0*g (n+m+1):=Int.dvd_mul_of_dvd_left (a_ 0 (by omega))
   have:=Int.dvd_add aF a8
   rwa [<-Int.add_sub_assoc] at this
theorem ZP {a b:List Int} (aC:bT a=1) (ad:bT b=1):bT (bh a b)=1:=by
 refine Classical.byContradiction fun ak=>?_
 have aF:bT (bh a b)≠0\/bT (bh a b)=0:=by omega
 have:∃p,s9 p/\p∣bT (bh a b):=by
  by_cases av:bT (bh a b)=0
  · exact ⟨2,⟨Nat.le_refl _,fun d a3=>by have:=Nat.le_of_dvd (by decide) a3;rcases d with _|_|_|d<;>simp_all⟩,by rw[av];exact Nat.dvd_zero _⟩
  · exact ZM _ (by omega)
 obtain⟨p,aE,a3⟩:=this
 have aux:∀ {l:List Int},bT l=1->∃i,¬(p:Int)∣l.getD i 0:=fun {l} az=>Classical.byContradiction fun J=>by
  have:p∣bT l:=s6.2 fun i=>Classical.byContradiction fun ak=>J ⟨i,ak⟩
  rw[az,Nat.dvd_one] at this
  have:=aE.1;omega
 obtain⟨i,ab,od⟩:=N' (aux aC)
 obtain⟨j,aA,ZQ⟩:=N' (aux ad)
 have U:=Ob (p:=p) (f:=fun i=>a.getD i 0) (g:=fun i=>b.getD i 0) i j od ZQ
 have h2:(p:Int)∣conv (i+j) (fun i=>a.getD i 0) (fun i=>b.getD i 0):=by
  have aB:=s6.1 a3 (i+j)
  have:(bh a b).getD (i+j) 0=(bf a*bf b).c (i+j):=by rw[<-fL];rfl
  rwa [this] at aB
 have aS:=Int.dvd_sub h2 U
 rw[Int.sub_sub_self] at aS
 rcases aE.ZO aS with h|h
 · exact ab h
 · exact aA h
theorem Oc {a b:List Int} (aC:cO a) (ad:cO b):bT (bh a b)=bT a*bT b:=by
 by_cases eg:a= []
 · subst eg;rw[xn,u5,Nat.zero_mul]
 by_cases cP:b= []
 · subst cP;rw[xo,u5,Nat.mul_zero]
 have h:=ZP (Fh aC eg) (Fh ad cP)
 have e:bf (bh a b)=C (fm a*fm b)*bf (bh (c_ a) (c_ b)):=by
  rw[fL,fL,Ae,<-oA a,<-oA b]
  rw[oA,oA,<-oA a,<-oA b]
  generalize bf (c_ a)=u
  generalize bf (c_ b)=v
  grind
 rw[N_ e,h,Int.natAbs_mul,rk,rk,Nat.mul_one]
theorem ZR {x y:Int} (ae:x≠0) (aQ:y≠0):(x*y<0)↔(decide (x<0)≠decide (y<0)):=by
 rcases Int.lt_or_gt_of_ne ae with h|h<;>rcases Int.lt_or_gt_of_ne aQ with h2|h2
 · have:=Int.mul_pos_of_neg_of_neg h h2;simp[h,h2];omega
 · have:=Int.mul_neg_of_neg_of_pos h h2;simp[h,this,Int.not_lt.2 (Int.le_of_lt h2)]
 · have:=Int.mul_neg_of_pos_of_neg h h2;simp[h2,this,Int.not_lt.2 (Int.le_of_lt h)]
 · have:=Int.mul_pos h h2;simp[Int.not_lt.2 (Int.le_of_lt h),Int.not_lt.2 (Int.le_of_lt h2)];omega
theorem Od {a b:List Int} (aC:cO a) (ad:cO b) (eg:a≠ []) (cP:b≠ []):fm (bh a b)=fm a*fm b:=by
 have h:=ZR (s5 aC eg) (s5 ad cP)
 rw[fm,Oc aC ad,Zx aC ad eg cP,fm,fm]
 by_cases U:lead a<0<;>by_cases h2:lead b<0<;>simp only[U,h2,decide_true,decide_false] at h<;>simp[h,U,h2]<;>grind
theorem ZS {c:Int} (J:c≠0) {f g:Ser} (h:C c*f=C c*g):f=g:=by
 ext i
 have:=congrArg (fun s=>s.c i) h
 simp only[mG] at this
 exact Int.eq_of_mul_eq_mul_left J this
theorem ZT {a b:List Int} (aC:cO a) (ad:cO b):c_ (bh a b)=bh (c_ a) (c_ b):=by
 by_cases eg:a= []
 · subst eg;rw[xn,show c_ []= [] from rfl,xn]
 by_cases cP:b= []
 · subst cP;rw[xo,show c_ []= [] from rfl,xo]
 refine k4 (N9 (ly _ _)) (ly _ _) ?_
 have aF:fm (bh a b)≠0:=by rw[Od aC ad eg cP];exact Int.mul_ne_zero (Fg aC eg) (Fg ad cP)
 refine ZS aF ?_
 rw[oA,fL,fL,Od aC ad eg cP,Ae]
 have U:=oA a
 have h2:=oA b
 generalize bf (c_ a)=u at*
 generalize bf (c_ b)=v at*
 rw[<-U,<-h2]
 grind
end
section
open Ser Lean.Grind
def iQ (q:Rat) (p:List Int):Rat:=ev q p
def lQ (n d:Int) (p:List Int):Int:=al n d (p.length - 1) p
theorem Oe (x y:Int):∀n p,((al x y n p:Int):Rat)=al (x:Rat) (y:Rat) n p
 | n,[]=>rfl
 | n,c::p=>by
   show ((c*y^n+x*al x y (n - 1) p:Int):Rat)=(c:Rat)*(y:Rat)^n+(x:Rat)*al (x:Rat) (y:Rat) (n - 1) p
   rw[Rat.intCast_add,Rat.intCast_mul,Rat.intCast_mul,Oe x y _ p]
   congr 2
   exact Ak (R:=Rat) y n
theorem Of {R:Type} [CommRing R] (x y q:R) (h:x=q*y):∀n p,p.length<=n+1->al x y n p=y^n*ev q p
 | n,[],_=>by simp only[al,ev];grind
 | 0,[z],_=>by simp only[al,ev];grind
 | 0,z::w::a,h=>by simp at h
 | n+1,z::p,az=>by
   rw[al,Nat.add_sub_cancel,Of x y q h n p (by simpa using az),ev,h]
   grind
theorem ZU (q:Rat):(q.den:Int)≠0:=by have:=q.den_pos;omega
theorem Og (q:Rat):((q.den:Int):Rat)≠0:=by
 intro h;exact ZU q (Rat.intCast_inj.1 (by rw[h];rfl))
theorem Oh (q:Rat):((q.num:Int):Rat)=q*((q.den:Int):Rat):=by
 have h:=Rat.num_divInt_den q
 rw[Rat.divInt_eq_div] at h
 have:=Og q
 generalize ((q.den:Int):Rat)=d at*
 generalize ((q.num:Int):Rat)=n at*
 subst h
 grind
theorem Oi (q:Rat) (p:List Int):((lQ q.num q.den p:Int):Rat)=((q.den:Int):Rat)^(p.length - 1)*iQ q p:=by
 rw[lQ,Oe,iQ,Of _ _ q (Oh q) _ _ (by omega)]
theorem Oj {d:Rat} (h:d≠0):∀n:Nat,d^n≠0
 | 0=>by rw[Semiring.pow_zero];decide
 | n+1=>by
   have:=Oj h n
   rw[Semiring.pow_succ]
   grind
theorem Ok (a:Int):∀n:Nat,((a^n:Int):Rat)=(a:Rat)^n:=Ak (R:=Rat) a
theorem Ol (q:Rat) (p:List Int):Rat.divInt (lQ q.num q.den p) ((q.den:Int)^(p.length - 1))=iQ q p:=by
 rw[Rat.divInt_eq_div,Oi,Ok]
 have:=Oj (Og q) (p.length - 1)
 generalize ((q.den:Int):Rat)^(p.length - 1)=d at*
 grind
def Fi (z:Int):Int:=if z=0 then 0 else if z<0 then -1 else 1
theorem ZV (q:Rat) (p:List Int):Fi (lQ q.num q.den p)=Fi (iQ q p).num:=by
 have h:=Oi q p
 have aE:((q.den:Int):Rat)^(p.length - 1)=((((q.den:Int)^(p.length - 1)):Int):Rat):=(Ok _ _).symm
 rw[aE] at h
 have a3:0<(q.den:Int)^(p.length - 1):=Int.pow_pos (by have:=q.den_pos;omega)
 generalize (q.den:Int)^(p.length - 1)=d at*
 generalize lQ q.num q.den p=v at*
 generalize iQ q p=w at*
 have e:w=Rat.divInt v d:=by
  rw[Rat.divInt_eq_div]
  have:((d:Int):Rat)≠0:=fun h=>by have:=(Rat.intCast_inj (a:=d) (b:=0)).1 (by rw[h];rfl);omega
  grind
 have au:w.num*d=v*w.den:=by
  have U:=Oh w
  have h2:(((w.num*d:Int)):Rat)=((v*(w.den:Int):Int):Rat):=by
   rw[Rat.intCast_mul,Rat.intCast_mul,U,h];grind
  exact Rat.intCast_inj.1 h2
 have aB:0<(w.den:Int):=by have:=w.den_pos;omega
 simp only[Fi]
 have s1:w.num=0↔v=0:=by
  constructor
  · intro h;rw[h,Int.zero_mul] at au
    exact (Int.mul_eq_zero.1 au.symm).resolve_right (by omega)
  · intro h;rw[h,Int.zero_mul] at au
    exact (Int.mul_eq_zero.1 au).resolve_right (by omega)
 have s2:w.num<0↔v<0:=by
  constructor
  · intro h
    have:=Int.mul_neg_of_neg_of_pos h a3
    refine Int.lt_of_not_ge fun al=>?_
    have:=Int.mul_nonneg al (Int.le_of_lt aB)
    omega
  · intro h
    have:=Int.mul_neg_of_neg_of_pos h aB
    refine Int.lt_of_not_ge fun al=>?_
    have:=Int.mul_nonneg al (Int.le_of_lt a3)
    omega
 simp only[s1,s2]
end
section
set_option maxHeartbeats 8000000
open Go Go.Eng Go.RowKit
attribute [local simp] aY.m aY.o aY.n aY.g fg eF cV cJ c4 evalOp.eq_1 evalOp.eq_2 evalOp.eq_3 evalOp.eq_4 evalOp.eq_5 evalOp.eq_6 evalOp.eq_7 evalOp.eq_8 evalOp.eq_9 evalOp.eq_10 evalOp.eq_11 evalOp.eq_12 evalOp.eq_13 evalOp.eq_14 evalOp.eq_15 evalOp.eq_16 evalOp.eq_17 evalOp.eq_18 evalOp.eq_19 evalOp.eq_20 evalOp.eq_21 evalOp.eq_22 evalOp.eq_23 evalOp.eq_24 evalOp.eq_25 evalOp.eq_27 evalOp.eq_28 evalOp.eq_29 iK aR.ev cI ar ai.new ec I.cells I.cb I.eb I.ei gL gN gM gO gQ gP hY hZ h0 fM fN cut partOf bound elems h4 h5 h6 h7 h8 h9 h_ ia ib ic ie ig gh ih ij ik il im iq ir iu iv iw ix iy iz iA iB iC iD iE iF iG iH iI iJ eE eo dZ e6 gR gf ai.close ai.set gy iL iM iN h3 gg fh eY dv e8 gu fQ e9 gv gw gx e3 e4 e5 e2 gS bp gq gT gr gU gV eW gW eX gX gY gZ fG hX g0 g1 g2 g3 g4 g5 g6 g7 g8 g9 g_ g' ha hb hc hd hf hg hh fP hi hj hk hl hn ho hp hq hr hs ht hv hx hy hz
attribute [local simp high] hU hV hW hA hB hC hD hE hF hG hH hI hJ hK hL hM hN hO hP hQ hR hS hT
attribute [local simp] aF List.getElem?_cons_zero List.getElem?_cons_succ dD cQ fq Nat.mod_eq_of_lt iV iW iX iY fz iZ i_ i'
section
attribute [local irreducible] a'
attribute [local simp] c2 cN cq
noncomputable def Om:FuncId->Option (List I->Option I):=cf [(87,o_)]
theorem Ap:∀f T,Om f=some T->aG Tryz.prog G f T:=cg (by simp only[List.forall_mem_cons];exact ⟨zt,fun _ h=>absurd h (by simp)⟩)
theorem ZW:Om 87=some o_:=rfl
attribute [local simp] ZW
theorem ZX:∃e,Tryz.prog.underlying 22=some (.slice e):=by
 have h:y_ (Tryz.prog.underlying 22)=true:=by kernel_rfl
 unfold y_ at h
 split at h
 · rename_i e he;exact ⟨e,he⟩
 · cases h
theorem On (w:World) (A:Option Addr) (c:Nat):Sem.run Tryz.prog (binOp BinOp.eql 22 (Value.slice A 0 c) (Value.slice none 0 0)) w= .ok (.bool A.isNone) w:=by
 obtain⟨e,hu⟩:=ZX
 have aq:(Op.equal 22 (.slice A 0 c) (.slice none 0 0)).run Tryz.prog w= .ok A.isNone w:=by
  unfold Op.equal Op.maxDepth Op.equalIn
  cases A<;>simp[run_underlying hu]
 show (do pure (.bool (<-Op.equal 22 (.slice A 0 c) (.slice none 0 0))):Sem Value).run Tryz.prog w=_
 simp[aq]
theorem ZY (w:World) (R:Ending->World->Prop) (c:Nat) (h:R (.returned (.slice none 0 0)) w):Calls Tryz.prog 118 #[.slice none 0 c] w R:=by
 have aq:=fun w=>On w none c
 simp only[Option.isNone_none] at aq
 go_enter Tryz.func118,Tryz.ntmps118
 go_wp2
 exact h
theorem ZZ (w:World) (R:Ending->World->Prop) (A:Addr) (c:Nat) (h:∀t,R (.returned (.slice (some ⟨w.heap.size,0,none⟩) 0 0)) (w.alloc (.cells #[] t))):Calls Tryz.prog 118 #[.slice (some A) 0 c] w R:=by
 have aq:=fun w=>On w (some A) c
 simp only[Option.isNone_some] at aq
 go_enter Tryz.func118,Tryz.ntmps118
 go_wp2
 exact h _
def Oo:List I->Option I
 | [.sl [] _]=>some (.sl [] false)
 | _=>none
theorem Z0:aG Tryz.prog G 118 Oo:=by
 intro args v ct ok w dd cW e7 pT
 unfold Oo at ct
 split at ct<;>try(cases ct;done)
 rename_i e
 cases ct
 have aw:dd.size=1:=by simpa using cW
 obtain⟨x,rfl⟩:∃x,dd= #[x]:=by
  match dd,aw with
  | ⟨[x]⟩,_=>exact ⟨x,rfl⟩
 have aF:=e7 0 (by simp) (by simp)
 simp only[List.getElem_cons_zero] at aF
 refine .inl ⟨yt Tryz.func118 rfl (by decide) _ _,?_⟩
 cases aF with
 | sl _ _ A c _ _ _ _ _ _ _ _=>
   cases A with
   | none=>exact ZY _ _ _ ⟨_,rfl,y' _ _ _,Below.refl _ _⟩
   | some A=>exact ZZ _ _ _ _ fun t=>⟨_,rfl,y' _ _ _,(Below.refl _ _).alloc (Nat.le_refl _) _⟩
theorem Z1:aG Tryz.prog G 118 (a7 (fun l:List Int=>l≠ []/\l.length<=1000000) (fun l=>[ax l false]) (fun l=>ax l false)):=by
 refine bj mixed Ap CW fun l av=>?_
 obtain⟨ak,az⟩:=av
 have U:0<l.length:=List.length_pos_iff.2 ak
 have ap:=qQ (bD.nil (sz:=2) (h:=aF) (by simp[aF])) (by decide) (bytes:=32) (by decide) (ys:=l.map fun z=>ao z) (by simpa using U) (by simp[I.cells,I.cb]) (by simp;omega)
 simp only[aF,List.length_nil,Nat.zero_add,List.length_map,List.nil_append] at ap
 unfold i118
 refine aM [0,2,4] fun F K=>?_
 obtain⟨f0,f2,f4⟩:=K
 have H:=br U ap
 have K:=b3 f0 f2 f4;clear f0 f2 f4
 refine bu [0,2,4] fun F k=>?_;clear K H
 obtain⟨f0,f2,f4⟩:=k
 rw[List.take_of_length_le (by simp)]
 simp
noncomputable def s_:List I->Option I:=a7 (fun l:List Int=>l.length<=1000000) (fun l=>[ax l false]) (fun l=>ax l false)
theorem Oq (l:List Int) (az:l.length<=1000000) {args:List I} (he:args.map I.loose= [ax l false]):s_ args=some (ax l false):=
 bk (fun z w h=>by simp only[List.cons.injEq,bX,and_true] at h;simp[h]) l az he
theorem Ot:aG Tryz.prog G 118 s_:=
 KZ Z0 Z1 fun args v ct=>by
  unfold s_ a7 at ct
  obtain⟨l,U,h2,rfl⟩:=ud ct
  by_cases ak:l= []
  · subst ak
    left
    match args,h2 with
    | [],h2=>simp at h2
    | _::_::_,h2=>simp at h2
    | [x],h2=>
      simp only[List.map_cons,List.map_nil,List.cons.injEq,and_true] at h2
      obtain⟨e,rfl⟩:=K2 h2.symm
      rfl
  · right
    exact bk (fun z w h=>by simp only[List.cons.injEq,bX,and_true] at h;simp[h]) l ⟨ak,U⟩ h2.symm
theorem pj {l:List Int} {i:Nat} (h:i<l.length):(l.map fun z=>ao z)[i]? =some (ao (l.getD i 0)):=by
 simp[h,List.getD_eq_getElem?_getD]
noncomputable def Aq:List I->Option I:=a7 (fun z:List Int × Nat=>z.2<4611686018427387904/\z.1.length<=1000000) (fun z=>[ax z.1 false,aI z.2]) (fun z=>ao (z.1.getD z.2 0))
theorem Ou (z:List Int × Nat) (h:z.2<4611686018427387904/\z.1.length<=1000000) {args:List I} (he:args.map I.loose= [ax z.1 false,aI z.2]):Aq args=some (ao (z.1.getD z.2 0)):=bk (fun z w h=>by simp only[List.cons.injEq,I.int.injEq,I.bool.injEq,I.sl.injEq,b4,bZ,bX,b_,b9,bz,bI,b8,bp,true_and,and_true] at h;simp[h]) z h he
theorem Z2:aG Tryz.prog G 208 Aq:=by
 refine bj mixed Ap TG fun z av=>?_
 obtain⟨l,i⟩:=z
 obtain⟨ab,az⟩:=av
 simp only at ab az|-
 unfold i208
 by_cases h:i<l.length
 · have g:=pj h
   generalize l.getD i 0=c at*
   refine aM [0,1,4,8] fun F K=>?_
   obtain⟨f0,f1,f4,f8⟩:=K
   have H:=br h g
   have K:=bK f0 f1 f4 f8;clear f0 f1 f4 f8
   exact a9 [0,1,4,8]
 · have e:l.getD i 0=0:=by simp[List.getD_eq_getElem?_getD,show l.length<=i by omega]
   rw[e]
   have dq:aa 0= []:=eD
   have dS:a5 0=false:=rfl
   refine aM [0,1,4,8] fun F K=>?_
   obtain⟨f0,f1,f4,f8⟩:=K
   have H:=h
   have K:=bK f0 f1 f4 f8;clear f0 f1 f4 f8
   repeat' (first|refine dE ?_|refine dF ?_|((first|refine et ?_|refine eu ?_|refine ew ?_|exact dH|refine dG ?_);try(refine d' [0,1,4,8] fun F k=>?_;replace K:=k;clear k))|(refine dI (fun J=>?_) (fun J=>?_)<;>first|(exfalso;simp(disch:=omega) [H] at J;done)|(exfalso;simp at J;omega)|simp at J)|((first|refine bU ?_|refine c5 ?_);simp(disch:=omega) [H,K,dq,dS])|exact trivial)
   all_goals obtain⟨f0,f1,f4,f8⟩:=K
theorem Z3 {n:Nat} (h:n<=1000000):IntKind.i64.wrap (Z n - Z 1)=(n:Int) - 1:=by rw[wrap_i64 (by simp only[Z];omega) (by simp only[Z];omega)];rfl
noncomputable def u7:List I->Option I:=a7 (fun z:List Int=>z.length<=1000000) (fun z=>[ax z false]) (fun z=> .int .i64 ((z.length:Int) - 1))
theorem Ov (z:List Int) (h:z.length<=1000000) {args:List I} (he:args.map I.loose= [ax z false]):u7 args=some (.int .i64 ((z.length:Int) - 1)):=bk (fun z w h=>by simp only[List.cons.injEq,I.int.injEq,I.bool.injEq,I.sl.injEq,b4,bZ,bX,b_,b9,bz,bI,b8,bp,true_and,and_true] at h;simp[h]) z h he
theorem Ow:aG Tryz.prog G 62 u7:=by
 refine bj mixed Ap Jg fun l az=>?_
 have e:=Z3 az
 unfold i62
 refine aM [0,2] fun F K=>?_
 obtain⟨f0,f2⟩:=K
 have H:=e
 have K:=br f0 f2;clear f0 f2
 exact a9 [0,2]
theorem Z4 {l:List Int} {m:Nat} (hm:m<=l.length) (av:∀i,m<=i->l.getD i 0=0) (he:m=0\/l.getD (m - 1) 0≠0):l.take m=strip l:=by
 have az:(l.take m).length=m:=by rw[List.length_take];omega
 have aW:∀i,(l.take m).getD i 0=l.getD i 0:=fun i=>by
  by_cases h:i<m
  · simp[List.getD_eq_getElem?_getD,h]
  · rw[av i (by omega),List.getD_eq_getElem?_getD,List.getElem?_eq_none (by omega)];rfl
 refine(NJ ?_ ?_).symm
 · rcases he with rfl|he
   · exact .inl (by simp)
   · right;rw[az,aW];exact he
 · ext i;exact aW i
noncomputable def rl:List I->Option I:=a7 (fun z:List Int=>z.length<=1000000) (fun z=>[ax z false]) (fun z=>ax (strip z) false)
theorem Ar (z:List Int) (h:z.length<=1000000) {args:List I} (he:args.map I.loose= [ax z false]):rl args=some (ax (strip z) false):=bk (fun z w h=>by simp only[List.cons.injEq,I.int.injEq,I.bool.injEq,I.sl.injEq,b4,bZ,bX,b_,b9,bz,bI,b8,bp,true_and,and_true] at h;simp[h]) z h he
theorem Fj:aG Tryz.prog G 64 rl:=by
 refine bj mixed Ap Jh fun l az=>?_
 unfold i64
 refine aM [0,2,3,16] fun F K=>?_
 obtain⟨f0,f2,f3,f16⟩:=K
 have H:=trivial
 have K:=bK f0 f2 f3 f16;clear f0 f2 f3 f16
 refine bu [0,2,3,16] fun F k=>?_;clear K H
 obtain⟨f0,f2,f3,f16⟩:=k
 refine mr (fun m s=>m<=l.length/\(∀i,m<=i->l.getD i 0=0)/\s.F 3=aI m) (fun s=>∃m,m<=l.length/\(∀i,m<=i->l.getD i 0=0)/\(m=0\/l.getD (m - 1) 0≠0)/\s.F 3=aI m) (fun _=>False) l.length ?_ ?_ ?_ (fun _ _ h=>h.elim)
 · exact ⟨Nat.le_refl _,fun i ab=>by simp[List.getD_eq_getElem?_getD,ab],by first|rfl|exact f3⟩
 · rintro m s ag ⟨hm,av,ej⟩
   replace f0:=(ag 0 rfl).trans f0
   clear f3
   have f3:=ej
   have K:=br f0 f3;clear f0 f3
   refine bN [0,3,16] fun F k=>?_;clear K
   obtain⟨f0,f3,f16⟩:=k
   cases m with
   | zero=>
     have H:=trivial
     have K:=b3 f0 f3 f16;clear f0 f3 f16
     refine bu [0,3,16] fun F k=>?_;clear K H
     obtain⟨f0,f3,f16⟩:=k
     exact ⟨0,by omega,av,.inl rfl,by first|rfl|exact f3⟩
   | succ m=>
     have go:=pj (show m<l.length by omega)
     have hw:IntKind.i64.wrap (Z (m+1) - Z 1)=Z m:=by rw[cQ (by omega) (by omega)];rfl
     have ra:0<m+1:=by omega
     have dB:=zr (l.getD m 0) trivial (args:=[ao (l.getD m 0)]) (by simp)
     obtain⟨c,nt⟩:∃c,c=l.getD m 0:=⟨_,rfl⟩
     rw[<-nt] at go dB
     by_cases ae:c=0
     · have kr:fK c=Z 0:=by rw[ae];rfl
       rw[kr] at dB
       have H:=bK go hw ra dB
       have K:=b3 f0 f3 f16;clear f0 f3 f16
       refine bu [0,3,16] fun F k=>?_;clear K H
       obtain⟨f0,f3,f16⟩:=k
       refine⟨m,by omega,by omega,fun i ab=>?_,by first|rfl|exact f3⟩
       by_cases e:i=m
       · subst e;exact nt.symm.trans ae
       · exact av i (by omega)
     · obtain⟨s1,s2⟩:=Ad ae
       generalize fK c=Nv at*
       have H:=c6 go hw ra dB s1 s2
       have K:=b3 f0 f3 f16;clear f0 f3 f16
       refine bu [0,3,16] fun F k=>?_;clear K H
       obtain⟨f0,f3,f16⟩:=k
       exact ⟨m+1,hm,av,.inr (by rw[Nat.add_sub_cancel];exact fun h=>ae (nt.trans h)),by first|rfl|exact f3⟩
 · rintro s ag ⟨m,hm,av,jj,ej⟩
   replace f0:=(ag 0 rfl).trans f0
   clear f3
   have f3:=ej
   have aL:=Z4 hm av jj
   have sv:List.take m (l.map fun z=>ao z)=(strip l).map fun z=>ao z:=by rw[<-List.map_take,aL]
   have K:=br f0 f3;clear f0 f3
   refine bN [0,2,3] fun F k=>?_;clear K
   obtain⟨f0,f2,f3⟩:=k
   have H:=br hm sv
   have K:=b3 f0 f2 f3;clear f0 f2 f3
   exact a9 [0,2,3]
end
section
attribute [local irreducible] a'
attribute [local simp] c2 cN cq jV
noncomputable def ey:FuncId->Option (List I->Option I):=cf [(52,mC),(119,ma),(143,wR),(90,q2),(110,q1),(86,z3),(208,Aq),(62,u7),(64,rl)]
theorem u9:∀f T,ey f=some T->aG Tryz.prog G f T:=cg (by simp only[List.forall_mem_cons];exact ⟨uT,uB,VV,DH,DF,X0,Z2,Ow,Fj,fun _ h=>absurd h (by simp)⟩)
theorem Fk:ey 52=some mC:=rfl
theorem Fl:ey 119=some ma:=rfl
theorem Fm:ey 143=some wR:=rfl
theorem Fo:ey 90=some q2:=rfl
theorem Fp:ey 110=some q1:=rfl
theorem Fq:ey 86=some z3:=rfl
theorem Fs:ey 208=some Aq:=rfl
theorem Ft:ey 62=some u7:=rfl
theorem Fu:ey 64=some rl:=rfl
theorem Fv:ey 108=none:=rfl
theorem Fw:ey 206=none:=rfl
theorem Fx:ey 140=none:=rfl
theorem Fy:ey 207=none:=rfl
theorem Fz:ey 117=none:=rfl
theorem FA:ey 109=none:=rfl
theorem FB:ey 114=none:=rfl
theorem FC:ey 120=none:=rfl
theorem FD:ey 123=none:=rfl
theorem FE:ey 141=none:=rfl
theorem FF:ey 142=none:=rfl
theorem FG:ey 118=none:=rfl
theorem FH:ey 122=none:=rfl
theorem FI:ey 103=none:=rfl
theorem FJ:ey 28=none:=rfl
attribute [local simp] Fk Fl Fm Fo Fp Fq Fs Ft Fu Fv Fw Fx Fy Fz FA FB FC FD FE FF FG FH FI FJ
theorem Z5 (Y:List cy) (g:ai) (aw:∀j,g.next<=j->g.shut j=false) {c:Nat} {k:Int} (J:g.cells c=some [ao k]) (mx:c<g.next) {i:Nat} {p:Int × Bool} (bH:aJ p.1<=500000) (dR:aJ k<=500000) (iT:min (aJ p.1) (aJ k)<48):
 ∃dC,eB G (aH Tryz.prog) ey Y (.fn 117) [aI i,dy p,.ptr c 0 0] g=some (dy (p.1*k,false),dC)/\Kept g dC:=by
 obtain⟨x,lR⟩:=p
 simp only at bH iT|-
 have t:=rb (x,k) ⟨bH,dR,iT⟩ (args:=[dy (x,lR),ao k]) (by simp)
 simp only at t
 generalize x*k=bP at*
 obtain⟨v,dC,e,rfl,K⟩:=jB (Φ:=aH Tryz.prog) (G:=G) (tab:=ey) (Y:=Y) (h:=g) (args:=[aI i,dy (x,lR),.ptr c 0 0]) (R:=fun v h'=>v=dy (bP,false)/\Kept g h') Tr (by
  unfold i117
  refine aM [1,2,4,5] fun F K=>?_
  obtain⟨f1,f2,f4,f5⟩:=K
  have H:=bK J mx t aw
  have K:=bK f1 f2 f4 f5;clear f1 f2 f4 f5
  refine cM [1,2,4,5] fun F k=>?_;clear K H
  obtain⟨f1,f2,f4,f5⟩:=k
  try refine bU ?_
  simp[jl,f5]
  exact ⟨by(try simp only);omega,fun j aA=>by(try simp only[ar]);repeat (first|rfl|rw[if_neg (by omega)]),rfl,rfl⟩)
 exact ⟨dC,e,K⟩
theorem Z6 (Y:List cy) (g:ai) (aw:∀j,g.next<=j->g.shut j=false) {i:Nat} (ab:i<=1000000) {p:Int × Bool} (bH:aJ p.1<=500000):
 ∃dC,eB G (aH Tryz.prog) ey Y (.fn 109) [aI i,dy p] g=some (dy (p.1*((i:Int)+1),false),dC)/\Kept g dC:=by
 obtain⟨x,lR⟩:=p
 simp only at bH|-
 have li:aJ (((i+1:Nat):Int))<=1:=by rw[w1];exact cu.2 (by rw[mu];omega)
 have t:=rb (x,((i+1:Nat):Int)) ⟨bH,by simp only;omega,by simp only;omega⟩ (args:=[dy (x,lR),ao ((i+1:Nat):Int)]) (by simp)
 have to:=LH ((i+1:Nat):Int) (by omega) (args:=[aI (i+1)]) rfl
 simp only at t
 have hw:IntKind.i64.wrap (Z i+Z 1)=Z (i+1):=dD (by omega)
 rw[show x*((i:Int)+1)=x*((i+1:Nat):Int) by rw[Int.natCast_add];rfl]
 generalize ((i+1:Nat):Int)=k at*
 generalize x*k=bP at*
 obtain⟨v,dC,e,rfl,K⟩:=jB (Φ:=aH Tryz.prog) (G:=G) (tab:=ey) (Y:=Y) (h:=g) (args:=[aI i,dy (x,lR)]) (R:=fun v h'=>v=dy (bP,false)/\Kept g h') Jx (by
  unfold i109
  refine aM [0,1,3,4] fun F K=>?_
  obtain⟨f0,f1,f3,f4⟩:=K
  have H:=bK t to hw aw
  have K:=bK f0 f1 f3 f4;clear f0 f1 f3 f4
  refine cM [0,1,3,4] fun F k=>?_;clear K H
  obtain⟨f0,f1,f3,f4⟩:=k
  try refine bU ?_
  simp[jl,f4]
  exact ⟨by(try simp only);omega,fun j aA=>by(try simp only[ar]);repeat (first|rfl|rw[if_neg (by omega)]),rfl,rfl⟩)
 exact ⟨dC,e,K⟩
theorem Z7 (Y:List cy) (g:ai) (aw:∀j,g.next<=j->g.shut j=false) {c d n:Nat} {l:List Int} (J:g.cells c=some [aI n]) (a3:g.cells d=some [ax l false]) (mx:c<g.next) (u_:d<g.next) (ak:n<=1000) (az:l.length<=1000) {i:Nat} (ab:i<l.length) {p:Int × Bool} (bH:aJ p.1<=500000):
 ∃dC,eB G (aH Tryz.prog) ey Y (.fn 120) [aI i,dy p,.ptr c 0 0,.ptr d 0 0] g=some (dy (p.1*2^(n*(l.length - 1 - i)),false),dC)/\Kept g dC:=by
 obtain⟨x,lR⟩:=p
 simp only at bH|-
 have mY:n*(l.length - 1 - i)<=1000*1000:=Nat.mul_le_mul ak (by omega)
 have t:=XZ (x,n*(l.length - 1 - i)) ⟨by simp only;omega,by simp only;omega⟩ (args:=[dy (x,lR),aI (n*(l.length - 1 - i))]) (by simp)
 have dL:=Ov l (by omega) (args:=[ax l false]) (by simp)
 simp only at t
 have ca:IntKind.i64.wrap ((l.length:Int) - 1 - Z i)=Z (l.length - 1 - i):=by rw[wrap_i64 (by simp only[Z];omega) (by simp only[Z];omega)];simp only[Z];omega
 have dc:IntKind.i64.wrap (Z n*Z (l.length - 1 - i))=Z (n*(l.length - 1 - i)):=pZ (by omega)
 generalize n*(l.length - 1 - i)=m at*
 generalize l.length - 1 - i=oD at*
 generalize (l.length:Int) - 1=ah0 at*
 generalize x*2^m=bP at*
 obtain⟨v,dC,e,rfl,K⟩:=jB (Φ:=aH Tryz.prog) (G:=G) (tab:=ey) (Y:=Y) (h:=g) (args:=[aI i,dy (x,lR),.ptr c 0 0,.ptr d 0 0]) (R:=fun v h'=>v=dy (bP,false)/\Kept g h') JE (by
  unfold i120
  refine aM [0,1,2,3,5,6] fun F K=>?_
  obtain⟨f0,f1,f2,f3,f5,f6⟩:=K
  have H:=fH J a3 mx u_ dL ca dc t aw
  have K:=c6 f0 f1 f2 f3 f5 f6;clear f0 f1 f2 f3 f5 f6
  refine cM [0,1,2,3,5,6] fun F k=>?_;clear K H
  obtain⟨f0,f1,f2,f3,f5,f6⟩:=k
  try refine bU ?_
  simp[jl,f6]
  exact ⟨by(try simp only);omega,fun j aA=>by(try simp only[ar]);repeat (first|rfl|rw[if_neg (by omega)]),rfl,rfl⟩)
 exact ⟨dC,e,K⟩
theorem Z8 (Y:List cy) (g:ai) (aw:∀j,g.next<=j->g.shut j=false) {i:Nat} (ab:i<=1000000) {p:Int × Bool} (bH:aJ p.1<=500000):
 ∃dC,eB G (aH Tryz.prog) ey Y (.fn 123) [aI i,dy p] g=some (dy (if i%2=1 then (-p.1,false) else p),dC)/\Kept g dC:=by
 obtain⟨x,lR⟩:=p
 simp only at bH|-
 have pd:(i&&&1)=i%2:=Nat.and_one_is_mod i
 have Ox:i<9223372036854775808:=by omega
 have t:=DG x (by omega) (args:=[dy (x,lR)]) (by simp)
 generalize -x=bP at*
 obtain⟨v,dC,e,rfl,K⟩:=jB (Φ:=aH Tryz.prog) (G:=G) (tab:=ey) (Y:=Y) (h:=g) (args:=[aI i,dy (x,lR)]) (R:=fun v h'=>v=dy (if i%2=1 then (bP,false) else (x,lR))/\Kept g h') JF (by
  unfold i123
  by_cases ay:i%2=1
  · rw[if_pos ay]
    refine aM [0,1,3,4,7] fun F K=>?_
    obtain⟨f0,f1,f3,f4,f7⟩:=K
    have H:=bA Ox pd ay t aw
    have K:=bA f0 f1 f3 f4 f7;clear f0 f1 f3 f4 f7
    refine cM [0,1,3,4,7] fun F k=>?_;clear K H
    obtain⟨f0,f1,f3,f4,f7⟩:=k
    try refine bU ?_
    simp[jl,f4]
    exact ⟨by(try simp only);omega,fun j aA=>by(try simp only[ar]);repeat (first|rfl|rw[if_neg (by omega)]),rfl,rfl⟩
  · rw[if_neg ay]
    have he:i%2=0:=by omega
    refine aM [0,1,3,4,7] fun F K=>?_
    obtain⟨f0,f1,f3,f4,f7⟩:=K
    have H:=bA Ox pd he t aw
    have K:=bA f0 f1 f3 f4 f7;clear f0 f1 f3 f4 f7
    refine cM [0,1,3,4,7] fun F k=>?_;clear K H
    obtain⟨f0,f1,f3,f4,f7⟩:=k
    try refine bU ?_
    simp[jl,f4]
    exact ⟨by(try simp only);omega,fun j aA=>by(try simp only[ar]);repeat (first|rfl|rw[if_neg (by omega)]),rfl,rfl⟩)
 exact ⟨dC,e,K⟩
theorem Z9 (Y:List cy) (g:ai) (aw:∀j,g.next<=j->g.shut j=false) {b c d:Nat} {f:FuncId} {T:List I->Option I} (ct:ey f=some T) {x y:List Int} (ad:g.cells b=some [.fn f [] []]) (J:g.cells c=some [ax x false]) (a3:g.cells d=some [ax y false]) (uW:b<g.next) (mx:c<g.next) (u_:d<g.next) (ae:x.length<=1000000) (aQ:y.length<=1000000) {i:Nat} (ab:i<=1000000) {r:Int} (t:T [ao (x.getD i 0),ao (y.getD i 0)]=some (ao r)):
 ∃dC,eB G (aH Tryz.prog) ey Y (.fn 207) [aI i,.bool false,.ptr b 0 0,.ptr c 0 0,.ptr d 0 0] g=some (dy (r,false),dC)/\Kept g dC:=by
 have t1:=Ou (x,i) ⟨by simp only;omega,ae⟩ (args:=[ax x false,aI i]) (by simp)
 have t2:=Ou (y,i) ⟨by simp only;omega,aQ⟩ (args:=[ax y false,aI i]) (by simp)
 simp only at t1 t2
 generalize x.getD i 0=ah1 at*
 generalize y.getD i 0=ah2 at*
 obtain⟨v,dC,e,rfl,K⟩:=jB (Φ:=aH Tryz.prog) (G:=G) (tab:=ey) (Y:=Y) (h:=g) (args:=[aI i,.bool false,.ptr b 0 0,.ptr c 0 0,.ptr d 0 0]) (R:=fun v h'=>v=dy (r,false)/\Kept g h') TF (by
  unfold i207
  refine aM [0,2,3,4,7] fun F K=>?_
  obtain⟨f0,f2,f3,f4,f7⟩:=K
  have H:=kx ad J a3 uW mx u_ t1 t2 ct t aw
  have K:=bA f0 f2 f3 f4 f7;clear f0 f2 f3 f4 f7
  refine cM [0,2,3,4,7] fun F k=>?_;clear K H
  obtain⟨f0,f2,f3,f4,f7⟩:=k
  try refine bU ?_
  simp[jl,f7]
  exact ⟨by(try simp only);omega,fun j aA=>by(try simp only[ar]);repeat (first|rfl|rw[if_neg (by omega)]),rfl,rfl⟩)
 exact ⟨dC,e,K⟩
end
section
attribute [local irreducible] a'
attribute [local simp] c2 cN cq
noncomputable def rm:FuncId->Option (List I->Option I):=cf [(205,uV)]
theorem Z_:∀f T,rm f=some T->aG Tryz.prog G f T:=cg (by simp only[List.forall_mem_cons];exact ⟨Ns,fun _ h=>absurd h (by simp)⟩)
theorem Z':rm 205=some uV:=rfl
theorem aaa:rm 138=none:=rfl
theorem aab:rm 204=none:=rfl
theorem aac:rm 53=none:=rfl
attribute [local simp] Z' aaa aab aac
structure s' (a b:Nat) (h:ai):Prop where
 bY:∃xs e,h.cells 1=some [.sl xs e]
 kR:h.cells 5=some [af a]
 mo:h.cells 6=some [af b]
 s1:h.shut 1=false
 kI:h.shut 5=false
 oi:h.shut 6=false
 jz:h.aU 10=some .ready
 cT:10<h.next
theorem s'.bump {a b:Nat} {h:ai} (ah:s' a b h) (n:Nat) (ak:h.next<=n):s' a b ⟨h.cells,h.shut,n,h.aU⟩:=
 ⟨ah.bY,ah.kR,ah.mo,ah.s1,ah.kI,ah.oi,ah.jz,Nat.lt_of_lt_of_le ah.cT ak⟩
theorem aad (Y:List cy) {F:Nat->I} (f5:F 5= .ptr 1 0 0) {h:ai} {a b:Nat} (ah:s' a b h):
 ∃u h',eB G (aH Tryz.prog) rm (⟨10,F,[10,11],(.region false [⟨(some 6),(.mv (.t 10)),none⟩] []),(.block 1 (.region false [⟨(some 12),(.mv (.t 6)),none⟩,⟨none,(.store 1 (.t 5) (.t 12)),none⟩] []))⟩::Y) (.k7 10) [af a,af b] h=some (u,h')/\u= .bool true/\s' a b h'/\h'.cells 1=some [af a]/\h.next<=h'.next:=by
 obtain⟨xs,e,bY⟩:=ah.bY
 have kR:=ah.kR
 have mo:=ah.mo
 have s1:=ah.s1
 have cT:=ah.cT
 refine CH (L:=⟨10,F,[10,11],(.region false [⟨(some 6),(.mv (.t 10)),none⟩] []),(.block 1 (.region false [⟨(some 12),(.mv (.t 6)),none⟩,⟨none,(.store 1 (.t 5) (.t 12)),none⟩] []))⟩) (Y':=Y) (by simp[nU]) rfl ?_
 simp only[mM]
 refine bg nC ?_
 simp[ah.jz,Nat.add_assoc]
 refine jA (bg nC ?_)
 simp(disch:=omega) [aF,List.getElem?_cons_zero,List.getElem?_cons_succ,dD,cQ,fq,Nat.mod_eq_of_lt,iV,iW,iX,iY,fz,iZ,i_,i',f5,bY,s1,Nat.add_assoc,tw,km,xU,oE,qt]
 exact ⟨⟨_,_,rfl⟩,by simp[ar,kR],by simp[ar,mo],s1,ah.kI,ah.oi,by simp[ar],by show 10<h.next+3;omega⟩
theorem aae (Y:List cy) (h:ai) (a b:Nat):
 eB G (aH Tryz.prog) rm Y (.fn 138) [af a,af b] h=some (.fn 204 [] [.ptr h.next 0 0,.ptr (h.next+1) 0 0],⟨ar (ar h.cells h.next (some [af a])) (h.next+1) (some [af b]),h.shut,h.next+5,h.aU⟩):=by
 obtain⟨v,h',e,rfl,rfl⟩:=jB (Φ:=aH Tryz.prog) (G:=G) (tab:=rm) (Y:=Y) (h:=h) (args:=[af a,af b]) (R:=fun v h'=>v= .fn 204 [] [.ptr h.next 0 0,.ptr (h.next+1) 0 0]/\h'=⟨ar (ar h.cells h.next (some [af a])) (h.next+1) (some [af b]),h.shut,h.next+5,h.aU⟩) JI (by
  unfold i138
  refine aM [0,1,2,3,4] fun F K=>?_
  obtain⟨f0,f1,f2,f3,f4⟩:=K
  have H:=(@Nat.add_assoc)
  have K:=bA f0 f1 f2 f3 f4;clear f0 f1 f2 f3 f4
  refine cM [0,1,2,3,4] fun F k=>?_;clear K H
  obtain⟨f0,f1,f2,f3,f4⟩:=k
  try refine bU ?_
  simp[jl,f4])
 exact e
noncomputable def rn:List I->Option I:=a7 (fun z:Nat × Nat=>(aa z.1).length<=1000000/\(aa z.2).length<=1000000) (fun z=>[af z.1,af z.2]) (fun z=>af (Nat.gcd z.1 z.2))
theorem FK (z:Nat × Nat) (h:(aa z.1).length<=1000000/\(aa z.2).length<=1000000) {args:List I} (he:args.map I.loose= [af z.1,af z.2]):rn args=some (af (Nat.gcd z.1 z.2)):=bk (fun z w h=>by simp only[List.cons.injEq,I.int.injEq,I.bool.injEq,I.sl.injEq,b4,bZ,bX,b_,b9,bz,bI,b8,bp,true_and,and_true] at h;simp[h]) z h he
theorem FL:aG Tryz.prog G 53 rn:=by
 refine bj mixed Z_ Je fun z av=>?_
 obtain⟨a,b⟩:=z
 obtain⟨bt,bm⟩:=av
 simp only at bt bm|-
 unfold i53
 refine aM [0,1,4,5,6,9,10] fun F K=>?_
 obtain⟨f0,f1,f4,f5,f6,f9,f10⟩:=K
 have H:=(@aae)
 have K:=db f0 f1 f4 f5 f6 f9 f10;clear f0 f1 f4 f5 f6 f9 f10
 refine cM [0,1,4,5,6,9,10] fun F k=>?_;clear K H
 obtain⟨f0,f1,f4,f5,f6,f9,f10⟩:=k
 refine jA (CG f9 J3 ?_)
 have dm:=f5
 clear f0 f1 f5 f9
 unfold i204
 simp
 refine aM [0,1,2] fun F K=>?_
 obtain⟨f0,f1,f2⟩:=K
 refine mr (fun k s=>∃x y,y=k/\(aa x).length<=1000000/\(aa y).length<=1000000/\Nat.gcd x y=Nat.gcd a b/\s' x y s.h) (fun s=>s' (Nat.gcd a b) 0 s.h/\s.h.cells 1=some [af (Nat.gcd a b)]) (fun _=>False) b ?_ ?_ ?_ (fun _ _ h=>h.elim)
 · refine⟨a,b,rfl,bt,bm,rfl,?_⟩
   exact ⟨⟨[],true,by simp[ar]⟩,by simp[ar],by simp[ar],by simp,by simp,by simp,by simp[ar],by simp⟩
 · rintro k s ag ⟨x,y,rfl,KW,sW,aW,ah⟩
   replace f0:=(ag 0 rfl).trans f0;replace f1:=(ag 1 rfl).trans f1;replace f2:=(ag 2 rfl).trans f2
   have kR:=ah.kR
   have mo:=ah.mo
   have kI:=ah.kI
   have oi:=ah.oi
   have cT:=ah.cT
   obtain⟨u,h',oJ,rfl,kY,bY,ak⟩:=aad [] dm (ah.bump (s.h.next+9) (by omega))
   simp only at ak
   have aaf:=kY.kR
   have Oy:=kY.mo
   have aag:=kY.kI
   have aah:=kY.oi
   have ah3:=kY.cT
   have K:=b3 f0 f1 f2;clear f0 f1 f2
   refine bN [0,1,2,5,15] fun F k=>?_;clear K
   obtain⟨f0,f1,f2,f5,f15⟩:=k
   by_cases aQ:y=0
   · subst aQ
     have dq:aa 0= []:=eD
     have H:=bA kR mo oJ Oy dq
     have K:=bA f0 f1 f2 f5 f15;clear f0 f1 f2 f5 f15
     refine cM [0,1,2,5,15] fun F k=>?_;clear K H
     obtain⟨f0,f1,f2,f5,f15⟩:=k
     rw[Nat.gcd_zero_right] at aW
     rw[aW] at kY bY
     exact ⟨kY.bump _ (by omega),bY⟩
   · have hyp:0<(aa y).length:=lr.2 aQ
     have aai:¬aa y= []:=fun h=>aQ (jn.1 h)
     have dL:=M6 (x,y) ⟨by simp only;omega,by simp only;omega⟩ (args:=[af x,af y]) (by simp)
     simp only[if_neg aQ] at dL
     have H:=j6 kR mo oJ aaf Oy aag aah hyp aai dL
     have K:=bA f0 f1 f2 f5 f15;clear f0 f1 f2 f5 f15
     refine cM [0,1,2,5,15] fun F k=>?_;clear K H
     obtain⟨f0,f1,f2,f5,f15⟩:=k
     refine⟨x%y,Nat.mod_lt _ (by omega),y,sW,?_,?_,?_⟩
     · exact Nat.le_trans (fB (Nat.le_of_lt (Nat.mod_lt _ (by omega)))) sW
     · rw[<-aW,Nat.gcd_comm y (x%y),<-Nat.gcd_rec y x,Nat.gcd_comm]
     · exact ⟨⟨_,_,bY⟩,by simp[ar],by simp[ar],kY.s1,kY.kI,kY.oi,kY.jz,by simp only;omega⟩
 · rintro s ag ⟨ah,bY⟩
   have cT:=ah.cT
   refine⟨trivial,⟨_,rfl⟩,?_⟩
   simp only[ah.jz]
   simp
   have f5:=dm
   have K:=f5;clear f5
   refine bN [4,5,13] fun F k=>?_;clear K
   obtain⟨f4,f5,f13⟩:=k
   have H:=bY
   have K:=b3 f4 f5 f13;clear f4 f5 f13
   exact kD [4,5,13]
end
section
attribute [local irreducible] a'
attribute [local simp] c2 cN cq jV
attribute [local simp] Fk Fl Fm Fo Fp Fq Fs Ft Fu Fv Fw Fx Fy Fz FA FB FC FD FE FF FG FH FI FJ
abbrev ta (n:Nat) (f:Nat->Int):List (Int × Bool):=(List.range n).map fun i=>(f i,false)
theorem u' (n:Nat) (f:Nat->Int) (e:Bool): [I.sl (c9 (ta n f)) e].map I.loose= [ax ((List.range n).map f) false]:=by
 simp only[List.map_cons,List.map_nil,dv,zO,Zl]
noncomputable def tb:List I->Option I:=a7 (fun z:List Int × Int=>z.1.length<=1000/\aX z.1<=400000/\aJ z.2<=400000/\min (aX z.1) (aJ z.2)<48) (fun z=>[ax z.1 false,ao z.2]) (fun z=>ax (gD z.1 z.2) false)
theorem Oz (z:List Int × Int) (h:z.1.length<=1000/\aX z.1<=400000/\aJ z.2<=400000/\min (aX z.1) (aJ z.2)<48) {args:List I} (he:args.map I.loose= [ax z.1 false,ao z.2]):tb args=some (ax (gD z.1 z.2) false):=bk (fun z w h=>by simp only[List.cons.injEq,I.int.injEq,I.bool.injEq,I.sl.injEq,b4,bZ,bX,b_,b9,bz,bI,b8,bp,true_and,and_true] at h;simp[h]) z h he
theorem OA:aG Tryz.prog G 32 tb:=by
 refine bj mixed u9 lG fun z av=>?_
 obtain⟨a,c⟩:=z
 obtain⟨bt,bH,dR,iT⟩:=av
 simp only at bt bH dR iT|-
 obtain⟨v,h',aq,own⟩:=w2 (tab:=ey) [] ⟨ar (fun _=>none) 0 (some [ao c]),fun _=>false,7,fun _=>none⟩ (fun _ _=>rfl) (st:=117) (caps:=[.ptr 0 0 0]) rfl (o:=a.map fun z=>(z,false)) (e:=false) (n:=a.length) (by simp) (by omega) (fun i=>(a.getD i 0*c,false))
  (fun g=>g.cells 0=some [ao c]/\0<g.next) (fun g dC K b=>⟨by rw[K.cells 0 b.2];exact b.1,Nat.lt_of_lt_of_le b.2 K.next⟩) ⟨by simp[ar],by simp⟩ (fun i p g aE ad aw=>by
    obtain⟨rfl,ab⟩:=xj aE
    have:=df a i
    exact Z5 [] g aw ad.1 ad.2 (by simp only;omega) (by omega) (by simp only;omega))
 rw[<-uO] at aq
 obtain⟨ids,nP,ay,xu,tc,xv⟩:=own.outs
 have b7:=Ar _ (by simp only[List.length_map,List.length_range];omega) (u' a.length (fun i=>a.getD i 0*c) nP)
 rw[Nw a (fun x=>x*c)] at b7
 rw[show strip (a.map fun x=>x*c)=gD a c from rfl] at b7
 generalize gD a c=r at*
 generalize c9 (ta a.length fun i=>a.getD i 0*c)=va at*
 unfold i32
 refine aM [0,1,3,4] fun F K=>?_
 obtain⟨f0,f1,f3,f4⟩:=K
 have H:=bK aq ay tc b7
 have K:=bK f0 f1 f3 f4;clear f0 f1 f3 f4
 exact kD [0,1,3,4]
noncomputable def td:List I->Option I:=a7 (fun z:List Int=>z.length<=1000/\aX z<=400000) (fun z=>[ax z false]) (fun z=>ax (dM z) false)
theorem aaj (z:List Int) (h:z.length<=1000/\aX z<=400000) {args:List I} (he:args.map I.loose= [ax z false]):td args=some (ax (dM z) false):=bk (fun z w h=>by simp only[List.cons.injEq,I.int.injEq,I.bool.injEq,I.sl.injEq,b4,bZ,bX,b_,b9,bz,bI,b8,bp,true_and,and_true] at h;simp[h]) z h he
theorem aak (x:Int) (l:List Int):dM (x::l)=(List.range l.length).map fun i=>l.getD i 0*((i:Int)+1):=by
 simp[dM]
theorem OB:aG Tryz.prog G 25 td:=by
 refine bj mixed u9 jQ fun l av=>?_
 obtain⟨bt,bH⟩:=av
 unfold i25
 cases l with
 | nil=>
   have e:dM []= []:=rfl
   rw[e]
   refine aM [0,2,5] fun F K=>?_
   obtain⟨f0,f2,f5⟩:=K
   have H:=trivial
   have K:=b3 f0 f2 f5;clear f0 f2 f5
   exact kD [0,2,5]
 | cons x a=>
 have Q7:aX a<=400000:=by rw[kj] at bH|-;exact fun y aQ=>bH y (by simp[aQ])
 simp only[List.length_cons] at bt
 obtain⟨v,h',aq,own⟩:=w2 (tab:=ey) [] ⟨fun _=>none,fun _=>false,8,fun _=>none⟩ (fun _ _=>rfl) (st:=109) (caps:=[]) rfl (o:=a.map fun z=>(z,false)) (e:=false) (n:=a.length) (by simp) (by omega) (fun i=>(a.getD i 0*((i:Int)+1),false))
  (fun _=>True) (fun _ _ _ _=>trivial) trivial (fun i p g aE ad aw=>by
    obtain⟨rfl,ab⟩:=xj aE
    have:=df a i
    exact Z6 [] g aw (by omega) (by simp only;omega))
 rw[<-uO] at aq
 obtain⟨ids,nP,ay,xu,tc,xv⟩:=own.outs
 have jW:=u' a.length (fun i=>a.getD i 0*((i:Int)+1)) nP
 rw[aak]
 simp only[List.map_cons,List.map_nil,List.cons.injEq,and_true] at jW
 generalize ((List.range a.length).map fun i=>a.getD i 0*((i:Int)+1))=r at*
 generalize c9 (ta a.length fun i=>a.getD i 0*((i:Int)+1))=va at*
 simp only[dv] at jW
 have FM:List.take a.length (a.map fun z=>ao z)=a.map fun z=>ao z:=List.take_of_length_le (by simp)
 refine aM [0,2,5] fun F K=>?_
 obtain⟨f0,f2,f5⟩:=K
 have H:=br aq FM
 have K:=b3 f0 f2 f5;clear f0 f2 f5
 repeat' (first|refine dE ?_|refine dF ?_|((first|refine sf ?_|refine sg ?_|refine sh ?_|exact dH|refine dG ?_);try(refine d' [0,2,5] fun F k=>?_;replace K:=k;clear k))|(refine dI (fun J=>?_) (fun J=>?_)<;>first|(exfalso;simp(disch:=omega) [H] at J;done)|(exfalso;simp at J;omega)|simp at J)|((first|refine bU ?_|refine c5 ?_);simp(disch:=omega) [H,K,ay,jW])|exact trivial)
 all_goals obtain⟨f0,f2,f5⟩:=K
noncomputable def te:List I->Option I:=a7 (fun z:List Int=>z.length<=1000/\aX z<=400000) (fun z=>[ax z false]) (fun z=>ax (fC z) false)
theorem aal (z:List Int) (h:z.length<=1000/\aX z<=400000) {args:List I} (he:args.map I.loose= [ax z false]):te args=some (ax (fC z) false):=bk (fun z w h=>by simp only[List.cons.injEq,I.int.injEq,I.bool.injEq,I.sl.injEq,b4,bZ,bX,b_,b9,bz,bI,b8,bp,true_and,and_true] at h;simp[h]) z h he
theorem OC:aG Tryz.prog G 40 te:=by
 refine bj mixed u9 Ja fun a av=>?_
 obtain⟨bt,bH⟩:=av
 obtain⟨v,h',aq,own⟩:=w2 (tab:=ey) [] ⟨fun _=>none,fun _=>false,4,fun _=>none⟩ (fun _ _=>rfl) (st:=123) (caps:=[]) rfl (o:=a.map fun z=>(z,false)) (e:=false) (n:=a.length) (by simp) (by omega) (fun i=>(if i%2=1 then -a.getD i 0 else a.getD i 0,false))
  (fun _=>True) (fun _ _ _ _=>trivial) trivial (fun i p g aE ad aw=>by
    obtain⟨rfl,ab⟩:=xj aE
    have:=df a i
    have:=Z8 [] g aw (i:=i) (by omega) (p:=(a.getD i 0,false)) (by simp only;omega)
    by_cases ay:i%2=1
    · simpa only[if_pos ay] using this
    · simpa only[if_neg ay] using this)
 rw[<-uO] at aq
 obtain⟨ids,nP,ay,xu,tc,xv⟩:=own.outs
 have jW:=u' a.length (fun i=>if i%2=1 then -a.getD i 0 else a.getD i 0) nP
 simp only[List.map_cons,List.map_nil,List.cons.injEq,and_true] at jW
 rw[show ((List.range a.length).map fun i=>if i%2=1 then -a.getD i 0 else a.getD i 0)=fC a from rfl] at jW
 generalize fC a=r at*
 generalize c9 (ta a.length fun i=>if i%2=1 then -a.getD i 0 else a.getD i 0)=va at*
 simp only[dv] at jW
 unfold i40
 refine aM [0,2] fun F K=>?_
 obtain⟨f0,f2⟩:=K
 have H:=aq
 have K:=br f0 f2;clear f0 f2
 repeat' (first|refine dE ?_|refine dF ?_|((first|refine sf ?_|refine sg ?_|refine sh ?_|exact dH|refine dG ?_);try(refine d' [0,2] fun F k=>?_;replace K:=k;clear k))|(refine dI (fun J=>?_) (fun J=>?_)<;>first|(exfalso;simp(disch:=omega) [H] at J;done)|(exfalso;simp at J;omega)|simp at J)|((first|refine bU ?_|refine c5 ?_);simp(disch:=omega) [H,K,ay,jW])|exact trivial)
 all_goals obtain⟨f0,f2⟩:=K
noncomputable def tf:List I->Option I:=a7 (fun z:List Int × Nat=>z.1.length<=1000/\aX z.1<=400000/\z.2<=1000) (fun z=>[ax z.1 false,aI z.2]) (fun z=>ax (fb z.2 z.1) false)
theorem aam (z:List Int × Nat) (h:z.1.length<=1000/\aX z.1<=400000/\z.2<=1000) {args:List I} (he:args.map I.loose= [ax z.1 false,aI z.2]):tf args=some (ax (fb z.2 z.1) false):=bk (fun z w h=>by simp only[List.cons.injEq,I.int.injEq,I.bool.injEq,I.sl.injEq,b4,bZ,bX,b_,b9,bz,bI,b8,bp,true_and,and_true] at h;simp[h]) z h he
theorem OD:aG Tryz.prog G 36 tf:=by
 refine bj mixed u9 wm fun z av=>?_
 obtain⟨a,n⟩:=z
 obtain⟨bt,bH,ak⟩:=av
 simp only at bt bH ak|-
 obtain⟨v,h',aq,own⟩:=w2 (tab:=ey) [] ⟨ar (ar (fun _=>none) 0 (some [ax a false])) 1 (some [aI n]),fun _=>false,7,fun _=>none⟩ (fun _ _=>rfl) (st:=120) (caps:=[.ptr 1 0 0,.ptr 0 0 0]) rfl (o:=a.map fun z=>(z,false)) (e:=false) (n:=a.length) (by simp) (by omega) (fun i=>(a.getD i 0*2^(n*(a.length - 1 - i)),false))
  (fun g=>g.cells 0=some [ax a false]/\g.cells 1=some [aI n]/\1<g.next) (fun g dC K b=>⟨by rw[K.cells 0 (by omega)];exact b.1,by rw[K.cells 1 b.2.2];exact b.2.1,Nat.lt_of_lt_of_le b.2.2 K.next⟩) ⟨by simp[ar],by simp[ar],by simp⟩ (fun i p g aE ad aw=>by
    obtain⟨rfl,ab⟩:=xj aE
    have:=df a i
    exact Z7 [] g aw ad.2.1 ad.1 ad.2.2 (by omega) ak (by omega) ab (by simp only;omega))
 rw[<-uO] at aq
 obtain⟨ids,nP,ay,xu,tc,xv⟩:=own.outs
 have jW:=u' a.length (fun i=>a.getD i 0*2^(n*(a.length - 1 - i))) nP
 simp only[List.map_cons,List.map_nil,List.cons.injEq,and_true] at jW
 rw[show ((List.range a.length).map fun i=>a.getD i 0*2^(n*(a.length - 1 - i)))=fb n a from rfl] at jW
 generalize fb n a=r at*
 generalize c9 (ta a.length fun i=>a.getD i 0*2^(n*(a.length - 1 - i)))=va at*
 simp only[dv] at jW
 unfold i36
 refine aM [0,1,2,3,4] fun F K=>?_
 obtain⟨f0,f1,f2,f3,f4⟩:=K
 have H:=aq
 have K:=bA f0 f1 f2 f3 f4;clear f0 f1 f2 f3 f4
 repeat' (first|refine dE ?_|refine dF ?_|((first|refine sf ?_|refine sg ?_|refine sh ?_|exact dH|refine dG ?_);try(refine d' [0,1,2,3,4] fun F k=>?_;replace K:=k;clear k))|(refine dI (fun J=>?_) (fun J=>?_)<;>first|(exfalso;simp(disch:=omega) [H] at J;done)|(exfalso;simp at J;omega)|simp at J)|((first|refine bU ?_|refine c5 ?_);simp(disch:=omega) [H,K,ay,jW])|exact trivial)
 all_goals obtain⟨f0,f1,f2,f3,f4⟩:=K
def As (p:List Int) (i:Nat) (s:aK):Prop:=(∃e,s.F 3=bV (aa (bT (p.take i))) e)/\∀j,s.h.next<=j->s.h.shut j=false
theorem OE (p:List Int) {i:Nat} (h:i<p.length):bT (p.take (i+1))=Nat.gcd (bT (p.take i)) (p.getD i 0).natAbs:=by
 rw[List.take_add_one,bT,List.foldl_append,<-bT]
 rw[List.getElem?_eq_getElem h]
 simp[List.getD_eq_getElem?_getD,h]
theorem xw (p:List Int):(aa (bT p)).length<=aX p:=by
 by_cases h:∀i,p.getD i 0=0
 · rw[N7.2 h,eD];simp
 · obtain⟨i,ab⟩:=Classical.not_forall.1 h
   have U:=fB (ZG i ab)
   have h2:=df p i
   simp only[aJ] at h2
   omega
theorem OF (p:List Int) (i:Nat):aX (p.take i)<=aX p:=by
 rw[kj]
 exact fun x ae=>kj.1 (Nat.le_refl _) x (List.mem_of_mem_take ae)
noncomputable def OG:FuncId->Option (List I->Option I):=cf [(53,rn)]
theorem aan:∀f T,OG f=some T->aG Tryz.prog G f T:=cg (by simp only[List.forall_mem_cons];exact ⟨FL,fun _ h=>absurd h (by simp)⟩)
theorem aao:OG 53=some rn:=rfl
attribute [local simp] aao
noncomputable def qk:List I->Option I:=a7 (fun z:List Int=>z.length<=1000/\aX z<=1000000) (fun z=>[ax z false]) (fun z=>af (bT z))
theorem OH (z:List Int) (h:z.length<=1000/\aX z<=1000000) {args:List I} (he:args.map I.loose= [ax z false]):qk args=some (af (bT z)):=bk (fun z w h=>by simp only[List.cons.injEq,I.int.injEq,I.bool.injEq,I.sl.injEq,b4,bZ,bX,b_,b9,bz,bI,b8,bp,true_and,and_true] at h;simp[h]) z h he
theorem FN:aG Tryz.prog G 28 qk:=by
 refine bj mixed aan jR fun a av=>?_
 obtain⟨bt,bH⟩:=av
 unfold i28
 refine aM [0,2,3,5,6,7,8,9] fun F K=>?_
 obtain⟨f0,f2,f3,f5,f6,f7,f8,f9⟩:=K
 have H:=trivial
 have K:=fi f0 f2 f3 f5 f6 f7 f8 f9;clear f0 f2 f3 f5 f6 f7 f8 f9
 refine bu [0,2,3,5,6,7,8,9] fun F k=>?_;clear K H
 obtain⟨f0,f2,f3,f5,f6,f7,f8,f9⟩:=k
 refine fA a.length (fun i s=>As a i s/\s.F 8=aI i) (As a a.length) (fun _=>False) ?_ ?_ ?_ (fun _ _ h=>h.elim)
 · exact ⟨⟨⟨true,by rw[List.take_zero,u5,eD];exact f3⟩,fun _ _=>rfl⟩,f8⟩
 · rintro i s ab ag ⟨⟨⟨e,ej⟩,aw⟩,jU⟩
   replace f6:=(ag 6 rfl).trans f6;replace f7:=(ag 7 rfl).trans f7
   clear f3 f8
   have f3:=ej
   have f8:=jU
   have K:=bK f3 f6 f7 f8;clear f3 f6 f7 f8
   refine bN [3,5,6,7,8,9] fun F k=>?_;clear K
   obtain⟨f3,f5,f6,f7,f8,f9⟩:=k
   by_cases aS:i<a.length
   · have eh:=pj aS
     have aE:=OE a aS
     have hm:=df a i
     have az:=xw (a.take i)
     have iS:=OF a i
     simp only[aJ] at hm
     have t:=FK (bT (a.take i),(a.getD i 0).natAbs) ⟨by simp only;omega,by simp only;omega⟩ (args:=[bV (aa (bT (a.take i))) e,af (a.getD i 0).natAbs]) (by simp)
     simp only[<-aE] at t
     clear aE
     obtain⟨c',mx⟩:∃c',c'=bT (a.take (i+1)):=⟨_,rfl⟩
     rw[<-mx] at t
     generalize bT (a.take i)=c at*
     generalize a.getD i 0=x at*
     have H:=bK aS eh t aw
     have K:=c6 f3 f5 f6 f7 f8 f9;clear f3 f5 f6 f7 f8 f9
     refine bu [3,5,6,7,8,9] fun F k=>?_;clear K H
     obtain⟨f3,f5,f6,f7,f8,f9⟩:=k
     exact ⟨⟨false,by rw[<-mx];exact f3⟩,fun j aA=>aw j (by simp only at aA;omega)⟩
   · obtain rfl:i=a.length:=by omega
     have H:=trivial
     have K:=c6 f3 f5 f6 f7 f8 f9;clear f3 f5 f6 f7 f8 f9
     refine bu [3,5,6,7,8,9] fun F k=>?_;clear K H
     obtain⟨f3,f5,f6,f7,f8,f9⟩:=k
     exact ⟨⟨e,by rw[List.take_length];exact f3⟩,fun j aA=>aw j (by simp only at aA;omega)⟩
 · rintro s ag ⟨⟨e,ej⟩,aw⟩
   clear f3 f8
   have f3:=ej
   rw[List.take_length] at f3
   have K:=f3;clear f3
   refine bN [2,3] fun F k=>?_;clear K
   obtain⟨f2,f3⟩:=k
   generalize bT a=c at*
   have H:=trivial
   have K:=br f2 f3;clear f2 f3
   exact a9 [2,3]
theorem FO (p:List Int):c3 (a5 (lead p)) (bT p)=fm p:=by
 simp only[c3,a5,fm,decide_eq_true_eq]
theorem FP (p:List Int):aJ (fm p)<=aX p:=by
 have:=xw p
 rw[aJ,rk];exact this
noncomputable def ql:FuncId->Option (List I->Option I):=cf [(84,nb),(28,qk),(115,u1)]
theorem aap:∀f T,ql f=some T->aG Tryz.prog G f T:=cg (by simp only[List.forall_mem_cons];exact ⟨wP,FN,Nu,fun _ h=>absurd h (by simp)⟩)
theorem aaq:ql 84=some nb:=rfl
theorem aar:ql 28=some qk:=rfl
theorem aas:ql 115=some u1:=rfl
theorem aat:ql 108=none:=rfl
theorem aau:ql 114=none:=rfl
attribute [local simp] aaq aar aas aat aau
theorem aav (Y:List cy) (g:ai) (aw:∀j,g.next<=j->g.shut j=false) {c:Nat} {k:Int} (J:g.cells c=some [ao k]) (mx:c<g.next) {i:Nat} {x:Int} {lR:Bool} (bH:aJ x<=1000000) (dR:aJ k<=1000000) (iT:k≠0/\x%k=0):
 ∃dC,eB G (aH Tryz.prog) ql Y (.fn 114) [aI i,dy (x,lR),.ptr c 0 0] g=some (dy (x/k,false),dC)/\Kept g dC:=by
 have t:=ES (x,k) ⟨bH,dR⟩ (args:=[dy (x,lR),ao k]) (by simp)
 simp only at t
 rw[if_neg (by simp[iT.1,iT.2])] at t
 generalize x/k=bP at*
 obtain⟨v,dC,e,rfl,K⟩:=jB (Φ:=aH Tryz.prog) (G:=G) (tab:=ql) (Y:=Y) (h:=g) (args:=[aI i,dy (x,lR),.ptr c 0 0]) (R:=fun v h'=>v=dy (bP,false)/\Kept g h') JA (by
  unfold i114
  refine aM [1,2,4,5,6] fun F K=>?_
  obtain⟨f1,f2,f4,f5,f6⟩:=K
  have H:=bK J mx t aw
  have K:=bA f1 f2 f4 f5 f6;clear f1 f2 f4 f5 f6
  refine cM [1,2,4,5,6] fun F k=>?_;clear K H
  obtain⟨f1,f2,f4,f5,f6⟩:=k
  try refine bU ?_
  simp[jl,f5]
  exact ⟨by(try simp only);omega,fun j aA=>by(try simp only[ar]);repeat (first|rfl|rw[if_neg (by omega)]),rfl,rfl⟩)
 exact ⟨dC,e,K⟩
noncomputable def tg:List I->Option I:=a7 (fun z:List Int=>z.length<=1000/\aX z<=400000/\cO z) (fun z=>[ax z false]) (fun z=>ax (c_ z) false)
theorem aaw (z:List Int) (h:z.length<=1000/\aX z<=400000/\cO z) {args:List I} (he:args.map I.loose= [ax z false]):tg args=some (ax (c_ z) false):=bk (fun z w h=>by simp only[List.cons.injEq,I.int.injEq,I.bool.injEq,I.sl.injEq,b4,bZ,bX,b_,b9,bz,bI,b8,bp,true_and,and_true] at h;simp[h]) z h he
theorem OI:aG Tryz.prog G 30 tg:=by
 refine bj mixed aap kC fun a av=>?_
 obtain⟨bt,bH,a_⟩:=av
 by_cases ak:a= []
 · subst ak
   have e:c_ []= []:=rfl
   rw[e]
   unfold i30
   refine aM [0,2,3,6] fun F K=>?_
   obtain⟨f0,f2,f3,f6⟩:=K
   have H:=trivial
   have K:=bK f0 f2 f3 f6;clear f0 f2 f3 f6
   exact kD [0,2,3,6]
 have aE:=List.length_pos_iff.2 ak
 have gJ:=Fg a_ ak
 have tS:=FP a
 obtain⟨v,h',aq,own⟩:=w2 (tab:=ql) [] ⟨ar (fun _=>none) 14 (some [ao (fm a)]),fun _=>false,20,fun _=>none⟩ (fun _ _=>rfl) (st:=114) (caps:=[.ptr 14 0 0]) rfl (o:=a.map fun z=>(z,false)) (e:=false) (n:=a.length) (by simp) (by omega) (fun i=>(a.getD i 0/fm a,false))
  (fun g=>g.cells 14=some [ao (fm a)]/\14<g.next) (fun g dC K b=>⟨by rw[K.cells 14 b.2];exact b.1,Nat.lt_of_lt_of_le b.2 K.next⟩) ⟨by simp[ar],by simp⟩ (fun i p g aE ad aw=>by
    obtain⟨rfl,ab⟩:=xj aE
    have:=df a i
    exact aav [] g aw ad.1 ad.2 (by omega) (by omega) ⟨gJ,Int.emod_eq_zero_of_dvd (Ao a i)⟩)
 rw[<-uO] at aq
 obtain⟨ids,nP,ay,xu,tc,xv⟩:=own.outs
 have jW:=u' a.length (fun i=>a.getD i 0/fm a) nP
 simp only[List.map_cons,List.map_nil,List.cons.injEq,and_true] at jW
 rw[Nw a (fun x=>x/fm a)] at jW
 rw[show (a.map fun x=>x/fm a)=c_ a from rfl] at jW
 have kX:=OH a ⟨by omega,by omega⟩ (args:=[ax a false]) (by simp)
 have b7:=mA (b:=a5 (lead a)) (n:=bT a) (by have:=xw a;omega)
 rw[FO] at b7
 have eh:=pj (show a.length - 1<a.length by omega)
 rw[show a.getD (a.length - 1) 0=lead a from rfl] at eh
 have ca:IntKind.i64.wrap (Z a.length - Z 1)=Z (a.length - 1):=cQ (by omega) (by omega)
 generalize c9 (ta a.length fun i=>a.getD i 0/fm a)=va at*
 generalize c_ a=r at*
 generalize bT a=jx at*
 generalize fm a=k at*
 generalize lead a=lA at*
 simp only[dv] at jW
 unfold i30
 refine aM [0,2,3,6] fun F K=>?_
 obtain⟨f0,f2,f3,f6⟩:=K
 have H:=db aE ak ca eh kX b7 aq
 have K:=bK f0 f2 f3 f6;clear f0 f2 f3 f6
 repeat' (first|refine dE ?_|refine dF ?_|((first|refine sf ?_|refine sg ?_|refine sh ?_|exact dH|refine dG ?_);try(refine d' [0,2,3,6] fun F k=>?_;replace K:=k;clear k))|(refine dI (fun J=>?_) (fun J=>?_)<;>first|(exfalso;simp(disch:=omega) [H] at J;done)|(exfalso;simp at J;omega)|simp at J)|((first|refine bU ?_|refine c5 ?_);simp(disch:=omega) [H,K,ay,jW])|exact trivial)
 all_goals obtain⟨f0,f2,f3,f6⟩:=K
end
end
end Go.Proofs.YtemiagcencajeaaGreatDoor
