/- What the claim needs of the walks, put together by a program (shake.py). -/
import Derived.Test.YtemiagcencajeaaGreatDoorXmE7
import Derived.Test.YtemiagcencajeaaGreatDoorXmE4
import Derived.Test.YtemiagcencajeaaGreatDoorProg
import Derived.KernelRfl
import Derived.Test.YtemiagcencajeaaGreatDoorRows
import Derived.Test.YtemiagcencajeaaGreatDoorTie
import Derived.Test.YtemiagcencajeaaGreatDoorChecked
import Derived.Test.YtemiagcencajeaaGreatDoorXmE6
import Derived.Test.YtemiagcencajeaaGreatDoorCards
import Derived.SevenTiedAt
set_option maxRecDepth 100000
set_option linter.unusedSimpArgs false
set_option linter.unusedVariables false
set_option linter.unusedSectionVars false
namespace Go.Proofs.YtemiagcencajeaaGreatDoor
section
open Go Go.Eng Go.RowKit
theorem br {b6 bb:Prop} (x0:b6) (x1:bb):b6/\bb:=⟨x0,x1⟩
theorem b3 {b6 bb bC:Prop} (x0:b6) (x1:bb) (x2:bC):b6/\bb/\bC:=⟨x0,x1,x2⟩
theorem bK {b6 bb bC bW:Prop} (x0:b6) (x1:bb) (x2:bC) (dP:bW):b6/\bb/\bC/\bW:=⟨x0,x1,x2,dP⟩
theorem bA {b6 bb bC bW cn:Prop} (x0:b6) (x1:bb) (x2:bC) (dP:bW) (dX:cn):b6/\bb/\bC/\bW/\cn:=⟨x0,x1,x2,dP,dX⟩
theorem c6 {b6 bb bC bW cn cR:Prop} (x0:b6) (x1:bb) (x2:bC) (dP:bW) (dX:cn) (ed:cR):b6/\bb/\bC/\bW/\cn/\cR:=⟨x0,x1,x2,dP,dX,ed⟩
theorem db {b6 bb bC bW cn cR c0:Prop} (x0:b6) (x1:bb) (x2:bC) (dP:bW) (dX:cn) (ed:cR) (er:c0):b6/\bb/\bC/\bW/\cn/\cR/\c0:=⟨x0,x1,x2,dP,dX,ed,er⟩
theorem fi {b6 bb bC bW cn cR c0 cL:Prop} (x0:b6) (x1:bb) (x2:bC) (dP:bW) (dX:cn) (ed:cR) (er:c0) (eI:cL):b6/\bb/\bC/\bW/\cn/\cR/\c0/\cL:=⟨x0,x1,x2,dP,dX,ed,er,eI⟩
theorem fH {b6 bb bC bW cn cR c0 cL c1:Prop} (x0:b6) (x1:bb) (x2:bC) (dP:bW) (dX:cn) (ed:cR) (er:c0) (eI:cL) (eP:c1):b6/\bb/\bC/\bW/\cn/\cR/\c0/\cL/\c1:=⟨x0,x1,x2,dP,dX,ed,er,eI,eP⟩
theorem j6 {b6 bb bC bW cn cR c0 cL c1 dk:Prop} (x0:b6) (x1:bb) (x2:bC) (dP:bW) (dX:cn) (ed:cR) (er:c0) (eI:cL) (eP:c1) (eZ:dk):b6/\bb/\bC/\bW/\cn/\cR/\c0/\cL/\c1/\dk:=⟨x0,x1,x2,dP,dX,ed,er,eI,eP,eZ⟩
theorem kx {b6 bb bC bW cn cR c0 cL c1 dk dw:Prop} (x0:b6) (x1:bb) (x2:bC) (dP:bW) (dX:cn) (ed:cR) (er:c0) (eI:cL) (eP:c1) (eZ:dk) (fj:dw):b6/\bb/\bC/\bW/\cn/\cR/\c0/\cL/\c1/\dk/\dw:=⟨x0,x1,x2,dP,dX,ed,er,eI,eP,eZ,fj⟩
theorem kU {b6 bb bC bW cn cR c0 cL c1 dk dw dY:Prop} (x0:b6) (x1:bb) (x2:bC) (dP:bW) (dX:cn) (ed:cR) (er:c0) (eI:cL) (eP:c1) (eZ:dk) (fj:dw) (fI:dY):b6/\bb/\bC/\bW/\cn/\cR/\c0/\cL/\c1/\dk/\dw/\dY:=⟨x0,x1,x2,dP,dX,ed,er,eI,eP,eZ,fj,fI⟩
theorem ky {b6 bb bC bW cn cR c0 cL c1 dk dw dY ee:Prop} (x0:b6) (x1:bb) (x2:bC) (dP:bW) (dX:cn) (ed:cR) (er:c0) (eI:cL) (eP:c1) (eZ:dk) (fj:dw) (fI:dY) (fX:ee):b6/\bb/\bC/\bW/\cn/\cR/\c0/\cL/\c1/\dk/\dw/\dY/\ee:=⟨x0,x1,x2,dP,dX,ed,er,eI,eP,eZ,fj,fI,fX⟩
theorem yQ {b6 bb bC bW cn cR c0 cL c1 dk dw dY ee eC:Prop} (x0:b6) (x1:bb) (x2:bC) (dP:bW) (dX:cn) (ed:cR) (er:c0) (eI:cL) (eP:c1) (eZ:dk) (fj:dw) (fI:dY) (fX:ee) (gz:eC):b6/\bb/\bC/\bW/\cn/\cR/\c0/\cL/\c1/\dk/\dw/\dY/\ee/\eC:=⟨x0,x1,x2,dP,dX,ed,er,eI,eP,eZ,fj,fI,fX,gz⟩
theorem wi {b6 bb bC bW cn cR c0 cL c1 dk dw dY ee eC eN:Prop} (x0:b6) (x1:bb) (x2:bC) (dP:bW) (dX:cn) (ed:cR) (er:c0) (eI:cL) (eP:c1) (eZ:dk) (fj:dw) (fI:dY) (fX:ee) (gz:eC) (ja:eN):b6/\bb/\bC/\bW/\cn/\cR/\c0/\cL/\c1/\dk/\dw/\dY/\ee/\eC/\eN:=⟨x0,x1,x2,dP,dX,ed,er,eI,eP,eZ,fj,fI,fX,gz,ja⟩
theorem SZ {b6 bb bC bW cn cR c0 cL c1 dk dw dY ee eC eN e0:Prop} (x0:b6) (x1:bb) (x2:bC) (dP:bW) (dX:cn) (ed:cR) (er:c0) (eI:cL) (eP:c1) (eZ:dk) (fj:dw) (fI:dY) (fX:ee) (gz:eC) (ja:eN) (jC:e0):b6/\bb/\bC/\bW/\cn/\cR/\c0/\cL/\c1/\dk/\dw/\dY/\ee/\eC/\eN/\e0:=⟨x0,x1,x2,dP,dX,ed,er,eI,eP,eZ,fj,fI,fX,gz,ja,jC⟩
theorem wj {b6 bb bC bW cn cR c0 cL c1 dk dw dY ee eC eN e0 fr:Prop} (x0:b6) (x1:bb) (x2:bC) (dP:bW) (dX:cn) (ed:cR) (er:c0) (eI:cL) (eP:c1) (eZ:dk) (fj:dw) (fI:dY) (fX:ee) (gz:eC) (ja:eN) (jC:e0) (j7:fr):b6/\bb/\bC/\bW/\cn/\cR/\c0/\cL/\c1/\dk/\dw/\dY/\ee/\eC/\eN/\e0/\fr:=⟨x0,x1,x2,dP,dX,ed,er,eI,eP,eZ,fj,fI,fX,gz,ja,jC,j7⟩
theorem yR {b6 bb bC bW cn cR c0 cL c1 dk dw dY ee eC eN e0 fr fR fS fJ:Prop} (x0:b6) (x1:bb) (x2:bC) (dP:bW) (dX:cn) (ed:cR) (er:c0) (eI:cL) (eP:c1) (eZ:dk) (fj:dw) (fI:dY) (fX:ee) (gz:eC) (ja:eN) (jC:e0) (j7:fr) (kz:fR) (kA:fS) (kB:fJ):b6/\bb/\bC/\bW/\cn/\cR/\c0/\cL/\c1/\dk/\dw/\dY/\ee/\eC/\eN/\e0/\fr/\fR/\fS/\fJ:=⟨x0,x1,x2,dP,dX,ed,er,eI,eP,eZ,fj,fI,fX,gz,ja,jC,j7,kz,kA,kB⟩
theorem S0 {b6 bb bC bW cn cR c0 cL c1 dk dw dY ee eC eN e0 fr fR fS fJ gi gA gj:Prop} (x0:b6) (x1:bb) (x2:bC) (dP:bW) (dX:cn) (ed:cR) (er:c0) (eI:cL) (eP:c1) (eZ:dk) (fj:dw) (fI:dY) (fX:ee) (gz:eC) (ja:eN) (jC:e0) (j7:fr) (kz:fR) (kA:fS) (kB:fJ) (ld:gi) (lo:gA) (lp:gj):b6/\bb/\bC/\bW/\cn/\cR/\c0/\cL/\c1/\dk/\dw/\dY/\ee/\eC/\eN/\e0/\fr/\fR/\fS/\fJ/\gi/\gA/\gj:=⟨x0,x1,x2,dP,dX,ed,er,eI,eP,eZ,fj,fI,fX,gz,ja,jC,j7,kz,kA,kB,ld,lo,lp⟩
theorem S1 {b6 bb bC bW cn cR c0 cL c1 dk dw dY ee eC eN e0 fr fR fS fJ gi gA gj jm:Prop} (x0:b6) (x1:bb) (x2:bC) (dP:bW) (dX:cn) (ed:cR) (er:c0) (eI:cL) (eP:c1) (eZ:dk) (fj:dw) (fI:dY) (fX:ee) (gz:eC) (ja:eN) (jC:e0) (j7:fr) (kz:fR) (kA:fS) (kB:fJ) (ld:gi) (lo:gA) (lp:gj) (l6:jm):b6/\bb/\bC/\bW/\cn/\cR/\c0/\cL/\c1/\dk/\dw/\dY/\ee/\eC/\eN/\e0/\fr/\fR/\fS/\fJ/\gi/\gA/\gj/\jm:=⟨x0,x1,x2,dP,dX,ed,er,eI,eP,eZ,fj,fI,fX,gz,ja,jC,j7,kz,kA,kB,ld,lo,lp,l6⟩
theorem S2 {b6 bb bC bW cn cR c0 cL c1 dk dw dY ee eC eN e0 fr fR fS fJ gi gA gj jm jP jQ j8 j9 jR j_:Prop} (x0:b6) (x1:bb) (x2:bC) (dP:bW) (dX:cn) (ed:cR) (er:c0) (eI:cL) (eP:c1) (eZ:dk) (fj:dw) (fI:dY) (fX:ee) (gz:eC) (ja:eN) (jC:e0) (j7:fr) (kz:fR) (kA:fS) (kB:fJ) (ld:gi) (lo:gA) (lp:gj) (l6:jm) (mZ:jP) (m0:jQ) (m1:j8) (m2:j9) (m3:jR) (m4:j_):b6/\bb/\bC/\bW/\cn/\cR/\c0/\cL/\c1/\dk/\dw/\dY/\ee/\eC/\eN/\e0/\fr/\fR/\fS/\fJ/\gi/\gA/\gj/\jm/\jP/\jQ/\j8/\j9/\jR/\j_:=⟨x0,x1,x2,dP,dX,ed,er,eI,eP,eZ,fj,fI,fX,gz,ja,jC,j7,kz,kA,kB,ld,lo,lp,l6,mZ,m0,m1,m2,m3,m4⟩
theorem S3 {b6 bb bC bW cn cR c0 cL c1 dk dw dY ee eC eN e0 fr fR fS fJ gi gA gj jm jP jQ j8 j9 jR j_ kC kV:Prop} (x0:b6) (x1:bb) (x2:bC) (dP:bW) (dX:cn) (ed:cR) (er:c0) (eI:cL) (eP:c1) (eZ:dk) (fj:dw) (fI:dY) (fX:ee) (gz:eC) (ja:eN) (jC:e0) (j7:fr) (kz:fR) (kA:fS) (kB:fJ) (ld:gi) (lo:gA) (lp:gj) (l6:jm) (mZ:jP) (m0:jQ) (m1:j8) (m2:j9) (m3:jR) (m4:j_) (n_:kC) (n':kV):b6/\bb/\bC/\bW/\cn/\cR/\c0/\cL/\c1/\dk/\dw/\dY/\ee/\eC/\eN/\e0/\fr/\fR/\fS/\fJ/\gi/\gA/\gj/\jm/\jP/\jQ/\j8/\j9/\jR/\j_/\kC/\kV:=⟨x0,x1,x2,dP,dX,ed,er,eI,eP,eZ,fj,fI,fX,gz,ja,jC,j7,kz,kA,kB,ld,lo,lp,l6,mZ,m0,m1,m2,m3,m4,n_,n'⟩
theorem S4 {b6 bb bC bW cn cR c0 cL c1 dk dw dY ee eC eN e0 fr fR fS fJ gi gA gj jm jP jQ j8 j9 jR j_ kC kV lG:Prop} (x0:b6) (x1:bb) (x2:bC) (dP:bW) (dX:cn) (ed:cR) (er:c0) (eI:cL) (eP:c1) (eZ:dk) (fj:dw) (fI:dY) (fX:ee) (gz:eC) (ja:eN) (jC:e0) (j7:fr) (kz:fR) (kA:fS) (kB:fJ) (ld:gi) (lo:gA) (lp:gj) (l6:jm) (mZ:jP) (m0:jQ) (m1:j8) (m2:j9) (m3:jR) (m4:j_) (n_:kC) (n':kV) (p1:lG):b6/\bb/\bC/\bW/\cn/\cR/\c0/\cL/\c1/\dk/\dw/\dY/\ee/\eC/\eN/\e0/\fr/\fR/\fS/\fJ/\gi/\gA/\gj/\jm/\jP/\jQ/\j8/\j9/\jR/\j_/\kC/\kV/\lG:=⟨x0,x1,x2,dP,dX,ed,er,eI,eP,eZ,fj,fI,fX,gz,ja,jC,j7,kz,kA,kB,ld,lo,lp,l6,mZ,m0,m1,m2,m3,m4,n_,n',p1⟩
theorem S5 {b6 bb bC bW cn cR c0 cL c1 dk dw dY ee eC eN e0 fr fR fS fJ gi gA gj jm jP jQ j8 j9 jR j_ kC kV lG m5:Prop} (x0:b6) (x1:bb) (x2:bC) (dP:bW) (dX:cn) (ed:cR) (er:c0) (eI:cL) (eP:c1) (eZ:dk) (fj:dw) (fI:dY) (fX:ee) (gz:eC) (ja:eN) (jC:e0) (j7:fr) (kz:fR) (kA:fS) (kB:fJ) (ld:gi) (lo:gA) (lp:gj) (l6:jm) (mZ:jP) (m0:jQ) (m1:j8) (m2:j9) (m3:jR) (m4:j_) (n_:kC) (n':kV) (p1:lG) (sd:m5):b6/\bb/\bC/\bW/\cn/\cR/\c0/\cL/\c1/\dk/\dw/\dY/\ee/\eC/\eN/\e0/\fr/\fR/\fS/\fJ/\gi/\gA/\gj/\jm/\jP/\jQ/\j8/\j9/\jR/\j_/\kC/\kV/\lG/\m5:=⟨x0,x1,x2,dP,dX,ed,er,eI,eP,eZ,fj,fI,fX,gz,ja,jC,j7,kz,kA,kB,ld,lo,lp,l6,mZ,m0,m1,m2,m3,m4,n_,n',p1,sd⟩
theorem S6 {b6 bb bC bW cn cR c0 cL c1 dk dw dY ee eC eN e0 fr fR fS fJ gi gA gj jm jP jQ j8 j9 jR j_ kC kV lG m5 nE:Prop} (x0:b6) (x1:bb) (x2:bC) (dP:bW) (dX:cn) (ed:cR) (er:c0) (eI:cL) (eP:c1) (eZ:dk) (fj:dw) (fI:dY) (fX:ee) (gz:eC) (ja:eN) (jC:e0) (j7:fr) (kz:fR) (kA:fS) (kB:fJ) (ld:gi) (lo:gA) (lp:gj) (l6:jm) (mZ:jP) (m0:jQ) (m1:j8) (m2:j9) (m3:jR) (m4:j_) (n_:kC) (n':kV) (p1:lG) (sd:m5) (wk:nE):b6/\bb/\bC/\bW/\cn/\cR/\c0/\cL/\c1/\dk/\dw/\dY/\ee/\eC/\eN/\e0/\fr/\fR/\fS/\fJ/\gi/\gA/\gj/\jm/\jP/\jQ/\j8/\j9/\jR/\j_/\kC/\kV/\lG/\m5/\nE:=⟨x0,x1,x2,dP,dX,ed,er,eI,eP,eZ,fj,fI,fX,gz,ja,jC,j7,kz,kA,kB,ld,lo,lp,l6,mZ,m0,m1,m2,m3,m4,n_,n',p1,sd,wk⟩
theorem CT {b6 bb bC bW cn cR c0 cL c1 dk dw dY ee eC eN e0 fr fR fS fJ gi gA gj jm jP jQ j8 j9 jR j_ kC kV lG m5 nE se:Prop} (x0:b6) (x1:bb) (x2:bC) (dP:bW) (dX:cn) (ed:cR) (er:c0) (eI:cL) (eP:c1) (eZ:dk) (fj:dw) (fI:dY) (fX:ee) (gz:eC) (ja:eN) (jC:e0) (j7:fr) (kz:fR) (kA:fS) (kB:fJ) (ld:gi) (lo:gA) (lp:gj) (l6:jm) (mZ:jP) (m0:jQ) (m1:j8) (m2:j9) (m3:jR) (m4:j_) (n_:kC) (n':kV) (p1:lG) (sd:m5) (wk:nE) (CU:se):b6/\bb/\bC/\bW/\cn/\cR/\c0/\cL/\c1/\dk/\dw/\dY/\ee/\eC/\eN/\e0/\fr/\fR/\fS/\fJ/\gi/\gA/\gj/\jm/\jP/\jQ/\j8/\j9/\jR/\j_/\kC/\kV/\lG/\m5/\nE/\se:=⟨x0,x1,x2,dP,dX,ed,er,eI,eP,eZ,fj,fI,fX,gz,ja,jC,j7,kz,kA,kB,ld,lo,lp,l6,mZ,m0,m1,m2,m3,m4,n_,n',p1,sd,wk,CU⟩
theorem CV {b6 bb bC bW cn cR c0 cL c1 dk dw dY ee eC eN e0 fr fR fS fJ gi gA gj jm jP jQ j8 j9 jR j_ kC kV lG m5 nE se wm yS uh:Prop} (x0:b6) (x1:bb) (x2:bC) (dP:bW) (dX:cn) (ed:cR) (er:c0) (eI:cL) (eP:c1) (eZ:dk) (fj:dw) (fI:dY) (fX:ee) (gz:eC) (ja:eN) (jC:e0) (j7:fr) (kz:fR) (kA:fS) (kB:fJ) (ld:gi) (lo:gA) (lp:gj) (l6:jm) (mZ:jP) (m0:jQ) (m1:j8) (m2:j9) (m3:jR) (m4:j_) (n_:kC) (n':kV) (p1:lG) (sd:m5) (wk:nE) (CU:se) (S7:wm) (S8:yS) (S9:uh):b6/\bb/\bC/\bW/\cn/\cR/\c0/\cL/\c1/\dk/\dw/\dY/\ee/\eC/\eN/\e0/\fr/\fR/\fS/\fJ/\gi/\gA/\gj/\jm/\jP/\jQ/\j8/\j9/\jR/\j_/\kC/\kV/\lG/\m5/\nE/\se/\wm/\yS/\uh:=⟨x0,x1,x2,dP,dX,ed,er,eI,eP,eZ,fj,fI,fX,gz,ja,jC,j7,kz,kA,kB,ld,lo,lp,l6,mZ,m0,m1,m2,m3,m4,n_,n',p1,sd,wk,CU,S7,S8,S9⟩
def oZ (F F':Nat->I):List Nat->Prop
 | []=>True
 | [i]=>F' i=F i
 | i::j::l=>F' i=F i/\oZ F F' (j::l)
theorem wo {F:Nat->I}:∀l:List Nat,oZ F F l
 | []=>trivial
 | [_]=>rfl
 | _::j::l=>⟨rfl,wo (j::l)⟩
def S_:cU->Bool
 | .loop _=>false
 | .k6 .. =>false
 | _=>true
def wq (_:List Nat):Prop:=True
def o0 (a b:Prop):Prop:=a=b
theorem m6 (a:Prop):o0 a a:=rfl
section
variable {G:Nat->Option I} {Φ:FuncId->Option aP} {tab:FuncId->Option (List I->Option I)} {Y:List cy} {s:aK} {Q:da->aK->Prop} {P:Prop}
theorem dE {a b:cU} (h:a' G Φ tab Y a s (qM Q fun s1=>a' G Φ tab Y b s1 Q)):a' G Φ tab Y (.seq a b) s Q:=ba h
theorem dF {id:Nat} {b:cU} (h:a' G Φ tab Y b s (qN id Q)) (_:S_ b=true:=by rfl):a' G Φ tab Y (.block id b) s Q:=jA h
theorem et {ops:List aY} {eK:List Nat} (h:P) (e:o0 (fg G tab yD false ops eK s (Q .normal)) P:=by simp(disch:=omega) [H,K];exact m6 _):a' G Φ tab Y (.region false ops eK) s Q:=bg bx (Eq.mpr e h)
theorem eu {ops:List aY} {eK:List Nat} {A:Prop} (h:P) (e:o0 (fg G tab yD true ops eK s (Q .normal)) (A/\P):=by simp(disch:=omega) [H,K];exact m6 _) (a:A:=by first|decide|rfl):a' G Φ tab Y (.region true ops eK) s Q:=bg bx (Eq.mpr e ⟨a,h⟩)
theorem ew {ops:List aY} {eK:List Nat} (h:P) (e:o0 (fg G tab yD true ops eK s (Q .normal)) P:=by simp(disch:=omega) [H,K];exact m6 _):a' G Φ tab Y (.region true ops eK) s Q:=bg bx (Eq.mpr e h)
theorem sf {ops:List aY} {eK:List Nat} (h:P) (e:o0 (fg G tab (eB G Φ tab Y) false ops eK s (Q .normal)) P:=by simp(disch:=omega) [H,K];exact m6 _):a' G Φ tab Y (.region false ops eK) s Q:=bg nC (Eq.mpr e h)
theorem sg {ops:List aY} {eK:List Nat} {A:Prop} (h:P) (e:o0 (fg G tab (eB G Φ tab Y) true ops eK s (Q .normal)) (A/\P):=by simp(disch:=omega) [H,K];exact m6 _) (a:A:=by first|decide|rfl):a' G Φ tab Y (.region true ops eK) s Q:=bg nC (Eq.mpr e ⟨a,h⟩)
theorem sh {ops:List aY} {eK:List Nat} (h:P) (e:o0 (fg G tab (eB G Φ tab Y) true ops eK s (Q .normal)) P:=by simp(disch:=omega) [H,K];exact m6 _):a' G Φ tab Y (.region true ops eK) s Q:=bg nC (Eq.mpr e h)
theorem dG (h:P) (e:o0 (Q .normal s) P:=by simp(disch:=omega) [H,K];exact m6 _):a' G Φ tab Y .skip s Q:=gp (Eq.mpr e h)
theorem dH (h:Q .normal s:=by simp(disch:=omega) [H,K]<;>fail):a' G Φ tab Y .skip s Q:=gp h
theorem si (h:P) (e:o0 (Q .ret s) P:=by simp(disch:=omega) [H,K];exact m6 _):a' G Φ tab Y .ret s Q:=bU (Eq.mpr e h)
theorem sj (h:Q .ret s:=by simp(disch:=omega) [H,K]<;>fail):a' G Φ tab Y .ret s Q:=bU h
theorem sk {i:Nat} (h:P) (e:o0 (Q (.exit i) s) P:=by simp(disch:=omega) [H,K];exact m6 _):a' G Φ tab Y (.exit i) s Q:=c5 (Eq.mpr e h)
theorem sm {i:Nat} (h:Q (.exit i) s:=by simp(disch:=omega) [H,K]<;>fail):a' G Φ tab Y (.exit i) s Q:=c5 h
theorem dI {x:aR} {a b:cU} {t:Bool} (U:t=true->a' G Φ tab Y a s Q) (h2:t=false->a' G Φ tab Y b s Q) (aL:x.ev G s.F= .bool t:=by simp(disch:=omega) [H,K];rfl):a' G Φ tab Y (.cond x a b) s Q:=fy t aL U h2
theorem d' {kW:Nat->I} {aE:ai} {c:cU} {R:(Nat->I)->Prop} (l:List Nat) (h:∀F,R F->a' G Φ tab Y c ⟨F,aE⟩ Q) (e:∀F,oZ kW F l->R F:=by intro F k;simp only[oZ] at k;simp(disch:=omega) [H,K] at k;exact k):a' G Φ tab Y c ⟨kW,aE⟩ Q:=h kW (e kW (wo l))
theorem yT {kW:Nat->I} {aE:ai} {c:cU} {R:(Nat->I)->Prop} {l:List Nat} (_:wq l) (h:∀F,R F->a' G Φ tab Y c ⟨F,aE⟩ Q) (e:∀F,oZ kW F l->R F:=by intro F k;simp only[oZ] at k;simp(disch:=omega) [H,K] at k;exact k):a' G Φ tab Y c ⟨kW,aE⟩ Q:=h kW (e kW (wo l))
theorem a9 {c:cU} (l:List Nat) (e:wq l->a' G Φ tab Y c s Q:=by intro jk;(repeat' (first|refine dE ?_|refine dF ?_|((first|refine et ?_|refine eu ?_|refine ew ?_|exact dH|refine dG ?_);try(refine yT jk fun F k=>?_;replace K:=k;clear k))|(refine dI (fun J=>?_) (fun J=>?_)<;>first|(exfalso;simp(disch:=omega) [H] at J;done)|(exfalso;simp at J;omega)|simp at J)|exact sj|refine si ?_|exact sm|refine sk ?_|exact trivial))<;>fail):a' G Φ tab Y c s Q:=e trivial
theorem bu {c:cU} {R N:(Nat->I)->Prop} (l:List Nat) (h:∀F,R F->N F) (e:wq l->(∀F,R F->N F)->a' G Φ tab Y c s Q:=by intro jk V;(repeat' (first|refine dE ?_|refine dF ?_|((first|refine et ?_|refine eu ?_|refine ew ?_|exact dH|refine dG ?_);try(refine yT jk fun F k=>?_;replace K:=k;clear k))|(refine dI (fun J=>?_) (fun J=>?_)<;>first|(exfalso;simp(disch:=omega) [H] at J;done)|(exfalso;simp at J;omega)|simp at J)|exact sj|refine si ?_|exact sm|refine sk ?_|exact trivial));exact V F K):a' G Φ tab Y c s Q:=e trivial h
theorem kD {c:cU} (l:List Nat) (e:wq l->a' G Φ tab Y c s Q:=by intro jk;(repeat' (first|refine dE ?_|refine dF ?_|((first|refine sf ?_|refine sg ?_|refine sh ?_|exact dH|refine dG ?_);try(refine yT jk fun F k=>?_;replace K:=k;clear k))|(refine dI (fun J=>?_) (fun J=>?_)<;>first|(exfalso;simp(disch:=omega) [H] at J;done)|(exfalso;simp at J;omega)|simp at J)|exact sj|refine si ?_|exact sm|refine sk ?_|exact trivial))<;>fail):a' G Φ tab Y c s Q:=e trivial
theorem cM {c:cU} {R N:(Nat->I)->Prop} (l:List Nat) (h:∀F,R F->N F) (e:wq l->(∀F,R F->N F)->a' G Φ tab Y c s Q:=by intro jk V;(repeat' (first|refine dE ?_|refine dF ?_|((first|refine sf ?_|refine sg ?_|refine sh ?_|exact dH|refine dG ?_);try(refine yT jk fun F k=>?_;replace K:=k;clear k))|(refine dI (fun J=>?_) (fun J=>?_)<;>first|(exfalso;simp(disch:=omega) [H] at J;done)|(exfalso;simp at J;omega)|simp at J)|exact sj|refine si ?_|exact sm|refine sk ?_|exact trivial));exact V F K):a' G Φ tab Y c s Q:=e trivial h
theorem aM {kW:Nat->I} {aE:ai} {c:cU} {R:(Nat->I)->Prop} (l:List Nat) (h:∀F,R F->a' G Φ tab Y c ⟨F,aE⟩ Q) (e:∀F,oZ kW F l->R F:=by intro F k;simp only[oZ] at k;simp[ec] at k;exact k):a' G Φ tab Y c ⟨kW,aE⟩ Q:=h kW (e kW (wo l))
theorem bN {kW:Nat->I} {aE:ai} {c:cU} {R:(Nat->I)->Prop} (l:List Nat) (h:∀F,R F->a' G Φ tab Y c ⟨F,aE⟩ Q) (e:∀F,oZ kW F l->R F:=by intro F k;simp only[oZ] at k;(try simp[aF,K] at k);exact k):a' G Φ tab Y c ⟨kW,aE⟩ Q:=h kW (e kW (wo l))
end
end
end Go.Proofs.YtemiagcencajeaaGreatDoor
