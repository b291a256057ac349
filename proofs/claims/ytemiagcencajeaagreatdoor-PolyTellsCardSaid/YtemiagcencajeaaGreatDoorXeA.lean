/- What the claim needs of the walks, put together by a program (shake.py). -/
import Derived.Test.YtemiagcencajeaaGreatDoorXeE7
import Derived.Test.YtemiagcencajeaaGreatDoorXeE4
import Derived.Test.YtemiagcencajeaaGreatDoorProg
import Derived.KernelRfl
import Derived.Test.YtemiagcencajeaaGreatDoorRows
import Derived.Test.YtemiagcencajeaaGreatDoorTie
import Derived.Test.YtemiagcencajeaaGreatDoorChecked
import Derived.Test.YtemiagcencajeaaGreatDoorXeE6
import Derived.Test.YtemiagcencajeaaGreatDoorCards
import Derived.SevenTiedAt
set_option maxRecDepth 100000
set_option linter.unusedSimpArgs false
set_option linter.unusedVariables false
set_option linter.unusedSectionVars false
namespace Go.Proofs.YtemiagcencajeaaGreatDoor
section
open Go Go.Eng Go.RowKit
theorem bA {bN bd:Prop} (x0:bN) (x1:bd):bN/\bd:=⟨x0,x1⟩
theorem bt {bN bd bs:Prop} (x0:bN) (x1:bd) (x2:bs):bN/\bd/\bs:=⟨x0,x1,x2⟩
theorem b4 {bN bd bs bK:Prop} (x0:bN) (x1:bd) (x2:bs) (dj:bK):bN/\bd/\bs/\bK:=⟨x0,x1,x2,dj⟩
theorem bw {bN bd bs bK b3:Prop} (x0:bN) (x1:bd) (x2:bs) (dj:bK) (dw:b3):bN/\bd/\bs/\bK/\b3:=⟨x0,x1,x2,dj,dw⟩
theorem dW {bN bd bs bK b3 cj:Prop} (x0:bN) (x1:bd) (x2:bs) (dj:bK) (dw:b3) (dG:cj):bN/\bd/\bs/\bK/\b3/\cj:=⟨x0,x1,x2,dj,dw,dG⟩
theorem dq {bN bd bs bK b3 cj cx:Prop} (x0:bN) (x1:bd) (x2:bs) (dj:bK) (dw:b3) (dG:cj) (dX:cx):bN/\bd/\bs/\bK/\b3/\cj/\cx:=⟨x0,x1,x2,dj,dw,dG,dX⟩
theorem e3 {bN bd bs bK b3 cj cx b_:Prop} (x0:bN) (x1:bd) (x2:bs) (dj:bK) (dw:b3) (dG:cj) (dX:cx) (ej:b_):bN/\bd/\bs/\bK/\b3/\cj/\cx/\b_:=⟨x0,x1,x2,dj,dw,dG,dX,ej⟩
theorem h7 {bN bd bs bK b3 cj cx b_ cr:Prop} (x0:bN) (x1:bd) (x2:bs) (dj:bK) (dw:b3) (dG:cj) (dX:cx) (ej:b_) (eH:cr):bN/\bd/\bs/\bK/\b3/\cj/\cx/\b_/\cr:=⟨x0,x1,x2,dj,dw,dG,dX,ej,eH⟩
theorem iU {bN bd bs bK b3 cj cx b_ cr cY:Prop} (x0:bN) (x1:bd) (x2:bs) (dj:bK) (dw:b3) (dG:cj) (dX:cx) (ej:b_) (eH:cr) (eR:cY):bN/\bd/\bs/\bK/\b3/\cj/\cx/\b_/\cr/\cY:=⟨x0,x1,x2,dj,dw,dG,dX,ej,eH,eR⟩
theorem kl {bN bd bs bK b3 cj cx b_ cr cY c4:Prop} (x0:bN) (x1:bd) (x2:bs) (dj:bK) (dw:b3) (dG:cj) (dX:cx) (ej:b_) (eH:cr) (eR:cY) (e4:c4):bN/\bd/\bs/\bK/\b3/\cj/\cx/\b_/\cr/\cY/\c4:=⟨x0,x1,x2,dj,dw,dG,dX,ej,eH,eR,e4⟩
theorem jK {bN bd bs bK b3 cj cx b_ cr cY c4 dg:Prop} (x0:bN) (x1:bd) (x2:bs) (dj:bK) (dw:b3) (dG:cj) (dX:cx) (ej:b_) (eH:cr) (eR:cY) (e4:c4) (fo:dg):bN/\bd/\bs/\bK/\b3/\cj/\cx/\b_/\cr/\cY/\c4/\dg:=⟨x0,x1,x2,dj,dw,dG,dX,ej,eH,eR,e4,fo⟩
theorem km {bN bd bs bK b3 cj cx b_ cr cY c4 dg dr:Prop} (x0:bN) (x1:bd) (x2:bs) (dj:bK) (dw:b3) (dG:cj) (dX:cx) (ej:b_) (eH:cr) (eR:cY) (e4:c4) (fo:dg) (fP:dr):bN/\bd/\bs/\bK/\b3/\cj/\cx/\b_/\cr/\cY/\c4/\dg/\dr:=⟨x0,x1,x2,dj,dw,dG,dX,ej,eH,eR,e4,fo,fP⟩
theorem vU {bN bd bs bK b3 cj cx b_ cr cY c4 dg dr dH:Prop} (x0:bN) (x1:bd) (x2:bs) (dj:bK) (dw:b3) (dG:cj) (dX:cx) (ej:b_) (eH:cr) (eR:cY) (e4:c4) (fo:dg) (fP:dr) (h8:dH):bN/\bd/\bs/\bK/\b3/\cj/\cx/\b_/\cr/\cY/\c4/\dg/\dr/\dH:=⟨x0,x1,x2,dj,dw,dG,dX,ej,eH,eR,e4,fo,fP,h8⟩
theorem vV {bN bd bs bK b3 cj cx b_ cr cY c4 dg dr dH dQ:Prop} (x0:bN) (x1:bd) (x2:bs) (dj:bK) (dw:b3) (dG:cj) (dX:cx) (ej:b_) (eH:cr) (eR:cY) (e4:c4) (fo:dg) (fP:dr) (h8:dH) (iA:dQ):bN/\bd/\bs/\bK/\b3/\cj/\cx/\b_/\cr/\cY/\c4/\dg/\dr/\dH/\dQ:=⟨x0,x1,x2,dj,dw,dG,dX,ej,eH,eR,e4,fo,fP,h8,iA⟩
theorem Ch {bN bd bs bK b3 cj cx b_ cr cY c4 dg dr dH dQ ek:Prop} (x0:bN) (x1:bd) (x2:bs) (dj:bK) (dw:b3) (dG:cj) (dX:cx) (ej:b_) (eH:cr) (eR:cY) (e4:c4) (fo:dg) (fP:dr) (h8:dH) (iA:dQ) (iO:ek):bN/\bd/\bs/\bK/\b3/\cj/\cx/\b_/\cr/\cY/\c4/\dg/\dr/\dH/\dQ/\ek:=⟨x0,x1,x2,dj,dw,dG,dX,ej,eH,eR,e4,fo,fP,h8,iA,iO⟩
theorem vW {bN bd bs bK b3 cj cx b_ cr cY c4 dg dr dH dQ ek eN:Prop} (x0:bN) (x1:bd) (x2:bs) (dj:bK) (dw:b3) (dG:cj) (dX:cx) (ej:b_) (eH:cr) (eR:cY) (e4:c4) (fo:dg) (fP:dr) (h8:dH) (iA:dQ) (iO:ek) (jf:eN):bN/\bd/\bs/\bK/\b3/\cj/\cx/\b_/\cr/\cY/\c4/\dg/\dr/\dH/\dQ/\ek/\eN:=⟨x0,x1,x2,dj,dw,dG,dX,ej,eH,eR,e4,fo,fP,h8,iA,iO,jf⟩
theorem Rp {bN bd bs bK b3 cj cx b_ cr cY c4 dg dr dH dQ ek eN e5:Prop} (x0:bN) (x1:bd) (x2:bs) (dj:bK) (dw:b3) (dG:cj) (dX:cx) (ej:b_) (eH:cr) (eR:cY) (e4:c4) (fo:dg) (fP:dr) (h8:dH) (iA:dQ) (iO:ek) (jf:eN) (jL:e5):bN/\bd/\bs/\bK/\b3/\cj/\cx/\b_/\cr/\cY/\c4/\dg/\dr/\dH/\dQ/\ek/\eN/\e5:=⟨x0,x1,x2,dj,dw,dG,dX,ej,eH,eR,e4,fo,fP,h8,iA,iO,jf,jL⟩
theorem pr {bN bd bs bK b3 cj cx b_ cr cY c4 dg dr dH dQ ek eN e5 fQ:Prop} (x0:bN) (x1:bd) (x2:bs) (dj:bK) (dw:b3) (dG:cj) (dX:cx) (ej:b_) (eH:cr) (eR:cY) (e4:c4) (fo:dg) (fP:dr) (h8:dH) (iA:dQ) (iO:ek) (jf:eN) (jL:e5) (j9:fQ):bN/\bd/\bs/\bK/\b3/\cj/\cx/\b_/\cr/\cY/\c4/\dg/\dr/\dH/\dQ/\ek/\eN/\e5/\fQ:=⟨x0,x1,x2,dj,dw,dG,dX,ej,eH,eR,e4,fo,fP,h8,iA,iO,jf,jL,j9⟩
theorem yg {bN bd bs bK b3 cj cx b_ cr cY c4 dg dr dH dQ ek eN e5 fQ h9:Prop} (x0:bN) (x1:bd) (x2:bs) (dj:bK) (dw:b3) (dG:cj) (dX:cx) (ej:b_) (eH:cr) (eR:cY) (e4:c4) (fo:dg) (fP:dr) (h8:dH) (iA:dQ) (iO:ek) (jf:eN) (jL:e5) (j9:fQ) (kB:h9):bN/\bd/\bs/\bK/\b3/\cj/\cx/\b_/\cr/\cY/\c4/\dg/\dr/\dH/\dQ/\ek/\eN/\e5/\fQ/\h9:=⟨x0,x1,x2,dj,dw,dG,dX,ej,eH,eR,e4,fo,fP,h8,iA,iO,jf,jL,j9,kB⟩
theorem yh {bN bd bs bK b3 cj cx b_ cr cY c4 dg dr dH dQ ek eN e5 fQ h9 iD:Prop} (x0:bN) (x1:bd) (x2:bs) (dj:bK) (dw:b3) (dG:cj) (dX:cx) (ej:b_) (eH:cr) (eR:cY) (e4:c4) (fo:dg) (fP:dr) (h8:dH) (iA:dQ) (iO:ek) (jf:eN) (jL:e5) (j9:fQ) (kB:h9) (lg:iD):bN/\bd/\bs/\bK/\b3/\cj/\cx/\b_/\cr/\cY/\c4/\dg/\dr/\dH/\dQ/\ek/\eN/\e5/\fQ/\h9/\iD:=⟨x0,x1,x2,dj,dw,dG,dX,ej,eH,eR,e4,fo,fP,h8,iA,iO,jf,jL,j9,kB,lg⟩
theorem Rq {bN bd bs bK b3 cj cx b_ cr cY c4 dg dr dH dQ ek eN e5 fQ h9 iD jg jh:Prop} (x0:bN) (x1:bd) (x2:bs) (dj:bK) (dw:b3) (dG:cj) (dX:cx) (ej:b_) (eH:cr) (eR:cY) (e4:c4) (fo:dg) (fP:dr) (h8:dH) (iA:dQ) (iO:ek) (jf:eN) (jL:e5) (j9:fQ) (kB:h9) (lg:iD) (lT:jg) (lU:jh):bN/\bd/\bs/\bK/\b3/\cj/\cx/\b_/\cr/\cY/\c4/\dg/\dr/\dH/\dQ/\ek/\eN/\e5/\fQ/\h9/\iD/\jg/\jh:=⟨x0,x1,x2,dj,dw,dG,dX,ej,eH,eR,e4,fo,fP,h8,iA,iO,jf,jL,j9,kB,lg,lT,lU⟩
theorem Rr {bN bd bs bK b3 cj cx b_ cr cY c4 dg dr dH dQ ek eN e5 fQ h9 iD jg jh jM:Prop} (x0:bN) (x1:bd) (x2:bs) (dj:bK) (dw:b3) (dG:cj) (dX:cx) (ej:b_) (eH:cr) (eR:cY) (e4:c4) (fo:dg) (fP:dr) (h8:dH) (iA:dQ) (iO:ek) (jf:eN) (jL:e5) (j9:fQ) (kB:h9) (lg:iD) (lT:jg) (lU:jh) (mG:jM):bN/\bd/\bs/\bK/\b3/\cj/\cx/\b_/\cr/\cY/\c4/\dg/\dr/\dH/\dQ/\ek/\eN/\e5/\fQ/\h9/\iD/\jg/\jh/\jM:=⟨x0,x1,x2,dj,dw,dG,dX,ej,eH,eR,e4,fo,fP,h8,iA,iO,jf,jL,j9,kB,lg,lT,lU,mG⟩
theorem Rs {bN bd bs bK b3 cj cx b_ cr cY c4 dg dr dH dQ ek eN e5 fQ h9 iD jg jh jM kn kC kQ kR kD kS kE:Prop} (x0:bN) (x1:bd) (x2:bs) (dj:bK) (dw:b3) (dG:cj) (dX:cx) (ej:b_) (eH:cr) (eR:cY) (e4:c4) (fo:dg) (fP:dr) (h8:dH) (iA:dQ) (iO:ek) (jf:eN) (jL:e5) (j9:fQ) (kB:h9) (lg:iD) (lT:jg) (lU:jh) (mG:jM) (nD:kn) (nE:kC) (nF:kQ) (nG:kR) (nH:kD) (nI:kS) (nJ:kE):bN/\bd/\bs/\bK/\b3/\cj/\cx/\b_/\cr/\cY/\c4/\dg/\dr/\dH/\dQ/\ek/\eN/\e5/\fQ/\h9/\iD/\jg/\jh/\jM/\kn/\kC/\kQ/\kR/\kD/\kS/\kE:=⟨x0,x1,x2,dj,dw,dG,dX,ej,eH,eR,e4,fo,fP,h8,iA,iO,jf,jL,j9,kB,lg,lT,lU,mG,nD,nE,nF,nG,nH,nI,nJ⟩
theorem yi {bN bd bs bK b3 cj cx b_ cr cY c4 dg dr dH dQ ek eN e5 fQ h9 iD jg jh jM kn kC kQ kR kD kS kE lV:Prop} (x0:bN) (x1:bd) (x2:bs) (dj:bK) (dw:b3) (dG:cj) (dX:cx) (ej:b_) (eH:cr) (eR:cY) (e4:c4) (fo:dg) (fP:dr) (h8:dH) (iA:dQ) (iO:ek) (jf:eN) (jL:e5) (j9:fQ) (kB:h9) (lg:iD) (lT:jg) (lU:jh) (mG:jM) (nD:kn) (nE:kC) (nF:kQ) (nG:kR) (nH:kD) (nI:kS) (nJ:kE) (pt:lV):bN/\bd/\bs/\bK/\b3/\cj/\cx/\b_/\cr/\cY/\c4/\dg/\dr/\dH/\dQ/\ek/\eN/\e5/\fQ/\h9/\iD/\jg/\jh/\jM/\kn/\kC/\kQ/\kR/\kD/\kS/\kE/\lV:=⟨x0,x1,x2,dj,dw,dG,dX,ej,eH,eR,e4,fo,fP,h8,iA,iO,jf,jL,j9,kB,lg,lT,lU,mG,nD,nE,nF,nG,nH,nI,nJ,pt⟩
theorem Rt {bN bd bs bK b3 cj cx b_ cr cY c4 dg dr dH dQ ek eN e5 fQ h9 iD jg jh jM kn kC kQ kR kD kS kE lV m7:Prop} (x0:bN) (x1:bd) (x2:bs) (dj:bK) (dw:b3) (dG:cj) (dX:cx) (ej:b_) (eH:cr) (eR:cY) (e4:c4) (fo:dg) (fP:dr) (h8:dH) (iA:dQ) (iO:ek) (jf:eN) (jL:e5) (j9:fQ) (kB:h9) (lg:iD) (lT:jg) (lU:jh) (mG:jM) (nD:kn) (nE:kC) (nF:kQ) (nG:kR) (nH:kD) (nI:kS) (nJ:kE) (pt:lV) (r4:m7):bN/\bd/\bs/\bK/\b3/\cj/\cx/\b_/\cr/\cY/\c4/\dg/\dr/\dH/\dQ/\ek/\eN/\e5/\fQ/\h9/\iD/\jg/\jh/\jM/\kn/\kC/\kQ/\kR/\kD/\kS/\kE/\lV/\m7:=⟨x0,x1,x2,dj,dw,dG,dX,ej,eH,eR,e4,fo,fP,h8,iA,iO,jf,jL,j9,kB,lg,lT,lU,mG,nD,nE,nF,nG,nH,nI,nJ,pt,r4⟩
theorem yj {bN bd bs bK b3 cj cx b_ cr cY c4 dg dr dH dQ ek eN e5 fQ h9 iD jg jh jM kn kC kQ kR kD kS kE lV m7 oy:Prop} (x0:bN) (x1:bd) (x2:bs) (dj:bK) (dw:b3) (dG:cj) (dX:cx) (ej:b_) (eH:cr) (eR:cY) (e4:c4) (fo:dg) (fP:dr) (h8:dH) (iA:dQ) (iO:ek) (jf:eN) (jL:e5) (j9:fQ) (kB:h9) (lg:iD) (lT:jg) (lU:jh) (mG:jM) (nD:kn) (nE:kC) (nF:kQ) (nG:kR) (nH:kD) (nI:kS) (nJ:kE) (pt:lV) (r4:m7) (vX:oy):bN/\bd/\bs/\bK/\b3/\cj/\cx/\b_/\cr/\cY/\c4/\dg/\dr/\dH/\dQ/\ek/\eN/\e5/\fQ/\h9/\iD/\jg/\jh/\jM/\kn/\kC/\kQ/\kR/\kD/\kS/\kE/\lV/\m7/\oy:=⟨x0,x1,x2,dj,dw,dG,dX,ej,eH,eR,e4,fo,fP,h8,iA,iO,jf,jL,j9,kB,lg,lT,lU,mG,nD,nE,nF,nG,nH,nI,nJ,pt,r4,vX⟩
theorem Ci {bN bd bs bK b3 cj cx b_ cr cY c4 dg dr dH dQ ek eN e5 fQ h9 iD jg jh jM kn kC kQ kR kD kS kE lV m7 oy r5 tP:Prop} (x0:bN) (x1:bd) (x2:bs) (dj:bK) (dw:b3) (dG:cj) (dX:cx) (ej:b_) (eH:cr) (eR:cY) (e4:c4) (fo:dg) (fP:dr) (h8:dH) (iA:dQ) (iO:ek) (jf:eN) (jL:e5) (j9:fQ) (kB:h9) (lg:iD) (lT:jg) (lU:jh) (mG:jM) (nD:kn) (nE:kC) (nF:kQ) (nG:kR) (nH:kD) (nI:kS) (nJ:kE) (pt:lV) (r4:m7) (vX:oy) (Cj:r5) (Ck:tP):bN/\bd/\bs/\bK/\b3/\cj/\cx/\b_/\cr/\cY/\c4/\dg/\dr/\dH/\dQ/\ek/\eN/\e5/\fQ/\h9/\iD/\jg/\jh/\jM/\kn/\kC/\kQ/\kR/\kD/\kS/\kE/\lV/\m7/\oy/\r5/\tP:=⟨x0,x1,x2,dj,dw,dG,dX,ej,eH,eR,e4,fo,fP,h8,iA,iO,jf,jL,j9,kB,lg,lT,lU,mG,nD,nE,nF,nG,nH,nI,nJ,pt,r4,vX,Cj,Ck⟩
theorem Ru {bN bd bs bK b3 cj cx b_ cr cY c4 dg dr dH dQ ek eN e5 fQ h9 iD jg jh jM kn kC kQ kR kD kS kE lV m7 oy r5 tP yk Cl yl:Prop} (x0:bN) (x1:bd) (x2:bs) (dj:bK) (dw:b3) (dG:cj) (dX:cx) (ej:b_) (eH:cr) (eR:cY) (e4:c4) (fo:dg) (fP:dr) (h8:dH) (iA:dQ) (iO:ek) (jf:eN) (jL:e5) (j9:fQ) (kB:h9) (lg:iD) (lT:jg) (lU:jh) (mG:jM) (nD:kn) (nE:kC) (nF:kQ) (nG:kR) (nH:kD) (nI:kS) (nJ:kE) (pt:lV) (r4:m7) (vX:oy) (Cj:r5) (Ck:tP) (Rv:yk) (Rw:Cl) (Rx:yl):bN/\bd/\bs/\bK/\b3/\cj/\cx/\b_/\cr/\cY/\c4/\dg/\dr/\dH/\dQ/\ek/\eN/\e5/\fQ/\h9/\iD/\jg/\jh/\jM/\kn/\kC/\kQ/\kR/\kD/\kS/\kE/\lV/\m7/\oy/\r5/\tP/\yk/\Cl/\yl:=⟨x0,x1,x2,dj,dw,dG,dX,ej,eH,eR,e4,fo,fP,h8,iA,iO,jf,jL,j9,kB,lg,lT,lU,mG,nD,nE,nF,nG,nH,nI,nJ,pt,r4,vX,Cj,Ck,Rv,Rw,Rx⟩
def oz (F F':Nat->I):List Nat->Prop
 | []=>True
 | [i]=>F' i=F i
 | i::j::l=>F' i=F i/\oz F F' (j::l)
theorem vY {F:Nat->I}:∀l:List Nat,oz F F l
 | []=>trivial
 | [_]=>rfl
 | _::j::l=>⟨rfl,vY (j::l)⟩
def Ry:cU->Bool
 | .loop _=>false
 | .kM .. =>false
 | _=>true
def vZ (_:List Nat):Prop:=True
def oA (a b:Prop):Prop:=a=b
theorem pv (a:Prop):oA a a:=rfl
section
variable {G:Nat->Option I} {Φ:FuncId->Option aM} {tab:FuncId->Option (List I->Option I)} {Y:List cF} {s:aI} {Q:c0->aI->Prop} {P:Prop}
theorem dY {a b:cU} (h:a7 G Φ tab Y a s (qx Q fun s1=>a7 G Φ tab Y b s1 Q)):a7 G Φ tab Y (.seq a b) s Q:=a8 h
theorem dZ {id:Nat} {b:cU} (h:a7 G Φ tab Y b s (qy id Q)) (_:Ry b=true:=by rfl):a7 G Φ tab Y (.block id b) s Q:=jX h
theorem er {ops:List aU} {eL:List Nat} (h:P) (e:oA (eM G tab x5 false ops eL s (Q .normal)) P:=by simp(disch:=omega) [H,K];exact pv _):a7 G Φ tab Y (.region false ops eL) s Q:=bf bp (Eq.mpr e h)
theorem et {ops:List aU} {eL:List Nat} {A:Prop} (h:P) (e:oA (eM G tab x5 true ops eL s (Q .normal)) (A/\P):=by simp(disch:=omega) [H,K];exact pv _) (a:A:=by first|decide|rfl):a7 G Φ tab Y (.region true ops eL) s Q:=bf bp (Eq.mpr e ⟨a,h⟩)
theorem eu {ops:List aU} {eL:List Nat} (h:P) (e:oA (eM G tab x5 true ops eL s (Q .normal)) P:=by simp(disch:=omega) [H,K];exact pv _):a7 G Φ tab Y (.region true ops eL) s Q:=bf bp (Eq.mpr e h)
theorem Cm {ops:List aU} {eL:List Nat} (h:P) (e:oA (eM G tab (eX G Φ tab Y) false ops eL s (Q .normal)) P:=by simp(disch:=omega) [H,K];exact pv _):a7 G Φ tab Y (.region false ops eL) s Q:=bf ou (Eq.mpr e h)
theorem Cn {ops:List aU} {eL:List Nat} {A:Prop} (h:P) (e:oA (eM G tab (eX G Φ tab Y) true ops eL s (Q .normal)) (A/\P):=by simp(disch:=omega) [H,K];exact pv _) (a:A:=by first|decide|rfl):a7 G Φ tab Y (.region true ops eL) s Q:=bf ou (Eq.mpr e ⟨a,h⟩)
theorem Co {ops:List aU} {eL:List Nat} (h:P) (e:oA (eM G tab (eX G Φ tab Y) true ops eL s (Q .normal)) P:=by simp(disch:=omega) [H,K];exact pv _):a7 G Φ tab Y (.region true ops eL) s Q:=bf ou (Eq.mpr e h)
theorem d_ (h:P) (e:oA (Q .normal s) P:=by simp(disch:=omega) [H,K];exact pv _):a7 G Φ tab Y .skip s Q:=iC (Eq.mpr e h)
theorem d' (h:Q .normal s:=by simp(disch:=omega) [H,K]<;>fail):a7 G Φ tab Y .skip s Q:=iC h
theorem r6 (h:P) (e:oA (Q .ret s) P:=by simp(disch:=omega) [H,K];exact pv _):a7 G Φ tab Y .ret s Q:=bU (Eq.mpr e h)
theorem r7 (h:Q .ret s:=by simp(disch:=omega) [H,K]<;>fail):a7 G Φ tab Y .ret s Q:=bU h
theorem r8 {i:Nat} (h:P) (e:oA (Q (.exit i) s) P:=by simp(disch:=omega) [H,K];exact pv _):a7 G Φ tab Y (.exit i) s Q:=c9 (Eq.mpr e h)
theorem r9 {i:Nat} (h:Q (.exit i) s:=by simp(disch:=omega) [H,K]<;>fail):a7 G Φ tab Y (.exit i) s Q:=c9 h
theorem ea {x:aQ} {a b:cU} {t:Bool} (U:t=true->a7 G Φ tab Y a s Q) (h2:t=false->a7 G Φ tab Y b s Q) (aJ:x.ev G s.F= .bool t:=by simp(disch:=omega) [H,K];rfl):a7 G Φ tab Y (.cond x a b) s Q:=fI t aJ U h2
theorem eI {kF:Nat->I} {aF:af} {c:cU} {R:(Nat->I)->Prop} (l:List Nat) (h:∀F,R F->a7 G Φ tab Y c ⟨F,aF⟩ Q) (e:∀F,oz kF F l->R F:=by intro F k;simp only[oz] at k;simp(disch:=omega) [H,K] at k;exact k):a7 G Φ tab Y c ⟨kF,aF⟩ Q:=h kF (e kF (vY l))
theorem ym {kF:Nat->I} {aF:af} {c:cU} {R:(Nat->I)->Prop} {l:List Nat} (_:vZ l) (h:∀F,R F->a7 G Φ tab Y c ⟨F,aF⟩ Q) (e:∀F,oz kF F l->R F:=by intro F k;simp only[oz] at k;simp(disch:=omega) [H,K] at k;exact k):a7 G Φ tab Y c ⟨kF,aF⟩ Q:=h kF (e kF (vY l))
theorem a3 {c:cU} (l:List Nat) (e:vZ l->a7 G Φ tab Y c s Q:=by intro je;(repeat' (first|refine dY ?_|refine dZ ?_|((first|refine er ?_|refine et ?_|refine eu ?_|exact d'|refine d_ ?_);try(refine ym je fun F k=>?_;replace K:=k;clear k))|(refine ea (fun J=>?_) (fun J=>?_)<;>first|(exfalso;simp(disch:=omega) [H] at J;done)|(exfalso;simp at J;omega)|simp at J)|exact r7|refine r6 ?_|exact r9|refine r8 ?_|exact trivial))<;>fail):a7 G Φ tab Y c s Q:=e trivial
theorem bH {c:cU} {R N:(Nat->I)->Prop} (l:List Nat) (h:∀F,R F->N F) (e:vZ l->(∀F,R F->N F)->a7 G Φ tab Y c s Q:=by intro je V;(repeat' (first|refine dY ?_|refine dZ ?_|((first|refine er ?_|refine et ?_|refine eu ?_|exact d'|refine d_ ?_);try(refine ym je fun F k=>?_;replace K:=k;clear k))|(refine ea (fun J=>?_) (fun J=>?_)<;>first|(exfalso;simp(disch:=omega) [H] at J;done)|(exfalso;simp at J;omega)|simp at J)|exact r7|refine r6 ?_|exact r9|refine r8 ?_|exact trivial));exact V F K):a7 G Φ tab Y c s Q:=e trivial h
theorem kT {c:cU} (l:List Nat) (e:vZ l->a7 G Φ tab Y c s Q:=by intro je;(repeat' (first|refine dY ?_|refine dZ ?_|((first|refine Cm ?_|refine Cn ?_|refine Co ?_|exact d'|refine d_ ?_);try(refine ym je fun F k=>?_;replace K:=k;clear k))|(refine ea (fun J=>?_) (fun J=>?_)<;>first|(exfalso;simp(disch:=omega) [H] at J;done)|(exfalso;simp at J;omega)|simp at J)|exact r7|refine r6 ?_|exact r9|refine r8 ?_|exact trivial))<;>fail):a7 G Φ tab Y c s Q:=e trivial
theorem cI {c:cU} {R N:(Nat->I)->Prop} (l:List Nat) (h:∀F,R F->N F) (e:vZ l->(∀F,R F->N F)->a7 G Φ tab Y c s Q:=by intro je V;(repeat' (first|refine dY ?_|refine dZ ?_|((first|refine Cm ?_|refine Cn ?_|refine Co ?_|exact d'|refine d_ ?_);try(refine ym je fun F k=>?_;replace K:=k;clear k))|(refine ea (fun J=>?_) (fun J=>?_)<;>first|(exfalso;simp(disch:=omega) [H] at J;done)|(exfalso;simp at J;omega)|simp at J)|exact r7|refine r6 ?_|exact r9|refine r8 ?_|exact trivial));exact V F K):a7 G Φ tab Y c s Q:=e trivial h
theorem aL {kF:Nat->I} {aF:af} {c:cU} {R:(Nat->I)->Prop} (l:List Nat) (h:∀F,R F->a7 G Φ tab Y c ⟨F,aF⟩ Q) (e:∀F,oz kF F l->R F:=by intro F k;simp only[oz] at k;simp[ds] at k;exact k):a7 G Φ tab Y c ⟨kF,aF⟩ Q:=h kF (e kF (vY l))
theorem bL {kF:Nat->I} {aF:af} {c:cU} {R:(Nat->I)->Prop} (l:List Nat) (h:∀F,R F->a7 G Φ tab Y c ⟨F,aF⟩ Q) (e:∀F,oz kF F l->R F:=by intro F k;simp only[oz] at k;(try simp[aD,K] at k);exact k):a7 G Φ tab Y c ⟨kF,aF⟩ Q:=h kF (e kF (vY l))
end
end
end Go.Proofs.YtemiagcencajeaaGreatDoor
