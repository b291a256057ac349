/- What the claim needs of the walks, put together by a program (shake.py). -/
import Derived.Test.YtemiagcencajeaaGreatDoorCqE7
import Derived.Test.YtemiagcencajeaaGreatDoorCqE4
import Derived.Test.YtemiagcencajeaaGreatDoorProg
import Derived.KernelRfl
import Derived.Test.YtemiagcencajeaaGreatDoorRows
import Derived.Test.YtemiagcencajeaaGreatDoorTie
import Derived.Test.YtemiagcencajeaaGreatDoorChecked
import Derived.Test.YtemiagcencajeaaGreatDoorCqE6
import Derived.Test.YtemiagcencajeaaGreatDoorCards
import Derived.SevenTiedAt
set_option maxRecDepth 100000
set_option linter.unusedSimpArgs false
set_option linter.unusedVariables false
set_option linter.unusedSectionVars false
namespace Go.Proofs.YtemiagcencajeaaGreatDoor
section
open Go Go.Eng Go.RowKit
theorem bN {bS bo:Prop} (x0:bS) (x1:bo):bS/\bo:=⟨x0,x1⟩
theorem bI {bS bo bB:Prop} (x0:bS) (x1:bo) (x2:bB):bS/\bo/\bB:=⟨x0,x1,x2⟩
theorem b7 {bS bo bB bR:Prop} (x0:bS) (x1:bo) (x2:bB) (dt:bR):bS/\bo/\bB/\bR:=⟨x0,x1,x2,dt⟩
theorem bH {bS bo bB bR b':Prop} (x0:bS) (x1:bo) (x2:bB) (dt:bR) (dz:b'):bS/\bo/\bB/\bR/\b':=⟨x0,x1,x2,dt,dz⟩
theorem en {bS bo bB bR b' cq:Prop} (x0:bS) (x1:bo) (x2:bB) (dt:bR) (dz:b') (dF:cq):bS/\bo/\bB/\bR/\b'/\cq:=⟨x0,x1,x2,dt,dz,dF⟩
theorem dN {bS bo bB bR b' cq cx:Prop} (x0:bS) (x1:bo) (x2:bB) (dt:bR) (dz:b') (dF:cq) (dR:cx):bS/\bo/\bB/\bR/\b'/\cq/\cx:=⟨x0,x1,x2,dt,dz,dF,dR⟩
theorem e7 {bS bo bB bR b' cq cx ck:Prop} (x0:bS) (x1:bo) (x2:bB) (dt:bR) (dz:b') (dF:cq) (dR:cx) (ef:ck):bS/\bo/\bB/\bR/\b'/\cq/\cx/\ck:=⟨x0,x1,x2,dt,dz,dF,dR,ef⟩
theorem ik {bS bo bB bR b' cq cx ck ct:Prop} (x0:bS) (x1:bo) (x2:bB) (dt:bR) (dz:b') (dF:cq) (dR:cx) (ef:ck) (ep:ct):bS/\bo/\bB/\bR/\b'/\cq/\cx/\ck/\ct:=⟨x0,x1,x2,dt,dz,dF,dR,ef,ep⟩
theorem iT {bS bo bB bR b' cq cx ck ct c0:Prop} (x0:bS) (x1:bo) (x2:bB) (dt:bR) (dz:b') (dF:cq) (dR:cx) (ef:ck) (ep:ct) (eG:c0):bS/\bo/\bB/\bR/\b'/\cq/\cx/\ck/\ct/\c0:=⟨x0,x1,x2,dt,dz,dF,dR,ef,ep,eG⟩
theorem kE {bS bo bB bR b' cq cx ck ct c0 c9:Prop} (x0:bS) (x1:bo) (x2:bB) (dt:bR) (dz:b') (dF:cq) (dR:cx) (ef:ck) (ep:ct) (eG:c0) (eS:c9):bS/\bo/\bB/\bR/\b'/\cq/\cx/\ck/\ct/\c0/\c9:=⟨x0,x1,x2,dt,dz,dF,dR,ef,ep,eG,eS⟩
theorem j2 {bS bo bB bR b' cq cx ck ct c0 c9 dm:Prop} (x0:bS) (x1:bo) (x2:bB) (dt:bR) (dz:b') (dF:cq) (dR:cx) (ef:ck) (ep:ct) (eG:c0) (eS:c9) (e8:dm):bS/\bo/\bB/\bR/\b'/\cq/\cx/\ck/\ct/\c0/\c9/\dm:=⟨x0,x1,x2,dt,dz,dF,dR,ef,ep,eG,eS,e8⟩
theorem kF {bS bo bB bR b' cq cx ck ct c0 c9 dm du:Prop} (x0:bS) (x1:bo) (x2:bB) (dt:bR) (dz:b') (dF:cq) (dR:cx) (ef:ck) (ep:ct) (eG:c0) (eS:c9) (e8:dm) (fi:du):bS/\bo/\bB/\bR/\b'/\cq/\cx/\ck/\ct/\c0/\c9/\dm/\du:=⟨x0,x1,x2,dt,dz,dF,dR,ef,ep,eG,eS,e8,fi⟩
theorem wm {bS bo bB bR b' cq cx ck ct c0 c9 dm du dD:Prop} (x0:bS) (x1:bo) (x2:bB) (dt:bR) (dz:b') (dF:cq) (dR:cx) (ef:ck) (ep:ct) (eG:c0) (eS:c9) (e8:dm) (fi:du) (fz:dD):bS/\bo/\bB/\bR/\b'/\cq/\cx/\ck/\ct/\c0/\c9/\dm/\du/\dD:=⟨x0,x1,x2,dt,dz,dF,dR,ef,ep,eG,eS,e8,fi,fz⟩
theorem wo {bS bo bB bR b' cq cx ck ct c0 c9 dm du dD dH:Prop} (x0:bS) (x1:bo) (x2:bB) (dt:bR) (dz:b') (dF:cq) (dR:cx) (ef:ck) (ep:ct) (eG:c0) (eS:c9) (e8:dm) (fi:du) (fz:dD) (fV:dH):bS/\bo/\bB/\bR/\b'/\cq/\cx/\ck/\ct/\c0/\c9/\dm/\du/\dD/\dH:=⟨x0,x1,x2,dt,dz,dF,dR,ef,ep,eG,eS,e8,fi,fz,fV⟩
theorem CB {bS bo bB bR b' cq cx ck ct c0 c9 dm du dD dH dY:Prop} (x0:bS) (x1:bo) (x2:bB) (dt:bR) (dz:b') (dF:cq) (dR:cx) (ef:ck) (ep:ct) (eG:c0) (eS:c9) (e8:dm) (fi:du) (fz:dD) (fV:dH) (il:dY):bS/\bo/\bB/\bR/\b'/\cq/\cx/\ck/\ct/\c0/\c9/\dm/\du/\dD/\dH/\dY:=⟨x0,x1,x2,dt,dz,dF,dR,ef,ep,eG,eS,e8,fi,fz,fV,il⟩
theorem wq {bS bo bB bR b' cq cx ck ct c0 c9 dm du dD dH dY er:Prop} (x0:bS) (x1:bo) (x2:bB) (dt:bR) (dz:b') (dF:cq) (dR:cx) (ef:ck) (ep:ct) (eG:c0) (eS:c9) (e8:dm) (fi:du) (fz:dD) (fV:dH) (il:dY) (iL:er):bS/\bo/\bB/\bR/\b'/\cq/\cx/\ck/\ct/\c0/\c9/\dm/\du/\dD/\dH/\dY/\er:=⟨x0,x1,x2,dt,dz,dF,dR,ef,ep,eG,eS,e8,fi,fz,fV,il,iL⟩
theorem RQ {bS bo bB bR b' cq cx ck ct c0 c9 dm du dD dH dY er eH:Prop} (x0:bS) (x1:bo) (x2:bB) (dt:bR) (dz:b') (dF:cq) (dR:cx) (ef:ck) (ep:ct) (eG:c0) (eS:c9) (e8:dm) (fi:du) (fz:dD) (fV:dH) (il:dY) (iL:er) (i':eH):bS/\bo/\bB/\bR/\b'/\cq/\cx/\ck/\ct/\c0/\c9/\dm/\du/\dD/\dH/\dY/\er/\eH:=⟨x0,x1,x2,dt,dz,dF,dR,ef,ep,eG,eS,e8,fi,fz,fV,il,iL,i'⟩
theorem pJ {bS bo bB bR b' cq cx ck ct c0 c9 dm du dD dH dY er eH e9:Prop} (x0:bS) (x1:bo) (x2:bB) (dt:bR) (dz:b') (dF:cq) (dR:cx) (ef:ck) (ep:ct) (eG:c0) (eS:c9) (e8:dm) (fi:du) (fz:dD) (fV:dH) (il:dY) (iL:er) (i':eH) (jx:e9):bS/\bo/\bB/\bR/\b'/\cq/\cx/\ck/\ct/\c0/\c9/\dm/\du/\dD/\dH/\dY/\er/\eH/\e9:=⟨x0,x1,x2,dt,dz,dF,dR,ef,ep,eG,eS,e8,fi,fz,fV,il,iL,i',jx⟩
theorem yy {bS bo bB bR b' cq cx ck ct c0 c9 dm du dD dH dY er eH e9 fj:Prop} (x0:bS) (x1:bo) (x2:bB) (dt:bR) (dz:b') (dF:cq) (dR:cx) (ef:ck) (ep:ct) (eG:c0) (eS:c9) (e8:dm) (fi:du) (fz:dD) (fV:dH) (il:dY) (iL:er) (i':eH) (jx:e9) (j3:fj):bS/\bo/\bB/\bR/\b'/\cq/\cx/\ck/\ct/\c0/\c9/\dm/\du/\dD/\dH/\dY/\er/\eH/\e9/\fj:=⟨x0,x1,x2,dt,dz,dF,dR,ef,ep,eG,eS,e8,fi,fz,fV,il,iL,i',jx,j3⟩
theorem sv {bS bo bB bR b' cq cx ck ct c0 c9 dm du dD dH dY er eH e9 fj fK:Prop} (x0:bS) (x1:bo) (x2:bB) (dt:bR) (dz:b') (dF:cq) (dR:cx) (ef:ck) (ep:ct) (eG:c0) (eS:c9) (e8:dm) (fi:du) (fz:dD) (fV:dH) (il:dY) (iL:er) (i':eH) (jx:e9) (j3:fj) (kn:fK):bS/\bo/\bB/\bR/\b'/\cq/\cx/\ck/\ct/\c0/\c9/\dm/\du/\dD/\dH/\dY/\er/\eH/\e9/\fj/\fK:=⟨x0,x1,x2,dt,dz,dF,dR,ef,ep,eG,eS,e8,fi,fz,fV,il,iL,i',jx,j3,kn⟩
theorem RR {bS bo bB bR b' cq cx ck ct c0 c9 dm du dD dH dY er eH e9 fj fK im iq:Prop} (x0:bS) (x1:bo) (x2:bB) (dt:bR) (dz:b') (dF:cq) (dR:cx) (ef:ck) (ep:ct) (eG:c0) (eS:c9) (e8:dm) (fi:du) (fz:dD) (fV:dH) (il:dY) (iL:er) (i':eH) (jx:e9) (j3:fj) (kn:fK) (kV:im) (kW:iq):bS/\bo/\bB/\bR/\b'/\cq/\cx/\ck/\ct/\c0/\c9/\dm/\du/\dD/\dH/\dY/\er/\eH/\e9/\fj/\fK/\im/\iq:=⟨x0,x1,x2,dt,dz,dF,dR,ef,ep,eG,eS,e8,fi,fz,fV,il,iL,i',jx,j3,kn,kV,kW⟩
theorem RS {bS bo bB bR b' cq cx ck ct c0 c9 dm du dD dH dY er eH e9 fj fK im iq iM:Prop} (x0:bS) (x1:bo) (x2:bB) (dt:bR) (dz:b') (dF:cq) (dR:cx) (ef:ck) (ep:ct) (eG:c0) (eS:c9) (e8:dm) (fi:du) (fz:dD) (fV:dH) (il:dY) (iL:er) (i':eH) (jx:e9) (j3:fj) (kn:fK) (kV:im) (kW:iq) (ly:iM):bS/\bo/\bB/\bR/\b'/\cq/\cx/\ck/\ct/\c0/\c9/\dm/\du/\dD/\dH/\dY/\er/\eH/\e9/\fj/\fK/\im/\iq/\iM:=⟨x0,x1,x2,dt,dz,dF,dR,ef,ep,eG,eS,e8,fi,fz,fV,il,iL,i',jx,j3,kn,kV,kW,ly⟩
theorem RT {bS bo bB bR b' cq cx ck ct c0 c9 dm du dD dH dY er eH e9 fj fK im iq iM jh jy jM jN jz:Prop} (x0:bS) (x1:bo) (x2:bB) (dt:bR) (dz:b') (dF:cq) (dR:cx) (ef:ck) (ep:ct) (eG:c0) (eS:c9) (e8:dm) (fi:du) (fz:dD) (fV:dH) (il:dY) (iL:er) (i':eH) (jx:e9) (j3:fj) (kn:fK) (kV:im) (kW:iq) (ly:iM) (l7:jh) (l8:jy) (l9:jM) (l_:jN) (l':jz):bS/\bo/\bB/\bR/\b'/\cq/\cx/\ck/\ct/\c0/\c9/\dm/\du/\dD/\dH/\dY/\er/\eH/\e9/\fj/\fK/\im/\iq/\iM/\jh/\jy/\jM/\jN/\jz:=⟨x0,x1,x2,dt,dz,dF,dR,ef,ep,eG,eS,e8,fi,fz,fV,il,iL,i',jx,j3,kn,kV,kW,ly,l7,l8,l9,l_,l'⟩
theorem RU {bS bo bB bR b' cq cx ck ct c0 c9 dm du dD dH dY er eH e9 fj fK im iq iM jh jy jM jN jz ko:Prop} (x0:bS) (x1:bo) (x2:bB) (dt:bR) (dz:b') (dF:cq) (dR:cx) (ef:ck) (ep:ct) (eG:c0) (eS:c9) (e8:dm) (fi:du) (fz:dD) (fV:dH) (il:dY) (iL:er) (i':eH) (jx:e9) (j3:fj) (kn:fK) (kV:im) (kW:iq) (ly:iM) (l7:jh) (l8:jy) (l9:jM) (l_:jN) (l':jz) (m0:ko):bS/\bo/\bB/\bR/\b'/\cq/\cx/\ck/\ct/\c0/\c9/\dm/\du/\dD/\dH/\dY/\er/\eH/\e9/\fj/\fK/\im/\iq/\iM/\jh/\jy/\jM/\jN/\jz/\ko:=⟨x0,x1,x2,dt,dz,dF,dR,ef,ep,eG,eS,e8,fi,fz,fV,il,iL,i',jx,j3,kn,kV,kW,ly,l7,l8,l9,l_,l',m0⟩
theorem RV {bS bo bB bR b' cq cx ck ct c0 c9 dm du dD dH dY er eH e9 fj fK im iq iM jh jy jM jN jz ko kX:Prop} (x0:bS) (x1:bo) (x2:bB) (dt:bR) (dz:b') (dF:cq) (dR:cx) (ef:ck) (ep:ct) (eG:c0) (eS:c9) (e8:dm) (fi:du) (fz:dD) (fV:dH) (il:dY) (iL:er) (i':eH) (jx:e9) (j3:fj) (kn:fK) (kV:im) (kW:iq) (ly:iM) (l7:jh) (l8:jy) (l9:jM) (l_:jN) (l':jz) (m0:ko) (nV:kX):bS/\bo/\bB/\bR/\b'/\cq/\cx/\ck/\ct/\c0/\c9/\dm/\du/\dD/\dH/\dY/\er/\eH/\e9/\fj/\fK/\im/\iq/\iM/\jh/\jy/\jM/\jN/\jz/\ko/\kX:=⟨x0,x1,x2,dt,dz,dF,dR,ef,ep,eG,eS,e8,fi,fz,fV,il,iL,i',jx,j3,kn,kV,kW,ly,l7,l8,l9,l_,l',m0,nV⟩
theorem yz {bS bo bB bR b' cq cx ck ct c0 c9 dm du dD dH dY er eH e9 fj fK im iq iM jh jy jM jN jz ko kX ma:Prop} (x0:bS) (x1:bo) (x2:bB) (dt:bR) (dz:b') (dF:cq) (dR:cx) (ef:ck) (ep:ct) (eG:c0) (eS:c9) (e8:dm) (fi:du) (fz:dD) (fV:dH) (il:dY) (iL:er) (i':eH) (jx:e9) (j3:fj) (kn:fK) (kV:im) (kW:iq) (ly:iM) (l7:jh) (l8:jy) (l9:jM) (l_:jN) (l':jz) (m0:ko) (nV:kX) (pK:ma):bS/\bo/\bB/\bR/\b'/\cq/\cx/\ck/\ct/\c0/\c9/\dm/\du/\dD/\dH/\dY/\er/\eH/\e9/\fj/\fK/\im/\iq/\iM/\jh/\jy/\jM/\jN/\jz/\ko/\kX/\ma:=⟨x0,x1,x2,dt,dz,dF,dR,ef,ep,eG,eS,e8,fi,fz,fV,il,iL,i',jx,j3,kn,kV,kW,ly,l7,l8,l9,l_,l',m0,nV,pK⟩
theorem RW {bS bo bB bR b' cq cx ck ct c0 c9 dm du dD dH dY er eH e9 fj fK im iq iM jh jy jM jN jz ko kX ma m1:Prop} (x0:bS) (x1:bo) (x2:bB) (dt:bR) (dz:b') (dF:cq) (dR:cx) (ef:ck) (ep:ct) (eG:c0) (eS:c9) (e8:dm) (fi:du) (fz:dD) (fV:dH) (il:dY) (iL:er) (i':eH) (jx:e9) (j3:fj) (kn:fK) (kV:im) (kW:iq) (ly:iM) (l7:jh) (l8:jy) (l9:jM) (l_:jN) (l':jz) (m0:ko) (nV:kX) (pK:ma) (sw:m1):bS/\bo/\bB/\bR/\b'/\cq/\cx/\ck/\ct/\c0/\c9/\dm/\du/\dD/\dH/\dY/\er/\eH/\e9/\fj/\fK/\im/\iq/\iM/\jh/\jy/\jM/\jN/\jz/\ko/\kX/\ma/\m1:=⟨x0,x1,x2,dt,dz,dF,dR,ef,ep,eG,eS,e8,fi,fz,fV,il,iL,i',jx,j3,kn,kV,kW,ly,l7,l8,l9,l_,l',m0,nV,pK,sw⟩
theorem yA {bS bo bB bR b' cq cx ck ct c0 c9 dm du dD dH dY er eH e9 fj fK im iq iM jh jy jM jN jz ko kX ma m1 oM:Prop} (x0:bS) (x1:bo) (x2:bB) (dt:bR) (dz:b') (dF:cq) (dR:cx) (ef:ck) (ep:ct) (eG:c0) (eS:c9) (e8:dm) (fi:du) (fz:dD) (fV:dH) (il:dY) (iL:er) (i':eH) (jx:e9) (j3:fj) (kn:fK) (kV:im) (kW:iq) (ly:iM) (l7:jh) (l8:jy) (l9:jM) (l_:jN) (l':jz) (m0:ko) (nV:kX) (pK:ma) (sw:m1) (wu:oM):bS/\bo/\bB/\bR/\b'/\cq/\cx/\ck/\ct/\c0/\c9/\dm/\du/\dD/\dH/\dY/\er/\eH/\e9/\fj/\fK/\im/\iq/\iM/\jh/\jy/\jM/\jN/\jz/\ko/\kX/\ma/\m1/\oM:=⟨x0,x1,x2,dt,dz,dF,dR,ef,ep,eG,eS,e8,fi,fz,fV,il,iL,i',jx,j3,kn,kV,kW,ly,l7,l8,l9,l_,l',m0,nV,pK,sw,wu⟩
theorem CC {bS bo bB bR b' cq cx ck ct c0 c9 dm du dD dH dY er eH e9 fj fK im iq iM jh jy jM jN jz ko kX ma m1 oM sx ue:Prop} (x0:bS) (x1:bo) (x2:bB) (dt:bR) (dz:b') (dF:cq) (dR:cx) (ef:ck) (ep:ct) (eG:c0) (eS:c9) (e8:dm) (fi:du) (fz:dD) (fV:dH) (il:dY) (iL:er) (i':eH) (jx:e9) (j3:fj) (kn:fK) (kV:im) (kW:iq) (ly:iM) (l7:jh) (l8:jy) (l9:jM) (l_:jN) (l':jz) (m0:ko) (nV:kX) (pK:ma) (sw:m1) (wu:oM) (CD:sx) (CE:ue):bS/\bo/\bB/\bR/\b'/\cq/\cx/\ck/\ct/\c0/\c9/\dm/\du/\dD/\dH/\dY/\er/\eH/\e9/\fj/\fK/\im/\iq/\iM/\jh/\jy/\jM/\jN/\jz/\ko/\kX/\ma/\m1/\oM/\sx/\ue:=⟨x0,x1,x2,dt,dz,dF,dR,ef,ep,eG,eS,e8,fi,fz,fV,il,iL,i',jx,j3,kn,kV,kW,ly,l7,l8,l9,l_,l',m0,nV,pK,sw,wu,CD,CE⟩
theorem RX {bS bo bB bR b' cq cx ck ct c0 c9 dm du dD dH dY er eH e9 fj fK im iq iM jh jy jM jN jz ko kX ma m1 oM sx ue yB CF yC:Prop} (x0:bS) (x1:bo) (x2:bB) (dt:bR) (dz:b') (dF:cq) (dR:cx) (ef:ck) (ep:ct) (eG:c0) (eS:c9) (e8:dm) (fi:du) (fz:dD) (fV:dH) (il:dY) (iL:er) (i':eH) (jx:e9) (j3:fj) (kn:fK) (kV:im) (kW:iq) (ly:iM) (l7:jh) (l8:jy) (l9:jM) (l_:jN) (l':jz) (m0:ko) (nV:kX) (pK:ma) (sw:m1) (wu:oM) (CD:sx) (CE:ue) (RY:yB) (RZ:CF) (R0:yC):bS/\bo/\bB/\bR/\b'/\cq/\cx/\ck/\ct/\c0/\c9/\dm/\du/\dD/\dH/\dY/\er/\eH/\e9/\fj/\fK/\im/\iq/\iM/\jh/\jy/\jM/\jN/\jz/\ko/\kX/\ma/\m1/\oM/\sx/\ue/\yB/\CF/\yC:=⟨x0,x1,x2,dt,dz,dF,dR,ef,ep,eG,eS,e8,fi,fz,fV,il,iL,i',jx,j3,kn,kV,kW,ly,l7,l8,l9,l_,l',m0,nV,pK,sw,wu,CD,CE,RY,RZ,R0⟩
def qY (F F':Nat->J):List Nat->Prop
 | []=>True
 | [i]=>F' i=F i
 | i::j::l=>F' i=F i/\qY F F' (j::l)
theorem yD {F:Nat->J}:∀l:List Nat,qY F F l
 | []=>trivial
 | [_]=>rfl
 | _::j::l=>⟨rfl,yD (j::l)⟩
def R1:dk->Bool
 | .loop _=>false
 | .k5 .. =>false
 | _=>true
def oN (a b:Prop):Prop:=a=b
theorem pL (a:Prop):oN a a:=rfl
section
variable {G:Nat->Option J} {Φ:FuncId->Option aZ} {tab:FuncId->Option (List J->Option J)} {Y:List cR} {s:aW} {Q:de->aW->Prop} {P:Prop}
theorem ak {a b:dk} (h:br G Φ tab Y a s (qT Q fun s1=>br G Φ tab Y b s1 Q)):br G Φ tab Y (.seq a b) s Q:=bl h
theorem al {id:Nat} {b:dk} (h:br G Φ tab Y b s (qU id Q)) (_:R1 b=true:=by rfl):br G Φ tab Y (.block id b) s Q:=kd h
theorem aI {ops:List a_} {eX:List Nat} (h:P) (e:oN (e6 G tab yk false ops eX s (Q .normal)) P:=by simp(disch:=omega) [H,K];exact pL _):br G Φ tab Y (.region false ops eX) s Q:=bs bE (Eq.mpr e h)
theorem aJ {ops:List a_} {eX:List Nat} {A:Prop} (h:P) (e:oN (e6 G tab yk true ops eX s (Q .normal)) (A/\P):=by simp(disch:=omega) [H,K];exact pL _) (a:A:=by first|decide|rfl):br G Φ tab Y (.region true ops eX) s Q:=bs bE (Eq.mpr e ⟨a,h⟩)
theorem aK {ops:List a_} {eX:List Nat} (h:P) (e:oN (e6 G tab yk true ops eX s (Q .normal)) P:=by simp(disch:=omega) [H,K];exact pL _):br G Φ tab Y (.region true ops eX) s Q:=bs bE (Eq.mpr e h)
theorem b4 {ops:List a_} {eX:List Nat} (h:P) (e:oN (e6 G tab (eP G Φ tab Y) false ops eX s (Q .normal)) P:=by simp(disch:=omega) [H,K];exact pL _):br G Φ tab Y (.region false ops eX) s Q:=bs oJ (Eq.mpr e h)
theorem b5 {ops:List a_} {eX:List Nat} {A:Prop} (h:P) (e:oN (e6 G tab (eP G Φ tab Y) true ops eX s (Q .normal)) (A/\P):=by simp(disch:=omega) [H,K];exact pL _) (a:A:=by first|decide|rfl):br G Φ tab Y (.region true ops eX) s Q:=bs oJ (Eq.mpr e ⟨a,h⟩)
theorem b6 {ops:List a_} {eX:List Nat} (h:P) (e:oN (e6 G tab (eP G Φ tab Y) true ops eX s (Q .normal)) P:=by simp(disch:=omega) [H,K];exact pL _):br G Φ tab Y (.region true ops eX) s Q:=bs oJ (Eq.mpr e h)
theorem an (h:P) (e:oN (Q .normal s) P:=by simp(disch:=omega) [H,K];exact pL _):br G Φ tab Y .skip s Q:=iS (Eq.mpr e h)
theorem ao (h:Q .normal s:=by simp(disch:=omega) [H,K]<;>fail):br G Φ tab Y .skip s Q:=iS h
theorem aA (h:P) (e:oN (Q .ret s) P:=by simp(disch:=omega) [H,K];exact pL _):br G Φ tab Y .ret s Q:=ca (Eq.mpr e h)
theorem aB (h:Q .ret s:=by simp(disch:=omega) [H,K]<;>fail):br G Φ tab Y .ret s Q:=ca h
theorem aC {i:Nat} (h:P) (e:oN (Q (.exit i) s) P:=by simp(disch:=omega) [H,K];exact pL _):br G Φ tab Y (.exit i) s Q:=dq (Eq.mpr e h)
theorem aD {i:Nat} (h:Q (.exit i) s:=by simp(disch:=omega) [H,K]<;>fail):br G Φ tab Y (.exit i) s Q:=dq h
theorem aq {x:a6} {a b:dk} {t:Bool} (U:t=true->br G Φ tab Y a s Q) (h2:t=false->br G Φ tab Y b s Q) (aY:x.ev G s.F= .bool t:=by simp(disch:=omega) [H,K];rfl):br G Φ tab Y (.cond x a b) s Q:=fQ t aY U h2
theorem ar {mG:Nat->J} {aS:af} {c:dk} {R:(Nat->J)->Prop} (l:List Nat) (h:∀F,R F->br G Φ tab Y c ⟨F,aS⟩ Q) (e:∀F,qY mG F l->R F:=by intro F k;simp only[qY] at k;simp(disch:=omega) [H,K] at k;exact k):br G Φ tab Y c ⟨mG,aS⟩ Q:=h mG (e mG (yD l))
theorem aX {mG:Nat->J} {aS:af} {c:dk} {R:(Nat->J)->Prop} (l:List Nat) (h:∀F,R F->br G Φ tab Y c ⟨F,aS⟩ Q) (e:∀F,qY mG F l->R F:=by intro F k;simp only[qY] at k;simp[dW] at k;exact k):br G Φ tab Y c ⟨mG,aS⟩ Q:=h mG (e mG (yD l))
theorem bU {mG:Nat->J} {aS:af} {c:dk} {R:(Nat->J)->Prop} (l:List Nat) (h:∀F,R F->br G Φ tab Y c ⟨F,aS⟩ Q) (e:∀F,qY mG F l->R F:=by intro F k;simp only[qY] at k;(try simp[aQ,K] at k);exact k):br G Φ tab Y c ⟨mG,aS⟩ Q:=h mG (e mG (yD l))
end
end
end Go.Proofs.YtemiagcencajeaaGreatDoor
