/- What the claim needs of the walks, put together by a program (shake.py). -/
import Derived.Test.YtemiagcencajeaaGreatDoorXvE7
import Derived.Test.YtemiagcencajeaaGreatDoorXvE4
import Derived.Test.YtemiagcencajeaaGreatDoorProg
import Derived.KernelRfl
import Derived.Test.YtemiagcencajeaaGreatDoorRows
import Derived.Test.YtemiagcencajeaaGreatDoorTie
import Derived.Test.YtemiagcencajeaaGreatDoorChecked
import Derived.Test.YtemiagcencajeaaGreatDoorXvE6
import Derived.Test.YtemiagcencajeaaGreatDoorCards
import Derived.SevenTiedAt
set_option maxRecDepth 100000
set_option linter.unusedSimpArgs false
set_option linter.unusedVariables false
set_option linter.unusedSectionVars false
namespace Go.Proofs.YtemiagcencajeaaGreatDoor
section
open Go Go.Eng Go.RowKit
theorem bs {b5 bb:Prop} (x0:b5) (x1:bb):b5/\bb:=⟨x0,x1⟩
theorem bA {b5 bb bw:Prop} (x0:b5) (x1:bb) (x2:bw):b5/\bb/\bw:=⟨x0,x1,x2⟩
theorem bN {b5 bb bw bV:Prop} (x0:b5) (x1:bb) (x2:bw) (dw:bV):b5/\bb/\bw/\bV:=⟨x0,x1,x2,dw⟩
theorem bx {b5 bb bw bV cj:Prop} (x0:b5) (x1:bb) (x2:bw) (dw:bV) (dH:cj):b5/\bb/\bw/\bV/\cj:=⟨x0,x1,x2,dw,dH⟩
theorem c9 {b5 bb bw bV cj cH:Prop} (x0:b5) (x1:bb) (x2:bw) (dw:bV) (dH:cj) (dO:cH):b5/\bb/\bw/\bV/\cj/\cH:=⟨x0,x1,x2,dw,dH,dO⟩
theorem de {b5 bb bw bV cj cH cU:Prop} (x0:b5) (x1:bb) (x2:bw) (dw:bV) (dH:cj) (dO:cH) (eg:cU):b5/\bb/\bw/\bV/\cj/\cH/\cU:=⟨x0,x1,x2,dw,dH,dO,eg⟩
theorem er {b5 bb bw bV cj cH cU cz:Prop} (x0:b5) (x1:bb) (x2:bw) (dw:bV) (dH:cj) (dO:cH) (eg:cU) (et:cz):b5/\bb/\bw/\bV/\cj/\cH/\cU/\cz:=⟨x0,x1,x2,dw,dH,dO,eg,et⟩
theorem ia {b5 bb bw bV cj cH cU cz cV:Prop} (x0:b5) (x1:bb) (x2:bw) (dw:bV) (dH:cj) (dO:cH) (eg:cU) (et:cz) (eD:cV):b5/\bb/\bw/\bV/\cj/\cH/\cU/\cz/\cV:=⟨x0,x1,x2,dw,dH,dO,eg,et,eD⟩
theorem kb {b5 bb bw bV cj cH cU cz cV df:Prop} (x0:b5) (x1:bb) (x2:bw) (dw:bV) (dH:cj) (dO:cH) (eg:cU) (et:cz) (eD:cV) (e1:df):b5/\bb/\bw/\bV/\cj/\cH/\cU/\cz/\cV/\df:=⟨x0,x1,x2,dw,dH,dO,eg,et,eD,e1⟩
theorem kL {b5 bb bw bV cj cH cU cz cV df dk:Prop} (x0:b5) (x1:bb) (x2:bw) (dw:bV) (dH:cj) (dO:cH) (eg:cU) (et:cz) (eD:cV) (e1:df) (fa:dk):b5/\bb/\bw/\bV/\cj/\cH/\cU/\cz/\cV/\df/\dk:=⟨x0,x1,x2,dw,dH,dO,eg,et,eD,e1,fa⟩
theorem k4 {b5 bb bw bV cj cH cU cz cV df dk dB:Prop} (x0:b5) (x1:bb) (x2:bw) (dw:bV) (dH:cj) (dO:cH) (eg:cU) (et:cz) (eD:cV) (e1:df) (fa:dk) (ft:dB):b5/\bb/\bw/\bV/\cj/\cH/\cU/\cz/\cV/\df/\dk/\dB:=⟨x0,x1,x2,dw,dH,dO,eg,et,eD,e1,fa,ft⟩
theorem kM {b5 bb bw bV cj cH cU cz cV df dk dB dI:Prop} (x0:b5) (x1:bb) (x2:bw) (dw:bV) (dH:cj) (dO:cH) (eg:cU) (et:cz) (eD:cV) (e1:df) (fa:dk) (ft:dB) (fS:dI):b5/\bb/\bw/\bV/\cj/\cH/\cU/\cz/\cV/\df/\dk/\dB/\dI:=⟨x0,x1,x2,dw,dH,dO,eg,et,eD,e1,fa,ft,fS⟩
theorem sR {b5 bb bw bV cj cH cU cz cV df dk dB dI eh:Prop} (x0:b5) (x1:bb) (x2:bw) (dw:bV) (dH:cj) (dO:cH) (eg:cU) (et:cz) (eD:cV) (e1:df) (fa:dk) (ft:dB) (fS:dI) (iv:eh):b5/\bb/\bw/\bV/\cj/\cH/\cU/\cz/\cV/\df/\dk/\dB/\dI/\eh:=⟨x0,x1,x2,dw,dH,dO,eg,et,eD,e1,fa,ft,fS,iv⟩
theorem xd {b5 bb bw bV cj cH cU cz cV df dk dB dI eh eu:Prop} (x0:b5) (x1:bb) (x2:bw) (dw:bV) (dH:cj) (dO:cH) (eg:cU) (et:cz) (eD:cV) (e1:df) (fa:dk) (ft:dB) (fS:dI) (iv:eh) (iE:eu):b5/\bb/\bw/\bV/\cj/\cH/\cU/\cz/\cV/\df/\dk/\dB/\dI/\eh/\eu:=⟨x0,x1,x2,dw,dH,dO,eg,et,eD,e1,fa,ft,fS,iv,iE⟩
theorem Uj {b5 bb bw bV cj cH cU cz cV df dk dB dI eh eu eK:Prop} (x0:b5) (x1:bb) (x2:bw) (dw:bV) (dH:cj) (dO:cH) (eg:cU) (et:cz) (eD:cV) (e1:df) (fa:dk) (ft:dB) (fS:dI) (iv:eh) (iE:eu) (iV:eK):b5/\bb/\bw/\bV/\cj/\cH/\cU/\cz/\cV/\df/\dk/\dB/\dI/\eh/\eu/\eK:=⟨x0,x1,x2,dw,dH,dO,eg,et,eD,e1,fa,ft,fS,iv,iE,iV⟩
theorem xe {b5 bb bw bV cj cH cU cz cV df dk dB dI eh eu eK e6:Prop} (x0:b5) (x1:bb) (x2:bw) (dw:bV) (dH:cj) (dO:cH) (eg:cU) (et:cz) (eD:cV) (e1:df) (fa:dk) (ft:dB) (fS:dI) (iv:eh) (iE:eu) (iV:eK) (jo:e6):b5/\bb/\bw/\bV/\cj/\cH/\cU/\cz/\cV/\df/\dk/\dB/\dI/\eh/\eu/\eK/\e6:=⟨x0,x1,x2,dw,dH,dO,eg,et,eD,e1,fa,ft,fS,iv,iE,iV,jo⟩
theorem zK {b5 bb bw bV cj cH cU cz cV df dk dB dI eh eu eK e6 fo fp fg:Prop} (x0:b5) (x1:bb) (x2:bw) (dw:bV) (dH:cj) (dO:cH) (eg:cU) (et:cz) (eD:cV) (e1:df) (fa:dk) (ft:dB) (fS:dI) (iv:eh) (iE:eu) (iV:eK) (jo:e6) (jY:fo) (jZ:fp) (j0:fg):b5/\bb/\bw/\bV/\cj/\cH/\cU/\cz/\cV/\df/\dk/\dB/\dI/\eh/\eu/\eK/\e6/\fo/\fp/\fg:=⟨x0,x1,x2,dw,dH,dO,eg,et,eD,e1,fa,ft,fS,iv,iE,iV,jo,jY,jZ,j0⟩
theorem Uk {b5 bb bw bV cj cH cU cz cV df dk dB dI eh eu eK e6 fo fp fg fC fT fD:Prop} (x0:b5) (x1:bb) (x2:bw) (dw:bV) (dH:cj) (dO:cH) (eg:cU) (et:cz) (eD:cV) (e1:df) (fa:dk) (ft:dB) (fS:dI) (iv:eh) (iE:eu) (iV:eK) (jo:e6) (jY:fo) (jZ:fp) (j0:fg) (kl:fC) (kx:fT) (ky:fD):b5/\bb/\bw/\bV/\cj/\cH/\cU/\cz/\cV/\df/\dk/\dB/\dI/\eh/\eu/\eK/\e6/\fo/\fp/\fg/\fC/\fT/\fD:=⟨x0,x1,x2,dw,dH,dO,eg,et,eD,e1,fa,ft,fS,iv,iE,iV,jo,jY,jZ,j0,kl,kx,ky⟩
theorem J' {b5 bb bw bV cj cH cU cz cV df dk dB dI eh eu eK e6 fo fp fg fC fT fD iy:Prop} (x0:b5) (x1:bb) (x2:bw) (dw:bV) (dH:cj) (dO:cH) (eg:cU) (et:cz) (eD:cV) (e1:df) (fa:dk) (ft:dB) (fS:dI) (iv:eh) (iE:eu) (iV:eK) (jo:e6) (jY:fo) (jZ:fp) (j0:fg) (kl:fC) (kx:fT) (ky:fD) (k5:iy):b5/\bb/\bw/\bV/\cj/\cH/\cU/\cz/\cV/\df/\dk/\dB/\dI/\eh/\eu/\eK/\e6/\fo/\fp/\fg/\fC/\fT/\fD/\iy:=⟨x0,x1,x2,dw,dH,dO,eg,et,eD,e1,fa,ft,fS,iv,iE,iV,jo,jY,jZ,j0,kl,kx,ky,k5⟩
theorem Ul {b5 bb bw bV cj cH cU cz cV df dk dB dI eh eu eK e6 fo fp fg fC fT fD iy iN:Prop} (x0:b5) (x1:bb) (x2:bw) (dw:bV) (dH:cj) (dO:cH) (eg:cU) (et:cz) (eD:cV) (e1:df) (fa:dk) (ft:dB) (fS:dI) (iv:eh) (iE:eu) (iV:eK) (jo:e6) (jY:fo) (jZ:fp) (j0:fg) (kl:fC) (kx:fT) (ky:fD) (k5:iy) (lE:iN):b5/\bb/\bw/\bV/\cj/\cH/\cU/\cz/\cV/\df/\dk/\dB/\dI/\eh/\eu/\eK/\e6/\fo/\fp/\fg/\fC/\fT/\fD/\iy/\iN:=⟨x0,x1,x2,dw,dH,dO,eg,et,eD,e1,fa,ft,fS,iv,iE,iV,jo,jY,jZ,j0,kl,kx,ky,k5,lE⟩
theorem Um {b5 bb bw bV cj cH cU cz cV df dk dB dI eh eu eK e6 fo fp fg fC fT fD iy iN jq jH jI jr:Prop} (x0:b5) (x1:bb) (x2:bw) (dw:bV) (dH:cj) (dO:cH) (eg:cU) (et:cz) (eD:cV) (e1:df) (fa:dk) (ft:dB) (fS:dI) (iv:eh) (iE:eu) (iV:eK) (jo:e6) (jY:fo) (jZ:fp) (j0:fg) (kl:fC) (kx:fT) (ky:fD) (k5:iy) (lE:iN) (mm:jq) (mn:jH) (mo:jI) (mq:jr):b5/\bb/\bw/\bV/\cj/\cH/\cU/\cz/\cV/\df/\dk/\dB/\dI/\eh/\eu/\eK/\e6/\fo/\fp/\fg/\fC/\fT/\fD/\iy/\iN/\jq/\jH/\jI/\jr:=⟨x0,x1,x2,dw,dH,dO,eg,et,eD,e1,fa,ft,fS,iv,iE,iV,jo,jY,jZ,j0,kl,kx,ky,k5,lE,mm,mn,mo,mq⟩
theorem Un {b5 bb bw bV cj cH cU cz cV df dk dB dI eh eu eK e6 fo fp fg fC fT fD iy iN jq jH jI jr km:Prop} (x0:b5) (x1:bb) (x2:bw) (dw:bV) (dH:cj) (dO:cH) (eg:cU) (et:cz) (eD:cV) (e1:df) (fa:dk) (ft:dB) (fS:dI) (iv:eh) (iE:eu) (iV:eK) (jo:e6) (jY:fo) (jZ:fp) (j0:fg) (kl:fC) (kx:fT) (ky:fD) (k5:iy) (lE:iN) (mm:jq) (mn:jH) (mo:jI) (mq:jr) (ns:km):b5/\bb/\bw/\bV/\cj/\cH/\cU/\cz/\cV/\df/\dk/\dB/\dI/\eh/\eu/\eK/\e6/\fo/\fp/\fg/\fC/\fT/\fD/\iy/\iN/\jq/\jH/\jI/\jr/\km:=⟨x0,x1,x2,dw,dH,dO,eg,et,eD,e1,fa,ft,fS,iv,iE,iV,jo,jY,jZ,j0,kl,kx,ky,k5,lE,mm,mn,mo,mq,ns⟩
theorem Uo {b5 bb bw bV cj cH cU cz cV df dk dB dI eh eu eK e6 fo fp fg fC fT fD iy iN jq jH jI jr km kN k6:Prop} (x0:b5) (x1:bb) (x2:bw) (dw:bV) (dH:cj) (dO:cH) (eg:cU) (et:cz) (eD:cV) (e1:df) (fa:dk) (ft:dB) (fS:dI) (iv:eh) (iE:eu) (iV:eK) (jo:e6) (jY:fo) (jZ:fp) (j0:fg) (kl:fC) (kx:fT) (ky:fD) (k5:iy) (lE:iN) (mm:jq) (mn:jH) (mo:jI) (mq:jr) (ns:km) (oB:kN) (oC:k6):b5/\bb/\bw/\bV/\cj/\cH/\cU/\cz/\cV/\df/\dk/\dB/\dI/\eh/\eu/\eK/\e6/\fo/\fp/\fg/\fC/\fT/\fD/\iy/\iN/\jq/\jH/\jI/\jr/\km/\kN/\k6:=⟨x0,x1,x2,dw,dH,dO,eg,et,eD,e1,fa,ft,fS,iv,iE,iV,jo,jY,jZ,j0,kl,kx,ky,k5,lE,mm,mn,mo,mq,ns,oB,oC⟩
theorem Up {b5 bb bw bV cj cH cU cz cV df dk dB dI eh eu eK e6 fo fp fg fC fT fD iy iN jq jH jI jr km kN k6 lT:Prop} (x0:b5) (x1:bb) (x2:bw) (dw:bV) (dH:cj) (dO:cH) (eg:cU) (et:cz) (eD:cV) (e1:df) (fa:dk) (ft:dB) (fS:dI) (iv:eh) (iE:eu) (iV:eK) (jo:e6) (jY:fo) (jZ:fp) (j0:fg) (kl:fC) (kx:fT) (ky:fD) (k5:iy) (lE:iN) (mm:jq) (mn:jH) (mo:jI) (mq:jr) (ns:km) (oB:kN) (oC:k6) (qo:lT):b5/\bb/\bw/\bV/\cj/\cH/\cU/\cz/\cV/\df/\dk/\dB/\dI/\eh/\eu/\eK/\e6/\fo/\fp/\fg/\fC/\fT/\fD/\iy/\iN/\jq/\jH/\jI/\jr/\km/\kN/\k6/\lT:=⟨x0,x1,x2,dw,dH,dO,eg,et,eD,e1,fa,ft,fS,iv,iE,iV,jo,jY,jZ,j0,kl,kx,ky,k5,lE,mm,mn,mo,mq,ns,oB,oC,qo⟩
theorem Uq {b5 bb bw bV cj cH cU cz cV df dk dB dI eh eu eK e6 fo fp fg fC fT fD iy iN jq jH jI jr km kN k6 lT nt:Prop} (x0:b5) (x1:bb) (x2:bw) (dw:bV) (dH:cj) (dO:cH) (eg:cU) (et:cz) (eD:cV) (e1:df) (fa:dk) (ft:dB) (fS:dI) (iv:eh) (iE:eu) (iV:eK) (jo:e6) (jY:fo) (jZ:fp) (j0:fg) (kl:fC) (kx:fT) (ky:fD) (k5:iy) (lE:iN) (mm:jq) (mn:jH) (mo:jI) (mq:jr) (ns:km) (oB:kN) (oC:k6) (qo:lT) (sS:nt):b5/\bb/\bw/\bV/\cj/\cH/\cU/\cz/\cV/\df/\dk/\dB/\dI/\eh/\eu/\eK/\e6/\fo/\fp/\fg/\fC/\fT/\fD/\iy/\iN/\jq/\jH/\jI/\jr/\km/\kN/\k6/\lT/\nt:=⟨x0,x1,x2,dw,dH,dO,eg,et,eD,e1,fa,ft,fS,iv,iE,iV,jo,jY,jZ,j0,kl,kx,ky,k5,lE,mm,mn,mo,mq,ns,oB,oC,qo,sS⟩
theorem Ur {b5 bb bw bV cj cH cU cz cV df dk dB dI eh eu eK e6 fo fp fg fC fT fD iy iN jq jH jI jr km kN k6 lT nt nY:Prop} (x0:b5) (x1:bb) (x2:bw) (dw:bV) (dH:cj) (dO:cH) (eg:cU) (et:cz) (eD:cV) (e1:df) (fa:dk) (ft:dB) (fS:dI) (iv:eh) (iE:eu) (iV:eK) (jo:e6) (jY:fo) (jZ:fp) (j0:fg) (kl:fC) (kx:fT) (ky:fD) (k5:iy) (lE:iN) (mm:jq) (mn:jH) (mo:jI) (mq:jr) (ns:km) (oB:kN) (oC:k6) (qo:lT) (sS:nt) (xf:nY):b5/\bb/\bw/\bV/\cj/\cH/\cU/\cz/\cV/\df/\dk/\dB/\dI/\eh/\eu/\eK/\e6/\fo/\fp/\fg/\fC/\fT/\fD/\iy/\iN/\jq/\jH/\jI/\jr/\km/\kN/\k6/\lT/\nt/\nY:=⟨x0,x1,x2,dw,dH,dO,eg,et,eD,e1,fa,ft,fS,iv,iE,iV,jo,jY,jZ,j0,kl,kx,ky,k5,lE,mm,mn,mo,mq,ns,oB,oC,qo,sS,xf⟩
theorem D9 {b5 bb bw bV cj cH cU cz cV df dk dB dI eh eu eK e6 fo fp fg fC fT fD iy iN jq jH jI jr km kN k6 lT nt nY sT:Prop} (x0:b5) (x1:bb) (x2:bw) (dw:bV) (dH:cj) (dO:cH) (eg:cU) (et:cz) (eD:cV) (e1:df) (fa:dk) (ft:dB) (fS:dI) (iv:eh) (iE:eu) (iV:eK) (jo:e6) (jY:fo) (jZ:fp) (j0:fg) (kl:fC) (kx:fT) (ky:fD) (k5:iy) (lE:iN) (mm:jq) (mn:jH) (mo:jI) (mq:jr) (ns:km) (oB:kN) (oC:k6) (qo:lT) (sS:nt) (xf:nY) (D_:sT):b5/\bb/\bw/\bV/\cj/\cH/\cU/\cz/\cV/\df/\dk/\dB/\dI/\eh/\eu/\eK/\e6/\fo/\fp/\fg/\fC/\fT/\fD/\iy/\iN/\jq/\jH/\jI/\jr/\km/\kN/\k6/\lT/\nt/\nY/\sT:=⟨x0,x1,x2,dw,dH,dO,eg,et,eD,e1,fa,ft,fS,iv,iE,iV,jo,jY,jZ,j0,kl,kx,ky,k5,lE,mm,mn,mo,mq,ns,oB,oC,qo,sS,xf,D_⟩
theorem D' {b5 bb bw bV cj cH cU cz cV df dk dB dI eh eu eK e6 fo fp fg fC fT fD iy iN jq jH jI jr km kN k6 lT nt nY sT xg zL u1:Prop} (x0:b5) (x1:bb) (x2:bw) (dw:bV) (dH:cj) (dO:cH) (eg:cU) (et:cz) (eD:cV) (e1:df) (fa:dk) (ft:dB) (fS:dI) (iv:eh) (iE:eu) (iV:eK) (jo:e6) (jY:fo) (jZ:fp) (j0:fg) (kl:fC) (kx:fT) (ky:fD) (k5:iy) (lE:iN) (mm:jq) (mn:jH) (mo:jI) (mq:jr) (ns:km) (oB:kN) (oC:k6) (qo:lT) (sS:nt) (xf:nY) (D_:sT) (Us:xg) (Ut:zL) (Uu:u1):b5/\bb/\bw/\bV/\cj/\cH/\cU/\cz/\cV/\df/\dk/\dB/\dI/\eh/\eu/\eK/\e6/\fo/\fp/\fg/\fC/\fT/\fD/\iy/\iN/\jq/\jH/\jI/\jr/\km/\kN/\k6/\lT/\nt/\nY/\sT/\xg/\zL/\u1:=⟨x0,x1,x2,dw,dH,dO,eg,et,eD,e1,fa,ft,fS,iv,iE,iV,jo,jY,jZ,j0,kl,kx,ky,k5,lE,mm,mn,mo,mq,ns,oB,oC,qo,sS,xf,D_,Us,Ut,Uu⟩
def pq (F F':Nat->I):List Nat->Prop
 | []=>True
 | [i]=>F' i=F i
 | i::j::l=>F' i=F i/\pq F F' (j::l)
theorem xh {F:Nat->I}:∀l:List Nat,pq F F l
 | []=>trivial
 | [_]=>rfl
 | _::j::l=>⟨rfl,xh (j::l)⟩
def Uv:c5->Bool
 | .loop _=>false
 | .lj .. =>false
 | _=>true
def xi (_:List Nat):Prop:=True
def pr (a b:Prop):Prop:=a=b
theorem nu (a:Prop):pr a a:=rfl
section
variable {G:Nat->Option I} {Φ:FuncId->Option aP} {tab:FuncId->Option (List I->Option I)} {Y:List cy} {s:aL} {Q:dd->aL->Prop} {P:Prop}
theorem dU {a b:c5} (h:ba G Φ tab Y a s (ri Q fun s1=>ba G Φ tab Y b s1 Q)):ba G Φ tab Y (.seq a b) s Q:=bd h
theorem dV {id:Nat} {b:c5} (h:ba G Φ tab Y b s (rj id Q)) (_:Uv b=true:=by rfl):ba G Φ tab Y (.block id b) s Q:=jX h
theorem eL {ops:List aU} {e3:List Nat} (h:P) (e:pr (eZ G tab zy false ops e3 s (Q .normal)) P:=by simp(disch:=omega) [H,K];exact nu _):ba G Φ tab Y (.region false ops e3) s Q:=bl bD (Eq.mpr e h)
theorem eM {ops:List aU} {e3:List Nat} {A:Prop} (h:P) (e:pr (eZ G tab zy true ops e3 s (Q .normal)) (A/\P):=by simp(disch:=omega) [H,K];exact nu _) (a:A:=by first|decide|rfl):ba G Φ tab Y (.region true ops e3) s Q:=bl bD (Eq.mpr e ⟨a,h⟩)
theorem eN {ops:List aU} {e3:List Nat} (h:P) (e:pr (eZ G tab zy true ops e3 s (Q .normal)) P:=by simp(disch:=omega) [H,K];exact nu _):ba G Φ tab Y (.region true ops e3) s Q:=bl bD (Eq.mpr e h)
theorem sU {ops:List aU} {e3:List Nat} (h:P) (e:pr (eZ G tab (ey G Φ tab Y) false ops e3 s (Q .normal)) P:=by simp(disch:=omega) [H,K];exact nu _):ba G Φ tab Y (.region false ops e3) s Q:=bl nW (Eq.mpr e h)
theorem sV {ops:List aU} {e3:List Nat} {A:Prop} (h:P) (e:pr (eZ G tab (ey G Φ tab Y) true ops e3 s (Q .normal)) (A/\P):=by simp(disch:=omega) [H,K];exact nu _) (a:A:=by first|decide|rfl):ba G Φ tab Y (.region true ops e3) s Q:=bl nW (Eq.mpr e ⟨a,h⟩)
theorem sW {ops:List aU} {e3:List Nat} (h:P) (e:pr (eZ G tab (ey G Φ tab Y) true ops e3 s (Q .normal)) P:=by simp(disch:=omega) [H,K];exact nu _):ba G Φ tab Y (.region true ops e3) s Q:=bl nW (Eq.mpr e h)
theorem dW (h:P) (e:pr (Q .normal s) P:=by simp(disch:=omega) [H,K];exact nu _):ba G Φ tab Y .skip s Q:=iU (Eq.mpr e h)
theorem dX (h:Q .normal s:=by simp(disch:=omega) [H,K]<;>fail):ba G Φ tab Y .skip s Q:=iU h
theorem sX (h:P) (e:pr (Q .ret s) P:=by simp(disch:=omega) [H,K];exact nu _):ba G Φ tab Y .ret s Q:=b3 (Eq.mpr e h)
theorem sY (h:Q .ret s:=by simp(disch:=omega) [H,K]<;>fail):ba G Φ tab Y .ret s Q:=b3 h
theorem sZ {i:Nat} (h:P) (e:pr (Q (.exit i) s) P:=by simp(disch:=omega) [H,K];exact nu _):ba G Φ tab Y (.exit i) s Q:=c_ (Eq.mpr e h)
theorem s0 {i:Nat} (h:Q (.exit i) s:=by simp(disch:=omega) [H,K]<;>fail):ba G Φ tab Y (.exit i) s Q:=c_ h
theorem dY {x:aT} {a b:c5} {t:Bool} (U:t=true->ba G Φ tab Y a s Q) (h2:t=false->ba G Φ tab Y b s Q) (aO:x.ev G s.F= .bool t:=by simp(disch:=omega) [H,K];rfl):ba G Φ tab Y (.cond x a b) s Q:=gi t aO U h2
theorem ew {k7:Nat->I} {aF:ah} {c:c5} {R:(Nat->I)->Prop} (l:List Nat) (h:∀F,R F->ba G Φ tab Y c ⟨F,aF⟩ Q) (e:∀F,pq k7 F l->R F:=by intro F k;simp only[pq] at k;simp(disch:=omega) [H,K] at k;exact k):ba G Φ tab Y c ⟨k7,aF⟩ Q:=h k7 (e k7 (xh l))
theorem zM {k7:Nat->I} {aF:ah} {c:c5} {R:(Nat->I)->Prop} {l:List Nat} (_:xi l) (h:∀F,R F->ba G Φ tab Y c ⟨F,aF⟩ Q) (e:∀F,pq k7 F l->R F:=by intro F k;simp only[pq] at k;simp(disch:=omega) [H,K] at k;exact k):ba G Φ tab Y c ⟨k7,aF⟩ Q:=h k7 (e k7 (xh l))
theorem a4 {c:c5} (l:List Nat) (e:xi l->ba G Φ tab Y c s Q:=by intro jG;(repeat' (first|refine dU ?_|refine dV ?_|((first|refine eL ?_|refine eM ?_|refine eN ?_|exact dX|refine dW ?_);try(refine zM jG fun F k=>?_;replace K:=k;clear k))|(refine dY (fun J=>?_) (fun J=>?_)<;>first|(exfalso;simp(disch:=omega) [H] at J;done)|(exfalso;simp at J;omega)|simp at J)|exact sY|refine sX ?_|exact s0|refine sZ ?_|exact trivial))<;>fail):ba G Φ tab Y c s Q:=e trivial
theorem bB {c:c5} {R N:(Nat->I)->Prop} (l:List Nat) (h:∀F,R F->N F) (e:xi l->(∀F,R F->N F)->ba G Φ tab Y c s Q:=by intro jG V;(repeat' (first|refine dU ?_|refine dV ?_|((first|refine eL ?_|refine eM ?_|refine eN ?_|exact dX|refine dW ?_);try(refine zM jG fun F k=>?_;replace K:=k;clear k))|(refine dY (fun J=>?_) (fun J=>?_)<;>first|(exfalso;simp(disch:=omega) [H] at J;done)|(exfalso;simp at J;omega)|simp at J)|exact sY|refine sX ?_|exact s0|refine sZ ?_|exact trivial));exact V F K):ba G Φ tab Y c s Q:=e trivial h
theorem j1 {c:c5} (l:List Nat) (e:xi l->ba G Φ tab Y c s Q:=by intro jG;(repeat' (first|refine dU ?_|refine dV ?_|((first|refine sU ?_|refine sV ?_|refine sW ?_|exact dX|refine dW ?_);try(refine zM jG fun F k=>?_;replace K:=k;clear k))|(refine dY (fun J=>?_) (fun J=>?_)<;>first|(exfalso;simp(disch:=omega) [H] at J;done)|(exfalso;simp at J;omega)|simp at J)|exact sY|refine sX ?_|exact s0|refine sZ ?_|exact trivial))<;>fail):ba G Φ tab Y c s Q:=e trivial
theorem cu {c:c5} {R N:(Nat->I)->Prop} (l:List Nat) (h:∀F,R F->N F) (e:xi l->(∀F,R F->N F)->ba G Φ tab Y c s Q:=by intro jG V;(repeat' (first|refine dU ?_|refine dV ?_|((first|refine sU ?_|refine sV ?_|refine sW ?_|exact dX|refine dW ?_);try(refine zM jG fun F k=>?_;replace K:=k;clear k))|(refine dY (fun J=>?_) (fun J=>?_)<;>first|(exfalso;simp(disch:=omega) [H] at J;done)|(exfalso;simp at J;omega)|simp at J)|exact sY|refine sX ?_|exact s0|refine sZ ?_|exact trivial));exact V F K):ba G Φ tab Y c s Q:=e trivial h
theorem aJ {k7:Nat->I} {aF:ah} {c:c5} {R:(Nat->I)->Prop} (l:List Nat) (h:∀F,R F->ba G Φ tab Y c ⟨F,aF⟩ Q) (e:∀F,pq k7 F l->R F:=by intro F k;simp only[pq] at k;simp[dM] at k;exact k):ba G Φ tab Y c ⟨k7,aF⟩ Q:=h k7 (e k7 (xh l))
theorem bO {k7:Nat->I} {aF:ah} {c:c5} {R:(Nat->I)->Prop} (l:List Nat) (h:∀F,R F->ba G Φ tab Y c ⟨F,aF⟩ Q) (e:∀F,pq k7 F l->R F:=by intro F k;simp only[pq] at k;(try simp[aD,K] at k);exact k):ba G Φ tab Y c ⟨k7,aF⟩ Q:=h k7 (e k7 (xh l))
end
end
end Go.Proofs.YtemiagcencajeaaGreatDoor
