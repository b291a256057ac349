/- What the claim needs of the walks, put together by a program (shake.py). -/
import Derived.Test.YtemiagcencajeaaGreatDoorXdE7
import Derived.Test.YtemiagcencajeaaGreatDoorXdE4
import Derived.Test.YtemiagcencajeaaGreatDoorProg
import Derived.KernelRfl
import Derived.Test.YtemiagcencajeaaGreatDoorRows
import Derived.Test.YtemiagcencajeaaGreatDoorTie
import Derived.Test.YtemiagcencajeaaGreatDoorChecked
import Derived.Test.YtemiagcencajeaaGreatDoorXdE6
import Derived.Test.YtemiagcencajeaaGreatDoorCards
import Derived.SevenTiedAt
set_option maxRecDepth 100000
set_option linter.unusedSimpArgs false
set_option linter.unusedVariables false
set_option linter.unusedSectionVars false
namespace Go.Proofs.YtemiagcencajeaaGreatDoor
section
open Go Go.Eng Go.RowKit
theorem bw {bR a_:Prop} (x0:bR) (x1:a_):bR/\a_:=⟨x0,x1⟩
theorem b3 {bR a_ bn:Prop} (x0:bR) (x1:a_) (x2:bn):bR/\a_/\bn:=⟨x0,x1,x2⟩
theorem bM {bR a_ bn bN:Prop} (x0:bR) (x1:a_) (x2:bn) (dd:bN):bR/\a_/\bn/\bN:=⟨x0,x1,x2,dd⟩
theorem bx {bR a_ bn bN cb:Prop} (x0:bR) (x1:a_) (x2:bn) (dd:bN) (di:cb):bR/\a_/\bn/\bN/\cb:=⟨x0,x1,x2,dd,di⟩
theorem c7 {bR a_ bn bN cb cr:Prop} (x0:bR) (x1:a_) (x2:bn) (dd:bN) (di:cb) (dn:cr):bR/\a_/\bn/\bN/\cb/\cr:=⟨x0,x1,x2,dd,di,dn⟩
theorem dh {bR a_ bn bN cb cr cy:Prop} (x0:bR) (x1:a_) (x2:bn) (dd:bN) (di:cb) (dn:cr) (dM:cy):bR/\a_/\bn/\bN/\cb/\cr/\cy:=⟨x0,x1,x2,dd,di,dn,dM⟩
theorem e9 {bR a_ bn bN cb cr cy cm:Prop} (x0:bR) (x1:a_) (x2:bn) (dd:bN) (di:cb) (dn:cr) (dM:cy) (ee:cm):bR/\a_/\bn/\bN/\cb/\cr/\cy/\cm:=⟨x0,x1,x2,dd,di,dn,dM,ee⟩
theorem fO {bR a_ bn bN cb cr cy cm cz:Prop} (x0:bR) (x1:a_) (x2:bn) (dd:bN) (di:cb) (dn:cr) (dM:cy) (ee:cm) (ep:cz):bR/\a_/\bn/\bN/\cb/\cr/\cy/\cm/\cz:=⟨x0,x1,x2,dd,di,dn,dM,ee,ep⟩
theorem kl {bR a_ bn bN cb cr cy cm cz cZ:Prop} (x0:bR) (x1:a_) (x2:bn) (dd:bN) (di:cb) (dn:cr) (dM:cy) (ee:cm) (ep:cz) (eB:cZ):bR/\a_/\bn/\bN/\cb/\cr/\cy/\cm/\cz/\cZ:=⟨x0,x1,x2,dd,di,dn,dM,ee,ep,eB⟩
theorem kS {bR a_ bn bN cb cr cy cm cz cZ da:Prop} (x0:bR) (x1:a_) (x2:bn) (dd:bN) (di:cb) (dn:cr) (dM:cy) (ee:cm) (ep:cz) (eB:cZ) (eI:da):bR/\a_/\bn/\bN/\cb/\cr/\cy/\cm/\cz/\cZ/\da:=⟨x0,x1,x2,dd,di,dn,dM,ee,ep,eB,eI⟩
theorem k9 {bR a_ bn bN cb cr cy cm cz cZ da dj:Prop} (x0:bR) (x1:a_) (x2:bn) (dd:bN) (di:cb) (dn:cr) (dM:cy) (ee:cm) (ep:cz) (eB:cZ) (eI:da) (e_:dj):bR/\a_/\bn/\bN/\cb/\cr/\cy/\cm/\cz/\cZ/\da/\dj:=⟨x0,x1,x2,dd,di,dn,dM,ee,ep,eB,eI,e_⟩
theorem kT {bR a_ bn bN cb cr cy cm cz cZ da dj dq:Prop} (x0:bR) (x1:a_) (x2:bn) (dd:bN) (di:cb) (dn:cr) (dM:cy) (ee:cm) (ep:cz) (eB:cZ) (eI:da) (e_:dj) (fl:dq):bR/\a_/\bn/\bN/\cb/\cr/\cy/\cm/\cz/\cZ/\da/\dj/\dq:=⟨x0,x1,x2,dd,di,dn,dM,ee,ep,eB,eI,e_,fl⟩
theorem zQ {bR a_ bn bN cb cr cy cm cz cZ da dj dq dx:Prop} (x0:bR) (x1:a_) (x2:bn) (dd:bN) (di:cb) (dn:cr) (dM:cy) (ee:cm) (ep:cz) (eB:cZ) (eI:da) (e_:dj) (fl:dq) (fA:dx):bR/\a_/\bn/\bN/\cb/\cr/\cy/\cm/\cz/\cZ/\da/\dj/\dq/\dx:=⟨x0,x1,x2,dd,di,dn,dM,ee,ep,eB,eI,e_,fl,fA⟩
theorem xk {bR a_ bn bN cb cr cy cm cz cZ da dj dq dx dG:Prop} (x0:bR) (x1:a_) (x2:bn) (dd:bN) (di:cb) (dn:cr) (dM:cy) (ee:cm) (ep:cz) (eB:cZ) (eI:da) (e_:dj) (fl:dq) (fA:dx) (fP:dG):bR/\a_/\bn/\bN/\cb/\cr/\cy/\cm/\cz/\cZ/\da/\dj/\dq/\dx/\dG:=⟨x0,x1,x2,dd,di,dn,dM,ee,ep,eB,eI,e_,fl,fA,fP⟩
theorem Uc {bR a_ bn bN cb cr cy cm cz cZ da dj dq dx dG ef:Prop} (x0:bR) (x1:a_) (x2:bn) (dd:bN) (di:cb) (dn:cr) (dM:cy) (ee:cm) (ep:cz) (eB:cZ) (eI:da) (e_:dj) (fl:dq) (fA:dx) (fP:dG) (il:ef):bR/\a_/\bn/\bN/\cb/\cr/\cy/\cm/\cz/\cZ/\da/\dj/\dq/\dx/\dG/\ef:=⟨x0,x1,x2,dd,di,dn,dM,ee,ep,eB,eI,e_,fl,fA,fP,il⟩
theorem xl {bR a_ bn bN cb cr cy cm cz cZ da dj dq dx dG ef ez:Prop} (x0:bR) (x1:a_) (x2:bn) (dd:bN) (di:cb) (dn:cr) (dM:cy) (ee:cm) (ep:cz) (eB:cZ) (eI:da) (e_:dj) (fl:dq) (fA:dx) (fP:dG) (il:ef) (iG:ez):bR/\a_/\bn/\bN/\cb/\cr/\cy/\cm/\cz/\cZ/\da/\dj/\dq/\dx/\dG/\ef/\ez:=⟨x0,x1,x2,dd,di,dn,dM,ee,ep,eB,eI,e_,fl,fA,fP,il,iG⟩
theorem Ea {bR a_ bn bN cb cr cy cm cz cZ da dj dq dx dG ef ez eJ:Prop} (x0:bR) (x1:a_) (x2:bn) (dd:bN) (di:cb) (dn:cr) (dM:cy) (ee:cm) (ep:cz) (eB:cZ) (eI:da) (e_:dj) (fl:dq) (fA:dx) (fP:dG) (il:ef) (iG:ez) (iY:eJ):bR/\a_/\bn/\bN/\cb/\cr/\cy/\cm/\cz/\cZ/\da/\dj/\dq/\dx/\dG/\ef/\ez/\eJ:=⟨x0,x1,x2,dd,di,dn,dM,ee,ep,eB,eI,e_,fl,fA,fP,il,iG,iY⟩
theorem zR {bR a_ bn bN cb cr cy cm cz cZ da dj dq dx dG ef ez eJ fa e3:Prop} (x0:bR) (x1:a_) (x2:bn) (dd:bN) (di:cb) (dn:cr) (dM:cy) (ee:cm) (ep:cz) (eB:cZ) (eI:da) (e_:dj) (fl:dq) (fA:dx) (fP:dG) (il:ef) (iG:ez) (iY:eJ) (jo:fa) (jq:e3):bR/\a_/\bn/\bN/\cb/\cr/\cy/\cm/\cz/\cZ/\da/\dj/\dq/\dx/\dG/\ef/\ez/\eJ/\fa/\e3:=⟨x0,x1,x2,dd,di,dn,dM,ee,ep,eB,eI,e_,fl,fA,fP,il,iG,iY,jo,jq⟩
theorem Ud {bR a_ bn bN cb cr cy cm cz cZ da dj dq dx dG ef ez eJ fa e3 fm fu fo:Prop} (x0:bR) (x1:a_) (x2:bn) (dd:bN) (di:cb) (dn:cr) (dM:cy) (ee:cm) (ep:cz) (eB:cZ) (eI:da) (e_:dj) (fl:dq) (fA:dx) (fP:dG) (il:ef) (iG:ez) (iY:eJ) (jo:fa) (jq:e3) (jY:fm) (j_:fu) (j':fo):bR/\a_/\bn/\bN/\cb/\cr/\cy/\cm/\cz/\cZ/\da/\dj/\dq/\dx/\dG/\ef/\ez/\eJ/\fa/\e3/\fm/\fu/\fo:=⟨x0,x1,x2,dd,di,dn,dM,ee,ep,eB,eI,e_,fl,fA,fP,il,iG,iY,jo,jq,jY,j_,j'⟩
theorem Ue {bR a_ bn bN cb cr cy cm cz cZ da dj dq dx dG ef ez eJ fa e3 fm fu fo fQ:Prop} (x0:bR) (x1:a_) (x2:bn) (dd:bN) (di:cb) (dn:cr) (dM:cy) (ee:cm) (ep:cz) (eB:cZ) (eI:da) (e_:dj) (fl:dq) (fA:dx) (fP:dG) (il:ef) (iG:ez) (iY:eJ) (jo:fa) (jq:e3) (jY:fm) (j_:fu) (j':fo) (kz:fQ):bR/\a_/\bn/\bN/\cb/\cr/\cy/\cm/\cz/\cZ/\da/\dj/\dq/\dx/\dG/\ef/\ez/\eJ/\fa/\e3/\fm/\fu/\fo/\fQ:=⟨x0,x1,x2,dd,di,dn,dM,ee,ep,eB,eI,e_,fl,fA,fP,il,iG,iY,jo,jq,jY,j_,j',kz⟩
theorem Uf {bR a_ bn bN cb cr cy cm cz cZ da dj dq dx dG ef ez eJ fa e3 fm fu fo fQ im iq:Prop} (x0:bR) (x1:a_) (x2:bn) (dd:bN) (di:cb) (dn:cr) (dM:cy) (ee:cm) (ep:cz) (eB:cZ) (eI:da) (e_:dj) (fl:dq) (fA:dx) (fP:dG) (il:ef) (iG:ez) (iY:eJ) (jo:fa) (jq:e3) (jY:fm) (j_:fu) (j':fo) (kz:fQ) (k_:im) (la:iq):bR/\a_/\bn/\bN/\cb/\cr/\cy/\cm/\cz/\cZ/\da/\dj/\dq/\dx/\dG/\ef/\ez/\eJ/\fa/\e3/\fm/\fu/\fo/\fQ/\im/\iq:=⟨x0,x1,x2,dd,di,dn,dM,ee,ep,eB,eI,e_,fl,fA,fP,il,iG,iY,jo,jq,jY,j_,j',kz,k_,la⟩
theorem Ug {bR a_ bn bN cb cr cy cm cz cZ da dj dq dx dG ef ez eJ fa e3 fm fu fo fQ im iq iZ i_ iO i':Prop} (x0:bR) (x1:a_) (x2:bn) (dd:bN) (di:cb) (dn:cr) (dM:cy) (ee:cm) (ep:cz) (eB:cZ) (eI:da) (e_:dj) (fl:dq) (fA:dx) (fP:dG) (il:ef) (iG:ez) (iY:eJ) (jo:fa) (jq:e3) (jY:fm) (j_:fu) (j':fo) (kz:fQ) (k_:im) (la:iq) (lP:iZ) (lQ:i_) (lR:iO) (lS:i'):bR/\a_/\bn/\bN/\cb/\cr/\cy/\cm/\cz/\cZ/\da/\dj/\dq/\dx/\dG/\ef/\ez/\eJ/\fa/\e3/\fm/\fu/\fo/\fQ/\im/\iq/\iZ/\i_/\iO/\i':=⟨x0,x1,x2,dd,di,dn,dM,ee,ep,eB,eI,e_,fl,fA,fP,il,iG,iY,jo,jq,jY,j_,j',kz,k_,la,lP,lQ,lR,lS⟩
theorem Uh {bR a_ bn bN cb cr cy cm cz cZ da dj dq dx dG ef ez eJ fa e3 fm fu fo fQ im iq iZ i_ iO i' jr jH:Prop} (x0:bR) (x1:a_) (x2:bn) (dd:bN) (di:cb) (dn:cr) (dM:cy) (ee:cm) (ep:cz) (eB:cZ) (eI:da) (e_:dj) (fl:dq) (fA:dx) (fP:dG) (il:ef) (iG:ez) (iY:eJ) (jo:fa) (jq:e3) (jY:fm) (j_:fu) (j':fo) (kz:fQ) (k_:im) (la:iq) (lP:iZ) (lQ:i_) (lR:iO) (lS:i') (my:jr) (mz:jH):bR/\a_/\bn/\bN/\cb/\cr/\cy/\cm/\cz/\cZ/\da/\dj/\dq/\dx/\dG/\ef/\ez/\eJ/\fa/\e3/\fm/\fu/\fo/\fQ/\im/\iq/\iZ/\i_/\iO/\i'/\jr/\jH:=⟨x0,x1,x2,dd,di,dn,dM,ee,ep,eB,eI,e_,fl,fA,fP,il,iG,iY,jo,jq,jY,j_,j',kz,k_,la,lP,lQ,lR,lS,my,mz⟩
theorem Ui {bR a_ bn bN cb cr cy cm cz cZ da dj dq dx dG ef ez eJ fa e3 fm fu fo fQ im iq iZ i_ iO i' jr jH km:Prop} (x0:bR) (x1:a_) (x2:bn) (dd:bN) (di:cb) (dn:cr) (dM:cy) (ee:cm) (ep:cz) (eB:cZ) (eI:da) (e_:dj) (fl:dq) (fA:dx) (fP:dG) (il:ef) (iG:ez) (iY:eJ) (jo:fa) (jq:e3) (jY:fm) (j_:fu) (j':fo) (kz:fQ) (k_:im) (la:iq) (lP:iZ) (lQ:i_) (lR:iO) (lS:i') (my:jr) (mz:jH) (nv:km):bR/\a_/\bn/\bN/\cb/\cr/\cy/\cm/\cz/\cZ/\da/\dj/\dq/\dx/\dG/\ef/\ez/\eJ/\fa/\e3/\fm/\fu/\fo/\fQ/\im/\iq/\iZ/\i_/\iO/\i'/\jr/\jH/\km:=⟨x0,x1,x2,dd,di,dn,dM,ee,ep,eB,eI,e_,fl,fA,fP,il,iG,iY,jo,jq,jY,j_,j',kz,k_,la,lP,lQ,lR,lS,my,mz,nv⟩
theorem Uj {bR a_ bn bN cb cr cy cm cz cZ da dj dq dx dG ef ez eJ fa e3 fm fu fo fQ im iq iZ i_ iO i' jr jH km lb:Prop} (x0:bR) (x1:a_) (x2:bn) (dd:bN) (di:cb) (dn:cr) (dM:cy) (ee:cm) (ep:cz) (eB:cZ) (eI:da) (e_:dj) (fl:dq) (fA:dx) (fP:dG) (il:ef) (iG:ez) (iY:eJ) (jo:fa) (jq:e3) (jY:fm) (j_:fu) (j':fo) (kz:fQ) (k_:im) (la:iq) (lP:iZ) (lQ:i_) (lR:iO) (lS:i') (my:jr) (mz:jH) (nv:km) (oG:lb):bR/\a_/\bn/\bN/\cb/\cr/\cy/\cm/\cz/\cZ/\da/\dj/\dq/\dx/\dG/\ef/\ez/\eJ/\fa/\e3/\fm/\fu/\fo/\fQ/\im/\iq/\iZ/\i_/\iO/\i'/\jr/\jH/\km/\lb:=⟨x0,x1,x2,dd,di,dn,dM,ee,ep,eB,eI,e_,fl,fA,fP,il,iG,iY,jo,jq,jY,j_,j',kz,k_,la,lP,lQ,lR,lS,my,mz,nv,oG⟩
theorem Uk {bR a_ bn bN cb cr cy cm cz cZ da dj dq dx dG ef ez eJ fa e3 fm fu fo fQ im iq iZ i_ iO i' jr jH km lb lC:Prop} (x0:bR) (x1:a_) (x2:bn) (dd:bN) (di:cb) (dn:cr) (dM:cy) (ee:cm) (ep:cz) (eB:cZ) (eI:da) (e_:dj) (fl:dq) (fA:dx) (fP:dG) (il:ef) (iG:ez) (iY:eJ) (jo:fa) (jq:e3) (jY:fm) (j_:fu) (j':fo) (kz:fQ) (k_:im) (la:iq) (lP:iZ) (lQ:i_) (lR:iO) (lS:i') (my:jr) (mz:jH) (nv:km) (oG:lb) (qn:lC):bR/\a_/\bn/\bN/\cb/\cr/\cy/\cm/\cz/\cZ/\da/\dj/\dq/\dx/\dG/\ef/\ez/\eJ/\fa/\e3/\fm/\fu/\fo/\fQ/\im/\iq/\iZ/\i_/\iO/\i'/\jr/\jH/\km/\lb/\lC:=⟨x0,x1,x2,dd,di,dn,dM,ee,ep,eB,eI,e_,fl,fA,fP,il,iG,iY,jo,jq,jY,j_,j',kz,k_,la,lP,lQ,lR,lS,my,mz,nv,oG,qn⟩
theorem Eb {bR a_ bn bN cb cr cy cm cz cZ da dj dq dx dG ef ez eJ fa e3 fm fu fo fQ im iq iZ i_ iO i' jr jH km lb lC nw:Prop} (x0:bR) (x1:a_) (x2:bn) (dd:bN) (di:cb) (dn:cr) (dM:cy) (ee:cm) (ep:cz) (eB:cZ) (eI:da) (e_:dj) (fl:dq) (fA:dx) (fP:dG) (il:ef) (iG:ez) (iY:eJ) (jo:fa) (jq:e3) (jY:fm) (j_:fu) (j':fo) (kz:fQ) (k_:im) (la:iq) (lP:iZ) (lQ:i_) (lR:iO) (lS:i') (my:jr) (mz:jH) (nv:km) (oG:lb) (qn:lC) (sV:nw):bR/\a_/\bn/\bN/\cb/\cr/\cy/\cm/\cz/\cZ/\da/\dj/\dq/\dx/\dG/\ef/\ez/\eJ/\fa/\e3/\fm/\fu/\fo/\fQ/\im/\iq/\iZ/\i_/\iO/\i'/\jr/\jH/\km/\lb/\lC/\nw:=⟨x0,x1,x2,dd,di,dn,dM,ee,ep,eB,eI,e_,fl,fA,fP,il,iG,iY,jo,jq,jY,j_,j',kz,k_,la,lP,lQ,lR,lS,my,mz,nv,oG,qn,sV⟩
theorem Ul {bR a_ bn bN cb cr cy cm cz cZ da dj dq dx dG ef ez eJ fa e3 fm fu fo fQ im iq iZ i_ iO i' jr jH km lb lC nw oH:Prop} (x0:bR) (x1:a_) (x2:bn) (dd:bN) (di:cb) (dn:cr) (dM:cy) (ee:cm) (ep:cz) (eB:cZ) (eI:da) (e_:dj) (fl:dq) (fA:dx) (fP:dG) (il:ef) (iG:ez) (iY:eJ) (jo:fa) (jq:e3) (jY:fm) (j_:fu) (j':fo) (kz:fQ) (k_:im) (la:iq) (lP:iZ) (lQ:i_) (lR:iO) (lS:i') (my:jr) (mz:jH) (nv:km) (oG:lb) (qn:lC) (sV:nw) (xm:oH):bR/\a_/\bn/\bN/\cb/\cr/\cy/\cm/\cz/\cZ/\da/\dj/\dq/\dx/\dG/\ef/\ez/\eJ/\fa/\e3/\fm/\fu/\fo/\fQ/\im/\iq/\iZ/\i_/\iO/\i'/\jr/\jH/\km/\lb/\lC/\nw/\oH:=⟨x0,x1,x2,dd,di,dn,dM,ee,ep,eB,eI,e_,fl,fA,fP,il,iG,iY,jo,jq,jY,j_,j',kz,k_,la,lP,lQ,lR,lS,my,mz,nv,oG,qn,sV,xm⟩
theorem Ec {bR a_ bn bN cb cr cy cm cz cZ da dj dq dx dG ef ez eJ fa e3 fm fu fo fQ im iq iZ i_ iO i' jr jH km lb lC nw oH sW qo:Prop} (x0:bR) (x1:a_) (x2:bn) (dd:bN) (di:cb) (dn:cr) (dM:cy) (ee:cm) (ep:cz) (eB:cZ) (eI:da) (e_:dj) (fl:dq) (fA:dx) (fP:dG) (il:ef) (iG:ez) (iY:eJ) (jo:fa) (jq:e3) (jY:fm) (j_:fu) (j':fo) (kz:fQ) (k_:im) (la:iq) (lP:iZ) (lQ:i_) (lR:iO) (lS:i') (my:jr) (mz:jH) (nv:km) (oG:lb) (qn:lC) (sV:nw) (xm:oH) (Ed:sW) (Ee:qo):bR/\a_/\bn/\bN/\cb/\cr/\cy/\cm/\cz/\cZ/\da/\dj/\dq/\dx/\dG/\ef/\ez/\eJ/\fa/\e3/\fm/\fu/\fo/\fQ/\im/\iq/\iZ/\i_/\iO/\i'/\jr/\jH/\km/\lb/\lC/\nw/\oH/\sW/\qo:=⟨x0,x1,x2,dd,di,dn,dM,ee,ep,eB,eI,e_,fl,fA,fP,il,iG,iY,jo,jq,jY,j_,j',kz,k_,la,lP,lQ,lR,lS,my,mz,nv,oG,qn,sV,xm,Ed,Ee⟩
theorem Um {bR a_ bn bN cb cr cy cm cz cZ da dj dq dx dG ef ez eJ fa e3 fm fu fo fQ im iq iZ i_ iO i' jr jH km lb lC nw oH sW qo zS xn zT:Prop} (x0:bR) (x1:a_) (x2:bn) (dd:bN) (di:cb) (dn:cr) (dM:cy) (ee:cm) (ep:cz) (eB:cZ) (eI:da) (e_:dj) (fl:dq) (fA:dx) (fP:dG) (il:ef) (iG:ez) (iY:eJ) (jo:fa) (jq:e3) (jY:fm) (j_:fu) (j':fo) (kz:fQ) (k_:im) (la:iq) (lP:iZ) (lQ:i_) (lR:iO) (lS:i') (my:jr) (mz:jH) (nv:km) (oG:lb) (qn:lC) (sV:nw) (xm:oH) (Ed:sW) (Ee:qo) (Un:zS) (Uo:xn) (Up:zT):bR/\a_/\bn/\bN/\cb/\cr/\cy/\cm/\cz/\cZ/\da/\dj/\dq/\dx/\dG/\ef/\ez/\eJ/\fa/\e3/\fm/\fu/\fo/\fQ/\im/\iq/\iZ/\i_/\iO/\i'/\jr/\jH/\km/\lb/\lC/\nw/\oH/\sW/\qo/\zS/\xn/\zT:=⟨x0,x1,x2,dd,di,dn,dM,ee,ep,eB,eI,e_,fl,fA,fP,il,iG,iY,jo,jq,jY,j_,j',kz,k_,la,lP,lQ,lR,lS,my,mz,nv,oG,qn,sV,xm,Ed,Ee,Un,Uo,Up⟩
def pt (F F':Nat->I):List Nat->Prop
 | []=>True
 | [i]=>F' i=F i
 | i::j::l=>F' i=F i/\pt F F' (j::l)
theorem xo {F:Nat->I}:∀l:List Nat,pt F F l
 | []=>trivial
 | [_]=>rfl
 | _::j::l=>⟨rfl,xo (j::l)⟩
def Uq:c2->Bool
 | .loop _=>false
 | .lu .. =>false
 | _=>true
def xp (_:List Nat):Prop:=True
def pv (a b:Prop):Prop:=a=b
theorem nx (a:Prop):pv a a:=rfl
section
variable {G:Nat->Option I} {Φ:FuncId->Option aO} {tab:FuncId->Option (List I->Option I)} {Y:List cJ} {s:aL} {Q:dg->aL->Prop} {P:Prop}
theorem dT {a b:c2} (h:ba G Φ tab Y a s (rn Q fun s1=>ba G Φ tab Y b s1 Q)):ba G Φ tab Y (.seq a b) s Q:=bc h
theorem dU {id:Nat} {b:c2} (h:ba G Φ tab Y b s (rp id Q)) (_:Uq b=true:=by rfl):ba G Φ tab Y (.block id b) s Q:=jW h
theorem eK {ops:List aU} {e5:List Nat} (h:P) (e:pv (e7 G tab zE false ops e5 s (Q .normal)) P:=by simp(disch:=omega) [H,K];exact nx _):ba G Φ tab Y (.region false ops e5) s Q:=bm bC (Eq.mpr e h)
theorem eL {ops:List aU} {e5:List Nat} {A:Prop} (h:P) (e:pv (e7 G tab zE true ops e5 s (Q .normal)) (A/\P):=by simp(disch:=omega) [H,K];exact nx _) (a:A:=by first|decide|rfl):ba G Φ tab Y (.region true ops e5) s Q:=bm bC (Eq.mpr e ⟨a,h⟩)
theorem eM {ops:List aU} {e5:List Nat} (h:P) (e:pv (e7 G tab zE true ops e5 s (Q .normal)) P:=by simp(disch:=omega) [H,K];exact nx _):ba G Φ tab Y (.region true ops e5) s Q:=bm bC (Eq.mpr e h)
theorem sX {ops:List aU} {e5:List Nat} (h:P) (e:pv (e7 G tab (eP G Φ tab Y) false ops e5 s (Q .normal)) P:=by simp(disch:=omega) [H,K];exact nx _):ba G Φ tab Y (.region false ops e5) s Q:=bm n3 (Eq.mpr e h)
theorem sY {ops:List aU} {e5:List Nat} {A:Prop} (h:P) (e:pv (e7 G tab (eP G Φ tab Y) true ops e5 s (Q .normal)) (A/\P):=by simp(disch:=omega) [H,K];exact nx _) (a:A:=by first|decide|rfl):ba G Φ tab Y (.region true ops e5) s Q:=bm n3 (Eq.mpr e ⟨a,h⟩)
theorem sZ {ops:List aU} {e5:List Nat} (h:P) (e:pv (e7 G tab (eP G Φ tab Y) true ops e5 s (Q .normal)) P:=by simp(disch:=omega) [H,K];exact nx _):ba G Φ tab Y (.region true ops e5) s Q:=bm n3 (Eq.mpr e h)
theorem dV (h:P) (e:pv (Q .normal s) P:=by simp(disch:=omega) [H,K];exact nx _):ba G Φ tab Y .skip s Q:=iX (Eq.mpr e h)
theorem dW (h:Q .normal s:=by simp(disch:=omega) [H,K]<;>fail):ba G Φ tab Y .skip s Q:=iX h
theorem s0 (h:P) (e:pv (Q .ret s) P:=by simp(disch:=omega) [H,K];exact nx _):ba G Φ tab Y .ret s Q:=b5 (Eq.mpr e h)
theorem s3 (h:Q .ret s:=by simp(disch:=omega) [H,K]<;>fail):ba G Φ tab Y .ret s Q:=b5 h
theorem s4 {i:Nat} (h:P) (e:pv (Q (.exit i) s) P:=by simp(disch:=omega) [H,K];exact nx _):ba G Φ tab Y (.exit i) s Q:=c_ (Eq.mpr e h)
theorem s5 {i:Nat} (h:Q (.exit i) s:=by simp(disch:=omega) [H,K]<;>fail):ba G Φ tab Y (.exit i) s Q:=c_ h
theorem dX {x:aS} {a b:c2} {t:Bool} (U:t=true->ba G Φ tab Y a s Q) (h2:t=false->ba G Φ tab Y b s Q) (aN:x.ev G s.F= .bool t:=by simp(disch:=omega) [H,K];rfl):ba G Φ tab Y (.cond x a b) s Q:=fY t aN U h2
theorem eA {ld:Nat->I} {aF:ah} {c:c2} {R:(Nat->I)->Prop} (l:List Nat) (h:∀F,R F->ba G Φ tab Y c ⟨F,aF⟩ Q) (e:∀F,pt ld F l->R F:=by intro F k;simp only[pt] at k;simp(disch:=omega) [H,K] at k;exact k):ba G Φ tab Y c ⟨ld,aF⟩ Q:=h ld (e ld (xo l))
theorem zU {ld:Nat->I} {aF:ah} {c:c2} {R:(Nat->I)->Prop} {l:List Nat} (_:xp l) (h:∀F,R F->ba G Φ tab Y c ⟨F,aF⟩ Q) (e:∀F,pt ld F l->R F:=by intro F k;simp only[pt] at k;simp(disch:=omega) [H,K] at k;exact k):ba G Φ tab Y c ⟨ld,aF⟩ Q:=h ld (e ld (xo l))
theorem a7 {c:c2} (l:List Nat) (e:xp l->ba G Φ tab Y c s Q:=by intro jF;(repeat' (first|refine dT ?_|refine dU ?_|((first|refine eK ?_|refine eL ?_|refine eM ?_|exact dW|refine dV ?_);try(refine zU jF fun F k=>?_;replace K:=k;clear k))|(refine dX (fun J=>?_) (fun J=>?_)<;>first|(exfalso;simp(disch:=omega) [H] at J;done)|(exfalso;simp at J;omega)|simp at J)|exact s3|refine s0 ?_|exact s5|refine s4 ?_|exact trivial))<;>fail):ba G Φ tab Y c s Q:=e trivial
theorem bA {c:c2} {R N:(Nat->I)->Prop} (l:List Nat) (h:∀F,R F->N F) (e:xp l->(∀F,R F->N F)->ba G Φ tab Y c s Q:=by intro jF V;(repeat' (first|refine dT ?_|refine dU ?_|((first|refine eK ?_|refine eL ?_|refine eM ?_|exact dW|refine dV ?_);try(refine zU jF fun F k=>?_;replace K:=k;clear k))|(refine dX (fun J=>?_) (fun J=>?_)<;>first|(exfalso;simp(disch:=omega) [H] at J;done)|(exfalso;simp at J;omega)|simp at J)|exact s3|refine s0 ?_|exact s5|refine s4 ?_|exact trivial));exact V F K):ba G Φ tab Y c s Q:=e trivial h
theorem kU {c:c2} (l:List Nat) (e:xp l->ba G Φ tab Y c s Q:=by intro jF;(repeat' (first|refine dT ?_|refine dU ?_|((first|refine sX ?_|refine sY ?_|refine sZ ?_|exact dW|refine dV ?_);try(refine zU jF fun F k=>?_;replace K:=k;clear k))|(refine dX (fun J=>?_) (fun J=>?_)<;>first|(exfalso;simp(disch:=omega) [H] at J;done)|(exfalso;simp at J;omega)|simp at J)|exact s3|refine s0 ?_|exact s5|refine s4 ?_|exact trivial))<;>fail):ba G Φ tab Y c s Q:=e trivial
theorem cV {c:c2} {R N:(Nat->I)->Prop} (l:List Nat) (h:∀F,R F->N F) (e:xp l->(∀F,R F->N F)->ba G Φ tab Y c s Q:=by intro jF V;(repeat' (first|refine dT ?_|refine dU ?_|((first|refine sX ?_|refine sY ?_|refine sZ ?_|exact dW|refine dV ?_);try(refine zU jF fun F k=>?_;replace K:=k;clear k))|(refine dX (fun J=>?_) (fun J=>?_)<;>first|(exfalso;simp(disch:=omega) [H] at J;done)|(exfalso;simp at J;omega)|simp at J)|exact s3|refine s0 ?_|exact s5|refine s4 ?_|exact trivial));exact V F K):ba G Φ tab Y c s Q:=e trivial h
theorem aK {ld:Nat->I} {aF:ah} {c:c2} {R:(Nat->I)->Prop} (l:List Nat) (h:∀F,R F->ba G Φ tab Y c ⟨F,aF⟩ Q) (e:∀F,pt ld F l->R F:=by intro F k;simp only[pt] at k;simp[dQ] at k;exact k):ba G Φ tab Y c ⟨ld,aF⟩ Q:=h ld (e ld (xo l))
theorem bO {ld:Nat->I} {aF:ah} {c:c2} {R:(Nat->I)->Prop} (l:List Nat) (h:∀F,R F->ba G Φ tab Y c ⟨F,aF⟩ Q) (e:∀F,pt ld F l->R F:=by intro F k;simp only[pt] at k;(try simp[aG,K] at k);exact k):ba G Φ tab Y c ⟨ld,aF⟩ Q:=h ld (e ld (xo l))
end
end
end Go.Proofs.YtemiagcencajeaaGreatDoor
