import Derived.Test.YtemiagcencajeaaGreatDoorXmE4
set_option linter.unusedSimpArgs false
set_option linter.unusedVariables false
set_option linter.unusedSectionVars false
namespace Go.Eng
open Go Go.RowKit
theorem iV {a b:Nat} (h:a<b):(a<b)=True:=eq_true h
theorem iW {a b:Nat} (h:b<=a):(a<b)=False:=eq_false (by omega)
theorem iX {a b:Nat} (h:a<=b):(a<=b)=True:=eq_true h
theorem iY {a b:Nat} (h:b<a):(a<=b)=False:=eq_false (by omega)
theorem fz {a b:Nat} (h:a<b\/b<a):(a=b)=False:=eq_false (by omega)
def sc (F F':Nat->I) (p:Prop):List Nat->Prop
 | []=>p
 | i::l=>F' i=F i->sc F F' p l
theorem I3 {F:Nat->I} {p:Prop}:∀(l:List Nat),sc F F p l->p
 | [],h=>h
 | _::l,h=>I3 l (h rfl)
theorem yM {G:Nat->Option I} {Φ:FuncId->Option aP} {tab:FuncId->Option (List I->Option I)} {Y:List cy} {c:cU} {s:aK} {Q:da->aK->Prop} (l:List Nat) (h:∀F,sc s.F F (a' G Φ tab Y c ⟨F,s.h⟩ Q) l):a' G Φ tab Y c s Q:=I3 l (h s.F)
end Go.Eng
