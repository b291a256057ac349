import Derived.Test.YtemiagcencajeaaGreatDoorXdE4
set_option linter.unusedSimpArgs false
set_option linter.unusedVariables false
set_option linter.unusedSectionVars false
namespace Go.Eng
open Go Go.RowKit
theorem iw {a b:Nat} (h:a<b):(a<b)=True:=eq_true h
theorem ix {a b:Nat} (h:b<=a):(a<b)=False:=eq_false (by omega)
theorem iy {a b:Nat} (h:a<=b):(a<=b)=True:=eq_true h
theorem iz {a b:Nat} (h:b<a):(a<=b)=False:=eq_false (by omega)
theorem fk {a b:Nat} (h:a<b\/b<a):(a=b)=False:=eq_false (by omega)
def sU (F F':Nat->I) (p:Prop):List Nat->Prop
 | []=>p
 | i::l=>F' i=F i->sU F F' p l
theorem J8 {F:Nat->I} {p:Prop}:∀(l:List Nat),sU F F p l->p
 | [],h=>h
 | _::l,h=>J8 l (h rfl)
theorem zM {G:Nat->Option I} {Φ:FuncId->Option aO} {tab:FuncId->Option (List I->Option I)} {Y:List cJ} {c:c2} {s:aL} {Q:dg->aL->Prop} (l:List Nat) (h:∀F,sU s.F F (ba G Φ tab Y c ⟨F,s.h⟩ Q) l):ba G Φ tab Y c s Q:=J8 l (h s.F)
end Go.Eng
