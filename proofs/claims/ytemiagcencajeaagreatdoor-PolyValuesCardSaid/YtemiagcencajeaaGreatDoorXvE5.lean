import Derived.Test.YtemiagcencajeaaGreatDoorXvE4
set_option linter.unusedSimpArgs false
set_option linter.unusedVariables false
set_option linter.unusedSectionVars false
namespace Go.Eng
open Go Go.RowKit
theorem ij {a b:Nat} (h:a<b):(a<b)=True:=eq_true h
theorem ik {a b:Nat} (h:b<=a):(a<b)=False:=eq_false (by omega)
theorem il {a b:Nat} (h:a<=b):(a<=b)=True:=eq_true h
theorem im {a b:Nat} (h:b<a):(a<=b)=False:=eq_false (by omega)
theorem e_ {a b:Nat} (h:a<b\/b<a):(a=b)=False:=eq_false (by omega)
def sQ (F F':Nat->I) (p:Prop):List Nat->Prop
 | []=>p
 | i::l=>F' i=F i->sQ F F' p l
theorem J2 {F:Nat->I} {p:Prop}:∀(l:List Nat),sQ F F p l->p
 | [],h=>h
 | _::l,h=>J2 l (h rfl)
theorem zG {G:Nat->Option I} {Φ:FuncId->Option aP} {tab:FuncId->Option (List I->Option I)} {Y:List cy} {c:c5} {s:aL} {Q:dd->aL->Prop} (l:List Nat) (h:∀F,sQ s.F F (ba G Φ tab Y c ⟨F,s.h⟩ Q) l):ba G Φ tab Y c s Q:=J2 l (h s.F)
end Go.Eng
