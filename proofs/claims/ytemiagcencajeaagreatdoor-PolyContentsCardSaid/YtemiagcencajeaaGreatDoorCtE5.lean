import Derived.Test.YtemiagcencajeaaGreatDoorCtE4
set_option linter.unusedSimpArgs false
set_option linter.unusedVariables false
set_option linter.unusedSectionVars false
namespace Go.Eng
open Go Go.RowKit
theorem jY {a b:Nat} (h:a<b):(a<b)=True:=eq_true h
theorem jZ {a b:Nat} (h:b<=a):(a<b)=False:=eq_false (by omega)
theorem j0 {a b:Nat} (h:a<=b):(a<=b)=True:=eq_true h
theorem j1 {a b:Nat} (h:b<a):(a<=b)=False:=eq_false (by omega)
theorem fU {a b:Nat} (h:a<b\/b<a):(a=b)=False:=eq_false (by omega)
def an (F F':Nat->J) (p:Prop):List Nat->Prop
 | []=>p
 | i::l=>F' i=F i->an F F' p l
theorem Eg {F:Nat->J} {p:Prop}:∀(l:List Nat),an F F p l->p
 | [],h=>h
 | _::l,h=>Eg l (h rfl)
theorem ao {G:Nat->Option J} {Φ:FuncId->Option bn} {tab:FuncId->Option (List J->Option J)} {Y:List c4} {c:dw} {s:a'} {Q:de->a'->Prop} (l:List Nat) (h:∀F,an s.F F (ck G Φ tab Y c ⟨F,s.h⟩ Q) l):ck G Φ tab Y c s Q:=Eg l (h s.F)
end Go.Eng
