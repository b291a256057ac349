import Derived.Test.YtcikknajimdjoaaGreatDoorFpE4
set_option linter.unusedSimpArgs false
set_option linter.unusedVariables false
set_option linter.unusedSectionVars false
namespace Go.Eng
open Go Go.RowKit
theorem kH {a b:Nat} (h:a<b):(a<b)=True:=eq_true h
theorem kI {a b:Nat} (h:b<=a):(a<b)=False:=eq_false (by omega)
theorem kJ {a b:Nat} (h:a<=b):(a<=b)=True:=eq_true h
theorem kK {a b:Nat} (h:b<a):(a<=b)=False:=eq_false (by omega)
theorem gL {a b:Nat} (h:a<b\/b<a):(a=b)=False:=eq_false (by omega)
def ak (F F':Nat->J) (p:Prop):List Nat->Prop
 | []=>p
 | i::l=>F' i=F i->ak F F' p l
theorem FW {F:Nat->J} {p:Prop}:∀(l:List Nat),ak F F p l->p
 | [],h=>h
 | _::l,h=>FW l (h rfl)
theorem al {G:Nat->Option J} {Φ:FuncId->Option bt} {tab:FuncId->Option (List J->Option J)} {Y:List dm} {c:ee} {s:bg} {Q:cX->bg->Prop} (l:List Nat) (h:∀F,ak s.F F (cQ G Φ tab Y c ⟨F,s.h⟩ Q) l):cQ G Φ tab Y c s Q:=FW l (h s.F)
end Go.Eng
