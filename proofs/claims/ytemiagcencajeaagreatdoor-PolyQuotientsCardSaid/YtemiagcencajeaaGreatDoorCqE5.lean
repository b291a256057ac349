import Derived.Test.YtemiagcencajeaaGreatDoorCqE4
set_option linter.unusedSimpArgs false
set_option linter.unusedVariables false
set_option linter.unusedSectionVars false
namespace Go.Eng
open Go Go.RowKit
theorem iE {a b:Nat} (h:a<b):(a<b)=True:=eq_true h
theorem iF {a b:Nat} (h:b<=a):(a<b)=False:=eq_false (by omega)
theorem iG {a b:Nat} (h:a<=b):(a<=b)=True:=eq_true h
theorem iH {a b:Nat} (h:b<a):(a<=b)=False:=eq_false (by omega)
theorem fm {a b:Nat} (h:a<b\/b<a):(a=b)=False:=eq_false (by omega)
def su (F F':Nat->J) (p:Prop):List Nat->Prop
 | []=>p
 | i::l=>F' i=F i->su F F' p l
theorem It {F:Nat->J} {p:Prop}:∀(l:List Nat),su F F p l->p
 | [],h=>h
 | _::l,h=>It l (h rfl)
theorem yu {G:Nat->Option J} {Φ:FuncId->Option aZ} {tab:FuncId->Option (List J->Option J)} {Y:List cR} {c:dk} {s:aW} {Q:de->aW->Prop} (l:List Nat) (h:∀F,su s.F F (br G Φ tab Y c ⟨F,s.h⟩ Q) l):br G Φ tab Y c s Q:=It l (h s.F)
end Go.Eng
