import Derived.Test.YtemiagcencajeaaGreatDoorXeE4
set_option linter.unusedSimpArgs false
set_option linter.unusedVariables false
set_option linter.unusedSectionVars false
namespace Go.Eng
open Go Go.RowKit
theorem ig {a b:Nat} (h:a<b):(a<b)=True:=eq_true h
theorem ih {a b:Nat} (h:b<=a):(a<b)=False:=eq_false (by omega)
theorem ij {a b:Nat} (h:a<=b):(a<=b)=True:=eq_true h
theorem ik {a b:Nat} (h:b<a):(a<=b)=False:=eq_false (by omega)
theorem e2 {a b:Nat} (h:a<b\/b<a):(a=b)=False:=eq_false (by omega)
def r3 (F F':Nat->I) (p:Prop):List Nat->Prop
 | []=>p
 | i::l=>F' i=F i->r3 F F' p l
theorem HX {F:Nat->I} {p:Prop}:∀(l:List Nat),r3 F F p l->p
 | [],h=>h
 | _::l,h=>HX l (h rfl)
theorem yc {G:Nat->Option I} {Φ:FuncId->Option aM} {tab:FuncId->Option (List I->Option I)} {Y:List cF} {c:cU} {s:aI} {Q:c0->aI->Prop} (l:List Nat) (h:∀F,r3 s.F F (a7 G Φ tab Y c ⟨F,s.h⟩ Q) l):a7 G Φ tab Y c s Q:=HX l (h s.F)
end Go.Eng
