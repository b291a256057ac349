import Derived.Test.YtemiagcencajeaaGreatDoorCtE5
set_option linter.unusedSimpArgs false
set_option linter.unusedVariables false
set_option linter.unusedSectionVars false
namespace Go.Eng
open Go Go.RowKit
section
variable {G:Nat->Option J} {Φ:FuncId->Option bn} {tab:FuncId->Option (List J->Option J)} {Y:List c4}
theorem aT {id:Nat} {b:dw} {s:a'} {Q:de->a'->Prop} (h:ck G Φ tab Y (.block id (.loop b)) s Q):ck G Φ tab Y (.block id (.loop b)) s Q:=h
theorem aU {id:Nat} {f:bf} {ps:List Nat} {dA b:dw} {s:a'} {Q:de->a'->Prop} (h:ck G Φ tab Y (.block id (.k4 f ps dA b)) s Q):ck G Φ tab Y (.block id (.k4 f ps dA b)) s Q:=h
def sB (id n i:Nat) (a3:Nat->a'->Prop) (E R:a'->Prop):de->a'->Prop
 | .normal,s=>i<n/\a3 (i+1) s
 | .exit j,s=>j=id/\E s
 | .ret,s=>R s
theorem j2 (id n i:Nat) (a3:Nat->a'->Prop) (E R:a'->Prop) (s:a'):sB id n i a3 E R .normal s=(i<n/\a3 (i+1) s):=rfl
theorem j3 (id n i j:Nat) (a3:Nat->a'->Prop) (E R:a'->Prop) (s:a'):sB id n i a3 E R (.exit j) s=(j=id/\E s):=rfl
theorem j4 (id n i:Nat) (a3:Nat->a'->Prop) (E R:a'->Prop) (s:a'):sB id n i a3 E R .ret s=R s:=rfl
theorem Eh {id:Nat} {b:dw} {Q:de->a'->Prop} (n:Nat) (a3:Nat->a'->Prop) (E R:a'->Prop) {s:a'} (h:a3 0 s) (round:∀i s,i<=n->a3 i s->ck G Φ tab Y b s (sB id n i a3 E R))
 (fin:∀s,E s->Q .normal s) (ret:∀s,R s->Q .ret s):ck G Φ tab Y (.block id (.loop b)) s Q:=by
 refine l4 (fun m s=>∃i,m=n - i/\i<=n/\a3 i s) E R n ⟨0,by omega,by omega,h⟩ ?_ fin ret
 rintro m s ⟨i,rfl,ag,oY⟩
 refine(round i s ag oY).mono fun ex s h=>?_
 cases ex with
 | normal=>exact⟨n -(i+1),by have:=h.1;omega,i+1,rfl,h.1,h.2⟩
 | exit j=>exact h
 | ret=>exact h
end
end Go.Eng
