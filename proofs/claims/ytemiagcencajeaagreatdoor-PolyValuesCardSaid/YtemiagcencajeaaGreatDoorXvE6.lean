import Derived.Test.YtemiagcencajeaaGreatDoorXvE5
set_option linter.unusedSimpArgs false
set_option linter.unusedVariables false
set_option linter.unusedSectionVars false
namespace Go.Eng
open Go Go.RowKit
section
variable {G:Nat->Option I} {Φ:FuncId->Option aP} {tab:FuncId->Option (List I->Option I)} {Y:List cy}
theorem zH {id:Nat} {b:c5} {s:aL} {Q:dd->aL->Prop} (h:ba G Φ tab Y (.block id (.loop b)) s Q):ba G Φ tab Y (.block id (.loop b)) s Q:=h
theorem zI {id:Nat} {f:aT} {ps:List Nat} {dL b:c5} {s:aL} {Q:dd->aL->Prop} (h:ba G Φ tab Y (.block id (.lj f ps dL b)) s Q):ba G Φ tab Y (.block id (.lj f ps dL b)) s Q:=h
def u0 (id n i:Nat) (ak:Nat->aL->Prop) (E R:aL->Prop):dd->aL->Prop
 | .normal,s=>i<n/\ak (i+1) s
 | .exit j,s=>j=id/\E s
 | .ret,s=>R s
theorem iq (id n i:Nat) (ak:Nat->aL->Prop) (E R:aL->Prop) (s:aL):u0 id n i ak E R .normal s=(i<n/\ak (i+1) s):=rfl
theorem ir (id n i j:Nat) (ak:Nat->aL->Prop) (E R:aL->Prop) (s:aL):u0 id n i ak E R (.exit j) s=(j=id/\E s):=rfl
theorem iu (id n i:Nat) (ak:Nat->aL->Prop) (E R:aL->Prop) (s:aL):u0 id n i ak E R .ret s=R s:=rfl
theorem J3 {id:Nat} {b:c5} {Q:dd->aL->Prop} (n:Nat) (ak:Nat->aL->Prop) (E R:aL->Prop) {s:aL} (h:ak 0 s) (round:∀i s,i<=n->ak i s->ba G Φ tab Y b s (u0 id n i ak E R))
 (fin:∀s,E s->Q .normal s) (ret:∀s,R s->Q .ret s):ba G Φ tab Y (.block id (.loop b)) s Q:=by
 refine lD (fun m s=>∃i,m=n - i/\i<=n/\ak i s) E R n ⟨0,by omega,by omega,h⟩ ?_ fin ret
 rintro m s ⟨i,rfl,ab,ql⟩
 refine(round i s ab ql).mono fun ex s h=>?_
 cases ex with
 | normal=>exact ⟨n -(i+1),by have:=h.1;omega,i+1,rfl,h.1,h.2⟩
 | exit j=>exact h
 | ret=>exact h
end
end Go.Eng
