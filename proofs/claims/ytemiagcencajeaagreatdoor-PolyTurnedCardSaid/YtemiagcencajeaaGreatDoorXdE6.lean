import Derived.Test.YtemiagcencajeaaGreatDoorXdE5
set_option linter.unusedSimpArgs false
set_option linter.unusedVariables false
set_option linter.unusedSectionVars false
namespace Go.Eng
open Go Go.RowKit
section
variable {G:Nat->Option I} {Φ:FuncId->Option aO} {tab:FuncId->Option (List I->Option I)} {Y:List cJ}
theorem zN {id:Nat} {b:c2} {s:aL} {Q:dg->aL->Prop} (h:ba G Φ tab Y (.block id (.loop b)) s Q):ba G Φ tab Y (.block id (.loop b)) s Q:=h
theorem zO {id:Nat} {f:aS} {ps:List Nat} {dI b:c2} {s:aL} {Q:dg->aL->Prop} (h:ba G Φ tab Y (.block id (.lu f ps dI b)) s Q):ba G Φ tab Y (.block id (.lu f ps dI b)) s Q:=h
def u3 (id n i:Nat) (aj:Nat->aL->Prop) (E R:aL->Prop):dg->aL->Prop
 | .normal,s=>i<n/\aj (i+1) s
 | .exit j,s=>j=id/\E s
 | .ret,s=>R s
theorem iA (id n i:Nat) (aj:Nat->aL->Prop) (E R:aL->Prop) (s:aL):u3 id n i aj E R .normal s=(i<n/\aj (i+1) s):=rfl
theorem iB (id n i j:Nat) (aj:Nat->aL->Prop) (E R:aL->Prop) (s:aL):u3 id n i aj E R (.exit j) s=(j=id/\E s):=rfl
theorem iC (id n i:Nat) (aj:Nat->aL->Prop) (E R:aL->Prop) (s:aL):u3 id n i aj E R .ret s=R s:=rfl
theorem J9 {id:Nat} {b:c2} {Q:dg->aL->Prop} (n:Nat) (aj:Nat->aL->Prop) (E R:aL->Prop) {s:aL} (h:aj 0 s) (round:∀i s,i<=n->aj i s->ba G Φ tab Y b s (u3 id n i aj E R))
 (fin:∀s,E s->Q .normal s) (ret:∀s,R s->Q .ret s):ba G Φ tab Y (.block id (.loop b)) s Q:=by
 refine lO (fun m s=>∃i,m=n - i/\i<=n/\aj i s) E R n ⟨0,by omega,by omega,h⟩ ?_ fin ret
 rintro m s ⟨i,rfl,ab,qk⟩
 refine(round i s ab qk).mono fun ex s h=>?_
 cases ex with
 | normal=>exact ⟨n -(i+1),by have:=h.1;omega,i+1,rfl,h.1,h.2⟩
 | exit j=>exact h
 | ret=>exact h
end
end Go.Eng
