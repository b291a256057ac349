import Derived.Test.YtemiagcencajeaaGreatDoorXeE5
set_option linter.unusedSimpArgs false
set_option linter.unusedVariables false
set_option linter.unusedSectionVars false
namespace Go.Eng
open Go Go.RowKit
section
variable {G:Nat->Option I} {Φ:FuncId->Option aM} {tab:FuncId->Option (List I->Option I)} {Y:List cF}
theorem yd {id:Nat} {b:cU} {s:aI} {Q:c0->aI->Prop} (h:a7 G Φ tab Y (.block id (.loop b)) s Q):a7 G Φ tab Y (.block id (.loop b)) s Q:=h
theorem ye {id:Nat} {f:aQ} {ps:List Nat} {dm b:cU} {s:aI} {Q:c0->aI->Prop} (h:a7 G Φ tab Y (.block id (.kM f ps dm b)) s Q):a7 G Φ tab Y (.block id (.kM f ps dm b)) s Q:=h
def tO (id n i:Nat) (ak:Nat->aI->Prop) (E R:aI->Prop):c0->aI->Prop
 | .normal,s=>i<n/\ak (i+1) s
 | .exit j,s=>j=id/\E s
 | .ret,s=>R s
theorem il (id n i:Nat) (ak:Nat->aI->Prop) (E R:aI->Prop) (s:aI):tO id n i ak E R .normal s=(i<n/\ak (i+1) s):=rfl
theorem im (id n i j:Nat) (ak:Nat->aI->Prop) (E R:aI->Prop) (s:aI):tO id n i ak E R (.exit j) s=(j=id/\E s):=rfl
theorem iq (id n i:Nat) (ak:Nat->aI->Prop) (E R:aI->Prop) (s:aI):tO id n i ak E R .ret s=R s:=rfl
theorem HY {id:Nat} {b:cU} {Q:c0->aI->Prop} (n:Nat) (ak:Nat->aI->Prop) (E R:aI->Prop) {s:aI} (h:ak 0 s) (round:∀i s,i<=n->ak i s->a7 G Φ tab Y b s (tO id n i ak E R))
 (fin:∀s,E s->Q .normal s) (ret:∀s,R s->Q .ret s):a7 G Φ tab Y (.block id (.loop b)) s Q:=by
 refine ld (fun m s=>∃i,m=n - i/\i<=n/\ak i s) E R n ⟨0,by omega,by omega,h⟩ ?_ fin ret
 rintro m s ⟨i,rfl,ab,pq⟩
 refine(round i s ab pq).mono fun ex s h=>?_
 cases ex with
 | normal=>exact ⟨n -(i+1),by have:=h.1;omega,i+1,rfl,h.1,h.2⟩
 | exit j=>exact h
 | ret=>exact h
end
end Go.Eng
