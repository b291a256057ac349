import Derived.Test.YtemiagcencajeaaGreatDoorCqE5
set_option linter.unusedSimpArgs false
set_option linter.unusedVariables false
set_option linter.unusedSectionVars false
namespace Go.Eng
open Go Go.RowKit
section
variable {G:Nat->Option J} {Φ:FuncId->Option aZ} {tab:FuncId->Option (List J->Option J)} {Y:List cR}
theorem yv {id:Nat} {b:dk} {s:aW} {Q:de->aW->Prop} (h:br G Φ tab Y (.block id (.loop b)) s Q):br G Φ tab Y (.block id (.loop b)) s Q:=h
theorem yw {id:Nat} {f:a6} {ps:List Nat} {dK b:dk} {s:aW} {Q:de->aW->Prop} (h:br G Φ tab Y (.block id (.k5 f ps dK b)) s Q):br G Φ tab Y (.block id (.k5 f ps dK b)) s Q:=h
def ud (id n i:Nat) (av:Nat->aW->Prop) (E R:aW->Prop):de->aW->Prop
 | .normal,s=>i<n/\av (i+1) s
 | .exit j,s=>j=id/\E s
 | .ret,s=>R s
theorem iI (id n i:Nat) (av:Nat->aW->Prop) (E R:aW->Prop) (s:aW):ud id n i av E R .normal s=(i<n/\av (i+1) s):=rfl
theorem iJ (id n i j:Nat) (av:Nat->aW->Prop) (E R:aW->Prop) (s:aW):ud id n i av E R (.exit j) s=(j=id/\E s):=rfl
theorem iK (id n i:Nat) (av:Nat->aW->Prop) (E R:aW->Prop) (s:aW):ud id n i av E R .ret s=R s:=rfl
theorem Iu {id:Nat} {b:dk} {Q:de->aW->Prop} (n:Nat) (av:Nat->aW->Prop) (E R:aW->Prop) {s:aW} (h:av 0 s) (round:∀i s,i<=n->av i s->br G Φ tab Y b s (ud id n i av E R))
 (fin:∀s,E s->Q .normal s) (ret:∀s,R s->Q .ret s):br G Φ tab Y (.block id (.loop b)) s Q:=by
 refine lv (fun m s=>∃i,m=n - i/\i<=n/\av i s) E R n ⟨0,by omega,by omega,h⟩ ?_ fin ret
 rintro m s ⟨i,rfl,ab,pI⟩
 refine(round i s ab pI).mono fun ex s h=>?_
 cases ex with
 | normal=>exact ⟨n -(i+1),by have:=h.1;omega,i+1,rfl,h.1,h.2⟩
 | exit j=>exact h
 | ret=>exact h
end
end Go.Eng
