import Derived.Test.YtcikknajimdjoaaGreatDoorFpE5
set_option linter.unusedSimpArgs false
set_option linter.unusedVariables false
set_option linter.unusedSectionVars false
namespace Go.Eng
open Go Go.RowKit
section
variable {G:Nat->Option J} {Φ:FuncId->Option bt} {tab:FuncId->Option (List J->Option J)} {Y:List dm}
theorem aQ {id:Nat} {b:ee} {s:bg} {Q:cX->bg->Prop} (h:cQ G Φ tab Y (.block id (.loop b)) s Q):cQ G Φ tab Y (.block id (.loop b)) s Q:=h
theorem aR {id:Nat} {f:bn} {ps:List Nat} {ei b:ee} {s:bg} {Q:cX->bg->Prop} (h:cQ G Φ tab Y (.block id (.ma f ps ei b)) s Q):cQ G Φ tab Y (.block id (.ma f ps ei b)) s Q:=h
def ui (id n i:Nat) (a3:Nat->bg->Prop) (E R:bg->Prop):cX->bg->Prop
 | .normal,s=>i<n/\a3 (i+1) s
 | .exit j,s=>j=id/\E s
 | .ret,s=>R s
theorem kL (id n i:Nat) (a3:Nat->bg->Prop) (E R:bg->Prop) (s:bg):ui id n i a3 E R .normal s=(i<n/\a3 (i+1) s):=rfl
theorem kM (id n i j:Nat) (a3:Nat->bg->Prop) (E R:bg->Prop) (s:bg):ui id n i a3 E R (.exit j) s=(j=id/\E s):=rfl
theorem kN (id n i:Nat) (a3:Nat->bg->Prop) (E R:bg->Prop) (s:bg):ui id n i a3 E R .ret s=R s:=rfl
theorem FX {id:Nat} {b:ee} {Q:cX->bg->Prop} (n:Nat) (a3:Nat->bg->Prop) (E R:bg->Prop) {s:bg} (h:a3 0 s) (round:∀i s,i<=n->a3 i s->cQ G Φ tab Y b s (ui id n i a3 E R))
 (fin:∀s,E s->Q .normal s) (ret:∀s,R s->Q .ret s):cQ G Φ tab Y (.block id (.loop b)) s Q:=by
 refine mg (fun m s=>∃i,m=n - i/\i<=n/\a3 i s) E R n ⟨0,by omega,by omega,h⟩ ?_ fin ret
 rintro m s ⟨i,rfl,an,qn⟩
 refine(round i s an qn).mono fun ex s h=>?_
 cases ex with
 | normal=>exact ⟨n -(i+1),by have:=h.1;omega,i+1,rfl,h.1,h.2⟩
 | exit j=>exact h
 | ret=>exact h
end
end Go.Eng
