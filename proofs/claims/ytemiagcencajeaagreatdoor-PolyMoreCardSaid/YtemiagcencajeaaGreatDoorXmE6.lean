import Derived.Test.YtemiagcencajeaaGreatDoorXmE5
set_option linter.unusedSimpArgs false
set_option linter.unusedVariables false
set_option linter.unusedSectionVars false
namespace Go.Eng
open Go Go.RowKit
section
variable {G:Nat->Option I} {Φ:FuncId->Option aP} {tab:FuncId->Option (List I->Option I)} {Y:List cy}
theorem yN {id:Nat} {b:cU} {s:aK} {Q:da->aK->Prop} (h:a' G Φ tab Y (.block id (.loop b)) s Q):a' G Φ tab Y (.block id (.loop b)) s Q:=h
theorem yO {id:Nat} {f:aR} {ps:List Nat} {dt b:cU} {s:aK} {Q:da->aK->Prop} (h:a' G Φ tab Y (.block id (.k6 f ps dt b)) s Q):a' G Φ tab Y (.block id (.k6 f ps dt b)) s Q:=h
def uf (id n i:Nat) (ah:Nat->aK->Prop) (E R:aK->Prop):da->aK->Prop
 | .normal,s=>i<n/\ah (i+1) s
 | .exit j,s=>j=id/\E s
 | .ret,s=>R s
theorem iZ (id n i:Nat) (ah:Nat->aK->Prop) (E R:aK->Prop) (s:aK):uf id n i ah E R .normal s=(i<n/\ah (i+1) s):=rfl
theorem i_ (id n i j:Nat) (ah:Nat->aK->Prop) (E R:aK->Prop) (s:aK):uf id n i ah E R (.exit j) s=(j=id/\E s):=rfl
theorem i' (id n i:Nat) (ah:Nat->aK->Prop) (E R:aK->Prop) (s:aK):uf id n i ah E R .ret s=R s:=rfl
theorem I4 {id:Nat} {b:cU} {Q:da->aK->Prop} (n:Nat) (ah:Nat->aK->Prop) (E R:aK->Prop) {s:aK} (h:ah 0 s) (round:∀i s,i<=n->ah i s->a' G Φ tab Y b s (uf id n i ah E R))
 (fin:∀s,E s->Q .normal s) (ret:∀s,R s->Q .ret s):a' G Φ tab Y (.block id (.loop b)) s Q:=by
 refine ln (fun m s=>∃i,m=n - i/\i<=n/\ah i s) E R n ⟨0,by omega,by omega,h⟩ ?_ fin ret
 rintro m s ⟨i,rfl,ab,pY⟩
 refine(round i s ab pY).mono fun ex s h=>?_
 cases ex with
 | normal=>exact ⟨n -(i+1),by have:=h.1;omega,i+1,rfl,h.1,h.2⟩
 | exit j=>exact h
 | ret=>exact h
end
end Go.Eng
