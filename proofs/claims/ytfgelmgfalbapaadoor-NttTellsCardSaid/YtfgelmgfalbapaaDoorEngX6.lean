/- Whole bodies and calls: what the reckoner answers, the model's run answers. -/
import Derived.Test.YtfgelmgfalbapaaDoorEngX5
import Derived.LoopN
namespace Go.Eng
open Go Go.RowKit

def exOf : Ex → Exit
  | .normal => .normal
  | .exit id => .exit id
  | .ret => .ret

section
variable {P : Program} {G : Nat → Option AV} {base : Nat} {okin : Nat → Prop} {N : Nat} {m0 : Nat} {σ0 : Nat → Option (Nat × Nat)} {tab : FuncId → Option (List AV → Option AV)}

theorem Sim.bump {lo : Nat → Prop} {σ : Nat → Option (Nat × Nat)} {s : St} {a : Act} {w : World} (S : Sim G base okin N m0 σ0 lo σ s a w) (m : Nat) :
    Sim G base okin N m0 σ0 (fun id => s.h.next ≤ id ∧ id < s.h.next + m) σ ⟨s.F, { s.h with next := s.h.next + m }⟩ a w :=
  ⟨⟨S.hs.val, S.hs.blk, S.hs.inj, S.hs.base⟩, S.fr, S.size, S.defers, fun id hid => ⟨Nat.le_trans S.low hid.1, hid.2, S.fresh id hid.1⟩, Nat.le_trans S.low (Nat.le_add_right _ _), S.old, fun id hid => S.fresh id (Nat.le_trans (Nat.le_add_right _ _) hid)⟩

theorem Prog.next {σ σ' : Nat → Option (Nat × Nat)} {h h' : Hp} {w w' : World} {m : Nat} (p : Prog base okin σ { h with next := m } w σ' h' w') : Prog base okin σ h w σ' h' w' := ⟨p.sub, p.keep, p.below, p.grow⟩

theorem Sim.drew {lo : Nat → Prop} {σ : Nat → Option (Nat × Nat)} {s : St} {a : Act} {w : World} (S : Sim G base okin N m0 σ0 lo σ s a w) : Sim G base okin N m0 σ0 lo σ s a w.drew := by
  obtain ⟨H, p⟩ := S.hs.drew
  exact ⟨H, S.fr.mono p, S.size, S.defers, S.free, S.low, S.old, S.fresh⟩

theorem region_sim (hm : P.follows .mixedOrders = true) {callf : FuncId → List AV → Hp → Option (AV × Hp)} (hcall : CallOk P G callf) (htab : ∀ f T, tab f = some T → Contract P G f T)
    {id : Nat} {ops : Array Oper} {draw : Bool} {es : List IEn} {b : List Nat} {dr : Bool} (hc : compC P N (.region id ops draw) = some (.region dr es b)) {s s' : St} (hrun : runRegion G tab callf dr es b s = some s')
    {lo : Nat → Prop} {σ : Nat → Option (Nat × Nat)} {a : Act} {w : World} (S : Sim G base okin N m0 σ0 lo σ s a w) {Q : Exit → Act → World → Prop}
    (hQ : ∀ σ' a' w', Sim G base okin N m0 σ0 (fun _ => False) σ' s' a' w' → Prog base okin σ s.h w σ' s'.h w' → Q .normal a' w') : (Code.region id ops draw).wp P Q a w := by
  simp only [compC] at hc
  split at hc <;> try (cases hc; done)
  rename_i es0 hes
  obtain ⟨l1, q1⟩ := compOs_spec hes
  have hsz : es0.length = ops.size := by simpa using l1
  unfold runRegion at hrun
  split at hrun <;> try (cases hrun; done)
  rename_i s1 cs hr
  split at hrun <;> try (cases hrun; done)
  rename_i hok
  cases hrun
  have hmem : ∀ (es : List IEn), es = es0 → ∀ p ∈ es.zipIdx, ∃ o, ops[p.2]? = some o ∧ compO P N ops o = some p.1 ∧ p.2 < ops.size := by
    rintro es rfl p hp
    obtain ⟨e, i⟩ := p
    have h1 := List.mem_zipIdx_iff_getElem?.1 hp
    simp only at h1
    obtain ⟨hi, rfl⟩ := List.getElem?_eq_some_iff.1 h1
    have hi' : i < ops.toList.length := by simp; omega
    have := q1 i hi hi'
    refine ⟨ops[i]'(by simpa using hi'), by simp [Array.getElem?_eq_getElem (show i < ops.size by simpa using hi')], by simpa using this, by simpa using hi'⟩
  have hincr : ∀ (es : List IEn), es.zipIdx.Pairwise (fun p q => p.2 < q.2) := by
    intro es
    rw [List.pairwise_iff_getElem]
    intro i j hi hj hij
    simpa using hij
  cases draw with
  | false =>
    simp only [Bool.false_eq_true, if_false] at hc
    cases hc
    refine wp_region ?_
    have hmap : es.zipIdx.map (·.2) = List.range ops.size := by
      rw [← hsz]
      apply List.ext_getElem
      · simp
      · intro i h1 h2; simp
    rw [← hmap]
    refine runOps_sim hcall htab _ _ cs σ a w (fun p hp => by obtain ⟨o, h1, h2, _⟩ := hmem es rfl p hp; exact ⟨o, h1, h2⟩) (hincr es) hr ((S.bump es.length).weaken ?_) (fun σ' a' w' S' hb => hQ σ' a' w' S' hb.next)
    rintro id ⟨p, hp, rfl⟩
    obtain ⟨_, _, _, h3⟩ := hmem es rfl p hp
    exact ⟨Nat.le_add_right _ _, by omega⟩
  | true =>
    simp only [if_true] at hc
    split at hc <;> try (cases hc; done)
    rename_i hchk
    cases hc
    simp only [Bool.and_eq_true] at hchk
    obtain ⟨⟨⟨n1, n2⟩, n3⟩, n4⟩ := hchk
    simp only [Bool.not_true, Bool.false_or] at hok
    refine wp_region_any hm ?_
    have hlen := runOps_len hr
    refine any_sim hcall htab n3 n2 ops.size es.zipIdx _ cs _ σ a _ (by simp; omega) ?_ hr (((S.drew).bump es.length).weaken ?_) (fun σ' a' w' S' hb => hQ σ' a' w' S' ?_)
    · refine ⟨by simp, fun p hp => ?_, fun i hi _ => ?_, hincr es, fun i hi hl => ?_, fun p q hp hq hq' => ?_⟩
      · obtain ⟨o, h1, h2, h3⟩ := hmem es rfl p hp
        exact ⟨o, h1, h2, by simp [Array.getD_eq_getD_getElem?, h3]⟩
      · exact ⟨es[i]'(by omega), by rw [List.mem_zipIdx_iff_getElem?]; simp [List.getElem?_eq_getElem (show i < es.length by omega)]⟩
      · simp [Array.getD_eq_getD_getElem?, hi] at hl
      · have hq2 : q < es.length := by simpa using hq
        have hp2 : p < es.length := by omega
        simp only [List.getElem_zipIdx, Nat.zero_add]
        have a1 := List.all_eq_true.1 n1 (es[q], q) (by rw [List.mem_zipIdx_iff_getElem?]; simp [List.getElem?_eq_getElem hq2])
        have a2 := List.all_eq_true.1 a1 (es[p], p) (by rw [List.mem_zipIdx_iff_getElem?]; simp [List.getElem?_eq_getElem hp2])
        have b1 := List.all_eq_true.1 hok (cs[q], q) (by rw [List.mem_zipIdx_iff_getElem?]; simp [List.getElem?_eq_getElem hq'])
        have b2 := List.all_eq_true.1 b1 (cs[p]'(by omega), p) (by rw [List.mem_zipIdx_iff_getElem?]; simp [List.getElem?_eq_getElem (show p < cs.length by omega)])
        simp only [decide_eq_true hp, Bool.not_true, Bool.false_or, Bool.or_eq_true] at a2 b2
        rcases a2 with a2 | a2
        · exact .inl a2
        · rcases b2 with b2 | b2
          · exact .inl b2
          · exact .inr ⟨a2, b2⟩
    · rintro id ⟨p, hp, rfl⟩
      obtain ⟨_, _, _, h3⟩ := hmem es rfl p hp
      exact ⟨Nat.le_add_right _ _, by simp; omega⟩
    · exact Prog.trans S.hs.drew.2 hb.next

def resFn (tmps : Array Value) : ResultVar → Sem Value
  | .tmp t => pure (tmps.getD t undef)
  | .cell a t => do loadVar t (← asAddr (tmps.getD a undef))

theorem results_eq (fn : Func) (tmps : Array Value) : results fn tmps = (do let vs ← fn.results.mapM (resFn tmps); pure (if h : vs.size = 1 then vs[0] else .tuple vs)) := by
  unfold results
  congr 1

theorem results_run {fn : Func} {rs : List RV} (hrs : compRs P fn.results.toList = some rs) {lo : Nat → Prop} {σ : Nat → Option (Nat × Nat)} {s : St} {a : Act} {w : World} (S : Sim G base okin N m0 σ0 lo σ s a w) {v : AV} (hv : resAll s.h s.F rs = some v) :
    ∃ cv, (results fn a.tmps).run P w = .ok cv w ∧ Rep w (okOf base okin σ s.h) σ v cv := by
  have main : ∀ (rl : List ResultVar) (rs : List RV) (vs : List AV), compRs P rl = some rs → rs.mapM (resOf s.h s.F) = some vs →
      ∃ cvs : List Value, (rl.mapM (resFn a.tmps)).run P w = .ok cvs w ∧ cvs.length = vs.length ∧ ∀ i (h : i < vs.length) (h' : i < cvs.length), Rep w (okOf base okin σ s.h) σ vs[i] cvs[i] := by
    intro rl
    induction rl with
    | nil =>
      intro rs vs h1 h2
      simp only [compRs] at h1; cases h1
      simp only [List.mapM_nil] at h2; cases h2
      exact ⟨[], by simp, rfl, fun i h => absurd h (by simp)⟩
    | cons r rl ih =>
      intro rs vs h1 h2
      simp only [compRs] at h1
      split at h1 <;> try (cases h1; done)
      rename_i x xs hx hxs
      cases h1
      rw [List.mapM_cons] at h2
      obtain ⟨u, hu, h2⟩ := Option.bind_eq_some_iff.1 h2
      obtain ⟨us, hus, h2⟩ := Option.bind_eq_some_iff.1 h2
      cases h2
      obtain ⟨cvs, e1, e2, e3⟩ := ih xs us hxs hus
      have one : ∃ cu, (resFn a.tmps r).run P w = .ok cu w ∧ Rep w (okOf base okin σ s.h) σ u cu := by
        cases r with
        | tmp t =>
          simp only [compR] at hx; cases hx
          simp only [resOf] at hu; cases hu
          exact ⟨_, rfl, S.fr.slot t⟩
        | cell a' t =>
          simp only [compR] at hx
          split at hx <;> try (cases hx; done)
          rename_i ag sz hag hsz
          split at hx <;> try (cases hx; done)
          rename_i h4
          cases hx
          simp only [resOf] at hu
          split at hu <;> try (cases hu; done)
          rename_i id idx foff hF
          obtain ⟨blk, hb, hu⟩ := Option.bind_eq_some_iff.1 hu
          obtain ⟨e, he, hu⟩ := Option.bind_eq_some_iff.1 hu
          obtain ⟨cs, hcut, hp⟩ := Option.bind_eq_some_iff.1 hu
          have rt := S.fr.slot a'
          rw [hF] at rt
          obtain ⟨bb, szb, ev, hs⟩ := rt.ptr_inv
          obtain ⟨vals, g1, g2⟩ := S.hs.elem hb he hs hcut
          obtain ⟨cv, k1, k2⟩ := run_loadVar_of (P := P) (w := w) (σ := σ) (ok := okOf base okin σ s.h) hag hsz h4 _ vals g1 (cut_spec hcut).2.1 g2 hp
          exact ⟨cv, by simp [resFn, ev, asAddr, k1], k2⟩
      obtain ⟨cu, c1, c2⟩ := one
      refine ⟨cu :: cvs, ?_, by simp [e2], fun i hi hi' => ?_⟩
      · rw [List.mapM_cons]
        simp only [Sem.run_bind]
        rw [c1]
        simp only [Result.andThen_ok]
        rw [e1]
        simp
      · cases i with
        | zero => exact c2
        | succ i => exact e3 i (by simpa using hi) (by simpa using hi')
  unfold resAll at hv
  obtain ⟨vs, h1, h2⟩ := Option.map_eq_some_iff.1 hv
  obtain ⟨cvs, e1, e2, e3⟩ := main _ _ _ hrs h1
  have hrun : (results fn a.tmps).run P w = .ok (if h : cvs.toArray.size = 1 then cvs.toArray[0] else .tuple cvs.toArray) w := by
    rw [results_eq, Array.mapM_eq_mapM_toList]
    simp only [Sem.run_bind, Sem.run_map]
    rw [e1]
    simp
  refine ⟨_, hrun, ?_⟩
  split at h2
  · rename_i v0
    subst h2
    have hl : cvs.length = 1 := by simpa using e2
    rw [dif_pos (by simpa using hl)]
    have := e3 0 (by simp) (by omega)
    simpa using this
  · rename_i hne
    subst h2
    have hl : cvs.length ≠ 1 := by
      intro hl
      rw [e2] at hl
      obtain ⟨v0, rfl⟩ := List.length_eq_one_iff.1 hl
      exact hne v0 rfl
    rw [dif_neg (by simpa using hl)]
    exact .tup _ _ (by simpa using e2) (fun i hi hi' => by simpa using e3 i hi (by simpa using hi'))

theorem compF_spec {fn : Func} {f : IFun} (h : compF P fn = some f) : ∃ c, fn.body = some c ∧ compC P fn.ntmps c = some f.body ∧ compRs P fn.results.toList = some f.res ∧ fn.name ≠ "runtime.NumGoroutine" := by
  unfold compF at h
  split at h <;> try (cases h; done)
  rename_i hn
  split at h <;> try (cases h; done)
  rename_i c hb
  split at h <;> try (cases h; done)
  rename_i b rs h1 h2
  cases h
  exact ⟨c, hb, h1, h2, by simpa using hn⟩

theorem run_callFunc {f : FuncId} {fn : Func} (hf : P.funcs[f]? = some fn) {c : Code} (hb : fn.body = some c) (hn : fn.name ≠ "runtime.NumGoroutine") (args : Array Value) (w : World) : (callFunc f args).run P w = .ok (.enter f args) w := by
  simp [callFunc, hf, hb, hn]

/-- The body of a call, walked by the reckoner. -/
def callB (G : Nat → Option AV) (Φ : FuncId → Option IFun) (tab : FuncId → Option (List AV → Option AV)) (n : Nat) (f : FuncId) (args : List AV) (h : Hp) : Option (AV × Hp) :=
  match Φ f with
  | some fn => match exec G Φ tab n fn.body ⟨argF args, h⟩ with
    | some (.normal, s') | some (.ret, s') => (resAll s'.h s'.F fn.res).map fun v => (v, s'.h)
    | _ => none
  | none => none

def ExecOk (P : Program) (G : Nat → Option AV) (tab : FuncId → Option (List AV → Option AV)) (n : Nat) : Prop :=
  ∀ (N : Nat) (c : Code) (ic : IC) (s : St) (ex : Ex) (s' : St), compC P N c = some ic → exec G (phi P) tab n ic s = some (ex, s') → s.h.next ≤ s'.h.next ∧
    ∀ (base : Nat) (okin : Nat → Prop) (m0 : Nat) (σ0 : Nat → Option (Nat × Nat)) (σ : Nat → Option (Nat × Nat)) (a : Act) (w : World) (Q : Exit → Act → World → Prop), Sim G base okin N m0 σ0 (fun _ => False) σ s a w →
      (∀ σ' a' w', Sim G base okin N m0 σ0 (fun _ => False) σ' s' a' w' → Prog base okin σ s.h w σ' s'.h w' → Q (exOf ex) a' w') → c.wp P Q a w

theorem callB_ok (_hm : P.follows .mixedOrders = true) {n : Nat} (IH : ExecOk P G tab n) : CallOk P G (callB G (phi P) tab n) := by
  intro f args h v h' hc
  unfold callB at hc
  split at hc <;> try (cases hc; done)
  rename_i fn hf
  obtain ⟨Fn, hF, hcf⟩ := Option.bind_eq_some_iff.1 hf
  obtain ⟨c, hb, hcc, hrs, hname⟩ := compF_spec hcf
  -- both ways of ending
  have ends : ∃ ex s', exec G (phi P) tab n fn.body ⟨argF args, h⟩ = some (ex, s') ∧ (ex = .normal ∨ ex = .ret) ∧ resAll s'.h s'.F fn.res = some v ∧ s'.h = h' := by
    split at hc
    · rename_i s' he
      obtain ⟨u, hu, hc⟩ := Option.map_eq_some_iff.1 hc
      cases hc
      exact ⟨_, s', he, .inl rfl, hu, rfl⟩
    · rename_i s' he
      obtain ⟨u, hu, hc⟩ := Option.map_eq_some_iff.1 hc
      cases hc
      exact ⟨_, s', he, .inr rfl, hu, rfl⟩
    · cases hc
  obtain ⟨ex, s', he, hex, hres, rfl⟩ := ends
  obtain ⟨hn, hwp⟩ := IH Fn.ntmps c fn.body ⟨argF args, h⟩ ex s' hcc he
  refine ⟨hn, fun base okin σ w cargs H hsz hargs hglob hfresh => .inl ⟨run_callFunc hF hb hname _ _, ?_⟩⟩
  refine calls_of_wp hF hb ?_
  have S : Sim G base okin Fn.ntmps h.next σ (fun _ => False) σ ⟨argF args, h⟩ { tmps := cargs ++ Array.replicate (Fn.ntmps - cargs.size) undef, defers := [] } w := by
    refine ⟨H, ⟨fun t => ?_, hglob⟩, by simp; omega, rfl, fun id hid => hid.elim, Nat.le_refl _, fun _ _ => rfl, hfresh⟩
    simp only [argF]
    by_cases ht : t < args.length
    · have hlt : t < cargs.size := by omega
      have e1 : args.getD t .undef = args[t] := by simp [List.getD, ht]
      have e2 : (cargs ++ Array.replicate (Fn.ntmps - cargs.size) undef).getD t undef = cargs[t] := by
        rw [getD_lt _ _ (by simp; omega), Array.getElem_append_left hlt]
      rw [e1, e2]
      exact hargs t ht hlt
    · have e1 : args.getD t .undef = .undef := by simp [List.getD, List.getElem?_eq_none (Nat.le_of_not_lt ht)]
      rw [e1]; exact .undef _
  -- what the end leaves
  have done : ∀ σ' a' w', Sim G base okin Fn.ntmps h.next σ (fun _ => False) σ' s' a' w' → Prog base okin σ h w σ' s'.h w' → a'.defers = [] ∧ ∃ cv, (results Fn a'.tmps).run P w' = .ok cv w' ∧
      ∃ cv', Ending.returned cv = .returned cv' ∧ ∃ σ', Prog base okin σ h w σ' s'.h w' ∧ HS base okin σ' s'.h w' ∧ Rep w' (okOf base okin σ' s'.h) σ' v cv' ∧ (∀ id, s'.h.next ≤ id → σ' id = none) ∧ ∀ id, id < h.next → σ' id = σ id := by
    intro σ' a' w' S' p
    obtain ⟨cv, k1, k2⟩ := results_run hrs S' hres
    exact ⟨S'.defers, cv, k1, cv, rfl, σ', p, S'.hs, k2, S'.fresh, S'.old⟩
  refine hwp base okin h.next σ σ _ w _ S (fun σ' a' w' S' p => ?_)
  obtain ⟨d1, cv, d2, d3⟩ := done σ' a' w' S' p
  rcases hex with rfl | rfl
  · exact ⟨d1, cv, d2, d3⟩
  · exact ⟨d1, cv, d2, d3⟩


theorem runOps_next {callf : FuncId → List AV → Hp → Option (AV × Hp)} (hcall : CallOk P G callf) {n0 : Nat} : ∀ {L : List (IEn × Nat)} {s s' : St} {cs : List Cls}, runOps G tab callf n0 L s = some (s', cs) → s.h.next ≤ s'.h.next
  | [], s, s', cs, h => by simp only [runOps] at h; cases h; exact Nat.le_refl _
  | (e, i) :: L, s, s', cs, h => by
    simp only [runOps] at h
    split at h <;> try (cases h; done)
    rename_i s1 c h1
    obtain ⟨p, h2, h3⟩ := Option.map_eq_some_iff.1 h
    cases h3
    refine Nat.le_trans ?_ (runOps_next hcall h2)
    have go : ∀ {s1 : St} {c : Cls}, goOp G tab callf n0 (n0 + i) e s = some (s1, c) → s.h.next ≤ s1.h.next := by
      intro s1 c hg
      unfold goOp at hg
      split at hg
      · split at hg <;> try (cases hg; done)
        split at hg
        · split at hg <;> try (cases hg; done)
          obtain ⟨v, _, hg⟩ := Option.map_eq_some_iff.1 hg
          cases hg
          exact Nat.le_refl _
        · obtain ⟨q, hq, hg⟩ := Option.map_eq_some_iff.1 hg
          obtain ⟨v, h'⟩ := q
          cases hg
          exact (hcall _ _ _ _ _ hq).1
      · obtain ⟨q, hq, hg⟩ := Option.map_eq_some_iff.1 hg
        obtain ⟨v, h', c0⟩ := q
        have hs1 : (⟨putO s.F e.dst v, h'⟩ : St) = s1 := congrArg Prod.fst hg
        subst hs1
        exact Nat.le_of_eq (evalOp_eff hq).1.symm
    unfold runOp at h1
    split at h1
    · exact go h1
    · split at h1 <;> try (cases h1; done)
      split at h1
      · exact go h1
      · cases h1; exact Nat.le_refl _

theorem exec_succ (G : Nat → Option AV) (Φ : FuncId → Option IFun) (tab : FuncId → Option (List AV → Option AV)) (n : Nat) (c : IC) (s : St) : exec G Φ tab (n + 1) c s = match c with
    | .skip => some (.normal, s)
    | .ret => some (.ret, s)
    | .exit id => some (.exit id, s)
    | .region draw ops bef => (runRegion G tab (callB G Φ tab n) draw ops bef s).map fun s' => (.normal, s')
    | .seq a b => match exec G Φ tab n a s with
      | some (.normal, s') => exec G Φ tab n b s'
      | r => r
    | .cond x a b => match x.ev G s.F with
      | .bool t => if t then exec G Φ tab n a s else exec G Φ tab n b s
      | _ => none
    | .block id b => match exec G Φ tab n b s with
      | some (.exit i, s') => if i = id then some (.normal, s') else some (.exit i, s')
      | r => r
    | .loop b => match exec G Φ tab n b s with
      | some (.normal, s') => exec G Φ tab n (.loop b) s'
      | r => r := by
  cases c <;> rfl

theorem rounds_ok {c : Code} {ic : IC} (hc : compC P N c = some ic) : ∀ (m : Nat), (∀ k, k < m → ExecOk P G tab k) → ∀ (s : St) (ex : Ex) (s' : St), exec G (phi P) tab m (.loop ic) s = some (ex, s') → s.h.next ≤ s'.h.next ∧
    ∀ (base : Nat) (okin : Nat → Prop) (m0 : Nat) (σ0 σ : Nat → Option (Nat × Nat)) (a : Act) (w : World) (Q : Exit → Act → World → Prop), Sim G base okin N m0 σ0 (fun _ => False) σ s a w →
      (∀ σ' a' w', Sim G base okin N m0 σ0 (fun _ => False) σ' s' a' w' → Prog base okin σ s.h w σ' s'.h w' → Q (exOf ex) a' w') → Code.rounds P c Q m a w
  | 0, _, s, ex, s', he => by unfold exec at he; cases he
  | m + 1, IH, s, ex, s', he => by
    rw [exec_succ] at he
    simp only at he
    split at he
    · rename_i s1 h1
      obtain ⟨n1, w1⟩ := IH m (Nat.lt_succ_self m) N c ic s _ s1 hc h1
      obtain ⟨n2, w2⟩ := rounds_ok hc m (fun k hk => IH k (Nat.lt_succ_of_lt hk)) s1 ex s' he
      refine ⟨Nat.le_trans n1 n2, fun base okin m0 σ0 σ a w Q S hQ => ?_⟩
      rw [rounds_succ]
      exact w1 base okin m0 σ0 σ a w _ S fun σ1 a1 w1' S1 p1 => w2 base okin m0 σ0 σ1 a1 w1' Q S1 fun σ2 a2 w2' S2 p2 => hQ σ2 a2 w2' S2 (p1.trans p2)
    · rename_i hne
      obtain ⟨n1, w1⟩ := IH m (Nat.lt_succ_self m) N c ic s ex s' hc he
      refine ⟨n1, fun base okin m0 σ0 σ a w Q S hQ => ?_⟩
      rw [rounds_succ]
      refine w1 base okin m0 σ0 σ a w _ S fun σ1 a1 w1' S1 p1 => ?_
      have := hQ σ1 a1 w1' S1 p1
      cases ex with
      | normal => exact absurd he (hne s')
      | exit id => exact this
      | ret => exact this

theorem exec_ok (hm : P.follows .mixedOrders = true) (htab : ∀ f T, tab f = some T → Contract P G f T) : ∀ n, ExecOk P G tab n := by
  intro n
  induction n using Nat.strongRecOn with
  | _ n IH =>
  intro N c ic s ex s' hc he
  cases n with
  | zero => unfold exec at he; cases he
  | succ n =>
  have ih := IH n (Nat.lt_succ_self n)
  have he0 := he
  rw [exec_succ] at he
  cases c with
  | skip =>
    simp only [compC] at hc; cases hc
    cases he
    exact ⟨Nat.le_refl _, fun base okin m0 σ0 σ a w Q S hQ => wp_skip (hQ σ a w S (Prog.refl ..))⟩
  | ret =>
    simp only [compC] at hc; cases hc
    cases he
    exact ⟨Nat.le_refl _, fun base okin m0 σ0 σ a w Q S hQ => wp_ret (hQ σ a w S (Prog.refl ..))⟩
  | exit id =>
    simp only [compC] at hc; cases hc
    cases he
    exact ⟨Nat.le_refl _, fun base okin m0 σ0 σ a w Q S hQ => wp_exit (hQ σ a w S (Prog.refl ..))⟩
  | region id ops draw =>
    have hc0 := hc
    have hform : ∃ dr es b, ic = .region dr es b := by
      simp only [compC] at hc
      split at hc <;> try (cases hc; done)
      split at hc
      · split at hc <;> try (cases hc; done)
        cases hc; exact ⟨_, _, _, rfl⟩
      · cases hc; exact ⟨_, _, _, rfl⟩
    obtain ⟨dr, es, b, rfl⟩ := hform
    simp only at he
    obtain ⟨s1, h1, he⟩ := Option.map_eq_some_iff.1 he
    cases he
    have hcall := callB_ok hm ih
    refine ⟨?_, fun base okin m0 σ0 σ a w Q S hQ => region_sim hm hcall htab hc0 h1 S hQ⟩
    unfold runRegion at h1
    split at h1 <;> try (cases h1; done)
    rename_i s2 cs h2
    split at h1 <;> try (cases h1; done)
    cases h1
    exact Nat.le_trans (Nat.le_add_right _ _) (runOps_next hcall h2)
  | seq x y =>
    simp only [compC] at hc
    split at hc <;> try (cases hc; done)
    rename_i ix iy hx hy
    cases hc
    simp only at he
    split at he
    · rename_i s1 h1
      obtain ⟨n1, w1⟩ := ih N x ix s _ s1 hx h1
      obtain ⟨n2, w2⟩ := ih N y iy s1 ex s' hy he
      refine ⟨Nat.le_trans n1 n2, fun base okin m0 σ0 σ a w Q S hQ => wp_seq ?_⟩
      exact w1 base okin m0 σ0 σ a w _ S fun σ1 a1 w1' S1 p1 => w2 base okin m0 σ0 σ1 a1 w1' Q S1 fun σ2 a2 w2' S2 p2 => hQ σ2 a2 w2' S2 (p1.trans p2)
    · rename_i hne
      obtain ⟨n1, w1⟩ := ih N x ix s ex s' hx he
      refine ⟨n1, fun base okin m0 σ0 σ a w Q S hQ => wp_seq ?_⟩
      refine w1 base okin m0 σ0 σ a w _ S fun σ1 a1 w1' S1 p1 => ?_
      have := hQ σ1 a1 w1' S1 p1
      cases ex with
      | normal => exact absurd he (hne s')
      | exit id => exact this
      | ret => exact this
  | cond x y z =>
    simp only [compC] at hc
    split at hc <;> try (cases hc; done)
    rename_i ix iy iz hx hy hz
    cases hc
    simp only at he
    split at he <;> try (cases he; done)
    rename_i t ht
    cases t with
    | true =>
      simp only [if_true] at he
      obtain ⟨n1, w1⟩ := ih N y iy s ex s' hy he
      refine ⟨n1, fun base okin m0 σ0 σ a w Q S hQ => ?_⟩
      have r := S.fr.opd hx
      rw [ht] at r
      exact wp_cond_true r.bool_inv (w1 base okin m0 σ0 σ a w Q S hQ)
    | false =>
      simp only [Bool.false_eq_true, if_false] at he
      obtain ⟨n1, w1⟩ := ih N z iz s ex s' hz he
      refine ⟨n1, fun base okin m0 σ0 σ a w Q S hQ => ?_⟩
      have r := S.fr.opd hx
      rw [ht] at r
      exact wp_cond_false r.bool_inv (w1 base okin m0 σ0 σ a w Q S hQ)
  | block id x =>
    simp only [compC] at hc
    obtain ⟨ix, hx, rfl⟩ := Option.map_eq_some_iff.1 hc
    simp only at he
    split at he
    · rename_i i s1 h1
      obtain ⟨n1, w1⟩ := ih N x ix s _ s1 hx h1
      have hs : s1 = s' := by split at he <;> (cases he; rfl)
      subst hs
      refine ⟨n1, fun base okin m0 σ0 σ a w Q S hQ => wp_block ?_⟩
      refine w1 base okin m0 σ0 σ a w _ S fun σ1 a1 w1' S1 p1 => ?_
      have := hQ σ1 a1 w1' S1 p1
      simp only [exOf, Exit.inBlock]
      split at he
      · rename_i hid
        cases he
        rw [if_pos hid]; exact this
      · rename_i hid
        cases he
        rw [if_neg hid]; exact this
    · rename_i hne
      obtain ⟨n1, w1⟩ := ih N x ix s ex s' hx he
      refine ⟨n1, fun base okin m0 σ0 σ a w Q S hQ => wp_block ?_⟩
      refine w1 base okin m0 σ0 σ a w _ S fun σ1 a1 w1' S1 p1 => ?_
      have := hQ σ1 a1 w1' S1 p1
      cases ex with
      | normal => exact this
      | exit i => exact absurd he (hne i s')
      | ret => exact this
  | loop x =>
    simp only [compC] at hc
    obtain ⟨ix, hx, rfl⟩ := Option.map_eq_some_iff.1 hc
    obtain ⟨n1, w1⟩ := rounds_ok hx (n + 1) IH s ex s' he0
    exact ⟨n1, fun base okin m0 σ0 σ a w Q S hQ => wp_loop_rounds (n + 1) (w1 base okin m0 σ0 σ a w Q S hQ)⟩
  | rangeFunc _ _ _ _ => simp only [compC] at hc; cases hc
  | scope _ => simp only [compC] at hc; cases hc
  | label _ => simp only [compC] at hc; cases hc
  | goto _ => simp only [compC] at hc; cases hc
  | refuse _ => simp only [compC] at hc; cases hc

theorem callI_eq (n : Nat) (f : FuncId) (args : List AV) (h : Hp) : callI G (phi P) tab n f args h = callB G (phi P) tab n f args h := rfl

/-- A function's contract, off the reckoner's answer. -/
theorem contract_of (hm : P.follows .mixedOrders = true) (htab : ∀ f T, tab f = some T → Contract P G f T) {f : FuncId} {T : List AV → Option AV}
    (hT : ∀ args v, T args = some v → ∃ n, callV G (phi P) tab n f args = some v) : Contract P G f T := by
  intro args v hv ok w cargs hsz hargs hglob
  obtain ⟨n, hn⟩ := hT args v hv
  unfold callV at hn
  obtain ⟨p, h1, h2⟩ := Option.bind_eq_some_iff.1 hn
  obtain ⟨u, h'⟩ := p
  obtain ⟨q, h3, h4⟩ := Option.map_eq_some_iff.1 h2
  obtain ⟨v', ids⟩ := q
  cases h4
  rw [callI_eq] at h1
  obtain ⟨_, hc⟩ := callB_ok hm (exec_ok hm htab n) f args h0 u h' h1
  have H : HS w.heap.size ok (fun _ => none) h0 w := ⟨fun id b sz h => (by cases h), fun id blk h => (by cases h), fun id id' b sz sz' h => (by cases h), Nat.le_refl _⟩
  have hok : ∀ b, b < w.heap.size → ok b → okOf w.heap.size ok (fun _ => none) h0 b := fun b hb ho => .inl ⟨hb, ho⟩
  have D := hc w.heap.size ok (fun _ => none) w cargs H hsz (fun i hi hi' => .val _ _ ((hargs i hi hi').ok_mono hok))
    (fun g u hg => (hglob g u hg).mono (fun b hb ho => ⟨hok b hb ho, rfl⟩) (fun _ _ h => h) (fun _ => Nat.le_refl _)) (fun _ _ => rfl)
  have fin : ∀ cv w', (∃ σ', Prog w.heap.size ok (fun _ => none) h0 w σ' h' w' ∧ HS w.heap.size ok σ' h' w' ∧ Rep w' (okOf w.heap.size ok σ' h') σ' u cv ∧ (∀ id, h'.next ≤ id → σ' id = none) ∧ ∀ id, id < h0.next → σ' id = none) →
      RepV w' (fun b => ok b ∨ w.heap.size ≤ b) v' cv ∧ Below w.heap.size w w' := by
    rintro cv w' ⟨σ', p, H', r, _, _⟩
    refine ⟨(out3_rep H' r h3).ok_mono fun b _ hb => ?_, p.below⟩
    rcases hb with hb | hb
    · exact .inl hb.2
    · exact .inr hb.1
  rcases D with ⟨d1, d2⟩ | ⟨cv, w', d1, d2⟩
  · exact .inl ⟨d1, d2.mono fun e w' ⟨cv, he, hR⟩ => ⟨cv, he, fin cv w' hR⟩⟩
  · exact .inr ⟨cv, w', d1, fin cv w' d2⟩

end
#print axioms contract_of
end Go.Eng
