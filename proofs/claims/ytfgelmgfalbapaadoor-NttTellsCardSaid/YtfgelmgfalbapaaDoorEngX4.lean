/- Operations and regions, walked by the model. -/
import Derived.Test.YtfgelmgfalbapaaDoorEngX3
namespace Go.Eng
open Go Go.RowKit

section
variable {P : Program} {G : Nat → Option AV} {base : Nat} {okin : Nat → Prop} {N : Nat} {m0 : Nat} {σ0 : Nat → Option (Nat × Nat)} {lo : Nat → Prop} {σ : Nat → Option (Nat × Nat)} {w : World} {a : Act}
  {tab : FuncId → Option (List AV → Option AV)} {callf : FuncId → List AV → Hp → Option (AV × Hp)}

theorem getD_lt (x : Array Value) (i : Nat) (h : i < x.size) : x.getD i undef = x[i] := by simp [Array.getD, h]

theorem compO_spec {ops : Array Oper} {o : Oper} {e : IEn} (h : compO P N ops o = some e) :
    e.dst = o.dst ∧ compOp P o.op = some e.op ∧ o.dst.all (fun d => decide (d < N)) = true ∧
      ((o.guard = none ∧ e.guard = none) ∨ ∃ j t want, o.guard = some (j, want) ∧ (ops[j]?).bind (·.dst) = some t ∧ e.guard = some (t, want)) := by
  unfold compO at h
  split at h <;> try (cases h; done)
  rename_i hd
  split at h <;> try (cases h; done)
  rename_i op hop
  split at h
  · rename_i hg
    cases h
    exact ⟨rfl, hop, hd, .inl ⟨hg, rfl⟩⟩
  · rename_i j w hg
    split at h <;> try (cases h; done)
    rename_i t ht
    cases h
    exact ⟨rfl, hop, hd, .inr ⟨j, t, w, hg, ht, rfl⟩⟩

/-- What a call's operation runs. -/
theorem run_call {o : Oper} {x : Operand} {args : Array Operand} {argTypes : Array TypeId} (hop : o.op = .call { callee := .value x, args, argTypes }) {f : FuncId} {fv cv : Array Value} (hx : a.eval x = .func (.func f) fv cv) :
    (execOp a.eval o).run P w = (callFunc f (fv ++ args.map a.eval ++ cv)).run P w := by
  simp [execOp, hop, resolve, Deferred.ofValue, hx, invoke]

theorem Sim.step {σ' : Nat → Option (Nat × Nat)} {s : St} (S : Sim G base okin N m0 σ0 lo σ s a w) {d : Option Nat} (hd : d.all (fun d => decide (d < N)) = true) {v : AV} {cv : Value} {h' : Hp} {w' : World} {r : Nat}
    (p : Prog base okin σ s.h w σ' h' w') (H : HS base okin σ' h' w') (hr : Rep w' (okOf base okin σ' h') σ' v cv) (hn : s.h.next ≤ h'.next) (hf : ∀ id, lo id → id ≠ r → σ' id = none) (hf2 : ∀ id, h'.next ≤ id → σ' id = none) (ho : ∀ id, id < m0 → σ' id = σ id) :
    Sim G base okin N m0 σ0 (fun id => lo id ∧ id ≠ r) σ' ⟨putO s.F d v, h'⟩ (a.put d cv) w' :=
  ⟨H, (S.fr.mono p).put hd S.size hr, by rw [put_size]; exact S.size, by rw [put_defers]; exact S.defers, fun id hid => ⟨(S.free id hid.1).1, Nat.lt_of_lt_of_le (S.free id hid.1).2.1 hn, hf id hid.1 hid.2⟩, Nat.le_trans S.low hn, fun id hid => (ho id hid).trans (S.old id hid), hf2⟩

theorem call_wp {Q : Exit → Act → World → Prop} {K : Act → World → Prop} {o : Oper} {f : FuncId} {cargs : Array Value} {R : Value → World → Prop} (hd : Does P f cargs w R) (hrun : (execOp a.eval o).run P w = (callFunc f cargs).run P w)
    (hK : ∀ cv w', R cv w' → K (a.put o.dst cv) w') : o.wp P a w K Q := by
  unfold Oper.wp
  rw [hrun]
  rcases hd with ⟨h1, h2⟩ | ⟨cv, w', h1, h2⟩
  · rw [h1]
    refine h2.mono fun e w' ⟨cv, he, hR⟩ => ?_
    subst he
    exact hK cv w' hR
  · rw [h1]
    exact hK cv w' h2

theorem goOp_sim (hcall : CallOk P G callf) (htab : ∀ f T, tab f = some T → Contract P G f T) {ops : Array Oper} {o : Oper} {e : IEn} (hN : compO P N ops o = some e) {n0 r : Nat} {s s' : St} {c : Cls}
    (hrun : goOp G tab callf n0 r e s = some (s', c)) (S : Sim G base okin N m0 σ0 lo σ s a w) (hlo : lo r) {K : Act → World → Prop} {Q : Exit → Act → World → Prop}
    (hK : ∀ σ' a' w', Sim G base okin N m0 σ0 (fun id => lo id ∧ id ≠ r) σ' s' a' w' → Prog base okin σ s.h w σ' s'.h w' → K a' w') : o.wp P a w K Q := by
  obtain ⟨d1, d2, d3, _⟩ := compO_spec hN
  have hd : e.dst.all (fun d => decide (d < N)) = true := by rw [d1]; exact d3
  by_cases hc : ∃ f args, e.op = .call f args
  · obtain ⟨f, args, hop⟩ := hc
    rw [hop] at d2
    -- the model's operation is a call by value
    have hcl : ∃ x as ts, o.op = .call { callee := .value x, args := as, argTypes := ts } ∧ opdOf x = some f ∧ opdsOf as.toList = some args := by
      cases ho : o.op <;> rw [ho] at d2 <;> simp only [compOp] at d2 <;> try (first | (cases d2; done) | (split at d2 <;> cases d2; done))
      case call cl =>
        obtain ⟨callee, as, ts⟩ := cl
        cases callee with
        | value x =>
          simp only at d2
          split at d2 <;> try (cases d2; done)
          rename_i h1 h2
          cases d2
          exact ⟨x, as, ts, rfl, h1, h2⟩
        | invoke _ _ => simp only at d2; cases d2
        | builtin b =>
          exfalso
          cases b <;> simp only at d2 <;> (repeat' split at d2) <;> first | (cases d2; done) | (obtain ⟨_, _, d2⟩ := Option.map_eq_some_iff.1 d2; cases d2)
      all_goals
        exfalso
        first
          | (obtain ⟨_, _, d2⟩ := Option.map_eq_some_iff.1 d2; cases d2; done)
          | ((repeat' split at d2) <;> first | contradiction | (cases d2; done) | (obtain ⟨_, _, d2⟩ := Option.map_eq_some_iff.1 d2; cases d2; done))
    obtain ⟨x, as, ts, ho, hx, has⟩ := hcl
    unfold goOp at hrun
    simp only [hop] at hrun
    split at hrun <;> try (cases hrun; done)
    rename_i n first caps hf
    have rx := S.fr.opd hx
    rw [hf] at rx
    obtain ⟨fv, cv, ex, l1, l2, r1, r2⟩ := rx.fn_inv
    obtain ⟨l3, r3⟩ := opdsOf_rep S.fr has
    have hrc := run_call (P := P) (w := w) ho ex
    -- the arguments, side by side
    have hsz : (fv ++ as.map a.eval ++ cv).size = (first ++ args.map (Opd.ev G s.F) ++ caps).length := by simp at l3 ⊢; omega
    have hargs : ∀ i (hi : i < (first ++ args.map (Opd.ev G s.F) ++ caps).length) (hi' : i < (fv ++ as.map a.eval ++ cv).size), Rep w (okOf base okin σ s.h) σ (first ++ args.map (Opd.ev G s.F) ++ caps)[i] (fv ++ as.map a.eval ++ cv)[i] := by
      intro i hi hi'
      by_cases h1 : i < first.length
      · have e1 : (first ++ args.map (Opd.ev G s.F) ++ caps)[i] = first[i] := by
          rw [List.getElem_append_left (by simp; omega), List.getElem_append_left h1]
        have e2 : (fv ++ as.map a.eval ++ cv)[i] = fv[i]'(by omega) := by
          rw [Array.getElem_append_left (by simp; omega), Array.getElem_append_left (by omega)]
        rw [e1, e2]; exact r1 i h1 (by omega)
      · by_cases h2 : i < first.length + args.length
        · have e1 : (first ++ args.map (Opd.ev G s.F) ++ caps)[i] = args[i - first.length].ev G s.F := by
            rw [List.getElem_append_left (by simp; omega), List.getElem_append_right (by omega)]; simp
          have e2 : (fv ++ as.map a.eval ++ cv)[i] = a.eval (as.toList[i - first.length]'(by simp at l3 ⊢; omega)) := by
            rw [Array.getElem_append_left (by simp at l3 ⊢; omega), Array.getElem_append_right (by omega)]
            simp [l1]
          rw [e1, e2]; exact r3 _ (by omega) (by simp at l3 ⊢; omega)
        · have e1 : (first ++ args.map (Opd.ev G s.F) ++ caps)[i] = caps[i - (first.length + args.length)]'(by simp at hi; omega) := by
            rw [List.getElem_append_right (by simp; omega)]; simp
          have e2 : (fv ++ as.map a.eval ++ cv)[i] = cv[i - (first.length + args.length)]'(by simp at hi; omega) := by
            rw [Array.getElem_append_right (by simp at l3 ⊢; omega)]
            congr 1
            simp at l3 ⊢; omega
          rw [e1, e2]; exact r2 _ (by simp at hi; omega) (by simp at hi; omega)
    split at hrun
    · rename_i T hT
      split at hrun <;> try (cases hrun; done)
      rename_i vs ids ho'
      obtain ⟨v, hv, hrun⟩ := Option.map_eq_some_iff.1 hrun
      cases hrun
      obtain ⟨HC, PC⟩ := S.hs.close ids
      obtain ⟨m1, m2⟩ := out2L_rep S.hs (fun i => (fv ++ as.map a.eval ++ cv).getD i undef) (fun i hi => by
        have hlt : i < (fv ++ as.map a.eval ++ cv).size := by rw [hsz]; exact hi
        have := hargs i hi hlt
        rw [getD_lt _ _ hlt]; exact this) ho'
      refine call_wp (htab n T hT vs v hv (okOf base okin σ (s.h.close ids)) w (fv ++ as.map a.eval ++ cv) (by rw [hsz, m1]) (fun i hi hi' => by
        have := m2 i hi
        rw [getD_lt _ _ hi'] at this; exact this) (fun g u hg => (PC.rep (S.fr.glob g u hg)).vptr_any)) hrc (fun cv' w' hR => ?_)
      obtain ⟨q1, q2⟩ := hR
      obtain ⟨HG, PG⟩ := HC.grown q2
      have PT := PC.trans PG
      rw [← d1]
      refine hK σ _ w' (S.step hd PT HG (.val _ _ (q1.ok_mono fun b _ hb => ?_)) (Nat.le_refl _) (fun id hid _ => (S.free id hid).2.2) S.fresh (fun _ _ => rfl)) PT
      rcases hb with hb | hb
      · exact hb
      · exact .inr ⟨Nat.le_trans S.hs.base hb, fun id sz hs _ => by have := (S.hs.val _ _ _ hs).2; omega⟩
    · rename_i hT
      obtain ⟨p, hp, hrun⟩ := Option.map_eq_some_iff.1 hrun
      obtain ⟨v, h'⟩ := p
      cases hrun
      obtain ⟨hn, hc2⟩ := hcall _ _ _ _ _ hp
      refine call_wp (hc2 base okin σ w _ S.hs hsz hargs S.fr.glob S.fresh) hrc (fun cv' w' hR => ?_)
      obtain ⟨σ', k1, k2, k3, k4, k5⟩ := hR
      rw [← d1]
      exact hK σ' _ w' (S.step hd k1 k2 k3 hn (fun id hid _ => by rw [k5 id (S.free id hid).2.1]; exact (S.free id hid).2.2) k4 (fun id hid => k5 id (Nat.lt_of_lt_of_le hid S.low))) k1
  · have hgo : goOp G tab callf n0 r e s = (evalOp n0 r (Opd.ev G s.F) s.h e.op).map fun (v, h', c) => (⟨putO s.F e.dst v, h'⟩, c) := by
      unfold goOp
      split
      · exact absurd ⟨_, _, ‹_›⟩ hc
      · rfl
    rw [hgo] at hrun
    obtain ⟨p, hp, hrun⟩ := Option.map_eq_some_iff.1 hrun
    obtain ⟨v, h', c0⟩ := p
    have hs1 : (⟨putO s.F e.dst v, h'⟩ : St) = s' := congrArg Prod.fst hrun
    subst hs1
    have hnext := (evalOp_eff hp).1
    obtain ⟨σ', cv, w', e1, e2, e3, e4, e5⟩ := evalOp_ok S.hs S.fr (S.free r hlo).2.2 o d2 hp
    have fin : Sim G base okin N m0 σ0 (fun id => lo id ∧ id ≠ r) σ' ⟨putO s.F e.dst v, h'⟩ (a.put e.dst cv) w' :=
      S.step hd e2 e3 e4 (by rw [hnext]; exact Nat.le_refl _) (fun id hid hne => by rw [e5 id hne]; exact (S.free id hid).2.2) (fun id hid => by
        rw [hnext] at hid
        have : id ≠ r := by have := (S.free r hlo).2.1; omega
        rw [e5 id this]; exact S.fresh id hid) (fun id hid => e5 id (by have := (S.free r hlo).1; omega))
    have hKK := hK σ' _ w' fin e2
    unfold Oper.wp
    rcases e1 with e1 | ⟨e1, rfl⟩
    · rw [e1, Oper.upon_value, ← d1]; exact hKK
    · rw [e1, Oper.upon_skip, ← d1]; exact hKK

theorem runOp_sim (hcall : CallOk P G callf) (htab : ∀ f T, tab f = some T → Contract P G f T) {ops : Array Oper} {i : Nat} {o : Oper} (hi : ops[i]? = some o) {e : IEn} (hN : compO P N ops o = some e) {n0 r : Nat} {s s' : St} {c : Cls}
    (hrun : runOp G tab callf n0 r e s = some (s', c)) (S : Sim G base okin N m0 σ0 lo σ s a w) (hlo : lo r) {K : Act → World → Prop} {Q : Exit → Act → World → Prop}
    (hK : ∀ σ' a' w', Sim G base okin N m0 σ0 (fun id => lo id ∧ id ≠ r) σ' s' a' w' → Prog base okin σ s.h w σ' s'.h w' → K a' w') : wpOp P ops Q i K a w := by
  obtain ⟨d1, d2, d3, hg⟩ := compO_spec hN
  unfold wpOp
  rw [hi]
  simp only
  unfold runOp at hrun
  rcases hg with ⟨g1, g2⟩ | ⟨j, t, want, g1, g2, g3⟩
  · rw [g2] at hrun
    simp only [Region.wanted, g1, if_true]
    exact .inl (goOp_sim hcall htab hN hrun S hlo hK)
  · rw [g3] at hrun
    simp only at hrun
    cases hb : s.F t <;> rw [hb] at hrun <;> try (cases hrun; done)
    rename_i b
    have ht := S.fr.slot t
    rw [hb] at ht
    have htv := ht.bool_inv
    have hget : a.tmps[t]? = some (.bool b) := by
      rw [Array.getD_eq_getD_getElem?] at htv
      cases hq : a.tmps[t]? with
      | none => rw [hq] at htv; simp [undef] at htv
      | some v => rw [hq] at htv; simpa using htv
    have hy : yielded ops a.tmps j = some b := by
      simp [yielded, g2, hget]
    simp only [Region.wanted, g1, hy]
    by_cases hbw : b = want
    · subst hbw
      simp only [if_true] at hrun
      simp only [BEq.rfl, if_true]
      exact .inl (goOp_sim hcall htab hN hrun S hlo hK)
    · simp only [if_neg hbw] at hrun
      cases hrun
      have hne : (some b == some want) = false := by simpa using hbw
      rw [hne]
      simp only [Bool.false_eq_true, if_false]
      rw [← d1]
      have hd : e.dst.all (fun d => decide (d < N)) = true := by rw [d1]; exact d3
      exact hK σ _ w (S.step hd (Prog.refl ..) S.hs (.undef _) (Nat.le_refl _) (fun id hid _ => (S.free id hid).2.2) S.fresh (fun _ _ => rfl)) (Prog.refl ..)

end
end Go.Eng
