/- A region, in the text's order and in whatever order it draws. -/
import Derived.Test.YtfgelmgfalbapaaDoorEngX4
namespace Go.Eng
open Go Go.RowKit

section
variable {P : Program} {G : Nat → Option AV} {base : Nat} {okin : Nat → Prop} {N : Nat} {m0 : Nat} {σ0 : Nat → Option (Nat × Nat)} {tab : FuncId → Option (List AV → Option AV)} {callf : FuncId → List AV → Hp → Option (AV × Hp)}

theorem runOps_len {n0 : Nat} : ∀ {L : List (IEn × Nat)} {s s' : St} {cs : List Cls}, runOps G tab callf n0 L s = some (s', cs) → cs.length = L.length
  | [], s, s', cs, h => by simp only [runOps] at h; cases h; rfl
  | q :: L, s, s', cs, h => by
    simp only [runOps] at h
    split at h <;> try (cases h; done)
    obtain ⟨p, h2, h3⟩ := Option.map_eq_some_iff.1 h
    cases h3
    simp [runOps_len h2]

theorem Sim.weaken {lo lo' : Nat → Prop} {σ : Nat → Option (Nat × Nat)} {s : St} {a : Act} {w : World} (S : Sim G base okin N m0 σ0 lo σ s a w) (h : ∀ i, lo' i → lo i) : Sim G base okin N m0 σ0 lo' σ s a w :=
  ⟨S.hs, S.fr, S.size, S.defers, fun i hi => S.free i (h i hi), S.low, S.old, S.fresh⟩

theorem runOps_sim (hcall : CallOk P G callf) (htab : ∀ f T, tab f = some T → Contract P G f T) {ops : Array Oper} {n0 : Nat} {s' : St} {Q : Exit → Act → World → Prop} : ∀ (L : List (IEn × Nat)) (s : St) (cs : List Cls) (σ : Nat → Option (Nat × Nat)) (a : Act) (w : World),
    (∀ p ∈ L, ∃ o, ops[p.2]? = some o ∧ compO P N ops o = some p.1) → L.Pairwise (fun p q => p.2 < q.2) → runOps G tab callf n0 L s = some (s', cs) →
    Sim G base okin N m0 σ0 (fun id => ∃ p ∈ L, id = n0 + p.2) σ s a w →
    (∀ σ' a' w', Sim G base okin N m0 σ0 (fun _ => False) σ' s' a' w' → Prog base okin σ s.h w σ' s'.h w' → Q .normal a' w') → wpOps P ops Q (L.map (·.2)) a w
  | [], s, cs, σ, a, w, _, _, hrun, S, hQ => by
    simp only [runOps] at hrun; cases hrun
    exact hQ σ a w (S.weaken fun _ h => h.elim) (Prog.refl ..)
  | (e, i) :: L, s, cs, σ, a, w, hL, hd, hrun, S, hQ => by
    simp only [runOps] at hrun
    split at hrun <;> try (cases hrun; done)
    rename_i s1 c h1
    obtain ⟨p, h2, h3⟩ := Option.map_eq_some_iff.1 hrun
    obtain ⟨s2, cs2⟩ := p
    have hs2 : s2 = s' := congrArg Prod.fst h3
    subst hs2
    obtain ⟨o, ho, hco⟩ := hL (e, i) (by simp)
    rw [List.map_cons, wpOps_cons]
    refine runOp_sim hcall htab ho hco h1 S ⟨(e, i), by simp, rfl⟩ (fun σ' a' w' S' hb => ?_)
    refine runOps_sim hcall htab L s1 cs2 σ' a' w' (fun p hp => hL p (by simp [hp])) (List.pairwise_cons.1 hd).2 h2 (S'.weaken ?_) (fun σ'' a'' w'' S'' hb' => hQ σ'' a'' w'' S'' (hb.trans hb'))
    rintro id ⟨p, hp, rfl⟩
    refine ⟨⟨p, by simp [hp], rfl⟩, ?_⟩
    have := (List.pairwise_cons.1 hd).1 p hp
    simp only at this ⊢
    omega

/-- What the check of a region's order says. -/
theorem befOk_spec {ops : Array Oper} {b : List Nat} (h : befOk ops b = true) {i k : Nat} {o : Oper} (ho : ops[i]? = some o) (hk : k < i) (hb : (b.getD i 0).testBit k = true) :
    ∃ e ∈ o.after, Region.binds .any e = true ∧ (e.on = k ∨ (k < e.on ∧ (b.getD e.on 0).testBit k = true)) := by
  unfold befOk at h
  have h1 := List.all_eq_true.1 h (o, i) (by
    rw [List.mem_zipIdx_iff_getElem?]
    simpa using ho)
  have h2 := List.all_eq_true.1 h1 k (by simpa using hk)
  simp only [hb, Bool.not_true, Bool.false_or] at h2
  obtain ⟨e, he, h3⟩ := Array.any_eq_true'.1 h2
  simp only [Bool.and_eq_true, Bool.or_eq_true, beq_iff_eq, decide_eq_true_eq] at h3
  exact ⟨e, he, h3.1, h3.2⟩

theorem backOk_spec {ops : Array Oper} (h : backOk ops = true) {i : Nat} {o : Oper} (ho : ops[i]? = some o) {e : Edge} (he : e ∈ o.after) (hb : Region.binds .any e = true) : e.on < i := by
  unfold backOk at h
  have h1 := List.all_eq_true.1 h (o, i) (by
    rw [List.mem_zipIdx_iff_getElem?]
    simpa using ho)
  have h2 := Array.all_eq_true'.1 h1 e he
  simpa [hb] using h2

structure Left (P : Program) (N : Nat) (ops : Array Oper) (b : List Nat) (L : List (IEn × Nat)) (cs : List Cls) (listed : Array Bool) : Prop where
  size : listed.size = ops.size
  mem : ∀ p ∈ L, ∃ o, ops[p.2]? = some o ∧ compO P N ops o = some p.1 ∧ listed.getD p.2 true = false
  all : ∀ i, i < ops.size → listed.getD i true = false → ∃ e, (e, i) ∈ L
  incr : L.Pairwise (fun p q => p.2 < q.2)
  shut : ∀ i, i < ops.size → listed.getD i false = true → ∀ k, k < i → (b.getD i 0).testBit k = true → listed.getD k false = true
  pairs : ∀ p q (hp : p < q) (hq : q < L.length) (hq' : q < cs.length), (b.getD L[q].2 0).testBit L[p].2 = true ∨ (L[p].1.apart L[q].1 = true ∧ compat cs[p] cs[q] = true)

theorem listed_or {listed : Array Bool} {n i : Nat} (hs : listed.size = n) (hi : i < n) : listed.getD i true = false ∨ listed.getD i false = true := by
  have : i < listed.size := by omega
  simp only [Array.getD_eq_getD_getElem?, Array.getElem?_eq_getElem this, Option.getD_some]
  cases listed[i] <;> simp

theorem any_sim (hcall : CallOk P G callf) (htab : ∀ f T, tab f = some T → Contract P G f T) {ops : Array Oper} {b : List Nat} (hbef : befOk ops b = true) (hback : backOk ops = true) {n0 : Nat} {s' : St} {Q : Exit → Act → World → Prop} :
    ∀ (fuel : Nat) (L : List (IEn × Nat)) (s : St) (cs : List Cls) (listed : Array Bool) (σ : Nat → Option (Nat × Nat)) (a : Act) (w : World), L.length ≤ fuel →
    Left P N ops b L cs listed → runOps G tab callf n0 L s = some (s', cs) →
    Sim G base okin N m0 σ0 (fun id => ∃ p ∈ L, id = n0 + p.2) σ s a w →
    (∀ σ' a' w', Sim G base okin N m0 σ0 (fun _ => False) σ' s' a' w' → Prog base okin σ s.h w σ' s'.h w' → Q .normal a' w') → wpAny P .any ops Q fuel listed a w := by
  -- nothing is left: done
  have fin : ∀ (s : St) (cs : List Cls) (σ : Nat → Option (Nat × Nat)) (a : Act) (w : World), runOps G tab callf n0 [] s = some (s', cs) →
      Sim G base okin N m0 σ0 (fun id => ∃ p ∈ ([] : List (IEn × Nat)), id = n0 + p.2) σ s a w →
      (∀ σ' a' w', Sim G base okin N m0 σ0 (fun _ => False) σ' s' a' w' → Prog base okin σ s.h w σ' s'.h w' → Q .normal a' w') → Q .normal a w := by
    intro s cs σ a w hrun S hQ
    simp only [runOps] at hrun; cases hrun
    exact hQ σ a w (S.weaken fun _ h => h.elim) (Prog.refl ..)
  have none_ready : ∀ {cs : List Cls} {listed : Array Bool}, Left P N ops b [] cs listed → Region.ready .any ops listed = [] := by
    intro cs listed hL
    apply List.eq_nil_iff_forall_not_mem.2
    intro i hi
    have hr := mem_ready.1 hi
    obtain ⟨hl, o, ho, _⟩ := hr
    obtain ⟨e, he⟩ := hL.all i (Array.getElem?_eq_some_iff.1 ho).1 hl
    simp at he
  intro fuel
  induction fuel with
  | zero =>
    intro L s cs listed σ a w hf hL hrun S hQ
    have : L = [] := List.eq_nil_of_length_eq_zero (by omega)
    subst this
    exact ⟨none_ready hL, fin s cs σ a w hrun S hQ⟩
  | succ fuel ih =>
    intro L s cs listed σ a w hf hL hrun S hQ
    refine ⟨fun hr => ?_, fun i hi => ?_⟩
    · cases L with
      | nil => exact fin s cs σ a w hrun S hQ
      | cons p L =>
        exfalso
        obtain ⟨o, ho, hco, hl⟩ := hL.mem p (by simp)
        have : p.2 ∈ Region.ready .any ops listed := by
          refine mem_ready.2 ⟨hl, o, ho, fun e he hb => ?_⟩
          have hlt := backOk_spec hback ho he hb
          have hsz := (Array.getElem?_eq_some_iff.1 ho).1
          rcases listed_or hL.size (show e.on < ops.size by omega) with h1 | h1
          · obtain ⟨q, hq⟩ := hL.all e.on (by omega) h1
            rcases List.mem_cons.1 hq with hq | hq
            · rw [← hq] at hlt; simp at hlt
            · have := (List.pairwise_cons.1 hL.incr).1 _ hq
              simp at this; omega
          · exact h1
        rw [hr] at this; simp at this
    · obtain ⟨hl, o, ho, hedges⟩ := mem_ready.1 hi
      have hisz := (Array.getElem?_eq_some_iff.1 ho).1
      obtain ⟨e, he⟩ := hL.all i hisz hl
      obtain ⟨L1, L2, rfl⟩ := List.append_of_mem he
      -- nothing that is left must come before it
      have hno : ∀ k, k < i → listed.getD k false = false → (b.getD i 0).testBit k = false := by
        intro k hk hkl
        cases ht : (b.getD i 0).testBit k with
        | false => rfl
        | true =>
          exfalso
          obtain ⟨ed, h1, h2, h3⟩ := befOk_spec hbef ho hk ht
          have hed := hedges ed h1 h2
          rcases h3 with rfl | ⟨h3, h4⟩
          · rw [hed] at hkl; cases hkl
          · have hlt := backOk_spec hback ho h1 h2
            have := hL.shut ed.on (by omega) hed k h3 h4
            rw [this] at hkl; cases hkl
      have hlen := runOps_len hrun
      have hunl : ∀ p ∈ L1 ++ (e, i) :: L2, listed.getD p.2 false = false := by
        intro p hp
        obtain ⟨o', ho', _, hl'⟩ := hL.mem p hp
        have hsz := (Array.getElem?_eq_some_iff.1 ho').1
        have hsz' : p.2 < listed.size := by rw [hL.size]; exact hsz
        simp only [Array.getD_eq_getD_getElem?, Array.getElem?_eq_getElem hsz', Option.getD_some] at hl' ⊢
        exact hl'
      obtain ⟨s1, c, c1, c2, k1, k2, rfl, k4⟩ := front_ok hrun (fun k hk hk' hl' => by
        have hkk : (L1 ++ (e, i) :: L2)[k]'(by simp; omega) = L1[k] := List.getElem_append_left hk
        have hii : (L1 ++ (e, i) :: L2)[L1.length]'(by simp) = (e, i) := by simp
        have hp := hL.pairs k L1.length hk (by simp) hl'
        rw [hkk, hii] at hp
        have hlt : L1[k].2 < i := by
          have := List.pairwise_append.1 hL.incr
          exact this.2.2 _ (List.getElem_mem hk) (e, i) (by simp)
        have hf := hno L1[k].2 hlt (hunl _ (by simp [List.getElem_mem hk]))
        rcases hp with hp | hp
        · rw [hf] at hp; cases hp
        · exact ⟨hp.1, hp.2, by omega⟩)
      obtain ⟨o', ho', hco, _⟩ := hL.mem (e, i) (by simp)
      refine runOp_sim hcall htab ho' hco k1 S ⟨(e, i), by simp, rfl⟩ (fun σ' a' w' S' hbl => ?_)
      have hdist : ∀ p ∈ L1 ++ L2, p.2 ≠ i := by
        intro p hp
        have hq := List.pairwise_append.1 hL.incr
        rcases List.mem_append.1 hp with hp | hp
        · have := hq.2.2 p hp (e, i) (by simp); simp at this; omega
        · have := (List.pairwise_cons.1 hq.2.1).1 p hp; simp at this; omega
      have hsub : ∀ p ∈ L1 ++ L2, p ∈ L1 ++ (e, i) :: L2 := by
        intro p hp
        rcases List.mem_append.1 hp with hp | hp
        · simp [hp]
        · simp [hp]
      have hset : ∀ (j : Nat) (d : Bool), j ≠ i → (listed.setIfInBounds i true).getD j d = listed.getD j d := fun j d hj => by
        simp only [Array.getD_eq_getD_getElem?]
        rw [Array.getElem?_setIfInBounds_ne (Ne.symm hj)]
      have hseti : (listed.setIfInBounds i true).getD i false = true := by
        have : i < listed.size := by rw [hL.size]; exact hisz
        simp [Array.getD_eq_getD_getElem?, this]
      have hL' : Left P N ops b (L1 ++ L2) (c1 ++ c2) (listed.setIfInBounds i true) := by
        refine ⟨by simpa using hL.size, fun p hp => ?_, fun j hj hjl => ?_, ?_, fun j hj hjl k hk ht => ?_, fun p q hp hq hq' => ?_⟩
        · obtain ⟨o1, h1, h2, h3⟩ := hL.mem p (hsub p hp)
          exact ⟨o1, h1, h2, by rw [hset _ _ (hdist p hp)]; exact h3⟩
        · by_cases hji : j = i
          · subst hji
            have : j < listed.size := by rw [hL.size]; exact hisz
            simp [Array.getD_eq_getD_getElem?, this] at hjl
          · rw [hset _ _ hji] at hjl
            obtain ⟨e', he'⟩ := hL.all j hj hjl
            refine ⟨e', ?_⟩
            rcases List.mem_append.1 he' with h | h
            · simp [h]
            · rcases List.mem_cons.1 h with h | h
              · exact absurd (congrArg Prod.snd h) hji
              · simp [h]
        · have hq := List.pairwise_append.1 hL.incr
          exact List.pairwise_append.2 ⟨hq.1, (List.pairwise_cons.1 hq.2.1).2, fun p hp q hq' => hq.2.2 p hp q (by simp [hq'])⟩
        · by_cases hki : k = i
          · subst hki; exact hseti
          · rw [hset _ _ hki]
            by_cases hji : j = i
            · subst hji
              cases hkl : listed.getD k false with
              | true => rfl
              | false => rw [hno k hk hkl] at ht; cases ht
            · rw [hset _ _ hji] at hjl
              exact hL.shut j hj hjl k hk ht
        · -- positions with one struck out
          have hl1 : c1.length = L1.length := k4
          have pos : ∀ (r : Nat) (hr : r < (L1 ++ L2).length) (hr' : r < (c1 ++ c2).length), ∃ r', (r' = if r < L1.length then r else r + 1) ∧ ∃ (h1 : r' < (L1 ++ (e, i) :: L2).length) (h2 : r' < (c1 ++ c :: c2).length), (L1 ++ L2)[r] = (L1 ++ (e, i) :: L2)[r'] ∧ (c1 ++ c2)[r] = (c1 ++ c :: c2)[r'] := by
            intro r hr hr'
            simp only [List.length_append] at hr hr'
            by_cases h : r < L1.length
            · refine ⟨r, by rw [if_pos h], by simp; omega, by simp; omega, ?_, ?_⟩
              · rw [List.getElem_append_left h, List.getElem_append_left h]
              · rw [List.getElem_append_left (by omega), List.getElem_append_left (by omega)]
            · refine ⟨r + 1, by rw [if_neg h], by simp; omega, by simp; omega, ?_, ?_⟩
              · rw [List.getElem_append_right (by omega), List.getElem_append_right (by omega)]
                have : r + 1 - L1.length = (r - L1.length) + 1 := by omega
                simp [this]
              · rw [List.getElem_append_right (by omega), List.getElem_append_right (by omega)]
                have : r + 1 - c1.length = (r - c1.length) + 1 := by omega
                simp [this]
          obtain ⟨p', hp', p1, p2, p3, p4⟩ := pos p (by omega) (by omega)
          obtain ⟨q', hq'', q1, q2, q3, q4⟩ := pos q hq hq'
          have := hL.pairs p' q' (by subst hp'; subst hq''; split <;> split <;> omega) q1 q2
          rw [p3, q3, p4, q4]
          exact this
      refine ih (L1 ++ L2) s1 (c1 ++ c2) (listed.setIfInBounds i true) σ' a' w' (by simp at hf ⊢; omega) hL' k2 (S'.weaken ?_) (fun σ'' a'' w'' S'' hb' => hQ σ'' a'' w'' S'' (hbl.trans hb'))
      rintro id ⟨p, hp, rfl⟩
      exact ⟨⟨p, hsub p hp, rfl⟩, by have := hdist p hp; omega⟩

theorem compOs_spec {ops : Array Oper} : ∀ {os : List Oper} {es : List IEn}, compOs P N ops os = some es → es.length = os.length ∧ ∀ i (h : i < es.length) (h' : i < os.length), compO P N ops os[i] = some es[i]
  | [], es, h => by simp only [compOs] at h; cases h; exact ⟨rfl, fun i h => absurd h (by simp)⟩
  | o :: os, es, h => by
    simp only [compOs] at h
    split at h <;> try (cases h; done)
    rename_i e es' h1 h2
    cases h
    obtain ⟨l, q⟩ := compOs_spec h2
    refine ⟨by simp [l], fun i hi hi' => ?_⟩
    cases i with
    | zero => exact h1
    | succ i => exact q i (by simpa using hi) (by simpa using hi')

end
end Go.Eng
