/- A region that draws: whatever order its edges allow comes to what the text's order comes to. -/
import Derived.Test.YtfgelmgfalbapaaDoorEngX1
namespace Go.Eng
open Go Go.RowKit

theorem out1_congr {h h2 : Hp} {v u : AV} {ids : List Nat} (ho : out1 h v = some (u, ids)) (hc : ∀ id ∈ ids, h2.cells id = h.cells id) : out1 h2 v = some (u, ids) := by
  cases v <;> simp only [out1] at ho ⊢ <;> try (first | exact ho | cases ho)
  rename_i id off len cap
  split at ho <;> try (cases ho; done)
  rename_i blk hb
  split at ho <;> try (cases ho; done)
  rename_i hq
  cases ho
  rw [hc id (by simp), hb]
  simp only [if_pos hq]

theorem outL_congr {h h2 : Hp} : ∀ {vs us : List AV} {ids : List Nat}, outL h vs = some (us, ids) → (∀ id ∈ ids, h2.cells id = h.cells id) → outL h2 vs = some (us, ids)
  | [], us, ids, ho, _ => by simp only [outL] at ho ⊢; exact ho
  | v :: vs, us, ids, ho, hc => by
    simp only [outL] at ho ⊢
    split at ho <;> try (cases ho; done)
    rename_i v' a vs' b h1 h2'
    cases ho
    rw [out1_congr h1 fun id hid => hc id (by simp [hid]), outL_congr h2' fun id hid => hc id (by simp [hid])]

theorem out2_congr {h h2 : Hp} {v u : AV} {ids : List Nat} (ho : out2 h v = some (u, ids)) (hc : ∀ id ∈ ids, h2.cells id = h.cells id) : out2 h2 v = some (u, ids) := by
  cases v <;> simp only [out2] at ho ⊢ <;> try (exact out1_congr ho hc)
  obtain ⟨p, h1, he⟩ := Option.map_eq_some_iff.1 ho
  cases he
  rw [outL_congr h1 hc]; rfl

theorem out2L_congr {h h2 : Hp} : ∀ {vs us : List AV} {ids : List Nat}, out2L h vs = some (us, ids) → (∀ id ∈ ids, h2.cells id = h.cells id) → out2L h2 vs = some (us, ids)
  | [], us, ids, ho, _ => by simp only [out2L] at ho ⊢; exact ho
  | v :: vs, us, ids, ho, hc => by
    simp only [out2L] at ho ⊢
    split at ho <;> try (cases ho; done)
    rename_i v' a vs' b h1 h2'
    cases ho
    rw [out2_congr h1 fun id hid => hc id (by simp [hid]), out2L_congr h2' fun id hid => hc id (by simp [hid])]

theorem close_nil (h : Hp) : h.close [] = h := by
  cases h; simp [Hp.close]

section
variable {G : Nat → Option AV} {tab : FuncId → Option (List AV → Option AV)} {callf : FuncId → List AV → Hp → Option (AV × Hp)}

def REff (G : Nat → Option AV) (tab : FuncId → Option (List AV → Option AV)) (callf : FuncId → List AV → Hp → Option (AV × Hp)) (n0 r : Nat) (e : IEn) (s : St) (v : AV) (h' : Hp) : Cls → Prop
  | .pure => h' = s.h ∧ ∀ F2 h2, (∀ t ∈ e.reads, F2 t = s.F t) → runOp G tab callf n0 r e ⟨F2, h2⟩ = some (⟨putO F2 e.dst v, h2⟩, .pure)
  | .al => ∃ blk, h' = s.h.new r blk ∧ ∀ F2 h2, (∀ t ∈ e.reads, F2 t = s.F t) → runOp G tab callf n0 r e ⟨F2, h2⟩ = some (⟨putO F2 e.dst v, h2.new r blk⟩, .al)
  | .rd => ∃ ids, h' = s.h.close ids ∧ ∀ F2 (h2 : Hp), (∀ t ∈ e.reads, F2 t = s.F t) → (∀ id, id < n0 → h2.cells id = s.h.cells id) → runOp G tab callf n0 r e ⟨F2, h2⟩ = some (⟨putO F2 e.dst v, h2.close ids⟩, .rd)
  | .wr => ∀ F2, (∀ t ∈ e.reads, F2 t = s.F t) → runOp G tab callf n0 r e ⟨F2, s.h⟩ = some (⟨putO F2 e.dst v, h'⟩, .wr)

theorem goOp_eff {n0 r : Nat} {e : IEn} {s s' : St} {c : Cls} (hg : goOp G tab callf n0 r e s = some (s', c))
    (hrun : ∀ F2 h2, (∀ t ∈ e.reads, F2 t = s.F t) → runOp G tab callf n0 r e ⟨F2, h2⟩ = goOp G tab callf n0 r e ⟨F2, h2⟩) :
    ∃ v h', s' = ⟨putO s.F e.dst v, h'⟩ ∧ REff G tab callf n0 r e s v h' c := by
  have hreads : ∀ t ∈ e.op.reads, t ∈ e.reads := fun t ht => by simp only [IEn.reads, List.mem_append]; exact .inr ht
  by_cases hcall : ∃ f args, e.op = .call f args
  · obtain ⟨f, args, hop⟩ := hcall
    have evc : ∀ F2, (∀ t ∈ e.reads, F2 t = s.F t) → f.ev G F2 = f.ev G s.F ∧ args.map (Opd.ev G F2) = args.map (Opd.ev G s.F) := by
      intro F2 h2
      have h3 : ∀ t ∈ e.op.reads, F2 t = s.F t := fun t ht => h2 t (hreads t ht)
      rw [hop] at h3
      simp only [IOp.reads, List.mem_append] at h3
      exact ⟨Opd.ev_congr fun t ht => h3 t (.inl ht), map_ev_congr fun t ht => h3 t (.inr ht)⟩
    unfold goOp at hg
    simp only [hop] at hg
    split at hg <;> try (cases hg; done)
    rename_i n first caps hf
    split at hg
    · rename_i T hT
      split at hg <;> try (cases hg; done)
      rename_i vs ids ho
      obtain ⟨v, hv, hg⟩ := Option.map_eq_some_iff.1 hg
      cases hg
      refine ⟨v, _, rfl, ?_⟩
      by_cases hi : ids.isEmpty = true
      · rw [if_pos hi]
        have hnil : ids = [] := by simpa using hi
        subst hnil
        refine ⟨close_nil _, fun F2 h2 hag => ?_⟩
        rw [hrun F2 h2 hag]
        obtain ⟨e1, e2⟩ := evc F2 hag
        unfold goOp
        simp only [hop, e1, hf, hT, e2, out2L_congr ho (h2 := h2) (fun id hid => absurd hid (by simp)), hv, Option.map_some, close_nil]
        rfl
      · rw [if_neg hi]
        by_cases hn : ids.all (fun i => decide (i < n0)) = true
        · rw [if_pos hn]
          refine ⟨ids, rfl, fun F2 h2 hag hc => ?_⟩
          rw [hrun F2 h2 hag]
          obtain ⟨e1, e2⟩ := evc F2 hag
          unfold goOp
          simp only [hop, e1, hf, hT, e2, out2L_congr ho (h2 := h2) (fun id hid => hc id (by simpa using List.all_eq_true.1 hn id hid)), hv, Option.map_some, if_neg hi, if_pos hn]
        · rw [if_neg hn]
          intro F2 hag
          rw [hrun F2 s.h hag]
          obtain ⟨e1, e2⟩ := evc F2 hag
          unfold goOp
          simp only [hop, e1, hf, hT, e2, ho, hv, Option.map_some, if_neg hi, if_neg hn]
    · rename_i hT
      obtain ⟨p, hv, hg⟩ := Option.map_eq_some_iff.1 hg
      cases hg
      refine ⟨p.1, p.2, rfl, fun F2 hag => ?_⟩
      rw [hrun F2 s.h hag]
      obtain ⟨e1, e2⟩ := evc F2 hag
      unfold goOp
      simp only [hop, e1, hf, hT, e2, hv, Option.map_some]
  · have hgo : ∀ s0, goOp G tab callf n0 r e s0 = (evalOp n0 r (Opd.ev G s0.F) s0.h e.op).map fun (v, h', c) => (⟨putO s0.F e.dst v, h'⟩, c) := by
      intro s0
      unfold goOp
      split
      · exact absurd ⟨_, _, ‹_›⟩ hcall
      · rfl
    rw [hgo] at hg
    obtain ⟨p, hp, hg⟩ := Option.map_eq_some_iff.1 hg
    obtain ⟨v, h', c0⟩ := p
    have hg1 : (⟨putO s.F e.dst v, h'⟩ : St) = s' := congrArg Prod.fst hg
    have hg2 : c0 = c := congrArg Prod.snd hg
    subst hg1; subst hg2
    refine ⟨v, h', rfl, ?_⟩
    obtain ⟨_, E⟩ := evalOp_eff hp
    have key : ∀ F2 h2, (∀ t ∈ e.reads, F2 t = s.F t) → runOp G tab callf n0 r e ⟨F2, h2⟩ = (evalOp n0 r (Opd.ev G s.F) h2 e.op).map fun (v, h', c) => (⟨putO F2 e.dst v, h'⟩, c) := by
      intro F2 h2 hag
      rw [hrun F2 h2 hag, hgo]
      simp only
      rw [evalOp_congr (F := F2) (F' := s.F) fun t ht => hag t (hreads t ht)]
    cases c0 with
    | pure =>
      obtain ⟨e1, e2⟩ := E
      exact ⟨e1, fun F2 h2 hag => by rw [key F2 h2 hag, e2 h2]; rfl⟩
    | al =>
      obtain ⟨blk, e1, e2⟩ := E
      exact ⟨blk, e1, fun F2 h2 hag => by rw [key F2 h2 hag, e2 h2]; rfl⟩
    | rd =>
      obtain ⟨e1, e2⟩ := E
      refine ⟨[], by rw [close_nil]; exact e1, fun F2 h2 hag hc => ?_⟩
      rw [key F2 h2 hag, e2 h2 hc, close_nil]; rfl
    | wr => exact fun F2 hag => by rw [key F2 s.h hag, hp]; rfl

theorem runOp_eff {n0 r : Nat} {e : IEn} {s s' : St} {c : Cls} (hg : runOp G tab callf n0 r e s = some (s', c)) :
    ∃ v h', s' = ⟨putO s.F e.dst v, h'⟩ ∧ REff G tab callf n0 r e s v h' c := by
  cases hgd : e.guard with
  | none =>
    have hr : ∀ s0, runOp G tab callf n0 r e s0 = goOp G tab callf n0 r e s0 := fun s0 => by unfold runOp; rw [hgd]
    rw [hr] at hg
    exact goOp_eff hg fun F2 h2 _ => hr _
  | some g =>
    obtain ⟨t, want⟩ := g
    have ht : t ∈ e.reads := by simp [IEn.reads, hgd]
    cases hb : s.F t <;> first
      | (unfold runOp at hg; simp only [hgd, hb] at hg; cases hg; done)
      | skip
    rename_i b
    by_cases hbw : b = want
    · have hr : ∀ F2 h2, (∀ t ∈ e.reads, F2 t = s.F t) → runOp G tab callf n0 r e ⟨F2, h2⟩ = goOp G tab callf n0 r e ⟨F2, h2⟩ := fun F2 h2 hag => by
        unfold runOp; simp only [hgd, hag t ht, hb, if_pos hbw]
      have h0 := hr s.F s.h (fun _ _ => rfl)
      have : runOp G tab callf n0 r e s = goOp G tab callf n0 r e s := h0
      rw [this] at hg
      exact goOp_eff hg hr
    · unfold runOp at hg
      simp only [hgd, hb, if_neg hbw] at hg
      cases hg
      refine ⟨.undef, s.h, rfl, rfl, fun F2 h2 hag => ?_⟩
      unfold runOp; simp only [hgd, hag t ht, hb, if_neg hbw]

theorem putO_comm {F : Nat → AV} {d e : Option Nat} {u v : AV} (h : ∀ x, d = some x → e ≠ some x) : putO (putO F d u) e v = putO (putO F e v) d u := by
  cases d with
  | none => rfl
  | some x =>
    cases e with
    | none => rfl
    | some y =>
      have hne : x ≠ y := fun q => h x rfl (by rw [q])
      funext t
      simp only [putO, upd]
      by_cases h1 : t = x <;> by_cases h2 : t = y <;> simp_all

theorem putO_other {F : Nat → AV} {d : Option Nat} {v : AV} {t : Nat} (h : ∀ x, d = some x → t ≠ x) : putO F d v t = F t := by
  cases d with
  | none => rfl
  | some x => simp [putO, upd, h x rfl]

theorem apart_spec {e f : IEn} (h : e.apart f = true) : (∀ x, e.dst = some x → x ∉ f.reads) ∧ (∀ x, e.dst = some x → f.dst ≠ some x) ∧ (∀ x, f.dst = some x → x ∉ e.reads) := by
  refine ⟨fun d hd => ?_, fun d hd => ?_, fun d hd => ?_⟩ <;> simp [IEn.apart, hd] at h
  · exact h.1.1
  · exact h.1.2
  · exact h.2

theorem new_new_comm (h : Hp) {r1 r2 : Nat} (b1 b2 : List AV) (hne : r1 ≠ r2) : (h.new r1 b1).new r2 b2 = (h.new r2 b2).new r1 b1 := by
  simp only [Hp.new, Hp.mk.injEq, and_true]
  funext t
  simp only [upd]
  by_cases h1 : t = r1 <;> by_cases h2 : t = r2 <;> simp_all

theorem close_close_comm (h : Hp) (a b : List Nat) : (h.close a).close b = (h.close b).close a := by
  simp only [Hp.close, Hp.mk.injEq, true_and, and_true]
  funext t
  cases h.shut t <;> cases a.contains t <;> cases b.contains t <;> rfl

theorem close_new_comm (h : Hp) (a : List Nat) (r : Nat) (b : List AV) : (h.close a).new r b = (h.new r b).close a := rfl

/-- Two operations that stand side by side may be changed about. -/
theorem swap_ok {n0 ri rj : Nat} {ei ej : IEn} {s s1 s2 : St} {ci cj : Cls} (h1 : runOp G tab callf n0 ri ei s = some (s1, ci)) (h2 : runOp G tab callf n0 rj ej s1 = some (s2, cj))
    (hap : ei.apart ej = true) (hc : compat ci cj = true) (hr : ri ≠ rj) (hi : n0 ≤ ri) (hj : n0 ≤ rj) :
    ∃ s1', runOp G tab callf n0 rj ej s = some (s1', cj) ∧ runOp G tab callf n0 ri ei s1' = some (s2, ci) := by
  obtain ⟨a1, a2, a3⟩ := apart_spec hap
  obtain ⟨vi, hi', rfl, Ei⟩ := runOp_eff h1
  obtain ⟨vj, hj', rfl, Ej⟩ := runOp_eff h2
  -- what j reads, i has not written; and the other way round
  have agj : ∀ t ∈ ej.reads, s.F t = (putO s.F ei.dst vi) t := fun t ht => (putO_other fun x hx => by rintro rfl; exact a1 _ hx ht).symm
  have agi : ∀ v t, t ∈ ei.reads → (putO s.F ej.dst v) t = s.F t := fun v t ht => putO_other fun x hx => by rintro rfl; exact a3 _ hx ht
  have pc : putO (putO s.F ej.dst vj) ei.dst vi = putO (putO s.F ei.dst vi) ej.dst vj := (putO_comm fun x hx => a2 x hx).symm
  cases ci with
  | pure =>
    obtain ⟨e1, e2⟩ := Ei
    subst e1
    cases cj with
    | pure =>
      obtain ⟨e3, e4⟩ := Ej
      subst e3
      exact ⟨_, e4 s.F s.h agj, by rw [e2 _ _ (agi vj), pc]⟩
    | al =>
      obtain ⟨blk, e3, e4⟩ := Ej
      subst e3
      exact ⟨_, e4 s.F s.h agj, by rw [e2 _ _ (agi vj), pc]⟩
    | rd =>
      obtain ⟨ids, e3, e4⟩ := Ej
      subst e3
      exact ⟨_, e4 s.F s.h agj (fun _ _ => rfl), by rw [e2 _ _ (agi vj), pc]⟩
    | wr => exact ⟨_, Ej s.F agj, by rw [e2 _ _ (agi vj), pc]⟩
  | al =>
    obtain ⟨blk, e1, e2⟩ := Ei
    subst e1
    cases cj with
    | pure =>
      obtain ⟨e3, e4⟩ := Ej
      subst e3
      exact ⟨_, e4 s.F s.h agj, by rw [e2 _ _ (agi vj), pc]⟩
    | al =>
      obtain ⟨blk2, e3, e4⟩ := Ej
      subst e3
      exact ⟨_, e4 s.F s.h agj, by rw [e2 _ _ (agi vj), pc, new_new_comm _ _ _ hr]⟩
    | rd =>
      obtain ⟨ids, e3, e4⟩ := Ej
      subst e3
      have hq : ∀ id, id < n0 → s.h.cells id = (s.h.new ri blk).cells id := fun id hid => by
        simp only [Hp.new, upd]; rw [if_neg (by omega)]
      exact ⟨_, e4 s.F s.h agj hq, by rw [e2 _ _ (agi vj), pc]; rfl⟩
    | wr => simp [compat] at hc
  | rd =>
    obtain ⟨ids, e1, e2⟩ := Ei
    subst e1
    cases cj with
    | pure =>
      obtain ⟨e3, e4⟩ := Ej
      subst e3
      exact ⟨_, e4 s.F s.h agj, by rw [e2 _ _ (agi vj) (fun _ _ => rfl), pc]⟩
    | al =>
      obtain ⟨blk2, e3, e4⟩ := Ej
      subst e3
      have hq : ∀ id, id < n0 → (s.h.new rj blk2).cells id = s.h.cells id := fun id hid => by
        simp only [Hp.new, upd]; rw [if_neg (by omega)]
      exact ⟨_, e4 s.F s.h agj, by rw [e2 _ _ (agi vj) hq, pc]; rfl⟩
    | rd =>
      obtain ⟨ids2, e3, e4⟩ := Ej
      subst e3
      exact ⟨_, e4 s.F s.h agj (fun _ _ => rfl), by rw [e2 _ (s.h.close ids2) (agi vj) (fun _ _ => rfl), pc, close_close_comm]⟩
    | wr => simp [compat] at hc
  | wr =>
    cases cj with
    | pure =>
      obtain ⟨e3, e4⟩ := Ej
      subst e3
      exact ⟨_, e4 s.F s.h agj, by rw [Ei _ (agi vj), pc]⟩
    | al => simp [compat] at hc
    | rd => simp [compat] at hc
    | wr => simp [compat] at hc

/-- An operation that nothing ahead of it must wait for may come first. -/
theorem front_ok {n0 : Nat} {e : IEn} {i : Nat} : ∀ {L1 L2 : List (IEn × Nat)} {s s' : St} {cs : List Cls}, runOps G tab callf n0 (L1 ++ (e, i) :: L2) s = some (s', cs) →
    (∀ k (hk : k < L1.length) (hk' : k < cs.length) (hl : L1.length < cs.length), L1[k].1.apart e = true ∧ compat cs[k] cs[L1.length] = true ∧ L1[k].2 ≠ i) →
    ∃ s1 c c1 c2, runOp G tab callf n0 (n0 + i) e s = some (s1, c) ∧ runOps G tab callf n0 (L1 ++ L2) s1 = some (s', c1 ++ c2) ∧ cs = c1 ++ c :: c2 ∧ c1.length = L1.length
  | [], L2, s, s', cs, h, _ => by
    simp only [List.nil_append, runOps] at h
    split at h <;> try (cases h; done)
    rename_i s1 c h1
    obtain ⟨p, h2, h3⟩ := Option.map_eq_some_iff.1 h
    cases h3
    exact ⟨s1, c, [], p.2, h1, h2, rfl, rfl⟩
  | (e0, i0) :: L1, L2, s, s', cs, h, hq => by
    simp only [List.cons_append, runOps] at h
    split at h <;> try (cases h; done)
    rename_i sa c0 h1
    obtain ⟨p, h2, h3⟩ := Option.map_eq_some_iff.1 h
    obtain ⟨s'', cs'⟩ := p
    cases h3
    have hlen : ∀ {L : List (IEn × Nat)} {s s' : St} {cs : List Cls}, runOps G tab callf n0 L s = some (s', cs) → cs.length = L.length := by
      intro L
      induction L with
      | nil => intro s s' cs h; simp only [runOps] at h; cases h; rfl
      | cons q L ih =>
        intro s s' cs h
        simp only [runOps] at h
        split at h <;> try (cases h; done)
        obtain ⟨p, h2, h3⟩ := Option.map_eq_some_iff.1 h
        cases h3
        simp [ih h2]
    have hl2 := hlen h2
    obtain ⟨sb, c, c1, c2, g1, g2, rfl, g4⟩ := front_ok h2 (fun k hk hk' hl => by
      have := hq (k + 1) (by simp; omega) (by simp; omega) (by simp; omega)
      simpa using this)
    have h0 := hq 0 (by simp) (by simp) (by simp [g4])
    simp only [List.getElem_cons_zero, List.length_cons, List.getElem_cons_succ] at h0
    have hcc : (c1 ++ c :: c2)[L1.length]'(by simp [g4]) = c := by simp [← g4]
    rw [hcc] at h0
    obtain ⟨s1', k1, k2⟩ := swap_ok h1 g1 h0.1 h0.2.1 (by have := h0.2.2; simp at this; omega) (by omega) (by omega)
    refine ⟨s1', c, c0 :: c1, c2, k1, ?_, rfl, by simp [g4]⟩
    simp only [List.cons_append, runOps, k2, g2, Option.map_some]

end
end Go.Eng
