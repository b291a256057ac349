/- One operation, calls too, against the model: the reckoner's state stands for the model's before and behind it. -/
import Derived.Test.YtfgelmgfalbapaaDoorEngX2
namespace Go.Eng
open Go Go.RowKit

theorem Rep.vptr_any {w : World} {ok : Nat → Prop} {σ σ' : Nat → Option (Nat × Nat)} {v : AV} {cv : Value} (h : Rep w ok σ (.vptr v) cv) : Rep w ok σ' (.vptr v) cv := by
  obtain ⟨ad, vals, rfl, h1, h2⟩ := h.vptr_inv
  exact .vptr v ad vals h1 h2

/-- What a call of a function comes to, be its body walked or not. -/
def Does (P : Program) (f : FuncId) (args : Array Value) (w : World) (R : Value → World → Prop) : Prop :=
  ((callFunc f args).run P w = .ok (.enter f args) w ∧ Calls P f args w fun e w' => ∃ cv, e = .returned cv ∧ R cv w') ∨
  ∃ cv w', (callFunc f args).run P w = .ok (.value cv) w' ∧ R cv w'

/-- A function's contract over values that nothing writes: it returns what 'T' says, and turns nothing that was there. -/
def Contract (P : Program) (G : Nat → Option AV) (f : FuncId) (T : List AV → Option AV) : Prop :=
  ∀ args v, T args = some v → ∀ (ok : Nat → Prop) (w : World) (cargs : Array Value), cargs.size = args.length →
    (∀ i (h : i < args.length) (h' : i < cargs.size), RepV w ok args[i] cargs[i]) →
    (∀ g u, G g = some u → Rep w ok (fun _ => none) (.vptr u) (.pointer (some ⟨g, 0, none⟩))) →
    Does P f cargs w fun cv w' => RepV w' (fun b => ok b ∨ w.heap.size ≤ b) v cv ∧ Below w.heap.size w w'

/-- Walked calls, in a state. -/
def CallOk (P : Program) (G : Nat → Option AV) (callf : FuncId → List AV → Hp → Option (AV × Hp)) : Prop :=
  ∀ f args h v h', callf f args h = some (v, h') → h.next ≤ h'.next ∧
    ∀ base okin σ w (cargs : Array Value), HS base okin σ h w → cargs.size = args.length →
      (∀ i (hi : i < args.length) (hi' : i < cargs.size), Rep w (okOf base okin σ h) σ args[i] cargs[i]) →
      (∀ g u, G g = some u → Rep w (okOf base okin σ h) σ (.vptr u) (.pointer (some ⟨g, 0, none⟩))) → (∀ id, h.next ≤ id → σ id = none) →
      Does P f cargs w fun cv w' => ∃ σ', Prog base okin σ h w σ' h' w' ∧ HS base okin σ' h' w' ∧ Rep w' (okOf base okin σ' h') σ' v cv ∧
        (∀ id, h'.next ≤ id → σ' id = none) ∧ ∀ id, id < h.next → σ' id = σ id

structure Sim (G : Nat → Option AV) (base : Nat) (okin : Nat → Prop) (N : Nat) (m0 : Nat) (σ0 : Nat → Option (Nat × Nat)) (lo : Nat → Prop) (σ : Nat → Option (Nat × Nat)) (s : St) (a : Act) (w : World) : Prop where
  hs : HS base okin σ s.h w
  fr : FR G (okOf base okin σ s.h) σ w s.F a
  size : N ≤ a.tmps.size
  defers : a.defers = []
  free : ∀ id, lo id → m0 ≤ id ∧ id < s.h.next ∧ σ id = none
  low : m0 ≤ s.h.next
  old : ∀ id, id < m0 → σ id = σ0 id
  fresh : ∀ id, s.h.next ≤ id → σ id = none

section
variable {P : Program} {G : Nat → Option AV} {base : Nat} {okin : Nat → Prop} {N : Nat} {m0 : Nat} {σ0 : Nat → Option (Nat × Nat)} {lo : Nat → Prop} {σ : Nat → Option (Nat × Nat)} {w : World} {a : Act}

theorem FR.mono {σ' : Nat → Option (Nat × Nat)} {h h' : Hp} {w' : World} {F : Nat → AV} (fr : FR G (okOf base okin σ h) σ w F a) (p : Prog base okin σ h w σ' h' w') : FR G (okOf base okin σ' h') σ' w' F a :=
  ⟨fun t => p.rep (fr.slot t), fun g v hg => p.rep (fr.glob g v hg)⟩

theorem FR.put {h : Hp} {F : Nat → AV} (fr : FR G (okOf base okin σ h) σ w F a) {d : Option Nat} (hd : d.all (fun d => decide (d < N)) = true) (hN : N ≤ a.tmps.size) {v : AV} {cv : Value} (hv : Rep w (okOf base okin σ h) σ v cv) :
    FR G (okOf base okin σ h) σ w (putO F d v) (a.put d cv) := by
  refine ⟨fun t => ?_, fr.glob⟩
  cases d with
  | none => exact fr.slot t
  | some d =>
    have hlt : d < a.tmps.size := by
      have : d < N := by simpa using hd
      omega
    simp only [putO, upd, Act.put]
    by_cases e : t = d
    · subst e
      rw [if_pos rfl]
      simpa [Array.getD, hlt] using hv
    · rw [if_neg e]
      have := fr.slot t
      have e2 : (a.tmps.setIfInBounds d cv).getD t undef = a.tmps.getD t undef := by
        simp only [Array.getD_eq_getD_getElem?]
        rw [Array.getElem?_setIfInBounds_ne (Ne.symm e)]
      rw [e2]; exact this

theorem put_size (a : Act) (d : Option Nat) (v : Value) : (a.put d v).tmps.size = a.tmps.size := by
  cases d <;> simp [Act.put]

theorem put_defers (a : Act) (d : Option Nat) (v : Value) : (a.put d v).defers = a.defers := by
  cases d <;> rfl

/-- The world has grown; what was there is as it was. -/
theorem HS.grown {h : Hp} (H : HS base okin σ h w) {w' : World} (hb : Below w.heap.size w w') : HS base okin σ h w' ∧ Prog base okin σ h w σ h w' := by
  have P : Prog base okin σ h w σ h w' := ⟨fun _ _ x => x, fun b hlt ho => ⟨ho, hb.block b hlt⟩, hb.mono H.base, sizeAt_below hb⟩
  refine ⟨⟨fun id b s hi => ⟨(H.val id b s hi).1, Nat.lt_of_lt_of_le (H.val id b s hi).2 hb.size⟩, fun id bk hbk => ?_, H.inj, Nat.le_trans H.base hb.size⟩, P⟩
  obtain ⟨b, s, ar, ty, e1, e2, e3⟩ := H.blk id bk hbk
  refine ⟨b, s, ar, ty, e1, by rw [hb.block b (H.val _ _ _ e1).2]; exact e2, fun i hi => ⟨(e3 i hi).1, fun j hj => ?_⟩⟩
  obtain ⟨v, g1, g2⟩ := (e3 i hi).2 j hj
  exact ⟨v, g1, P.rep g2⟩

theorem okOf_close_mono {h : Hp} {x y : List Nat} (hxy : ∀ i ∈ x, i ∈ y) (b : Nat) (ho : okOf base okin σ (h.close x) b) : okOf base okin σ (h.close y) b := by
  rcases ho with ho | ⟨h1, h2⟩
  · exact .inl ho
  · refine .inr ⟨h1, fun id s hs hl => ?_⟩
    have := h2 id s hs hl
    simp only [Hp.close, Bool.or_eq_true, List.contains_iff_mem] at this ⊢
    exact this.imp (fun q => q) (hxy id)

theorem out1_rep {h : Hp} (H : HS base okin σ h w) {v u : AV} {cv : Value} {ids : List Nat} (hr : Rep w (okOf base okin σ h) σ v cv) (ho : out1 h v = some (u, ids)) : RepV w (okOf base okin σ (h.close ids)) u cv := by
  cases v <;> simp only [out1] at ho <;> try (cases ho; done)
  case int k n => cases ho; rw [hr.int_inv]; exact .int k n
  case bool b => cases ho; rw [hr.bool_inv]; exact .bool b
  case str s => cases ho; rw [hr.str_inv]; exact .str s
  case nilfn => cases ho; rw [hr.nilfn_inv]; exact .nilfn
  case sl xs ex =>
    cases ho
    have := hr.sl_inv
    rw [close_nil]
    exact this
  case ref id off len cap =>
    split at ho <;> try (cases ho; done)
    rename_i blk hb
    split at ho <;> try (cases ho; done)
    rename_i hq
    obtain ⟨q1, q2⟩ := hq
    cases ho
    obtain ⟨A, c, b, sz, rfl, e1, e2, e3, e4⟩ := hr.ref_inv
    obtain ⟨b', sz', arr, ty, f1, f2, f3⟩ := H.blk id blk hb
    rw [e1] at f1; cases f1
    have hlen : ((blk.drop off).take len).length = len := by simp; omega
    have hel : ∀ i (hi : i < len), ((blk.drop off).take len)[i]'(by rw [hlen]; exact hi) = blk[off + i]'(by omega) := by intro i hi; simp
    have hok : okOf base okin σ (h.close [id]) b := by
      refine .inr ⟨(H.val _ _ _ e1).1, fun id' s hs hl => ?_⟩
      have : id' = id := H.inj id' id b s sz hl (by simp [hb]) hs e1
      subst this
      simp [Hp.close]
    have R := RepV.sl (w := w) (ok := okOf base okin σ (h.close [id])) ((blk.drop off).take len) false A c sz (fun i j => (arr[(off + i) * sz + j]?).getD undef) (by rw [hlen]; exact e2) (fun hh => absurd hh (by simp))
      (fun i hi => by rw [hlen] at hi; rw [hel i hi]; exact (f3 _ _).1)
      (fun i j hi hj => by
        rw [hlen] at hi
        obtain ⟨rfl, _⟩ := e4 (by omega)
        refine ⟨_, rfl, hok, ?_⟩
        obtain ⟨vv, g1, _⟩ := (f3 (off + i) (by omega)).2 j (by rw [(f3 (off + i) (by omega)).1]; exact hj)
        rw [add_at]
        simp only [World.cell?, f2, Option.isSome_none, Bool.false_eq_true, if_false]
        rw [show off * sz + (i * sz + j) = (off + i) * sz + j by rw [Nat.add_mul]; omega, g1]; rfl)
      (fun hpos => by
        rw [hlen] at hpos
        obtain ⟨rfl, _⟩ := e4 (by omega)
        rfl)
      (fun i hi j hj => by
        rw [hlen] at hi
        have he := hel i hi
        simp only [he] at hj ⊢
        obtain ⟨vv, g1, g2⟩ := (f3 (off + i) (by omega)).2 j hj
        show RepV _ _ _ ((arr[(off + i) * sz + j]?).getD undef)
        rw [g1]
        have hbv : (blk[off + i]'(by omega)).cells[j].bv1 = true := List.all_eq_true.1 (List.all_eq_true.1 q2 _ (List.getElem_mem _)) _ (List.getElem_mem hj)
        exact (RepV.of_bv1 g2 hbv).ok_mono fun k hk hok => by
          have := okOf_close_mono (base := base) (okin := okin) (σ := σ) (h := h) (x := []) (y := [id]) (by simp) k (by rw [close_nil]; exact hok)
          exact this)
    rw [hlen] at R
    exact R

theorem outL_rep {h : Hp} (H : HS base okin σ h w) : ∀ {vs us : List AV} {ids : List Nat} (cs : Nat → Value), (∀ i (hi : i < vs.length), Rep w (okOf base okin σ h) σ vs[i] (cs i)) → outL h vs = some (us, ids) →
    us.length = vs.length ∧ ∀ i (hi : i < us.length), RepV w (okOf base okin σ (h.close ids)) us[i] (cs i)
  | [], us, ids, cs, _, ho => by simp only [outL] at ho; cases ho; exact ⟨rfl, fun i hi => absurd hi (by simp)⟩
  | v :: vs, us, ids, cs, hr, ho => by
    simp only [outL] at ho
    split at ho <;> try (cases ho; done)
    rename_i v' x vs' y h1 h2
    cases ho
    obtain ⟨l, q⟩ := outL_rep H (fun i => cs (i + 1)) (fun i hi => hr (i + 1) (by simpa using hi)) h2
    refine ⟨by simp [l], fun i hi => ?_⟩
    cases i with
    | zero => exact (out1_rep H (hr 0 (by simp)) h1).ok_mono fun b _ hb => okOf_close_mono (fun i hi => by simp [hi]) b hb
    | succ i => exact (q i (by simpa using hi)).ok_mono fun b _ hb => okOf_close_mono (fun i hi => by simp [hi]) b hb

theorem out2_rep {h : Hp} (H : HS base okin σ h w) {v u : AV} {cv : Value} {ids : List Nat} (hr : Rep w (okOf base okin σ h) σ v cv) (ho : out2 h v = some (u, ids)) : RepV w (okOf base okin σ (h.close ids)) u cv := by
  by_cases hv : ∃ cs, v = .agg cs
  · obtain ⟨cs, rfl⟩ := hv
    simp only [out2] at ho
    obtain ⟨p, h1, he⟩ := Option.map_eq_some_iff.1 ho
    obtain ⟨us, ids'⟩ := p
    cases he
    obtain ⟨vs, rfl, l1, r1⟩ := hr.agg_inv
    obtain ⟨l2, r2⟩ := outL_rep H (fun i => vs.getD i undef) (fun i hi => by
      have hlt : i < vs.size := by omega
      have := r1 i hi hlt
      simpa [Array.getD, hlt] using this) h1
    refine .agg _ _ (by show vs.size = us.length; omega) (fun i hi hi' => ?_)
    have := r2 i hi
    simpa [Array.getD, hi'] using this
  · refine out1_rep H hr ?_
    cases v <;> first | exact ho | exact absurd ⟨_, rfl⟩ hv

theorem out2L_rep {h : Hp} (H : HS base okin σ h w) : ∀ {vs us : List AV} {ids : List Nat} (cs : Nat → Value), (∀ i (hi : i < vs.length), Rep w (okOf base okin σ h) σ vs[i] (cs i)) → out2L h vs = some (us, ids) →
    us.length = vs.length ∧ ∀ i (hi : i < us.length), RepV w (okOf base okin σ (h.close ids)) us[i] (cs i)
  | [], us, ids, cs, _, ho => by simp only [out2L] at ho; cases ho; exact ⟨rfl, fun i hi => absurd hi (by simp)⟩
  | v :: vs, us, ids, cs, hr, ho => by
    simp only [out2L] at ho
    split at ho <;> try (cases ho; done)
    rename_i v' x vs' y h1 h2
    cases ho
    obtain ⟨l, q⟩ := out2L_rep H (fun i => cs (i + 1)) (fun i hi => hr (i + 1) (by simpa using hi)) h2
    refine ⟨by simp [l], fun i hi => ?_⟩
    cases i with
    | zero => exact (out2_rep H (hr 0 (by simp)) h1).ok_mono fun b _ hb => okOf_close_mono (fun i hi => by simp [hi]) b hb
    | succ i => exact (q i (by simpa using hi)).ok_mono fun b _ hb => okOf_close_mono (fun i hi => by simp [hi]) b hb

theorem out3_rep {h : Hp} (H : HS base okin σ h w) {v u : AV} {cv : Value} {ids : List Nat} (hr : Rep w (okOf base okin σ h) σ v cv) (ho : out3 h v = some (u, ids)) : RepV w (okOf base okin σ (h.close ids)) u cv := by
  by_cases hv : ∃ cs, v = .tup cs
  · obtain ⟨cs, rfl⟩ := hv
    simp only [out3] at ho
    obtain ⟨p, h1, he⟩ := Option.map_eq_some_iff.1 ho
    obtain ⟨us, ids'⟩ := p
    cases he
    obtain ⟨vs, rfl, l1, r1⟩ := hr.tup_inv
    obtain ⟨l2, r2⟩ := out2L_rep H (fun i => vs.getD i undef) (fun i hi => by
      have hlt : i < vs.size := by omega
      have := r1 i hi hlt
      simpa [Array.getD, hlt] using this) h1
    refine .tup _ _ (by show vs.size = us.length; omega) (fun i hi hi' => ?_)
    have := r2 i hi
    simpa [Array.getD, hi'] using this
  · refine out2_rep H hr ?_
    cases v <;> first | exact ho | exact absurd ⟨_, rfl⟩ hv

end
end Go.Eng
