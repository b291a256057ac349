/- Each operation but a call: the model's answer stands for the reckoner's. -/
import Derived.Test.YtfgelmgfalbapaaDoorEngS8
import Derived.Laws.StructEq
namespace Go.Eng
open Go Go.RowKit

section
variable {P : Program} {base : Nat} {okin : Nat → Prop} {σ : Nat → Option (Nat × Nat)} {h : Hp} {w : World} {G : Nat → Option AV} {F : Nat → AV} {a : Act}

theorem foldInt_min (ok : Nat → Prop) : ∀ (xs : List AV) (k : IntKind) (x : Int) (cs : List Value) (v : AV), foldInt (fun a b => if b < a then b else a) (.int k x :: xs) = some v →
    xs.length = cs.length → (∀ i (h : i < xs.length) (h' : i < cs.length), Rep w ok σ xs[i] cs[i]) →
    ∃ cv, (cs.foldlM Builtin.min2 (.int k x) : Sem Value).run P w = .ok cv w ∧ Rep w ok σ v cv
  | [], k, x, cs, v, h, hl, _ => by
    have : cs = [] := List.eq_nil_of_length_eq_zero (by simpa using hl.symm)
    subst this
    simp only [foldInt] at h; cases h
    exact ⟨.int k x, by simp, .val _ _ (.int _ _)⟩
  | y :: xs, k, x, [], v, h, hl, _ => by simp at hl
  | y :: xs, k, x, c :: cs, v, h, hl, hr => by
    have r0 := hr 0 (by simp) (by simp)
    simp only [List.getElem_cons_zero] at r0
    cases y <;> simp only [foldInt] at h <;> try (cases h; done)
    rename_i k' y
    split at h <;> try (cases h; done)
    rename_i hk
    subst hk
    rw [r0.int_inv]
    obtain ⟨cv, e1, e2⟩ := foldInt_min ok xs k (if y < x then y else x) cs v h (by simpa using hl) (fun i hi hi' => by
      have := hr (i + 1) (by simp; omega) (by simp; omega)
      simpa using this)
    exact ⟨cv, by simpa [List.foldlM_cons, Builtin.min2] using e1, e2⟩

theorem foldInt_max (ok : Nat → Prop) : ∀ (xs : List AV) (k : IntKind) (x : Int) (cs : List Value) (v : AV), foldInt (fun a b => if a < b then b else a) (.int k x :: xs) = some v →
    xs.length = cs.length → (∀ i (h : i < xs.length) (h' : i < cs.length), Rep w ok σ xs[i] cs[i]) →
    ∃ cv, (cs.foldlM Builtin.max2 (.int k x) : Sem Value).run P w = .ok cv w ∧ Rep w ok σ v cv
  | [], k, x, cs, v, h, hl, _ => by
    have : cs = [] := List.eq_nil_of_length_eq_zero (by simpa using hl.symm)
    subst this
    simp only [foldInt] at h; cases h
    exact ⟨.int k x, by simp, .val _ _ (.int _ _)⟩
  | y :: xs, k, x, [], v, h, hl, _ => by simp at hl
  | y :: xs, k, x, c :: cs, v, h, hl, hr => by
    have r0 := hr 0 (by simp) (by simp)
    simp only [List.getElem_cons_zero] at r0
    cases y <;> simp only [foldInt] at h <;> try (cases h; done)
    rename_i k' y
    split at h <;> try (cases h; done)
    rename_i hk
    subst hk
    rw [r0.int_inv]
    obtain ⟨cv, e1, e2⟩ := foldInt_max ok xs k (if x < y then y else x) cs v h (by simpa using hl) (fun i hi hi' => by
      have := hr (i + 1) (by simp; omega) (by simp; omega)
      simpa using this)
    exact ⟨cv, by simpa [List.foldlM_cons, Builtin.max2] using e1, e2⟩

theorem fieldPlace_run {f : Field} {sz : Nat} (hs : szOf P f.type = some sz) (h0 : sz ≠ 0) (ad : Addr) : (fieldPlace ad f).run P w = .ok (ad.add f.offset) w := by
  simp [fieldPlace, run_sizeOf hs, h0]

/-- The address of a part of what nothing writes. -/
theorem vptr_part {ok : Nat → Prop} {v : AV} {ad : Addr} {vals : Nat → Value} (g1 : ∀ j, j < v.cells.length → ok ad.block ∧ w.cell? (ad.add j) = some (vals j)) (g2 : ∀ j (h : j < v.cells.length), RepV w ok (v.cells[j]) (vals j))
    {off sz : Nat} {ag : Bool} {cs : List AV} {u : AV} (hc : cut v.cells off sz = some cs) (hp : partOf ag cs = some u) : Rep w ok σ (.vptr u) (.pointer (some (ad.add off))) := by
  obtain ⟨c1, c2, c3⟩ := cut_spec hc
  have hcell : ∀ j, j < cs.length → ok (ad.add off).block ∧ w.cell? ((ad.add off).add j) = some (vals (off + j)) := by
    intro j hj
    obtain ⟨o1, o2⟩ := g1 (off + j) (by omega)
    refine ⟨by rw [Addr.add_block]; exact o1, ?_⟩
    have hsp : ad.spot = none ∨ 0 < off + j := by
      by_cases h0 : 0 < off + j
      · exact .inr h0
      · have h0' : off + j = 0 := by omega
        rw [h0'] at o2
        refine .inl ?_
        cases hs : ad.spot with
        | none => rfl
        | some s =>
          have e : ad.add 0 = ad := by unfold Addr.add; simp
          rw [e] at o2
          unfold World.cell? at o2
          simp only [hs, Option.isSome_some, if_true] at o2
          split at o2 <;> cases o2
    rw [add_add _ _ _ hsp]; exact o2
  have hu : u.cells = cs := by
    rcases partOf_spec hp with ⟨rfl, rfl⟩ | ⟨rfl, rfl, hs⟩
    · rfl
    · cases u <;> first | rfl | simp [AV.scal] at hs
  refine .vptr u _ (fun j => vals (off + j)) (fun j hj => hcell j (by rw [← hu]; exact hj)) (fun j hj => ?_)
  have hj' : j < cs.length := by rw [← hu]; exact hj
  have e : u.cells[j] = v.cells[off + j]'(by omega) := by
    have := c3 j hj' (by omega)
    simp only [hu]; exact this
  rw [e]; exact g2 _ _

theorem run_value_of {x : Sem Next} {s : Sem Value} (hx : x = (do pure (.value (← s)))) {cv : Value} {w' : World} (e : s.run P w = .ok cv w') : x.run P w = .ok (.value cv) w' := by
  rw [hx]; simp [e]

theorem HS.sized (H : HS base okin σ h w) {id b sz s : Nat} (hs : σ id = some (b, sz)) (hb : sizedB s (h.cells id) = true) : sz = s := by
  cases hc : h.cells id with
  | none => rw [hc] at hb; cases hb
  | some blk =>
    rw [hc] at hb
    simp only [sizedB, Bool.and_eq_true, decide_eq_true_eq] at hb
    obtain ⟨b', sz', arr, ty, e1, _, e3⟩ := H.blk id blk hc
    rw [hs] at e1; cases e1
    have h1 := (e3 0 hb.1).1
    have h2 := all_len hb.2 _ (List.getElem_mem hb.1)
    omega

/-- Each operation but a call. -/
theorem evalOp_ok (H : HS base okin σ h w) (fr : FR G (okOf base okin σ h) σ w F a) {n0 r : Nat} (hr : σ r = none) (o : Oper) {iop : IOp} (hc : compOp P o.op = some iop)
    {v : AV} {h' : Hp} {c : Cls} (he : evalOp n0 r (Opd.ev G F) h iop = some (v, h', c)) :
    StepOk base okin σ h w r v h' ((execOp a.eval o).run P w) := by
  cases hop : o.op <;> rw [hop] at hc <;> try (simp only [compOp] at hc; cases hc; done)
  case move x =>
    obtain ⟨y, hy, rfl⟩ := Option.map_eq_some_iff.1 hc
    simp only [evalOp] at he; cases he
    exact .pure H (by simp [execOp, hop]) (fr.opd hy)
  case assign x =>
    obtain ⟨y, hy, rfl⟩ := Option.map_eq_some_iff.1 hc
    simp only [evalOp] at he; cases he
    exact .pure H (by simp [execOp, hop]) (fr.opd hy)
  case pick cc x y =>
    simp only [compOp] at hc
    split at hc <;> try (cases hc; done)
    rename_i c' x' y' h1 h2 h3
    cases hc
    simp only [evalOp] at he
    split at he <;> try (cases he; done)
    rename_i t ht
    cases he
    have hb := fr.opd h1
    rw [ht] at hb
    refine .pure H (cv := if t then a.eval x else a.eval y) (by simp [execOp, hop, hb.bool_inv, asBool]) ?_
    cases t
    · exact fr.opd h3
    · exact fr.opd h2
  case alloc e =>
    obtain ⟨z, hz, rfl⟩ := Option.map_eq_some_iff.1 hc
    simp only [evalOp] at he; cases he
    obtain ⟨zv, z1, z2, z3, z4, _⟩ := zero_CR (P := P) (w := w) (σ := σ) (ok := okOf base okin σ h) hz
    obtain ⟨σ', w', e1, e2, e3, e4, e5⟩ := newVar_ok (P := P) H hr (t := e) (Rep.val _ _ z4) z3
    exact ⟨σ', _, w', .inl (by simp [execOp, hop, Instr.alloc, z1, e1]), e2, e3, e4, e5⟩
  case box e x =>
    obtain ⟨y, hy, rfl⟩ := Option.map_eq_some_iff.1 hc
    simp only [evalOp] at he
    split at he <;> try (cases he; done)
    rename_i hs
    cases he
    obtain ⟨σ', w', e1, e2, e3, e4, e5⟩ := newVar_ok (P := P) H hr (t := e) (fr.opd hy) hs
    exact ⟨σ', _, w', .inl (by simp [execOp, hop, Instr.box, e1]), e2, e3, e4, e5⟩
  case build t ps =>
    obtain ⟨rfl, cv, e1, e2⟩ := build_ok fr hc he
    exact .pure H (by simp [execOp, hop] at e1 ⊢; simp [e1]) e2
  case buildSlice t n ps =>
    obtain ⟨rfl, cv, w', e1, e2, e3, e4⟩ := bsl_ok H fr hc he
    exact ⟨σ, cv, w', .inl (by simp [execOp, hop] at e1 ⊢; simp [e1]), e2, e3, e4, fun _ _ => rfl⟩
  case load t x =>
    simp only [compOp] at hc
    split at hc <;> try (cases hc; done)
    rename_i ag s y h1 h2 h3
    split at hc <;> try (cases hc; done)
    rename_i h4
    cases hc
    obtain ⟨rfl, cv, e1, e2⟩ := load_ok (P := P) H h1 h2 h4 (fr.opd h3) he
    exact .pure H (by simp [execOp, hop, e1]) e2
  case store t x y =>
    simp only [compOp] at hc
    split at hc <;> try (cases hc; done)
    rename_i s x' y' h1 h2 h3
    cases hc
    obtain ⟨rfl, w', e1, e2, e3⟩ := store_ok (P := P) H h1 (fr.opd h2) (fr.opd h3) he
    exact ⟨σ, undef, w', .inr ⟨by simp [execOp, hop, e1], rfl⟩, e2, e3, .undef _, fun _ _ => rfl⟩
  case binOp op t x y yt =>
    simp only [compOp] at hc
    split at hc <;> try (cases hc; done)
    rename_i x' y' h1 h2
    split at hc <;> try (cases hc; done)
    · cases hc
      simp only [evalOp] at he
      obtain ⟨u, hv, he⟩ := Option.map_eq_some_iff.1 he
      cases he
      obtain ⟨cv, e1, e2⟩ := binOp_run (P := P) 0 op t x y (fr.opd h1) (fr.opd h2) hv (fun e => absurd e (by decide))
      exact .pure H (run_value_of (by simp only [execOp, hop]) e1) e2
    · rename_i hu
      cases hc
      simp only [evalOp] at he
      obtain ⟨u, hv, he⟩ := Option.map_eq_some_iff.1 he
      cases he
      obtain ⟨cv, e1, e2⟩ := binOp_run (P := P) 1 op t x y (fr.opd h1) (fr.opd h2) hv (fun _ => hu)
      exact .pure H (run_value_of (by simp only [execOp, hop]) e1) e2
    · cases hc
      simp only [evalOp] at he
      obtain ⟨u, hv, he⟩ := Option.map_eq_some_iff.1 he
      cases he
      obtain ⟨cv, e1, e2⟩ := binOp_run (P := P) 2 op t x y (fr.opd h1) (fr.opd h2) hv (fun e => absurd e (by decide))
      exact .pure H (run_value_of (by simp only [execOp, hop]) e1) e2
    · rename_i n e hu
      split at hc <;> try (cases hc; done)
      rename_i k hue hs1
      have hdep : ∃ d, P.depth = d + 1 + 1 := ⟨2 * (P.types.size + Made.depth), rfl⟩
      have hguard : P.eqGuardType P.depth t = false := by
        obtain ⟨d, hd⟩ := hdep
        rw [hd]
        simp [Program.eqGuardType, hu, hue]
      have main : ∀ neg, IOp.eqA neg n x' y' = iop → (op = if neg then .neq else .eql) → StepOk base okin σ h w r v h' ((execOp a.eval o).run P w) := by
        rintro neg rfl hopp
        simp only [evalOp] at he
        split at he <;> try (cases he; done)
        rename_i xs ys hx hy
        split at he <;> try (cases he; done)
        rename_i hn
        obtain ⟨b, hb, he⟩ := Option.map_eq_some_iff.1 he
        cases he
        have rx := fr.opd h1
        have ry := fr.opd h2
        rw [hx] at rx; rw [hy] at ry
        obtain ⟨e1, vx, vy, ex, ey⟩ := run_equal_array (P := P) hu hs1 hue rx ry hb hn
        rw [ex, ey] at e1
        have hg := run_eqGuard_agg w op t x y vx vy hguard
        refine .pure H (cv := .bool (b != neg)) ?_ (.val _ _ (.bool _))
        cases neg
        · simp only [Bool.false_eq_true, if_false] at hopp
          subst hopp
          have e2 : (binOp .eql t (.agg vx) (.agg vy)).run P w = .ok (.bool b) w := by
            show (do pure (.bool (← Op.equal t (.agg vx) (.agg vy))) : Sem Value).run P w = _
            simp [e1]
          simp [execOp, hop, ex, ey, hg, e2]
        · simp only [if_true] at hopp
          subst hopp
          have e2 : (binOp .neq t (.agg vx) (.agg vy)).run P w = .ok (.bool !b) w := by
            show (do pure (.bool !(← Op.equal t (.agg vx) (.agg vy))) : Sem Value).run P w = _
            simp [e1]
          simp [execOp, hop, ex, ey, hg, e2]
      split at hc
      · rename_i ho
        cases hc
        exact main false rfl (by simpa using ho)
      · split at hc <;> try (cases hc; done)
        rename_i ho
        cases hc
        exact main true rfl (by simpa using ho)
  case unOp op t x =>
    obtain ⟨y, hy, rfl⟩ := Option.map_eq_some_iff.1 hc
    simp only [evalOp] at he
    obtain ⟨u, hv, he⟩ := Option.map_eq_some_iff.1 he
    cases he
    obtain ⟨cv, e1, e2⟩ := unOp_run (P := P) op (fr.opd hy) hv
    exact .pure H (by simp [execOp, hop, e1]) e2
  case convert s d x =>
    simp only [compOp] at hc
    split at hc <;> try (cases hc; done)
    rename_i ks k y h1 h2 h3
    cases hc
    simp only [evalOp] at he
    split at he <;> try (cases he; done)
    rename_i k' n hx
    cases he
    have rx := fr.opd h3
    rw [hx] at rx
    refine .pure H (cv := .int k (k.wrap n)) ?_ (.val _ _ (.int _ _))
    simp [execOp, hop, rx.int_inv, convert, run_underlying h1, run_underlying h2, Conv.intToInt]
  case makeFunc f first caps =>
    cases f with
    | func f =>
      simp only [compOp] at hc
      split at hc <;> try (cases hc; done)
      rename_i x y h1 h2
      cases hc
      simp only [evalOp] at he; cases he
      obtain ⟨l1, r1⟩ := opdsOf_rep fr h1
      obtain ⟨l2, r2⟩ := opdsOf_rep fr h2
      refine .pure H (cv := .func (.func f) (first.map a.eval) (caps.map a.eval)) (by simp [execOp, hop, Instr.makeFunc]) ?_
      refine .fn f _ _ _ _ (by simp [l1]) (by simp [l2]) (fun i hi hi' => ?_) (fun i hi hi' => ?_)
      · have q := r1 i (by simpa using hi) (by simpa using hi')
        rw [Array.getElem_toList] at q
        simpa using q
      · have q := r2 i (by simpa using hi) (by simpa using hi')
        rw [Array.getElem_toList] at q
        simpa using q
    | _ => simp only [compOp] at hc; cases hc
  case makeSlice t x y =>
    obtain ⟨σ', cv, w', e1, e2, e3, e4, e5⟩ := mksl_ok H fr hr hc he
    exact ⟨σ', cv, w', .inl (by simp [execOp, hop, e1]), e2, e3, e4, e5⟩
  case slice t x lo hi mx =>
    simp only [compOp] at hc
    split at hc <;> try (cases hc; done)
    rename_i e hu
    split at hc <;> try (cases hc; done)
    rename_i s y lo' hi' mx' h1 h2 h3 h4 h5
    split at hc <;> try (cases hc; done)
    rename_i hmh
    have hmh : (mx'.isSome && hi'.isNone) = false := by simpa only [Bool.not_eq_true] using hmh
    cases hc
    have rx := fr.opd h2
    simp only [evalOp] at he
    split at he
    · rename_i id off len cap hx
      rw [hx] at rx
      split at he <;> try (cases he; done)
      rename_i l u m b1 b2 b3
      split at he <;> try (cases he; done)
      rename_i hq
      obtain ⟨q1, q2, q3, q4⟩ := hq
      cases he
      obtain ⟨A, c, b, sz, ecx, g1, g2, g3, g4⟩ := rx.ref_inv
      have B := bounds_run (P := P) fr h3 h4 h5 hmh len cap c g3 (fun _ => g2) b1 b2 b3 q1 q2 q3 true
      have hml : m ≤ if mx'.isSome then m else c := by split <;> omega
      have hmc : (if mx'.isSome then m else c) ≤ c := by split <;> omega
      refine .pure H (cv := .slice (if (if mx'.isSome then m else c) = l then A else A.map (·.add (l * s))) (u - l) ((if mx'.isSome then m else c) - l)) ?_ ?_
      · simp only [execOp, hop, Instr.sliceAt, Instr.slice, Sem.run_bind, run_underlying hu, Result.andThen_ok, ecx, B, run_sizeOf h1]
        simp
      · refine .ref id (off + l) (u - l) (m - l) _ _ b sz g1 (by omega) (by omega) (fun hpos => ?_)
        obtain ⟨rfl, g6⟩ := g4 (by omega)
        rw [if_neg (by omega)]
        refine ⟨?_, Nat.le_trans (Nat.mul_le_mul_right _ (by omega)) g6⟩
        rcases q4 with rfl | q4
        · simp [Addr.add]
        · have := H.sized g1 q4
          subst this
          simp [add_at, Nat.add_mul]
    · rename_i xs ex hx
      rw [hx] at rx
      split at he <;> try (cases he; done)
      rename_i l u m b1 b2 b3
      split at he <;> try (cases he; done)
      rename_i hq
      obtain ⟨q1, q2, q3, q4⟩ := hq
      cases he
      have hr := rx.sl_inv
      generalize hcx : a.eval x = cx at hr rx
      cases hr with
      | sl _ _ A c sz' vals k1 k2 k3 k4 k5 k6 =>
        have B := bounds_run (P := P) fr h3 h4 h5 hmh xs.length xs.length c k1 (fun _ => k1) b1 b2 b3 q1 q2 q3 true
        have hml : m ≤ if mx'.isSome then m else c := by split <;> omega
        have hlen : ((xs.drop l).take (u - l)).length = u - l := by simp; omega
        refine .pure H (cv := .slice (if (if mx'.isSome then m else c) = l then A else A.map (·.add (l * s))) (u - l) ((if mx'.isSome then m else c) - l)) ?_ ?_
        · simp only [execOp, hop, Instr.sliceAt, Instr.slice, Sem.run_bind, run_underlying hu, Result.andThen_ok, hcx, B, run_sizeOf h1]
          simp
        · refine .val _ _ ?_
          have hel : ∀ i (hi : i < u - l), ((xs.drop l).take (u - l))[i]'(by rw [hlen]; exact hi) = xs[l + i]'(by omega) := by intro i hi; simp
          have R := RepV.sl (w := w) (ok := okOf base okin σ h) ((xs.drop l).take (u - l)) ((mx'.isSome || ex) && m == u) (if (if mx'.isSome then m else c) = l then A else A.map (·.add (l * s))) ((if mx'.isSome then m else c) - l) sz' (fun i j => vals (l + i) j)
            (by rw [hlen]; omega) (fun hex => by
              rw [hlen]
              simp only [Bool.and_eq_true, Bool.or_eq_true, beq_iff_eq] at hex
              obtain ⟨h6, rfl⟩ := hex
              rcases h6 with h6 | h6
              · rw [if_pos h6]
              · have hc := k2 h6
                by_cases hm : mx'.isSome = true
                · rw [if_pos hm]
                · rw [if_neg hm]
                  have hmn : mx' = none := by cases mx' <;> simp_all
                  have : m = xs.length := by rw [hmn] at b3; cases b3; rfl
                  omega)
            (fun i hi => by rw [hel i (by rw [hlen] at hi; exact hi)]; exact k3 _ _)
            (fun i j hi hj => by
              rw [hlen] at hi
              obtain ⟨ad, e1, e2, e3⟩ := k4 (l + i) j (by omega) hj
              rw [if_neg (by omega), e1]
              rcases q4 with rfl | q4
              · refine ⟨ad, by simp [Addr.add], e2, ?_⟩
                simpa using e3
              · have hs' : sz' = s := by
                  have h7 := k3 (l + i) (by omega)
                  have h8 := all_len q4 _ (List.getElem_mem (show l + i < xs.length by omega))
                  omega
                subst hs'
                refine ⟨ad.add (l * sz'), rfl, by rw [Addr.add_block]; exact e2, ?_⟩
                rw [add_add]
                · rw [← Nat.add_assoc, ← Nat.add_mul]; exact e3
                · by_cases h0 : 0 < l * sz' + (i * sz' + j)
                  · exact .inr h0
                  · have h0' : (l + i) * sz' + j = 0 := by rw [Nat.add_mul]; omega
                    rw [h0'] at e3
                    refine .inl ?_
                    cases hs : ad.spot with
                    | none => rfl
                    | some sp =>
                      have e : ad.add 0 = ad := by unfold Addr.add; simp
                      rw [e] at e3
                      unfold World.cell? at e3
                      simp only [hs, Option.isSome_some, if_true] at e3
                      split at e3 <;> cases e3)
            (fun hpos => by
              rw [hlen] at hpos
              rw [if_neg (by omega)]
              have := k5 (by omega)
              simpa using this)
            (fun i hi j hj => by
              rw [hlen] at hi
              have := hel i hi
              simp only [this]
              exact k6 _ _ j _)
          rw [hlen] at R
          exact R
    · cases he
  case fieldAddr s x f =>
    simp only [compOp] at hc
    split at hc <;> try (cases hc; done)
    rename_i fs hu
    split at hc <;> try (cases hc; done)
    rename_i fd hfd
    split at hc <;> try (cases hc; done)
    rename_i ag sz y h1 h2 h3
    split at hc <;> try (cases hc; done)
    rename_i h4
    cases hc
    have rx := fr.opd h3
    simp only [evalOp] at he
    split at he
    · rename_i u hx
      rw [hx] at rx
      obtain ⟨ad, vals, ecx, g1, g2⟩ := rx.vptr_inv
      obtain ⟨cs, hcut, he⟩ := Option.bind_eq_some_iff.1 he
      obtain ⟨p, hp, he⟩ := Option.map_eq_some_iff.1 he
      cases he
      refine .pure H (cv := .pointer (some (ad.add fd.offset))) ?_ (vptr_part g1 g2 hcut hp)
      simp [execOp, hop, Instr.fieldAt, run_underlying hu, hfd, ecx, Instr.sureAddr, fieldPlace_run h2 h4]
    · rename_i id idx foff hx
      rw [hx] at rx
      cases he
      obtain ⟨b, szb, ecx, g1⟩ := rx.ptr_inv
      have := Rep.ptr (w := w) (ok := okOf base okin σ h) (σ := σ) id idx (foff + fd.offset) b szb g1
      refine .pure H ?_ this
      simp [execOp, hop, Instr.fieldAt, run_underlying hu, hfd, ecx, Instr.sureAddr, fieldPlace_run h2 h4, add_at, Nat.add_assoc]
    · cases he
  case field s x f =>
    simp only [compOp] at hc
    split at hc <;> try (cases hc; done)
    rename_i fs hu
    split at hc <;> try (cases hc; done)
    rename_i fd hfd
    split at hc <;> try (cases hc; done)
    rename_i ag sz y h1 h2 h3
    split at hc <;> try (cases hc; done)
    rename_i h4
    cases hc
    simp only [evalOp] at he
    split at he <;> try (cases he; done)
    rename_i cs hx
    obtain ⟨cs', hcut, he⟩ := Option.bind_eq_some_iff.1 he
    obtain ⟨u, hp, he⟩ := Option.map_eq_some_iff.1 he
    cases he
    have rx := fr.opd h3
    rw [hx] at rx
    obtain ⟨vs, ev, l1, r1⟩ := rx.agg_inv
    obtain ⟨cv, e1, e2⟩ := partRun (P := P) h1 h2 h4 l1 r1 hcut hp
    exact .pure H (by simp [execOp, hop, Instr.field, run_underlying hu, hfd, ev, asAgg, e1]) e2
  case indexAddr t x i =>
    simp only [compOp] at hc
    split at hc <;> try (cases hc; done)
    · rename_i e hu
      split at hc <;> try (cases hc; done)
      rename_i s y j h1 h2 h3
      cases hc
      have rx := fr.opd h2
      have rj := fr.opd h3
      simp only [evalOp] at he
      split at he
      · rename_i xs ex k n hx hj
        rw [hx] at rx; rw [hj] at rj
        split at he <;> try (cases he; done)
        rename_i hn
        obtain ⟨el, hel, he⟩ := Option.bind_eq_some_iff.1 he
        split at he <;> try (cases he; done)
        rename_i hsz
        cases he
        obtain ⟨hi, rfl⟩ := List.getElem?_eq_some_iff.1 hel
        have hr := rx.sl_inv
        generalize hcx : a.eval x = cx at hr rx
        cases hr with
        | sl _ _ A c sz' vals k1 k2 k3 k4 k5 k6 =>
          have hA := k5 (by omega)
          obtain ⟨ad, rfl⟩ := Option.isSome_iff_exists.1 hA
          have es : sz' = s := by have := k3 _ hi; omega
          subst es
          have hlt : n < (xs.length : Int) := by omega
          refine .pure H (cv := .pointer (some (ad.add (n.toNat * sz')))) ?_ ?_
          · simp [execOp, hop, Instr.indexAt, rj.int_inv, asIntOf, run_underlying hu, hcx, hn, hlt, run_sizeOf h1]
          · refine .vptr _ _ (fun jj => vals n.toNat jj) (fun jj hjj => ?_) (fun jj hjj => k6 _ hi jj hjj)
            obtain ⟨ad', e1, e2, e3⟩ := k4 n.toNat jj hi (by omega)
            cases e1
            refine ⟨by rw [Addr.add_block]; exact e2, ?_⟩
            rw [add_add]
            · exact e3
            · by_cases h0 : 0 < n.toNat * sz' + jj
              · exact .inr h0
              · have h0' : n.toNat * sz' + jj = 0 := by omega
                rw [h0'] at e3
                refine .inl ?_
                cases hs : ad.spot with
                | none => rfl
                | some sp =>
                  have e : ad.add 0 = ad := by unfold Addr.add; simp
                  rw [e] at e3
                  unfold World.cell? at e3
                  simp only [hs, Option.isSome_some, if_true] at e3
                  split at e3 <;> cases e3
      · rename_i id off len cap k n hx hj
        rw [hx] at rx; rw [hj] at rj
        split at he <;> try (cases he; done)
        rename_i hn
        cases he
        obtain ⟨A, c, b, sz, ecx, g1, g2, g3, g4⟩ := rx.ref_inv
        obtain ⟨rfl, _⟩ := g4 (by omega)
        have := H.sized g1 hn.2.2
        subst this
        have R := Rep.ptr (w := w) (ok := okOf base okin σ h) (σ := σ) id (off + n.toNat) 0 b sz g1
        refine .pure H ?_ R
        simp [execOp, hop, Instr.indexAt, rj.int_inv, asIntOf, run_underlying hu, ecx, hn.1, hn.2.1, run_sizeOf h1, add_at, Nat.add_mul]
      · cases he
    · rename_i n e hu
      split at hc <;> try (cases hc; done)
      rename_i ag s y j h1 h2 h3 h4
      cases hc
      have rx := fr.opd h3
      have rj := fr.opd h4
      simp only [evalOp] at he
      split at he
      · rename_i u k jj hx hj
        rw [hx] at rx; rw [hj] at rj
        split at he <;> try (cases he; done)
        rename_i hn
        obtain ⟨cs, hcut, he⟩ := Option.bind_eq_some_iff.1 he
        obtain ⟨p, hp, he⟩ := Option.map_eq_some_iff.1 he
        cases he
        obtain ⟨ad, vals, ecx, g1, g2⟩ := rx.vptr_inv
        refine .pure H (cv := .pointer (some (ad.add (jj.toNat * s)))) ?_ (vptr_part g1 g2 hcut hp)
        simp [execOp, hop, Instr.indexAt, rj.int_inv, asIntOf, run_underlying hu, ecx, Instr.sureAddr, hn.1, hn.2, run_sizeOf h2]
      · rename_i id idx foff k jj hx hj
        rw [hx] at rx; rw [hj] at rj
        split at he <;> try (cases he; done)
        rename_i hn
        cases he
        obtain ⟨b, szb, ecx, g1⟩ := rx.ptr_inv
        have := Rep.ptr (w := w) (ok := okOf base okin σ h) (σ := σ) id idx (foff + jj.toNat * s) b szb g1
        refine .pure H ?_ this
        simp [execOp, hop, Instr.indexAt, rj.int_inv, asIntOf, run_underlying hu, ecx, Instr.sureAddr, hn.1, hn.2, run_sizeOf h2, add_at, Nat.add_assoc]
      · cases he
  case index t x i =>
    simp only [compOp] at hc
    split at hc <;> try (cases hc; done)
    · rename_i n e hu
      split at hc <;> try (cases hc; done)
      rename_i ag s y j h1 h2 h3 h4
      split at hc <;> try (cases hc; done)
      rename_i h5
      cases hc
      have rx := fr.opd h3
      have rj := fr.opd h4
      simp only [evalOp] at he
      split at he <;> try (cases he; done)
      rename_i cs k jj hx hj
      rw [hx] at rx; rw [hj] at rj
      split at he <;> try (cases he; done)
      rename_i hn
      obtain ⟨cs', hcut, he⟩ := Option.bind_eq_some_iff.1 he
      obtain ⟨u, hp, he⟩ := Option.map_eq_some_iff.1 he
      cases he
      obtain ⟨vs, ev, l1, r1⟩ := rx.agg_inv
      obtain ⟨cv, e1, e2⟩ := partRun (P := P) h1 h2 h5 l1 r1 hcut hp
      exact .pure H (by simp [execOp, hop, Instr.index, rj.int_inv, asIntOf, run_underlying hu, ev, hn.1, hn.2, run_sizeOf h2, e1]) e2
    · rename_i hu
      split at hc <;> try (cases hc; done)
      rename_i y j h1 h2
      cases hc
      have rx := fr.opd h1
      have rj := fr.opd h2
      simp only [evalOp] at he
      split at he <;> try (cases he; done)
      rename_i str k jj hx hj
      rw [hx] at rx; rw [hj] at rj
      split at he <;> try (cases he; done)
      rename_i hn
      obtain ⟨bb, hb, he⟩ := Option.map_eq_some_iff.1 he
      cases he
      refine .pure H (cv := .int .u8 bb.toNat) ?_ (.val _ _ (.int _ _))
      simp [execOp, hop, Instr.index, rj.int_inv, asIntOf, run_underlying hu, rx.str_inv, hn, hb]
  case extract x i =>
    obtain ⟨y, hy, rfl⟩ := Option.map_eq_some_iff.1 hc
    simp only [evalOp] at he
    split at he <;> try (cases he; done)
    rename_i vs hx
    obtain ⟨u, hu, he⟩ := Option.map_eq_some_iff.1 he
    cases he
    have rx := fr.opd hy
    rw [hx] at rx
    obtain ⟨cs, ev, l1, r1⟩ := rx.tup_inv
    obtain ⟨hi, rfl⟩ := List.getElem?_eq_some_iff.1 hu
    have hlt : i < cs.size := by omega
    exact .pure H (by simp [execOp, hop, Instr.extract, ev, hlt]) (r1 i hi hlt)
  case call cl =>
    obtain ⟨callee, args, argTypes⟩ := cl
    cases callee with
    | value f =>
      simp only [compOp] at hc
      split at hc <;> try (cases hc; done)
      cases hc
      simp only [evalOp] at he; cases he
    | invoke _ _ => simp only [compOp] at hc; cases hc
    | builtin b =>
      cases b <;> try (simp only [compOp] at hc; cases hc; done)
      case append =>
        obtain ⟨σ', cv, w', e1, e2, e3, e4, e5⟩ := app_ok (ty := o.type) H fr hr hc he
        exact ⟨σ', cv, w', .inl (by simp [execOp, hop, resolve, invoke, builtin, e1]), e2, e3, e4, e5⟩
      case len =>
        simp only [compOp] at hc
        split at hc <;> try (cases hc; done)
        rename_i t X ht hargs
        have eA : args = #[X] := by rw [← Array.toList_inj]; exact hargs
        subst eA
        split at hc <;> try (cases hc; done)
        · rename_i e x hu hx
          cases hc
          have rx := fr.opd hx
          simp only [evalOp] at he
          split at he
          · rename_i xs ex hv
            simp only [if_true] at he
            cases he
            rw [hv] at rx
            have hr := rx.sl_inv
            generalize hcx : a.eval X = cx at hr rx
            cases hr with
            | sl _ _ A c _ _ _ _ _ _ _ _ =>
              refine .pure H (cv := .int .i64 xs.length) ?_ (.val _ _ (.int _ _))
              simp [execOp, hop, resolve, invoke, builtin, Builtin.len_, ht, run_underlying hu, hcx, goInt]
          · rename_i id off len cap hv
            simp only [if_true] at he
            cases he
            rw [hv] at rx
            obtain ⟨A, c, b, sz, ecx, _⟩ := rx.ref_inv
            refine .pure H (cv := .int .i64 len) ?_ (.val _ _ (.int _ _))
            simp [execOp, hop, resolve, invoke, builtin, Builtin.len_, ht, run_underlying hu, ecx, goInt]
          · simp only [Bool.false_eq_true, if_false] at he; cases he
          · cases he
        · rename_i x hu hx
          cases hc
          have rx := fr.opd hx
          simp only [evalOp] at he
          split at he
          · simp only [Bool.true_eq_false, if_false] at he; cases he
          · simp only [Bool.true_eq_false, if_false] at he; cases he
          · rename_i s hv
            simp only [if_true] at he
            cases he
            rw [hv] at rx
            refine .pure H (cv := .int .i64 s.size) ?_ (.val _ _ (.int _ _))
            simp [execOp, hop, resolve, invoke, builtin, Builtin.len_, ht, run_underlying hu, rx.str_inv, goInt]
          · cases he
      case min =>
        obtain ⟨xs, hxs, rfl⟩ := Option.map_eq_some_iff.1 hc
        obtain ⟨l1, r1⟩ := opdsOf_rep fr hxs
        simp only [evalOp] at he
        obtain ⟨u, hu, he⟩ := Option.map_eq_some_iff.1 he
        cases he
        cases xs with
        | nil => simp [foldInt] at hu
        | cons x xs =>
          cases hargs : args.toList with
          | nil => rw [hargs] at l1; simp at l1
          | cons X Xs =>
            rw [hargs] at l1
            have r0 := r1 0 (by simp) (by simp [hargs])
            simp only [hargs, List.getElem_cons_zero] at r0
            simp only [List.map_cons] at hu
            cases hx : x.ev G F <;> rw [hx] at hu <;> try (simp [foldInt] at hu; done)
            rename_i k n
            rw [hx] at r0
            obtain ⟨cv, e1, e2⟩ := foldInt_min (P := P) (w := w) (σ := σ) (okOf base okin σ h) (xs.map (Opd.ev G F)) k n (Xs.map a.eval) v hu (by simpa using l1) (fun i hi hi' => by
              have := r1 (i + 1) (by simpa using hi) (by simpa [hargs] using hi')
              simpa [hargs] using this)
            refine .pure H ?_ e2
            simp [execOp, hop, resolve, invoke, builtin, Builtin.min_, hargs, r0.int_inv, e1]
      case max =>
        obtain ⟨xs, hxs, rfl⟩ := Option.map_eq_some_iff.1 hc
        obtain ⟨l1, r1⟩ := opdsOf_rep fr hxs
        simp only [evalOp] at he
        obtain ⟨u, hu, he⟩ := Option.map_eq_some_iff.1 he
        cases he
        cases xs with
        | nil => simp [foldInt] at hu
        | cons x xs =>
          cases hargs : args.toList with
          | nil => rw [hargs] at l1; simp at l1
          | cons X Xs =>
            rw [hargs] at l1
            have r0 := r1 0 (by simp) (by simp [hargs])
            simp only [hargs, List.getElem_cons_zero] at r0
            simp only [List.map_cons] at hu
            cases hx : x.ev G F <;> rw [hx] at hu <;> try (simp [foldInt] at hu; done)
            rename_i k n
            rw [hx] at r0
            obtain ⟨cv, e1, e2⟩ := foldInt_max (P := P) (w := w) (σ := σ) (okOf base okin σ h) (xs.map (Opd.ev G F)) k n (Xs.map a.eval) v hu (by simpa using l1) (fun i hi hi' => by
              have := r1 (i + 1) (by simpa using hi) (by simpa [hargs] using hi')
              simpa [hargs] using this)
            refine .pure H ?_ e2
            simp [execOp, hop, resolve, invoke, builtin, Builtin.max_, hargs, r0.int_inv, e1]

end
end Go.Eng
