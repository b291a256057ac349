/- The plain operations, one by one. -/
import Derived.Test.YtfgelmgfalbapaaDoorEngS3
namespace Go.Eng
open Go Go.RowKit

section ops
variable {P : Program} {base : Nat} {okin : Nat → Prop} {σ : Nat → Option (Nat × Nat)} {h : Hp} {w : World} {G : Nat → Option AV} {F : Nat → AV} {a : Act}

theorem opdsOf_rep (fr : FR G (okOf base okin σ h) σ w F a) : ∀ {xs : List Operand} {ys : List Opd}, opdsOf xs = some ys →
    ys.length = xs.length ∧ ∀ i (hi : i < ys.length) (hi' : i < xs.length), Rep w (okOf base okin σ h) σ (ys[i].ev G F) (a.eval xs[i])
  | [], ys, e => by cases e; exact ⟨rfl, fun i hi => absurd hi (by simp)⟩
  | x :: xs, ys, e => by
    simp only [opdsOf] at e
    split at e <;> try (cases e; done)
    rename_i y ys' h1 h2
    cases e
    obtain ⟨l, r⟩ := opdsOf_rep fr h2
    refine ⟨by simp [l], fun i hi hi' => ?_⟩
    cases i with
    | zero => exact fr.opd h1
    | succ i => exact r i (by simpa using hi) (by simpa using hi')

theorem partRun {ok : Nat → Prop} {t : TypeId} {ag : Bool} {sz off : Nat} (hag : aggOf P t = some ag) (hsz : szOf P t = some sz) (h1 : (ag || sz == 1) = true) {cs : List AV} {vs : Array Value}
    (hl : vs.size = cs.length) (hr : ∀ i (h : i < cs.length) (h' : i < vs.size), Rep w ok σ cs[i] vs[i]) {cs' : List AV} (hc : cut cs off sz = some cs') {u : AV} (hp : partOf ag cs' = some u) :
    ∃ cv, (part t vs off).run P w = .ok cv w ∧ Rep w ok σ u cv := by
  obtain ⟨c1, c2, c3⟩ := cut_spec hc
  rcases partOf_spec hp with ⟨rfl, rfl⟩ | ⟨rfl, rfl, _⟩
  · refine ⟨.agg (vs.extract off (off + sz)), by simp [part, run_isAgg hag, run_sizeOf hsz], ?_⟩
    refine .agg _ _ (by simp; omega) (fun i hi hi' => ?_)
    rw [c3 i hi (by omega)]
    simpa using hr (off + i) (by omega) (by omega)
  · have hs1 : sz = 1 := by simpa using c2.symm
    have hlt : off < vs.size := by omega
    refine ⟨vs[off], by simp [part, run_isAgg hag, hlt], ?_⟩
    have := hr off (by omega) hlt
    have e := c3 0 (by simp) (by omega)
    simp only [List.getElem_cons_zero, Nat.add_zero] at e
    rw [e]; exact this

def intOpsM (op : BinOp) (k : IntKind) (x y : Int) : Sem Value :=
  match op with
  | .add | .sub | .mul => Op.intArith op k x y
  | .quo | .rem => Op.intDiv op k x y
  | .and | .or | .xor | .andNot => Op.intBits op k x y
  | _ => Op.intCmp op x y

theorem intOps_run (op : BinOp) (k : IntKind) (x y : Int) {v : AV} (hb : binI op k x y = some v) :
    ∃ cv, (intOpsM op k x y).run P w = .ok cv w ∧ ∀ ok σ, Rep w ok σ v cv := by
  cases op <;> simp only [binI] at hb <;> first
    | (cases hb; done)
    | (cases hb; exact ⟨_, rfl, fun _ _ => .val _ _ (.int _ _)⟩)
    | (cases hb; exact ⟨_, rfl, fun _ _ => .val _ _ (.bool _)⟩)
    | (split at hb
       · cases hb
       · cases hb; rename_i hz; exact ⟨_, by simp [intOpsM, Op.intDiv, hz], fun _ _ => .val _ _ (.int _ _)⟩)

theorem binOp_run (ty : Nat) (op : BinOp) (t : TypeId) (X Y : Operand) {u v r : AV} {cu cv : Value} {ok : Nat → Prop} (hu : Rep w ok σ u cu) (hv : Rep w ok σ v cv) (hb : binV ty op u v = some r)
    (hs : ty = 1 → P.underlying t = some .bool) :
    ∃ cr, (do eqGuard op t X Y cu cv; binOp op t cu cv : Sem Value).run P w = .ok cr w ∧ Rep w ok σ r cr := by
  have hg : ∀ {a b : Value}, (∀ c, a ≠ .nilIface ∧ a ≠ .agg c) → (eqGuard op t X Y a b).run P w = .ok () w := by
    intro a b ha
    cases a <;> first | exact absurd rfl (ha #[]).1 | exact absurd rfl (ha _).2 | (cases op <;> rfl)
  unfold binV at hb
  split at hb
  · rename_i k x k' y
    obtain rfl := hu.int_inv
    obtain rfl := hv.int_inv
    simp only [Sem.run_bind, hg (a := .int k x) (b := .int k' y) (fun c => ⟨by simp, by simp⟩), Result.andThen_ok]
    split at hb
    · rename_i hop
      unfold shI at hb
      split at hb
      · cases hb
      · rename_i hneg
        rcases hop with rfl | rfl
        · cases hb
          exact ⟨_, by simp [binOp, Op.shift, hneg], .val _ _ (.int _ _)⟩
        · cases hb
          exact ⟨_, by simp [binOp, Op.shift, hneg], .val _ _ (.int _ _)⟩
    · rename_i hop
      split at hb
      · rename_i hk
        subst hk
        obtain ⟨cr, e1, e2⟩ := intOps_run (P := P) (w := w) op k x y hb
        refine ⟨cr, ?_, e2 _ _⟩
        have : binOp op t (.int k x) (.int k y) = intOpsM op k x y := by
          cases op <;> first | exact absurd (.inl rfl) hop | exact absurd (.inr rfl) hop | simp [binOp, intOpsM]
        rw [this]; exact e1
      · cases hb
  · rename_i x y
    obtain rfl := hu.bool_inv
    obtain rfl := hv.bool_inv
    split at hb <;> try (cases hb; done)
    rename_i hty
    have htb := hs hty
    have heq : (Op.equal t (.bool x) (.bool y)).run P w = .ok (x == y) w := by
      show (Op.equalIn (9999 + 1) t (.bool x) (.bool y)).run P w = _
      unfold Op.equalIn
      simp [run_underlying htb]
    simp only [Sem.run_bind, hg (a := .bool x) (b := .bool y) (fun c => ⟨by simp, by simp⟩), Result.andThen_ok]
    split at hb
    · cases hb
      refine ⟨.bool (x == y), ?_, .val _ _ (.bool _)⟩
      show (do pure (.bool (← Op.equal t (.bool x) (.bool y))) : Sem Value).run P w = _
      simp [heq]
    · cases hb
      refine ⟨.bool (!(x == y)), ?_, .val _ _ (.bool _)⟩
      show (do pure (.bool !(← Op.equal t (.bool x) (.bool y))) : Sem Value).run P w = _
      simp [heq]
    · cases hb
  · rename_i x y
    obtain rfl := hu.str_inv
    obtain rfl := hv.str_inv
    simp only [Sem.run_bind, hg (a := .string x) (b := .string y) (fun c => ⟨by simp, by simp⟩), Result.andThen_ok]
    split at hb
    · cases hb
      exact ⟨.bool (x.toList == y.toList), by rw [show binOp .eql t (.string x) (.string y) = Op.stringOp .eql x y by simp [binOp]]; simp [Op.stringOp], .val _ _ (.bool _)⟩
    · cases hb
      exact ⟨.bool (!(x.toList == y.toList)), by rw [show binOp .neq t (.string x) (.string y) = Op.stringOp .neq x y by simp [binOp]]; simp [Op.stringOp], .val _ _ (.bool _)⟩
    · cases hb
  · cases hb

theorem unOp_run (op : UnOp) {u r : AV} {cu : Value} {ok : Nat → Prop} (hu : Rep w ok σ u cu) (hb : unV op u = some r) :
    ∃ cr, (Op.unary op cu).run P w = .ok cr w ∧ Rep w ok σ r cr := by
  unfold unV at hb
  split at hb
  · obtain rfl := hu.int_inv
    split at hb
    · cases hb; exact ⟨_, rfl, .val _ _ (.int _ _)⟩
    · cases hb; exact ⟨_, rfl, .val _ _ (.int _ _)⟩
    · cases hb
  · obtain rfl := hu.bool_inv
    split at hb
    · cases hb; exact ⟨_, rfl, .val _ _ (.bool _)⟩
    · cases hb
  · cases hb

theorem bound_run {ok : Nat → Prop} {d y : Nat} {X : Operand} {x : Opd} {l : Nat} (hx : Rep w ok σ (x.ev G F) (a.eval X)) (hb : bound d (Opd.ev G F) (some x) = some l) (hl : l ≤ y) (code : BoundsCode) :
    (Instr.sliceBound (a.eval X) y code).run P w = .ok l w := by
  unfold bound at hb
  simp only at hb
  split at hb
  · rename_i k n hu
    rw [hu] at hx
    rw [hx.int_inv]
    split at hb
    · rename_i hn
      cases hb
      have : n ≤ (y : Int) := by omega
      simp [Instr.sliceBound, asIntOf, hn, this]
    · cases hb
  · cases hb

theorem opdO_rep (fr : FR G (okOf base okin σ h) σ w F a) {X : Option Operand} {x : Option Opd} (e : opdO X = some x) :
    (X = none ∧ x = none) ∨ ∃ X' x', X = some X' ∧ x = some x' ∧ Rep w (okOf base okin σ h) σ (x'.ev G F) (a.eval X') := by
  cases X with
  | none => cases e; exact .inl ⟨rfl, rfl⟩
  | some X' =>
    obtain ⟨x', h1, rfl⟩ := Option.map_eq_some_iff.1 e
    exact .inr ⟨X', x', rfl, rfl, fr.opd h1⟩

theorem bounds_run (fr : FR G (okOf base okin σ h) σ w F a) {lo hi mx : Option Operand} {lo' hi' mx' : Option Opd} (e1 : opdO lo = some lo') (e2 : opdO hi = some hi') (e3 : opdO mx = some mx')
    (hmh : (mx'.isSome && hi'.isNone) = false) (len cap ccap : Nat) (hcc : cap ≤ ccap) (hmx : mx' = none → len ≤ ccap) {l u m : Nat} (b1 : bound 0 (Opd.ev G F) lo' = some l) (b2 : bound len (Opd.ev G F) hi' = some u) (b3 : bound cap (Opd.ev G F) mx' = some m)
    (q1 : l ≤ u) (q2 : u ≤ m) (q3 : m ≤ cap) (isS : Bool) :
    (Instr.sliceBounds isS len ccap (lo.map a.eval) (hi.map a.eval) (mx.map a.eval)).run P w = .ok (l, u, if mx'.isSome then m else ccap) w := by
  unfold Instr.sliceBounds
  rcases opdO_rep fr e3 with ⟨rfl, rfl⟩ | ⟨M, m', rfl, rfl, rm⟩
  · have em : m = cap := by cases b3; rfl
    rcases opdO_rep fr e2 with ⟨rfl, rfl⟩ | ⟨Hi, h', rfl, rfl, rh⟩
    · have eu : u = len := by cases b2; rfl
      rcases opdO_rep fr e1 with ⟨rfl, rfl⟩ | ⟨L, l', rfl, rfl, rl⟩
      · have el : l = 0 := by cases b1; rfl
        simp [eu, el]
      · have := bound_run (P := P) (a := a) (y := len) rl b1 (by omega) .sliceB
        simp [this, eu]
    · have hh := fun c => bound_run (P := P) (a := a) (y := ccap) rh b2 (by omega) c
      rcases opdO_rep fr e1 with ⟨rfl, rfl⟩ | ⟨L, l', rfl, rfl, rl⟩
      · have el : l = 0 := by cases b1; rfl
        simp [hh, el]
      · have := bound_run (P := P) (a := a) (y := u) rl b1 (by omega) .sliceB
        simp [this, hh]
  · have hm := fun c => bound_run (P := P) (a := a) (y := ccap) rm b3 (by omega) c
    rcases opdO_rep fr e2 with ⟨rfl, rfl⟩ | ⟨Hi, h', rfl, rfl, rh⟩
    · simp at hmh
    · have hh := fun c => bound_run (P := P) (a := a) (y := m) rh b2 (by omega) c
      rcases opdO_rep fr e1 with ⟨rfl, rfl⟩ | ⟨L, l', rfl, rfl, rl⟩
      · have el : l = 0 := by cases b1; rfl
        simp [hm, hh, el]
      · have := bound_run (P := P) (a := a) (y := u) rl b1 (by omega) .slice3C
        simp [hm, hh, this]

end ops
end Go.Eng
