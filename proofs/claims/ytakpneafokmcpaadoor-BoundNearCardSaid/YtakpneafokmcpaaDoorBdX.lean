/- Arguments that are expressions, by their makes. -/
import Derived.Test.YtakpneafokmcpaaDoorBdE
set_option maxRecDepth 100000
set_option linter.unusedSimpArgs false
set_option linter.unusedVariables false
set_option linter.unusedSectionVars false
namespace Go.Proofs.YtakpneafokmcpaaDoor
open Go Go.Eng Go.RowKit

theorem dtL_part {H : Type} {f : Sh} {fs : List Sh} {cs : List AV} {ds : List (DataW H)} (h : DtL (f :: fs) cs ds) {P : AV → Prop} (hf : ∀ v, DtV f v → P v ∧ v.cells = [v]) : ∃ v b ds', cs = v :: b ∧ P v ∧ DtL fs b (ds' : List (DataW H)) := by
  obtain ⟨a, b, ds', rfl, h1, h2, h3⟩ := DtL_cons h
  obtain ⟨h4, h5⟩ := hf _ h1
  rw [h5] at h2
  exact ⟨_, b, ds', (congrArg (· ++ b) h2).symm, h4, h3⟩
theorem dtL_i64 {H : Type} {fs : List Sh} {cs : List AV} {ds : List (DataW H)} (h : DtL (.int .i64 :: fs) cs ds) : ∃ n b ds', cs = .int .i64 n :: b ∧ DtL fs b (ds' : List (DataW H)) := by
  obtain ⟨v, b, ds', rfl, ⟨n, rfl⟩, h2⟩ := dtL_part h (P := fun v => ∃ n, v = .int .i64 n) fun v hv => by
    obtain ⟨n, rfl, -⟩ := dtV_int hv
    exact ⟨⟨n, rfl⟩, rfl⟩
  exact ⟨n, b, ds', rfl, h2⟩
theorem dtL_bool {H : Type} {fs : List Sh} {cs : List AV} {ds : List (DataW H)} (h : DtL (.bool :: fs) cs ds) : ∃ n b ds', cs = .bool n :: b ∧ DtL fs b (ds' : List (DataW H)) := by
  obtain ⟨v, b, ds', rfl, ⟨n, rfl⟩, h2⟩ := dtL_part h (P := fun v => ∃ n, v = .bool n) fun v hv => by
    obtain ⟨n, rfl⟩ := dtV_bool hv
    exact ⟨⟨n, rfl⟩, rfl⟩
  exact ⟨n, b, ds', rfl, h2⟩
theorem dtL_str {H : Type} {fs : List Sh} {cs : List AV} {ds : List (DataW H)} (h : DtL (.str :: fs) cs ds) : ∃ n b ds', cs = .str n :: b ∧ DtL fs b (ds' : List (DataW H)) := by
  obtain ⟨v, b, ds', rfl, ⟨n, rfl⟩, h2⟩ := dtL_part h (P := fun v => ∃ n, v = .str n) fun v hv => by
    obtain ⟨n, rfl, -⟩ := dtV_str hv
    exact ⟨⟨n, rfl⟩, rfl⟩
  exact ⟨n, b, ds', rfl, h2⟩
theorem dtL_limbs {H : Type} {fs : List Sh} {cs : List AV} {ds : List (DataW H)} (h : DtL (.sl (.int .u32) :: fs) cs ds) : ∃ l b ds', cs = lv l false :: b ∧ Small l ∧ DtL fs b (ds' : List (DataW H)) := by
  obtain ⟨v, b, ds', rfl, ⟨n, rfl, hn⟩, h2⟩ := dtL_part h (P := fun v => ∃ n, v = lv n false ∧ Small n) fun v hv => by
    obtain ⟨n, rfl, -, hn⟩ := dtV_limbs hv
    exact ⟨⟨n, rfl, hn⟩, rfl⟩
  exact ⟨n, b, ds', rfl, hn, h2⟩
theorem dtL_ag {H : Type} {gs fs : List Sh} {cs : List AV} {ds : List (DataW H)} (h : DtL (.ag gs :: fs) cs ds) : ∃ a b ds' ds'', cs = a ++ b ∧ DtL gs a (ds' : List (DataW H)) ∧ DtL fs b (ds'' : List (DataW H)) := by
  obtain ⟨a, b, d, ds', rfl, -, ⟨es, -, h1⟩, h2⟩ := h
  exact ⟨a, b, es, ds', rfl, h1, h2⟩
theorem dt_list {α : Type} {e : Sh} {f : α → AV} {P : α → Prop} (hf : ∀ x, DtV e x → ∃ y, x = f y ∧ P y) : ∀ {xs : List AV}, (∀ x ∈ xs, DtV e x) → ∃ l : List α, xs = l.map f ∧ ∀ y ∈ l, P y
  | [], _ => ⟨[], rfl, fun y h => by cases h⟩
  | x :: xs, h => by
    obtain ⟨y, rfl, hy⟩ := hf x (h x (by simp))
    obtain ⟨l, rfl, hl⟩ := dt_list hf (xs := xs) fun z hz => h z (by simp [hz])
    refine ⟨y :: l, rfl, fun z hz => ?_⟩
    rcases List.mem_cons.1 hz with rfl | hz
    · exact hy
    · exact hl z hz
theorem dtV_rz {x : AV} (h : DtV (.ag [.bool, .sl (.int .u32)]) x) : ∃ z, x = rz z ∧ Small z.2 := by
  obtain ⟨H, cs, ds, rfl, k1⟩ := dtV_ag h
  clear h
  obtain ⟨n, cs, ds, rfl, k2⟩ := dtL_bool k1
  obtain ⟨l, cs, ds, rfl, hl, k3⟩ := dtL_limbs k2
  obtain rfl := DtL_nil k3
  exact ⟨(n, l), rfl, hl⟩
/-- A node's make. -/
def shN : Sh := .ag [.int .i64, .str, .int .i64, .ag [.ag [.bool, .sl (.int .u32)], .sl (.int .u32)], .sl (.ag [.bool, .sl (.int .u32)])]
theorem dtV_nd {x : AV} (h : DtV shN x) : ∃ z, x = ndv z ∧ z.sm := by
  obtain ⟨H, cs, ds, rfl, k4⟩ := dtV_ag h
  clear h
  obtain ⟨op, cs, ds, rfl, k5⟩ := dtL_i64 k4
  obtain ⟨nm, cs, ds, rfl, k6⟩ := dtL_str k5
  obtain ⟨n, cs, ds, rfl, k7⟩ := dtL_i64 k6
  obtain ⟨q, cs, ds, es, rfl, hq9, k8⟩ := dtL_ag k7
  obtain ⟨z, q, ds, es2, rfl, hz11, hq10⟩ := dtL_ag hq9
  obtain ⟨qn, z, ds, rfl, hz12⟩ := dtL_bool hz11
  obtain ⟨qm, z, ds, rfl, hm, hz13⟩ := dtL_limbs hz12
  obtain rfl := DtL_nil hz13
  obtain ⟨qd, q, ds, rfl, hd, hq14⟩ := dtL_limbs hq10
  obtain rfl := DtL_nil hq14
  obtain ⟨v, b, ds', rfl, ⟨p, rfl, hp⟩, k15⟩ := dtL_part k8 (P := fun v => ∃ p : List (Bool × List Nat), v = .sl (p.map fun z => rz z) false ∧ ∀ z ∈ p, Small z.2) fun v hv => by
    obtain ⟨xs, rfl, -, hx⟩ := dtV_sl hv
    obtain ⟨l, rfl, hl⟩ := dt_list (f := fun z => rz z) (fun x hx => dtV_rz hx) hx
    exact ⟨⟨l, rfl, hl⟩, rfl⟩
  obtain rfl := DtL_nil k15
  exact ⟨⟨op, nm, n, qn, qm, qd, p⟩, rfl, ⟨hm, hd, hp⟩⟩
theorem dtV_ex {v : AV} (h : DtV (.sl shN) v) : ∃ e, v = exv e false ∧ ∀ x ∈ e, x.sm := by
  obtain ⟨xs, rfl, -, hx⟩ := dtV_sl h
  obtain ⟨l, rfl, hl⟩ := dt_list (f := fun z => ndv z) (fun x hx => dtV_nd hx) hx
  exact ⟨l, rfl, hl⟩
theorem dtV_two {v : AV} (h : DtV (.ag [.sl shN, .sl shN]) v) : ∃ a b, v = .agg [exv a false, exv b false] ∧ (∀ x ∈ a, x.sm) ∧ ∀ x ∈ b, x.sm := by
  obtain ⟨H, cs, ds, rfl, k1⟩ := dtV_ag h
  clear h
  obtain ⟨v, b, ds', rfl, ⟨a, rfl, ha⟩, k2⟩ := dtL_part k1 (P := fun v => ∃ e, v = exv e false ∧ ∀ x ∈ e, x.sm) fun v hv => by
    obtain ⟨e, rfl, he⟩ := dtV_ex hv
    exact ⟨⟨e, rfl, he⟩, rfl⟩
  obtain ⟨v, b, ds', rfl, ⟨c, rfl, hc⟩, k3⟩ := dtL_part k2 (P := fun v => ∃ e, v = exv e false ∧ ∀ x ∈ e, x.sm) fun v hv => by
    obtain ⟨e, rfl, he⟩ := dtV_ex hv
    exact ⟨⟨e, rfl, he⟩, rfl⟩
  obtain rfl := DtL_nil k3
  exact ⟨a, c, rfl, ha, hc⟩
theorem loose_ex (e : List Nd) : (exv e false).loose = exv e false := by
  show AV.sl (looseL _) false = _
  rw [loose_nmap]
end Go.Proofs.YtakpneafokmcpaaDoor
