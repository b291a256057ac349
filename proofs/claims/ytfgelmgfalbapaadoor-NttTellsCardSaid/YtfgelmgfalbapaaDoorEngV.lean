/- Arguments of each make, as plain numbers and lists. -/
import Derived.Test.YtfgelmgfalbapaaDoorEngR
import Derived.Test.YtfgelmgfalbapaaDoorEngZ
namespace Go.Eng
open Go Go.RowKit

theorem wf_uns {k : IntKind} {n : Int} (h : (Lit.int k n).wf = true) : k.min ≤ n ∧ n ≤ k.max := by
  simpa [Lit.wf] using h

theorem dtV_int {k : IntKind} {a : AV} (h : DtV (.int k) a) : ∃ n : Int, a = .int k n ∧ k.min ≤ n ∧ n ≤ k.max := by
  obtain ⟨H, zs, d, rfl, n, rfl, _, hw⟩ := h
  exact ⟨n, rfl, (wf_uns hw).1, (wf_uns hw).2⟩
theorem dtV_bool {a : AV} (h : DtV .bool a) : ∃ b, a = .bool b := by
  obtain ⟨H, zs, d, rfl, b, rfl, _⟩ := h
  exact ⟨b, rfl⟩
theorem dtV_str {a : AV} (h : DtV .str a) : ∃ s : ByteArray, a = .str s ∧ s.size ≤ maxLen := by
  obtain ⟨H, zs, d, rfl, b, rfl, _, hs⟩ := h
  exact ⟨b, rfl, hs⟩
theorem dtV_sl {e : Sh} {a : AV} (h : DtV (.sl e) a) : ∃ xs, a = .sl xs false ∧ xs.length ≤ maxLen ∧ ∀ x ∈ xs, DtV e x := by
  obtain ⟨H, zs, d, rfl, xs, rfl, hm, hd⟩ := h
  refine ⟨xs, rfl, hm, fun x hx => ?_⟩
  rcases hd with ⟨_, rfl⟩ | ⟨ds, rest, _, hl, hx'⟩
  · cases hx
  · obtain ⟨i, hi, rfl⟩ := List.mem_iff_getElem.1 hx
    obtain ⟨cs, h1, _, h2⟩ := hx' i hi (by omega)
    exact ⟨H, cs, _, h1, h2⟩
theorem dtV_ag {fs : List Sh} {a : AV} (h : DtV (.ag fs) a) : ∃ (H : Type) (cs : List AV) (ds : List (DataW H)), a = .agg cs ∧ DtL fs cs ds := by
  obtain ⟨H, zs, d, rfl, ds, rfl, hd⟩ := h
  exact ⟨H, zs, ds, rfl, hd⟩

theorem dtV_u8 {a : AV} (h : DtV (.int .u8) a) : ∃ n, a = .int .u8 (Z n) ∧ n < 256 := by
  obtain ⟨n, rfl, h1, h2⟩ := dtV_int h
  simp [IntKind.min, IntKind.max, IntKind.signed, IntKind.bits] at h1 h2
  obtain ⟨n, rfl⟩ := Int.eq_ofNat_of_zero_le h1
  exact ⟨n, rfl, by omega⟩
theorem dtV_u16 {a : AV} (h : DtV (.int .u16) a) : ∃ n, a = .int .u16 (Z n) ∧ n < 65536 := by
  obtain ⟨n, rfl, h1, h2⟩ := dtV_int h
  simp [IntKind.min, IntKind.max, IntKind.signed, IntKind.bits] at h1 h2
  obtain ⟨n, rfl⟩ := Int.eq_ofNat_of_zero_le h1
  exact ⟨n, rfl, by omega⟩
theorem dtV_u32 {a : AV} (h : DtV (.int .u32) a) : ∃ n, a = .int .u32 (Z n) ∧ n < 4294967296 := by
  obtain ⟨n, rfl, h1, h2⟩ := dtV_int h
  simp [IntKind.min, IntKind.max, IntKind.signed, IntKind.bits] at h1 h2
  obtain ⟨n, rfl⟩ := Int.eq_ofNat_of_zero_le h1
  exact ⟨n, rfl, by omega⟩
theorem dtV_u64 {a : AV} (h : DtV (.int .u64) a) : ∃ n, a = .int .u64 (Z n) ∧ n < 18446744073709551616 := by
  obtain ⟨n, rfl, h1, h2⟩ := dtV_int h
  simp [IntKind.min, IntKind.max, IntKind.signed, IntKind.bits] at h1 h2
  obtain ⟨n, rfl⟩ := Int.eq_ofNat_of_zero_le h1
  exact ⟨n, rfl, by omega⟩
theorem dtV_i64 {a : AV} (h : DtV (.int .i64) a) : ∃ n : Int, a = .int .i64 n ∧ -9223372036854775808 ≤ n ∧ n < 9223372036854775808 := by
  obtain ⟨n, rfl, h1, h2⟩ := dtV_int h
  simp [IntKind.min, IntKind.max, IntKind.signed, IntKind.bits] at h1 h2
  exact ⟨n, rfl, by omega, by omega⟩

/-- A slice of limbs. -/
theorem dtV_limbs {a : AV} (h : DtV (.sl (.int .u32)) a) : ∃ l : List Nat, a = .sl (l.map fun n => .int .u32 (Z n)) false ∧ l.length ≤ maxLen ∧ ∀ x ∈ l, x < 4294967296 := by
  obtain ⟨xs, rfl, hm, hx⟩ := dtV_sl h
  have : ∃ l : List Nat, xs = l.map (fun n => .int .u32 (Z n)) ∧ ∀ x ∈ l, x < 4294967296 := by
    clear hm h
    induction xs with
    | nil => exact ⟨[], rfl, fun x hx => by cases hx⟩
    | cons x xs ih =>
      obtain ⟨n, rfl, hn⟩ := dtV_u32 (hx x (by simp))
      obtain ⟨l, rfl, hl⟩ := ih (fun y hy => hx y (by simp [hy]))
      exact ⟨n :: l, rfl, fun y hy => by
        rcases List.mem_cons.1 hy with rfl | hy
        · exact hn
        · exact hl y hy⟩
  obtain ⟨l, rfl, hl⟩ := this
  exact ⟨l, rfl, by simpa using hm, hl⟩

theorem DtL_cons {H : Type} {f : Sh} {fs : List Sh} {cs : List AV} {ds : List (DataW H)} (h : DtL (f :: fs) cs ds) : ∃ (a b : List AV) (ds' : List (DataW H)), cs = a ++ b ∧ DtV f (f.one a) ∧ (f.one a).cells = a ∧ DtL fs b ds' := by
  obtain ⟨a, b, d, ds', rfl, _, h1, h2⟩ := h
  exact ⟨a, b, ds', rfl, ⟨H, a, d, rfl, h1⟩, Sh.one_cells h1, h2⟩
theorem DtL_nil {H : Type} {cs : List AV} {ds : List (DataW H)} (h : DtL [] cs ds) : cs = [] := h.1

theorem dtVs_cons {s : Sh} {ss : List Sh} {l : List AV} (h : DtVs (s :: ss) l) : ∃ a l', l = a :: l' ∧ DtV s a ∧ DtVs ss l' := h
theorem dtVs_nil {l : List AV} (h : DtVs [] l) : l = [] := h
end Go.Eng
