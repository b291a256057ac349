/- The walks of Reverse64 and Len at small numbers. -/
import Derived.Test.YtfgelmgfalbapaaDoorNttC
import Derived.Test.YtfgelmgfalbapaaDoorNttM2
set_option maxRecDepth 100000
namespace Go.Proofs.YtfgelmgfalbapaaDoor
open Go Go.Eng Go.RowKit
attribute [local simp] regionK runRegion runOps runOp goOp evalOp Opd.ev putO upd Hp.new argF AV.cells AV.scal AV.bv1 AV.bvE onNormal_normal onNormal_exit onNormal_ret onExit_normal onExit_exit onExit_ret loopQ_normal loopQ_exit loopQ_ret binV unV cut partOf bound elems out1 out2 out3 outL out2L resAll resOf ansV Hp.close eqCells fillC fillE splice Z_of Z_inj Z_beq Z_bne Z_lt Z_le Z_nonneg Z_not_neg Z_zero Z_toNat Z_lt_cast Z_tmod Z_tdiv Z_fdiv i64_bits u8_bits u8_wrap u8_add u8_sub u8_mul u8_shl u16_bits u16_wrap u16_add u16_sub u16_mul u16_shl u32_bits u32_wrap u32_add u32_sub u32_mul u32_shl u64_bits u64_wrap u64_add u64_sub u64_mul u64_shl bi_add bi_sub bi_mul bi_quo bi_rem bi_eql bi_neq bi_lss bi_leq bi_gtr bi_geq
attribute [local simp high] i64_sr i64_sl i64_and u8_and u8_or u8_xor u8_sr u8_sl u16_and u16_or u16_xor u16_sr u16_sl u32_and u32_or u32_xor u32_sr u32_sl u64_and u64_or u64_xor u64_sr u64_sl

/-- Is it that whole number? -/
def isI (k : IntKind) (n : Nat) : Option AV → Bool
  | some (.int k' m) => k' == k && m == Z n
  | _ => false
theorem isI_eq {k : IntKind} {n : Nat} {x : Option AV} (h : isI k n x = true) : x = some (.int k (Z n)) := by
  unfold isI at h
  split at h
  · simp only [Bool.and_eq_true, beq_iff_eq] at h; rw [h.1, h.2]
  · cases h

def codesR : List (FuncId × IFun) := [(32, i32), (43, i43), (44, i44), (45, i45), (46, i46)]
theorem codesR_ok : ∀ p ∈ codesR, phi Tryd.prog p.1 = some p.2 := by
  simp only [codesR, List.forall_mem_cons, p32, p43, p44, p45, p46, true_and]
  intro p h; cases h

def lenF (n : Nat) : Nat := if n = 0 then 0 else Nat.log2 n + 1

theorem rev_all : ∀ n, n < 1024 → isI .u64 (M.rev 10 n * 2 ^ 54) (callV G (funL codesR) (fun _ => none) 40 45 [u64 n]) = true := by decide +kernel
theorem len_all : ∀ n, n < 1025 → isI .i64 (lenF n) (callV G (funL codesR) (fun _ => none) 40 32 [u64 n]) = true := by decide +kernel

noncomputable def T45 : List AV → Option AV := mkT (fun n : Nat => n < 1024) (fun n => [u64 n]) (fun n => u64 (M.rev 10 n * 2 ^ 54))
theorem T45_eq {n : Nat} (h : n < 1024) : T45 [u64 n] = some (u64 (M.rev 10 n * 2 ^ 54)) :=
  mkT_eq (pre := fun n : Nat => n < 1024) (enc := fun n => [u64 n]) (out := fun n => u64 (M.rev 10 n * 2 ^ 54)) (a := n) (fun a b _ _ h => by
    have : a = b := by simpa using h
    rw [this]) h
theorem c45 : Contract Tryd.prog G 45 T45 :=
  contract_of mixed (tab := fun _ => none) (fun _ _ h => by cases h) fun args v hT => by
    obtain ⟨n, h1, rfl, rfl⟩ := mkT_of hT
    exact ⟨40, callV_sub (funL_ok codesR_ok) (isI_eq (rev_all n h1))⟩

noncomputable def T32 : List AV → Option AV := mkT (fun n : Nat => n < 1025) (fun n => [u64 n]) (fun n => i64 (lenF n))
theorem T32_eq {n : Nat} (h : n < 1025) : T32 [u64 n] = some (i64 (lenF n)) :=
  mkT_eq (pre := fun n : Nat => n < 1025) (enc := fun n => [u64 n]) (out := fun n => i64 (lenF n)) (a := n) (fun a b _ _ h => by
    have : a = b := by simpa using h
    rw [this]) h
theorem c32 : Contract Tryd.prog G 32 T32 :=
  contract_of mixed (tab := fun _ => none) (fun _ _ h => by cases h) fun args v hT => by
    obtain ⟨n, h1, rfl, rfl⟩ := mkT_of hT
    exact ⟨40, callV_sub (funL_ok codesR_ok) (isI_eq (len_all n h1))⟩

end Go.Proofs.YtfgelmgfalbapaaDoor
