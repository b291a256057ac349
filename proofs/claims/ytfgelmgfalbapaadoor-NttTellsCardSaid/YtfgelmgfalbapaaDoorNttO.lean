/- The walk of the laws' row: the prime's number and 2^k numbers below it. -/
import Derived.Test.YtfgelmgfalbapaaDoorNttN
set_option maxRecDepth 100000
namespace Go.Proofs.YtfgelmgfalbapaaDoor
open Go Go.Eng Go.RowKit
attribute [local simp] regionK runRegion runOps runOp goOp evalOp Opd.ev putO upd Hp.new argF AV.cells AV.scal AV.bv1 AV.bvE onNormal_normal onNormal_exit onNormal_ret onExit_normal onExit_exit onExit_ret loopQ_normal loopQ_exit loopQ_ret binV unV cut partOf bound elems out1 out2 out3 outL out2L resAll resOf ansV Hp.close eqCells fillC fillE splice Z_of Z_inj Z_beq Z_bne Z_lt Z_le Z_nonneg Z_not_neg Z_zero Z_toNat Z_lt_cast Z_tmod Z_tdiv Z_fdiv i64_bits u8_bits u8_wrap u8_add u8_sub u8_mul u8_shl u16_bits u16_wrap u16_add u16_sub u16_mul u16_shl u32_bits u32_wrap u32_add u32_sub u32_mul u32_shl u64_bits u64_wrap u64_add u64_sub u64_mul u64_shl bi_add bi_sub bi_mul bi_quo bi_rem bi_eql bi_neq bi_lss bi_leq bi_gtr bi_geq
attribute [local simp high] i64_sr i64_sl i64_and u8_and u8_or u8_xor u8_sr u8_sl u16_and u16_or u16_xor u16_sr u16_sl u32_and u32_or u32_xor u32_sr u32_sl u64_and u64_or u64_xor u64_sr u64_sl

def low8 (x : Int) : Nat := (x % 256).toNat
theorem low8_lt (x : Int) : low8 x < 256 := by unfold low8; omega

theorem and255 (x : Int) : binI .and .i64 x (Z 255) = some (.int .i64 (Z (low8 x))) := by
  have h : (BitVec.ofInt 64 x &&& BitVec.ofInt 64 (Z 255)).toNat = low8 x := by
    rw [BitVec.toNat_and, BitVec.toNat_ofInt]
    have e : (BitVec.ofInt 64 (Z 255)).toNat = 2 ^ 8 - 1 := rfl
    rw [e, Nat.and_two_pow_sub_one_eq_mod]
    unfold low8
    omega
  show some (AV.int .i64 (IntKind.i64.wrap (Z _))) = _
  rw [show (BitVec.ofInt IntKind.i64.bits x &&& BitVec.ofInt IntKind.i64.bits (Z 255)).toNat = _ from h]
  rw [wrapi_Z (Nat.lt_trans (low8_lt x) (by decide))]

structure AskA where
  I : Int
  K : Int
  l : List Nat
  ex : Bool
  back : Bool
  most : Nat
def AskA.enc (a : AskA) : List AV := [.agg [.int .i64 a.I, .int .i64 a.K, .sl (a.l.map fun n => .int .u32 (Z n)) a.ex, .bool a.back], i64 a.most]
def AskA.pre (a : AskA) : Prop := (∀ x ∈ a.l, x < 4294967296) ∧ a.most < 11
def askI (I : Int) : Nat := low8 I % 3
def askK (K : Int) (most : Nat) : Nat := low8 K % (most + 1)
def AskA.out (a : AskA) : AV := .tup [i64 (askI a.I), .sl ((rowList (primeI (Z (askI a.I))) a.l (askK a.K a.most)).map fun n => .int .u32 (Z n)) false]
noncomputable def T25 : List AV → Option AV := mkT AskA.pre AskA.enc AskA.out
theorem T25_eq {I K : Int} {l : List Nat} {ex back : Bool} {most : Nat} (h2 : ∀ x ∈ l, x < 4294967296) (h3 : most < 11) :
    T25 [.agg [.int .i64 I, .int .i64 K, .sl (l.map fun n => .int .u32 (Z n)) ex, .bool back], i64 most] = some (.tup [i64 (askI I), .sl ((rowList (primeI (Z (askI I))) l (askK K most)).map fun n => .int .u32 (Z n)) false]) :=
  mkT_eq (pre := AskA.pre) (enc := AskA.enc) (out := AskA.out) (a := ⟨I, K, l, ex, back, most⟩) (fun u v _ _ h => by
    obtain ⟨I, K, l, ex, back, most⟩ := u
    obtain ⟨I', K', l', ex', back', most'⟩ := v
    simp only [AskA.enc, List.cons.injEq, AV.int.injEq, AV.sl.injEq, AV.agg.injEq, AV.bool.injEq, true_and, and_true, Z_inj] at h
    obtain ⟨⟨rfl, rfl, ⟨h, _⟩, rfl⟩, rfl⟩ := h
    rw [map_Z_inj h]; rfl) ⟨h2, h3⟩

theorem askI_ok (I : Int) : primeI (Z (askI I)) ≠ 0 := by
  have : askI I < 3 := Nat.mod_lt _ (by decide)
  have := (primeI_in (i := Z (askI I)) (by simp only [Z]; omega)).1
  omega

noncomputable def tabO : FuncId → Option (List AV → Option AV) := tabL [(23, T23)]
theorem tabO_ok : ∀ f T, tabO f = some T → Contract Tryd.prog G f T := tabL_ok (by simp [c23])
theorem tabO_23 : tabO 23 = some T23 := rfl

theorem c25 : Contract Tryd.prog G 25 T25 := by
  refine contract_mk mixed tabO_ok p25 fun x hx => ?_
  obtain ⟨I, K, l, ex, back, most⟩ := x
  obtain ⟨h2, h3⟩ := hx
  simp only at h2 h3
  simp only [AskA.enc, AskA.out]
  unfold i25
  refine ev_seq (ev_regionK walks_none ?_)
  simp [h0]
  refine ev_seq (ev_regionK walks_none ?_)
  simp [and255]
  have hI : low8 I % 3 = askI I := rfl
  have hK : low8 K % (most + 1) = askK K most := rfl
  have hk : askK K most < 11 := Nat.lt_of_lt_of_le (Nat.mod_lt _ (by omega)) h3
  refine ev_seq (ev_regionK walks_none ?_)
  simp [and255, wrapi_add (show most + 1 < 9223372036854775808 by omega), hI, hK, tabO_23, T23_eq (askI_ok I) h2 hk]
  refine ⟨by decide, ?_⟩
  refine ev_ret ?_
  simp
end Go.Proofs.YtfgelmgfalbapaaDoor
