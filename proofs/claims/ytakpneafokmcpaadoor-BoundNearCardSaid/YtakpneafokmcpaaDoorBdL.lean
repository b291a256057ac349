/- The program's rules: a map, laid by hand; the walks of its of, Sep, Zero. -/
import Derived.Test.YtakpneafokmcpaaDoorBdK
import Derived.Test.YtakpneafokmcpaaDoorChecked
import Derived.WideMake
import Derived.Carry
set_option maxRecDepth 100000
set_option maxHeartbeats 8000000
set_option linter.unusedSimpArgs false
set_option linter.unusedVariables false
set_option linter.unusedSectionVars false
namespace Go.Proofs.YtakpneafokmcpaaDoor
open Go Go.Eng Go.RowKit
attribute [local simp] regionK runRegion runOps runOp goOp evalOp.eq_1 evalOp.eq_2 evalOp.eq_3 evalOp.eq_4 evalOp.eq_5 evalOp.eq_6 evalOp.eq_7 evalOp.eq_8 evalOp.eq_9 evalOp.eq_10 evalOp.eq_11 evalOp.eq_12 evalOp.eq_13 evalOp.eq_14 evalOp.eq_15 evalOp.eq_16 evalOp.eq_17 evalOp.eq_18 evalOp.eq_19 evalOp.eq_20 evalOp.eq_21 evalOp.eq_22 evalOp.eq_23 evalOp.eq_24 evalOp.eq_25 evalOp.eq_27 evalOp.eq_28 evalOp.eq_29 evalOp_app Opd.ev putO upd Hp.new argF AV.cells AV.scal AV.bv1 AV.bvE onNormal_normal onNormal_exit onNormal_ret onExit_normal onExit_exit onExit_ret loopQ_normal loopQ_exit loopQ_ret binV unV cut partOf bound elems out1_int out2_int out3_int out1_bool out2_bool out3_bool out1_str out2_str out3_str out1_sl out2_sl out3_sl out1_ref out2_ref out3_ref out1_nilfn out2_nilfn out3_nilfn out1_mp out2_mp out3_mp out1_fn out2_fn out3_fn out1_ptr out2_ptr out3_ptr out1_vptr out2_vptr out3_vptr out1_undef out2_undef out3_undef out2_agg out3_agg out3_tup outL out2L resAll resOf ansV ansL Hp.close Hp.set appH_self appH_next appH_shut appH_pend int_zero int_one looseL_nil looseL_cons loose_sl loose_agg loose_tup loose_int loose_bool loose_str loose_nilfn loose_mp eqCells fillC fillE splice Z_of Z_inj Z_beq Z_bne Z_lt Z_le Z_nonneg Z_not_neg Z_zero Z_toNat Z_lt_cast Z_tmod Z_tdiv Z_fdiv i64_bits u8_bits u8_wrap u8_add u8_sub u8_mul u8_shl u16_bits u16_wrap u16_add u16_sub u16_mul u16_shl u32_bits u32_wrap u32_add u32_sub u32_mul u32_shl u64_bits u64_wrap u64_add u64_sub u64_mul u64_shl bi_add bi_sub bi_mul bi_quo bi_rem bi_eql bi_neq bi_lss bi_leq bi_gtr bi_geq
attribute [local simp high] i64_sr i64_sl i64_and u8_and u8_or u8_xor u8_sr u8_sl u16_and u16_or u16_xor u16_sr u16_sl u32_and u32_or u32_xor u32_sr u32_sl u64_and u64_or u64_xor u64_sr u64_sl
attribute [local simp] h0 List.getElem?_cons_zero List.getElem?_cons_succ wrapi_add wrapi_sub wrapi_Z Nat.mod_eq_of_lt nlt_T nlt_F nle_T nle_F neq_F countQ_normal countQ_exit countQ_ret
attribute [local irreducible] Ev
attribute [local simp] loose_map loose_zmap val_lim loose_rmap loose_nmap loose_smap loose_emap int_two int_three int_four

theorem push_set {α : Type} (a : Array α) (x y : α) : (a.push x).setIfInBounds a.size y = a.push y := by
  apply Array.ext'
  simp
theorem wm_set (w : World) (es es' : Array MapEntry) (c c' : Nat) : { w.alloc (.map es c) with heap := (w.alloc (.map es c)).heap.setIfInBounds w.heap.size (.map es' c') } = w.alloc (.map es' c') := by
  unfold World.alloc
  simp only [World.mk.injEq, and_true]
  exact push_set ..
def mapKeyI (P : Program) (t : TypeId) : Bool := match P.underlying t with
  | some (.map k _) => match P.underlying k with
    | some (.int .i64) => true
    | _ => false
  | _ => false
theorem undMap : ∃ kt et, Tryd.prog.underlying 57 = some (.map kt et) ∧ Tryd.prog.underlying kt = some (.int .i64) := by
  have h : mapKeyI Tryd.prog 57 = true := by kernel_rfl
  unfold mapKeyI at h
  split at h
  · rename_i k e he
    split at h
    · rename_i hk; exact ⟨k, e, he, hk⟩
    · cases h
  · cases h
theorem insMap (w : World) (es : Array MapEntry) (c : Nat) (k : Int) (val : Value) (h : Instr.findNow (.int .i64) (.int .i64 k) es.toList 0 = some none) :
    (Instr.mapUpdate 57 (.map (some w.heap.size)) (.int .i64 k) val).run Tryd.prog (w.alloc (.map es c)) = .ok () (w.alloc (.map (es.push { key := .int .i64 k, val := val, born := c }) (c + 1))) := by
  obtain ⟨kt, et, hm, hk⟩ := undMap
  have hc : (Instr.checkKey false 10000 kt (.int .i64 k)).run Tryd.prog (w.alloc (.map es c)) = .ok () (w.alloc (.map es c)) := MapKept.run_checkKey (k := .int .i64 k) hk (by simp [MapKept.IsKey]) false 9999
  have hb : (w.alloc (.map es c)).heap[w.heap.size]? = some (.map es c) := (MapKept.heap_alloc w _).1
  have := wm_set w es (es.push { key := .int .i64 k, val := val, born := c }) c (c + 1)
  simp only [Instr.mapUpdate]
  simp [run_underlying hm, MapKept.run_getObj_map hb, hc, MapKept.run_findKey hk h, MapKept.run_setObj_map _ hb, Result.andThen]
  exact this
def ruleL : List (Int × FuncId) := [(1, 51), (10, 53), (3, 55), (8, 56), (9, 58), (4, 49), (5, 49), (6, 60), (7, 62), (14, 64)]
theorem rules_calls (w : World) (R : Ending → World → Prop) (h : R (.returned (.map (some w.heap.size))) (w.alloc (.map #[⟨.int .i64 1, .func (.func 51) #[] #[], 0⟩, ⟨.int .i64 10, .func (.func 53) #[] #[], 1⟩, ⟨.int .i64 3, .func (.func 55) #[] #[], 2⟩, ⟨.int .i64 8, .func (.func 56) #[] #[], 3⟩, ⟨.int .i64 9, .func (.func 58) #[] #[], 4⟩, ⟨.int .i64 4, .func (.func 49) #[] #[], 5⟩, ⟨.int .i64 5, .func (.func 49) #[] #[], 6⟩, ⟨.int .i64 6, .func (.func 60) #[] #[], 7⟩, ⟨.int .i64 7, .func (.func 62) #[] #[], 8⟩, ⟨.int .i64 14, .func (.func 64) #[] #[], 9⟩] 10))) : Calls Tryd.prog 28 #[] w R := by
  have hmm := @run_makeMap Tryd.prog
  have i0 : (Instr.mapUpdate 57 (.map (some w.heap.size)) (.int .i64 1) (.func (.func 51) #[] #[])).run Tryd.prog (w.alloc (.map #[] 0)) = .ok () (w.alloc (.map #[⟨.int .i64 1, .func (.func 51) #[] #[], 0⟩] 1)) := insMap w #[] 0 1 (.func (.func 51) #[] #[]) rfl
  have i1 : (Instr.mapUpdate 57 (.map (some w.heap.size)) (.int .i64 10) (.func (.func 53) #[] #[])).run Tryd.prog (w.alloc (.map #[⟨.int .i64 1, .func (.func 51) #[] #[], 0⟩] 1)) = .ok () (w.alloc (.map #[⟨.int .i64 1, .func (.func 51) #[] #[], 0⟩, ⟨.int .i64 10, .func (.func 53) #[] #[], 1⟩] 2)) := insMap w #[⟨.int .i64 1, .func (.func 51) #[] #[], 0⟩] 1 10 (.func (.func 53) #[] #[]) rfl
  have i2 : (Instr.mapUpdate 57 (.map (some w.heap.size)) (.int .i64 3) (.func (.func 55) #[] #[])).run Tryd.prog (w.alloc (.map #[⟨.int .i64 1, .func (.func 51) #[] #[], 0⟩, ⟨.int .i64 10, .func (.func 53) #[] #[], 1⟩] 2)) = .ok () (w.alloc (.map #[⟨.int .i64 1, .func (.func 51) #[] #[], 0⟩, ⟨.int .i64 10, .func (.func 53) #[] #[], 1⟩, ⟨.int .i64 3, .func (.func 55) #[] #[], 2⟩] 3)) := insMap w #[⟨.int .i64 1, .func (.func 51) #[] #[], 0⟩, ⟨.int .i64 10, .func (.func 53) #[] #[], 1⟩] 2 3 (.func (.func 55) #[] #[]) rfl
  have i3 : (Instr.mapUpdate 57 (.map (some w.heap.size)) (.int .i64 8) (.func (.func 56) #[] #[])).run Tryd.prog (w.alloc (.map #[⟨.int .i64 1, .func (.func 51) #[] #[], 0⟩, ⟨.int .i64 10, .func (.func 53) #[] #[], 1⟩, ⟨.int .i64 3, .func (.func 55) #[] #[], 2⟩] 3)) = .ok () (w.alloc (.map #[⟨.int .i64 1, .func (.func 51) #[] #[], 0⟩, ⟨.int .i64 10, .func (.func 53) #[] #[], 1⟩, ⟨.int .i64 3, .func (.func 55) #[] #[], 2⟩, ⟨.int .i64 8, .func (.func 56) #[] #[], 3⟩] 4)) := insMap w #[⟨.int .i64 1, .func (.func 51) #[] #[], 0⟩, ⟨.int .i64 10, .func (.func 53) #[] #[], 1⟩, ⟨.int .i64 3, .func (.func 55) #[] #[], 2⟩] 3 8 (.func (.func 56) #[] #[]) rfl
  have i4 : (Instr.mapUpdate 57 (.map (some w.heap.size)) (.int .i64 9) (.func (.func 58) #[] #[])).run Tryd.prog (w.alloc (.map #[⟨.int .i64 1, .func (.func 51) #[] #[], 0⟩, ⟨.int .i64 10, .func (.func 53) #[] #[], 1⟩, ⟨.int .i64 3, .func (.func 55) #[] #[], 2⟩, ⟨.int .i64 8, .func (.func 56) #[] #[], 3⟩] 4)) = .ok () (w.alloc (.map #[⟨.int .i64 1, .func (.func 51) #[] #[], 0⟩, ⟨.int .i64 10, .func (.func 53) #[] #[], 1⟩, ⟨.int .i64 3, .func (.func 55) #[] #[], 2⟩, ⟨.int .i64 8, .func (.func 56) #[] #[], 3⟩, ⟨.int .i64 9, .func (.func 58) #[] #[], 4⟩] 5)) := insMap w #[⟨.int .i64 1, .func (.func 51) #[] #[], 0⟩, ⟨.int .i64 10, .func (.func 53) #[] #[], 1⟩, ⟨.int .i64 3, .func (.func 55) #[] #[], 2⟩, ⟨.int .i64 8, .func (.func 56) #[] #[], 3⟩] 4 9 (.func (.func 58) #[] #[]) rfl
  have i5 : (Instr.mapUpdate 57 (.map (some w.heap.size)) (.int .i64 4) (.func (.func 49) #[] #[])).run Tryd.prog (w.alloc (.map #[⟨.int .i64 1, .func (.func 51) #[] #[], 0⟩, ⟨.int .i64 10, .func (.func 53) #[] #[], 1⟩, ⟨.int .i64 3, .func (.func 55) #[] #[], 2⟩, ⟨.int .i64 8, .func (.func 56) #[] #[], 3⟩, ⟨.int .i64 9, .func (.func 58) #[] #[], 4⟩] 5)) = .ok () (w.alloc (.map #[⟨.int .i64 1, .func (.func 51) #[] #[], 0⟩, ⟨.int .i64 10, .func (.func 53) #[] #[], 1⟩, ⟨.int .i64 3, .func (.func 55) #[] #[], 2⟩, ⟨.int .i64 8, .func (.func 56) #[] #[], 3⟩, ⟨.int .i64 9, .func (.func 58) #[] #[], 4⟩, ⟨.int .i64 4, .func (.func 49) #[] #[], 5⟩] 6)) := insMap w #[⟨.int .i64 1, .func (.func 51) #[] #[], 0⟩, ⟨.int .i64 10, .func (.func 53) #[] #[], 1⟩, ⟨.int .i64 3, .func (.func 55) #[] #[], 2⟩, ⟨.int .i64 8, .func (.func 56) #[] #[], 3⟩, ⟨.int .i64 9, .func (.func 58) #[] #[], 4⟩] 5 4 (.func (.func 49) #[] #[]) rfl
  have i6 : (Instr.mapUpdate 57 (.map (some w.heap.size)) (.int .i64 5) (.func (.func 49) #[] #[])).run Tryd.prog (w.alloc (.map #[⟨.int .i64 1, .func (.func 51) #[] #[], 0⟩, ⟨.int .i64 10, .func (.func 53) #[] #[], 1⟩, ⟨.int .i64 3, .func (.func 55) #[] #[], 2⟩, ⟨.int .i64 8, .func (.func 56) #[] #[], 3⟩, ⟨.int .i64 9, .func (.func 58) #[] #[], 4⟩, ⟨.int .i64 4, .func (.func 49) #[] #[], 5⟩] 6)) = .ok () (w.alloc (.map #[⟨.int .i64 1, .func (.func 51) #[] #[], 0⟩, ⟨.int .i64 10, .func (.func 53) #[] #[], 1⟩, ⟨.int .i64 3, .func (.func 55) #[] #[], 2⟩, ⟨.int .i64 8, .func (.func 56) #[] #[], 3⟩, ⟨.int .i64 9, .func (.func 58) #[] #[], 4⟩, ⟨.int .i64 4, .func (.func 49) #[] #[], 5⟩, ⟨.int .i64 5, .func (.func 49) #[] #[], 6⟩] 7)) := insMap w #[⟨.int .i64 1, .func (.func 51) #[] #[], 0⟩, ⟨.int .i64 10, .func (.func 53) #[] #[], 1⟩, ⟨.int .i64 3, .func (.func 55) #[] #[], 2⟩, ⟨.int .i64 8, .func (.func 56) #[] #[], 3⟩, ⟨.int .i64 9, .func (.func 58) #[] #[], 4⟩, ⟨.int .i64 4, .func (.func 49) #[] #[], 5⟩] 6 5 (.func (.func 49) #[] #[]) rfl
  have i7 : (Instr.mapUpdate 57 (.map (some w.heap.size)) (.int .i64 6) (.func (.func 60) #[] #[])).run Tryd.prog (w.alloc (.map #[⟨.int .i64 1, .func (.func 51) #[] #[], 0⟩, ⟨.int .i64 10, .func (.func 53) #[] #[], 1⟩, ⟨.int .i64 3, .func (.func 55) #[] #[], 2⟩, ⟨.int .i64 8, .func (.func 56) #[] #[], 3⟩, ⟨.int .i64 9, .func (.func 58) #[] #[], 4⟩, ⟨.int .i64 4, .func (.func 49) #[] #[], 5⟩, ⟨.int .i64 5, .func (.func 49) #[] #[], 6⟩] 7)) = .ok () (w.alloc (.map #[⟨.int .i64 1, .func (.func 51) #[] #[], 0⟩, ⟨.int .i64 10, .func (.func 53) #[] #[], 1⟩, ⟨.int .i64 3, .func (.func 55) #[] #[], 2⟩, ⟨.int .i64 8, .func (.func 56) #[] #[], 3⟩, ⟨.int .i64 9, .func (.func 58) #[] #[], 4⟩, ⟨.int .i64 4, .func (.func 49) #[] #[], 5⟩, ⟨.int .i64 5, .func (.func 49) #[] #[], 6⟩, ⟨.int .i64 6, .func (.func 60) #[] #[], 7⟩] 8)) := insMap w #[⟨.int .i64 1, .func (.func 51) #[] #[], 0⟩, ⟨.int .i64 10, .func (.func 53) #[] #[], 1⟩, ⟨.int .i64 3, .func (.func 55) #[] #[], 2⟩, ⟨.int .i64 8, .func (.func 56) #[] #[], 3⟩, ⟨.int .i64 9, .func (.func 58) #[] #[], 4⟩, ⟨.int .i64 4, .func (.func 49) #[] #[], 5⟩, ⟨.int .i64 5, .func (.func 49) #[] #[], 6⟩] 7 6 (.func (.func 60) #[] #[]) rfl
  have i8 : (Instr.mapUpdate 57 (.map (some w.heap.size)) (.int .i64 7) (.func (.func 62) #[] #[])).run Tryd.prog (w.alloc (.map #[⟨.int .i64 1, .func (.func 51) #[] #[], 0⟩, ⟨.int .i64 10, .func (.func 53) #[] #[], 1⟩, ⟨.int .i64 3, .func (.func 55) #[] #[], 2⟩, ⟨.int .i64 8, .func (.func 56) #[] #[], 3⟩, ⟨.int .i64 9, .func (.func 58) #[] #[], 4⟩, ⟨.int .i64 4, .func (.func 49) #[] #[], 5⟩, ⟨.int .i64 5, .func (.func 49) #[] #[], 6⟩, ⟨.int .i64 6, .func (.func 60) #[] #[], 7⟩] 8)) = .ok () (w.alloc (.map #[⟨.int .i64 1, .func (.func 51) #[] #[], 0⟩, ⟨.int .i64 10, .func (.func 53) #[] #[], 1⟩, ⟨.int .i64 3, .func (.func 55) #[] #[], 2⟩, ⟨.int .i64 8, .func (.func 56) #[] #[], 3⟩, ⟨.int .i64 9, .func (.func 58) #[] #[], 4⟩, ⟨.int .i64 4, .func (.func 49) #[] #[], 5⟩, ⟨.int .i64 5, .func (.func 49) #[] #[], 6⟩, ⟨.int .i64 6, .func (.func 60) #[] #[], 7⟩, ⟨.int .i64 7, .func (.func 62) #[] #[], 8⟩] 9)) := insMap w #[⟨.int .i64 1, .func (.func 51) #[] #[], 0⟩, ⟨.int .i64 10, .func (.func 53) #[] #[], 1⟩, ⟨.int .i64 3, .func (.func 55) #[] #[], 2⟩, ⟨.int .i64 8, .func (.func 56) #[] #[], 3⟩, ⟨.int .i64 9, .func (.func 58) #[] #[], 4⟩, ⟨.int .i64 4, .func (.func 49) #[] #[], 5⟩, ⟨.int .i64 5, .func (.func 49) #[] #[], 6⟩, ⟨.int .i64 6, .func (.func 60) #[] #[], 7⟩] 8 7 (.func (.func 62) #[] #[]) rfl
  have i9 : (Instr.mapUpdate 57 (.map (some w.heap.size)) (.int .i64 14) (.func (.func 64) #[] #[])).run Tryd.prog (w.alloc (.map #[⟨.int .i64 1, .func (.func 51) #[] #[], 0⟩, ⟨.int .i64 10, .func (.func 53) #[] #[], 1⟩, ⟨.int .i64 3, .func (.func 55) #[] #[], 2⟩, ⟨.int .i64 8, .func (.func 56) #[] #[], 3⟩, ⟨.int .i64 9, .func (.func 58) #[] #[], 4⟩, ⟨.int .i64 4, .func (.func 49) #[] #[], 5⟩, ⟨.int .i64 5, .func (.func 49) #[] #[], 6⟩, ⟨.int .i64 6, .func (.func 60) #[] #[], 7⟩, ⟨.int .i64 7, .func (.func 62) #[] #[], 8⟩] 9)) = .ok () (w.alloc (.map #[⟨.int .i64 1, .func (.func 51) #[] #[], 0⟩, ⟨.int .i64 10, .func (.func 53) #[] #[], 1⟩, ⟨.int .i64 3, .func (.func 55) #[] #[], 2⟩, ⟨.int .i64 8, .func (.func 56) #[] #[], 3⟩, ⟨.int .i64 9, .func (.func 58) #[] #[], 4⟩, ⟨.int .i64 4, .func (.func 49) #[] #[], 5⟩, ⟨.int .i64 5, .func (.func 49) #[] #[], 6⟩, ⟨.int .i64 6, .func (.func 60) #[] #[], 7⟩, ⟨.int .i64 7, .func (.func 62) #[] #[], 8⟩, ⟨.int .i64 14, .func (.func 64) #[] #[], 9⟩] 10)) := insMap w #[⟨.int .i64 1, .func (.func 51) #[] #[], 0⟩, ⟨.int .i64 10, .func (.func 53) #[] #[], 1⟩, ⟨.int .i64 3, .func (.func 55) #[] #[], 2⟩, ⟨.int .i64 8, .func (.func 56) #[] #[], 3⟩, ⟨.int .i64 9, .func (.func 58) #[] #[], 4⟩, ⟨.int .i64 4, .func (.func 49) #[] #[], 5⟩, ⟨.int .i64 5, .func (.func 49) #[] #[], 6⟩, ⟨.int .i64 6, .func (.func 60) #[] #[], 7⟩, ⟨.int .i64 7, .func (.func 62) #[] #[], 8⟩] 9 14 (.func (.func 64) #[] #[]) rfl
  go_enter Tryd.func28, Tryd.ntmps28
  go_wp2
  exact h
def T28 : List AV → Option AV
  | [] => some (.mp ruleL)
  | _ => none
theorem c28 : Contract Tryd.prog G 28 T28 := by
  intro args v hT ok w cargs hsz hargs hglob
  unfold T28 at hT
  split at hT <;> try (cases hT; done)
  cases hT
  obtain rfl : cargs = #[] := by simpa using hsz
  refine .inl ⟨run_callFunc Tryd.func28 rfl (by decide) _ _, rules_calls _ _ ⟨_, rfl, ?_, (Below.refl _ _).alloc (Nat.le_refl _) _⟩⟩
  refine .mp ruleL w.heap.size _ 10 (.inr (Nat.le_refl _)) (MapKept.heap_alloc w _).1 rfl fun i hi hi' => ?_
  have hi : i < 10 := hi
  match i, hi with
  | 0, _ => exact ⟨rfl, rfl⟩
  | 1, _ => exact ⟨rfl, rfl⟩
  | 2, _ => exact ⟨rfl, rfl⟩
  | 3, _ => exact ⟨rfl, rfl⟩
  | 4, _ => exact ⟨rfl, rfl⟩
  | 5, _ => exact ⟨rfl, rfl⟩
  | 6, _ => exact ⟨rfl, rfl⟩
  | 7, _ => exact ⟨rfl, rfl⟩
  | 8, _ => exact ⟨rfl, rfl⟩
  | 9, _ => exact ⟨rfl, rfl⟩

/-! of -/
noncomputable def Tof27 (n : Nat) : List AV → Option AV := mkL (fun e : List Nd => e.length ≤ n ∧ e.length ≤ 100000 ∧ wfE e ∧ ∀ x ∈ e, x.may) (fun e => [exv e false, .mp ruleL]) (fun e => spv (sepE e))
theorem Tof27_eq {n : Nat} {e : List Nd} {f : Bool} (hn : e.length ≤ n) (hl : e.length ≤ 100000) (h : wfE e) (hm : ∀ x ∈ e, x.may) : Tof27 n [.sl (e.map fun z => ndv z) f, .mp ruleL] = some (spv (sepE e)) :=
  mkL_eq (fun z w h => by simp only [List.cons.injEq, AV.sl.injEq, nmap_inj, and_true] at h; rw [h]) e ⟨hn, hl, h, hm⟩ (by simp)
noncomputable def tabW (n : Nat) : FuncId → Option (List AV → Option AV) := tabL [(17, T17), (48, T48), (27, Tof27 n), (49, T49), (51, T51), (53, T53), (55, T55), (56, T56), (58, T58), (60, T60), (62, T62), (64, T64)]
theorem tabW_a (n : Nat) : tabW n 17 = some T17 := rfl
theorem tabW_b (n : Nat) : tabW n 48 = some T48 := rfl
theorem tabW_c (n : Nat) : tabW n 27 = some (Tof27 n) := rfl
theorem Sp.cap_base : Sp.cap ⟨1, 0, 0⟩ = ⟨1, 0, 0⟩ := rfl
/-- A node's rule, and what it makes. -/
theorem rule_of (n : Nat) {x : Nd} (hx : x.may) {l : List Sp} (hs : ∀ s ∈ l, s.small) {a : Nat} (ha : arI x.op = Z a) (hl : l.length = a) (h11 : x.op ≠ Z 11) (h12 : x.op ≠ Z 12) :
    ∃ k T, ruleL.lookup x.op = some k ∧ tabW n k = some T ∧ ∀ e, T [ndv x, .sl (l.map fun s => spv s) e] = some (spv (ruleN x l)) := by
  have sm0 : ∀ i, (l.getD i ⟨1, 0, 0⟩).small := fun i => by
    by_cases hi : i < l.length
    · simp only [List.getD, List.getElem?_eq_getElem hi, Option.getD_some]
      exact hs _ (List.getElem_mem hi)
    · simp [List.getD, List.getElem?_eq_none (Nat.le_of_not_lt hi)]
      exact ⟨by decide, by decide, by decide⟩
  have main : x.op = Z 1 ∨ x.op = Z 3 ∨ x.op = Z 4 ∨ x.op = Z 5 ∨ x.op = Z 6 ∨ x.op = Z 7 ∨ x.op = Z 8 ∨ x.op = Z 9 ∨ x.op = Z 10 ∨ x.op = Z 14 := by
    have h := hx.op
    by_cases h2 : 1 ≤ x.op ∧ x.op ≤ 16
    · simp only [Z] at *; omega
    · have : arI x.op = -1 := by
        unfold arI
        rw [if_neg (by omega), if_neg (by omega), if_neg (by omega), if_neg (by omega)]
      rw [this] at ha; simp only [Z] at ha; omega
  rcases main with h | h | h | h | h | h | h | h | h | h
  · refine ⟨51, _, by rw [h]; rfl, rfl, fun e => ?_⟩
    rw [show ruleN x l = ⟨1, bl (val x.qm), bl (val x.qd)⟩ by simp [ruleN, oneS, h, Z_inj]]
    exact ruleT_eq (hx.fit.num h)
  · obtain rfl : a = 1 := by rw [h] at ha; exact (Z_inj.1 ha).symm
    obtain ⟨p, rfl⟩ := get_one hl
    refine ⟨55, _, by rw [h]; rfl, rfl, fun e => ?_⟩
    rw [show ruleN x [p] = p by simp [ruleN, oneS, h, Z_inj]]
    exact ruleT_eq ⟨p, rfl, sm0 0⟩
  · obtain rfl : a = 2 := by rw [h] at ha; exact (Z_inj.1 ha).symm
    obtain ⟨p, q, rfl⟩ := get_two hl
    refine ⟨49, _, by rw [h]; rfl, rfl, fun e => ?_⟩
    rw [show ruleN x [p, q] = p.add q by simp [ruleN, h, Z_inj]]
    exact ruleT_eq ⟨p, q, rfl, sm0 0, sm0 1⟩
  · obtain rfl : a = 2 := by rw [h] at ha; exact (Z_inj.1 ha).symm
    obtain ⟨p, q, rfl⟩ := get_two hl
    refine ⟨49, _, by rw [h]; rfl, rfl, fun e => ?_⟩
    rw [show ruleN x [p, q] = p.add q by simp [ruleN, h, Z_inj]]
    exact ruleT_eq ⟨p, q, rfl, sm0 0, sm0 1⟩
  · obtain rfl : a = 2 := by rw [h] at ha; exact (Z_inj.1 ha).symm
    obtain ⟨p, q, rfl⟩ := get_two hl
    refine ⟨60, _, by rw [h]; rfl, rfl, fun e => ?_⟩
    rw [show ruleN x [p, q] = p.mul q by simp [ruleN, h, Z_inj]]
    exact ruleT_eq ⟨p, q, rfl, sm0 0, sm0 1⟩
  · obtain rfl : a = 2 := by rw [h] at ha; exact (Z_inj.1 ha).symm
    obtain ⟨p, q, rfl⟩ := get_two hl
    refine ⟨62, _, by rw [h]; rfl, rfl, fun e => ?_⟩
    rw [show ruleN x [p, q] = p.mul q.turn by simp [ruleN, h, Z_inj]]
    exact ruleT_eq ⟨p, q, rfl, sm0 0, sm0 1⟩
  · obtain rfl : a = 1 := by rw [h] at ha; exact (Z_inj.1 ha).symm
    obtain ⟨p, rfl⟩ := get_one hl
    refine ⟨56, _, by rw [h]; rfl, rfl, fun e => ?_⟩
    rw [show ruleN x [p] = p.pow x.n by simp [ruleN, oneS, h, Z_inj]]
    exact ruleT_eq ⟨⟨p, rfl, sm0 0⟩, hx.fit.pow h⟩
  · obtain rfl : a = 1 := by rw [h] at ha; exact (Z_inj.1 ha).symm
    obtain ⟨p, rfl⟩ := get_one hl
    refine ⟨58, _, by rw [h]; rfl, rfl, fun e => ?_⟩
    rw [show ruleN x [p] = p.root x.n.toNat by simp [ruleN, oneS, h, Z_inj]]
    exact ruleT_eq ⟨⟨p, rfl, sm0 0⟩, hx.fit.root h⟩
  · refine ⟨53, _, by rw [h]; rfl, rfl, fun e => ?_⟩
    rw [show ruleN x l = nameS x.p by simp [ruleN, oneS, h, Z_inj]]
    have g := hx.fit.rootOf h
    exact ruleT_eq ⟨g.1, Nat.le_of_succ_le g.2.1, g.2.2⟩
  · obtain rfl : a = 4 := by rw [h] at ha; exact (Z_inj.1 ha).symm
    obtain ⟨p, q, r, s, rfl⟩ := get_four hl
    refine ⟨64, _, by rw [h]; rfl, rfl, fun e => ?_⟩
    rw [show ruleN x [p, q, r, s] = r.or s by simp [ruleN, h, Z_inj]]
    exact ruleT_eq ⟨p, q, r, s, rfl⟩
theorem sp_bvE (l : List Sp) : (l.map fun s => spv s).all AV.bvE = true := by simp [AV.bvE, AV.cells, AV.bv1]
theorem cof27 : ∀ n, Contract Tryd.prog G 27 (Tof27 n)
  | 0 => by
    intro args v hT
    unfold Tof27 mkL at hT
    obtain ⟨e, ⟨h1, h2, h3, h4⟩, _⟩ := mkT_of hT
    exact absurd (List.length_eq_zero_iff.1 (by omega)) (wfE_ne h3)
  | n + 1 => by
    have htab : ∀ f T, tabW n f = some T → Contract Tryd.prog G f T := tabL_ok (by simp only [List.forall_mem_cons]; exact ⟨c17, c48, cof27 n, c49, c51, c53, c55, c56, c58, c60, c62, c64, fun _ h => absurd h (by simp)⟩)
    refine contract_ml mixed htab p27 fun e he => ?_
    obtain ⟨h1, h2, h3, h4⟩ := he
    cases e with
    | nil => exact absurd rfl (wfE_ne h3)
    | cons x r =>
      obtain ⟨a, ha, hlen, hpw⟩ := partsX_wf h3
      have tp := T17_eq (f := false) h2 h3
      have hg := nd_get (e := x :: r) (i := 0) (by simp)
      have hx := h4 x (by simp)
      have hsep := sepE_cons x r
      have tt := tabW_a n
      have tt1 := tabW_b n
      have tt2 := tabW_c n
      have tcap := T48_eq
      have hof : ∀ p ∈ partsX (x :: r), Tof27 n [.sl (p.map fun z => ndv z) false, .mp ruleL] = some (spv (sepE p)) := fun p hp => by
        obtain ⟨w1, w2, w3⟩ := hpw p hp
        exact Tof27_eq (by simp at h1; omega) (by simp at h2; omega) w1 (fun y hy => h4 y (by simp [w3 y hy]))
      generalize partsX (x :: r) = ps at *
      simp only [List.map_cons] at tp hg
      rw [hsep]
      unfold i27
      by_cases hno : x.op = Z 11 ∨ x.op = Z 12
      · have hlk : ruleL.lookup x.op = none := by rcases hno with h | h <;> rw [h] <;> rfl
        have hr : (ruleN x (ps.map sepE)).cap = ⟨1, 0, 0⟩ := by
          rcases hno with h | h <;> simp [ruleN, oneS, h, Z_inj, Sp.cap]
        rw [hr]
        refine ev_keep [0, 1, 4, 5, 6, 20] fun F => ?_
        simp only [KeepF]
        intro f0 f1 f4 f5 f6 f20
        simp [argF] at f0 f1 f4 f5 f6 f20
        repeat' (first
          | refine ev_seq ?_
          | ((fail_if_success (refine is_loop ?_)); (fail_if_success (refine is_rfun ?_)); refine ev_block ?_)
          | ((first | (refine ev_regionK walks_none ?_; simp (disch := omega) [hg, hlk, f0, f1, f4, f5, f6, f20]; (try (refine ⟨by first | decide | rfl, ?_⟩))) | (refine ev_skip ?_; simp (disch := omega) [hg, hlk, f0, f1, f4, f5, f6, f20])); (try (refine ev_keep [0, 1, 4, 5, 6, 20] ?_; intro F; simp only [KeepF]; intro k0 k1 k4 k5 k6 k20; simp (disch := omega) [hg, hlk, f0, f1, f4, f5, f6, f20] at k0 k1 k4 k5 k6 k20; clear f0 f1 f4 f5 f6 f20; have f0 := k0 ; have f1 := k1 ; have f4 := k4 ; have f5 := k5 ; have f6 := k6 ; have f20 := k20; clear k0 k1 k4 k5 k6 k20)))
          | (refine ev_cond _ (by simp (disch := omega) [hg, hlk, f0, f1, f4, f5, f6, f20]; rfl) (fun hc => ?_) (fun hc => ?_) <;> first | (exfalso; simp (disch := omega) [hg, hlk] at hc; done) | (exfalso; simp at hc; omega) | (simp at hc))
          | ((first | refine ev_ret ?_ | refine ev_exit ?_); simp (disch := omega) [hg, hlk, f0, f1, f4, f5, f6, f20]))
      · obtain ⟨k, T, hlk, hk, hT⟩ := rule_of n hx (l := ps.map sepE) (fun s hs => by obtain ⟨p, _, rfl⟩ := List.mem_map.1 hs; exact sepE_small p) ha (by simpa using hlen) (fun h => hno (.inl h)) (fun h => hno (.inr h))
        generalize hrn : ruleN x (ps.map sepE) = q at *
        have ha4 : a ≤ 4 := by have := (arI_range x.op).2; rw [ha] at this; simp only [Z] at this; omega
        refine ev_keep [0, 1, 4, 5, 6, 7, 20, 23, 24, 25] fun F => ?_
        simp only [KeepF]
        intro f0 f1 f4 f5 f6 f7 f20 f23 f24 f25
        simp [argF] at f0 f1 f4 f5 f6 f7 f20 f23 f24 f25
        repeat' (first
          | refine ev_seq ?_
          | ((fail_if_success (refine is_loop ?_)); (fail_if_success (refine is_rfun ?_)); refine ev_block ?_)
          | ((first | (refine ev_regionK walks_none ?_; simp (disch := omega) [hg, hlk, tt, tp, f0, f1, f4, f5, f6, f7, f20, f23, f24, f25]; (try (refine ⟨by first | decide | rfl, ?_⟩))) | (refine ev_skip ?_; simp (disch := omega) [hg, hlk, tt, tp, f0, f1, f4, f5, f6, f7, f20, f23, f24, f25])); (try (refine ev_keep [0, 1, 4, 5, 6, 7, 20, 23, 24, 25] ?_; intro F; simp only [KeepF]; intro k0 k1 k4 k5 k6 k7 k20 k23 k24 k25; simp (disch := omega) [hg, hlk, tt, tp, f0, f1, f4, f5, f6, f7, f20, f23, f24, f25] at k0 k1 k4 k5 k6 k7 k20 k23 k24 k25; clear f0 f1 f4 f5 f6 f7 f20 f23 f24 f25; have f0 := k0 ; have f1 := k1 ; have f4 := k4 ; have f5 := k5 ; have f6 := k6 ; have f7 := k7 ; have f20 := k20 ; have f23 := k23 ; have f24 := k24 ; have f25 := k25; clear k0 k1 k4 k5 k6 k7 k20 k23 k24 k25)))
          | (refine ev_cond _ (by simp (disch := omega) [hg, hlk, tt, tp, f0, f1, f4, f5, f6, f7, f20, f23, f24, f25]; rfl) (fun hc => ?_) (fun hc => ?_) <;> first | (exfalso; simp (disch := omega) [hg, hlk, tt, tp] at hc; done) | (exfalso; simp at hc; omega) | (simp at hc))
          | ((first | refine ev_ret ?_ | refine ev_exit ?_); simp (disch := omega) [hg, hlk, tt, tp, f0, f1, f4, f5, f6, f7, f20, f23, f24, f25]))
        refine ev_count (id := 0) a (fun i s => OwnR 3 s.h (s.F 7) ((ps.take i).map fun p => spv (sepE p)) ∧ (∀ q b c d, s.F 7 = .ref q b c d → 0 < q) ∧ s.F 0 = exv (x :: r) false ∧ s.F 1 = .mp ruleL ∧ s.F 4 = .ptr 0 0 0 ∧ s.F 5 = .fn k [] [] ∧ s.F 23 = .sl (ps.map fun p => exv p false) false ∧ s.F 24 = I64 a ∧ s.F 25 = I64 i ∧ s.h.cells 0 = some [.agg [.int .i64 (Z 0), .int .i64 (Z 0), .int .i64 (Z 0)]] ∧ 0 < s.h.next ∧ s.h.shut 0 = false)
          (fun s => OwnR 3 s.h (s.F 7) (ps.map fun p => spv (sepE p)) ∧ s.F 0 = exv (x :: r) false ∧ s.F 4 = .ptr 0 0 0 ∧ s.F 5 = .fn k [] [] ∧ s.h.cells 0 = some [.agg [.int .i64 (Z 0), .int .i64 (Z 0), .int .i64 (Z 0)]] ∧ 0 < s.h.next ∧ s.h.shut 0 = false ∧ (∀ q b c d, s.F 7 = .ref q b c d → 0 < q)) (fun _ => False) ?_ ?_ ?_ (fun _ h => h.elim)
        · exact ⟨by simp [f7]; exact OwnR.nil (fun _ _ => rfl), by simp [f7], f0, f1, f4, f5, f23, by simp [f24, hlen], f25, by simp [upd], by simp, rfl⟩
        · clear f0 f1 f4 f5 f6 f7 f20 f23 f24 f25
          rintro i s hi ⟨own, far, f0, f1, f4, f5, f23, f24, f25, hc0, hn0, hs0⟩
          refine ev_keep [0, 1, 4, 5, 7, 9, 23, 24, 25, 26] ?_
          intro F
          simp only [KeepF]
          intro k0 k1 k4 k5 k7 k9 k23 k24 k25 k26
          try simp [h0, f0, f1, f4, f5, f23, f24, f25] at k0 k1 k4 k5 k7 k9 k23 k24 k25 k26
          clear f0 f1 f4 f5 f23 f24 f25
          have f0 := k0
          have f1 := k1
          have f4 := k4
          have f5 := k5
          have f7 := k7
          have f9 := k9
          have f23 := k23
          have f24 := k24
          have f25 := k25
          have f26 := k26
          clear k0 k1 k4 k5 k7 k9 k23 k24 k25 k26
          by_cases h5 : i < a
          · have hpg : (ps.map fun p => exv p false)[i]? = some (exv ps[i] false) := by simp [List.getElem?_eq_getElem (show i < ps.length by omega)]
            have tof := hof _ (List.getElem_mem (show i < ps.length by omega))
            have hts : ps.take (i + 1) = ps.take i ++ [ps[i]] := List.take_succ_eq_append_getElem (by omega)
            generalize ps[i] = p at *
            have hlt : (ps.take i).length = i := by simp; omega
            have ho := own.app (ys := [spv (sepE p)]) (by simp) (by simp [AV.cells])
            have ap := appE_own own (by decide) (bytes := 24) (by decide) (ys := [spv (sepE p)]) (by simp) (by simp [AV.cells, AV.scal]) (by simp; omega)
            simp only [List.length_map, List.length_singleton, hlt] at ap ho
            have oc := fun r m (hr : 0 ≠ r) => OwnR.other own (m := m) (p := s.h.pend) (q := 0) (r := r) (zs := (List.map (fun p => spv (sepE p)) (ps.take i) ++ [spv (sepE p)])) hr (fun b c d e => absurd (far _ _ _ _ e) (by omega))
            rw [hc0] at oc
            repeat' (first
              | refine ev_seq ?_
              | ((fail_if_success (refine is_loop ?_)); (fail_if_success (refine is_rfun ?_)); refine ev_block ?_)
              | ((first | (refine ev_regionK walks_none ?_; simp (disch := omega) [h5, hpg, tof, tt2, ap, f0, f1, f4, f5, f7, f9, f23, f24, f25, f26]; (try (refine ⟨by first | decide | rfl, ?_⟩))) | (refine ev_skip ?_; simp (disch := omega) [h5, hpg, tof, tt2, ap, f0, f1, f4, f5, f7, f9, f23, f24, f25, f26])); (try (refine ev_keep [0, 1, 4, 5, 7, 9, 23, 24, 25, 26] ?_; intro F; simp only [KeepF]; intro k0 k1 k4 k5 k7 k9 k23 k24 k25 k26; simp (disch := omega) [h5, hpg, tof, tt2, ap, f0, f1, f4, f5, f7, f9, f23, f24, f25, f26] at k0 k1 k4 k5 k7 k9 k23 k24 k25 k26; clear f0 f1 f4 f5 f7 f9 f23 f24 f25 f26; have f0 := k0 ; have f1 := k1 ; have f4 := k4 ; have f5 := k5 ; have f7 := k7 ; have f9 := k9 ; have f23 := k23 ; have f24 := k24 ; have f25 := k25 ; have f26 := k26; clear k0 k1 k4 k5 k7 k9 k23 k24 k25 k26)))
              | (refine ev_cond _ (by simp (disch := omega) [h5, hpg, tof, tt2, ap, f0, f1, f4, f5, f7, f9, f23, f24, f25, f26]; rfl) (fun hc => ?_) (fun hc => ?_) <;> first | (exfalso; simp (disch := omega) [h5, hpg, tof, tt2, ap] at hc; done) | (exfalso; simp at hc; omega) | (simp at hc))
              | ((first | refine ev_ret ?_ | refine ev_exit ?_); simp (disch := omega) [h5, hpg, tof, tt2, ap, f0, f1, f4, f5, f7, f9, f23, f24, f25, f26]))
            have e3 : List.take (i + 1) (ps.map fun p => spv (sepE p)) = List.take i (ps.map fun p => spv (sepE p)) ++ [spv (sepE p)] := by
              rw [← List.map_take, hts, List.map_append, List.map_take]; rfl
            rw [e3]
            simp only [List.map_take] at ho oc
            exact ⟨ho _ _ _ _ _ (by omega) (by omega), fun q _ _ _ h _ _ _ => by omega, oc _ _ (by omega), hs0⟩
          · have hi2 : i = a := by omega
            subst hi2
            rw [List.take_of_length_le (by omega)] at own
            repeat' (first
              | refine ev_seq ?_
              | ((fail_if_success (refine is_loop ?_)); (fail_if_success (refine is_rfun ?_)); refine ev_block ?_)
              | ((first | (refine ev_regionK walks_none ?_; simp (disch := omega) [h5, f0, f1, f4, f5, f7, f9, f23, f24, f25, f26]; (try (refine ⟨by first | decide | rfl, ?_⟩))) | (refine ev_skip ?_; simp (disch := omega) [h5, f0, f1, f4, f5, f7, f9, f23, f24, f25, f26])); (try (refine ev_keep [0, 1, 4, 5, 7, 9, 23, 24, 25, 26] ?_; intro F; simp only [KeepF]; intro k0 k1 k4 k5 k7 k9 k23 k24 k25 k26; simp (disch := omega) [h5, f0, f1, f4, f5, f7, f9, f23, f24, f25, f26] at k0 k1 k4 k5 k7 k9 k23 k24 k25 k26; clear f0 f1 f4 f5 f7 f9 f23 f24 f25 f26; have f0 := k0 ; have f1 := k1 ; have f4 := k4 ; have f5 := k5 ; have f7 := k7 ; have f9 := k9 ; have f23 := k23 ; have f24 := k24 ; have f25 := k25 ; have f26 := k26; clear k0 k1 k4 k5 k7 k9 k23 k24 k25 k26)))
              | (refine ev_cond _ (by simp (disch := omega) [h5, f0, f1, f4, f5, f7, f9, f23, f24, f25, f26]; rfl) (fun hc => ?_) (fun hc => ?_) <;> first | (exfalso; simp (disch := omega) [h5] at hc; done) | (exfalso; simp at hc; omega) | (simp at hc))
              | ((first | refine ev_ret ?_ | refine ev_exit ?_); simp (disch := omega) [h5, f0, f1, f4, f5, f7, f9, f23, f24, f25, f26]))
            exact ⟨own.bump _ (by omega), hc0, hs0, far⟩
        · rintro s ⟨own, f0, f4, f5, hc0, hn0, hs0, far⟩
          rcases own.2 with ⟨hxs, f7⟩ | ⟨hpos, q', f7, hq, hsq, hqn, hqs⟩
          · have hT := hT true
            have hpe : ps = [] := by simpa using hxs
            subst hpe
            simp only [List.map_nil] at hT
            refine ev_keep [0, 4, 5, 7] ?_
            intro F
            simp only [KeepF]
            intro k0 k4 k5 k7
            try simp [h0, f0, f4, f5, f7] at k0 k4 k5 k7
            clear f0 f4 f5 f7
            have f0 := k0
            have f4 := k4
            have f5 := k5
            have f7 := k7
            clear k0 k4 k5 k7
            repeat' (first
              | refine ev_seq ?_
              | ((fail_if_success (refine is_loop ?_)); (fail_if_success (refine is_rfun ?_)); refine ev_block ?_)
              | ((first | (refine ev_regionK walks_none ?_; simp (disch := omega) [hg, hk, hT, tt1, tcap, hc0, hs0, hn0, f0, f4, f5, f7]; (try (refine ⟨by first | decide | rfl, ?_⟩))) | (refine ev_skip ?_; simp (disch := omega) [hg, hk, hT, tt1, tcap, hc0, hs0, hn0, f0, f4, f5, f7])); (try (refine ev_keep [0, 4, 5, 7] ?_; intro F; simp only [KeepF]; intro k0 k4 k5 k7; simp (disch := omega) [hg, hk, hT, tt1, tcap, hc0, hs0, hn0, f0, f4, f5, f7] at k0 k4 k5 k7; clear f0 f4 f5 f7; have f0 := k0 ; have f4 := k4 ; have f5 := k5 ; have f7 := k7; clear k0 k4 k5 k7)))
              | (refine ev_cond _ (by simp (disch := omega) [hg, hk, hT, tt1, tcap, hc0, hs0, hn0, f0, f4, f5, f7]; rfl) (fun hc => ?_) (fun hc => ?_) <;> first | (exfalso; simp (disch := omega) [hg, hk, hT, tt1, tcap, hc0, hs0, hn0] at hc; done) | (exfalso; simp at hc; omega) | (simp at hc))
              | ((first | refine ev_ret ?_ | refine ev_exit ?_); simp (disch := omega) [hg, hk, hT, tt1, tcap, hc0, hs0, hn0, f0, f4, f5, f7]))
          · have hT := hT false
            have hq0 := far _ _ _ _ f7
            simp only [List.map_map, Function.comp_def] at hT
            have htk : List.take ps.length (ps.map fun p => spv (sepE p)) = ps.map fun p => spv (sepE p) := List.take_of_length_le (by simp)
            refine ev_keep [0, 4, 5, 7] ?_
            intro F
            simp only [KeepF]
            intro k0 k4 k5 k7
            try simp [h0, f0, f4, f5, f7] at k0 k4 k5 k7
            clear f0 f4 f5 f7
            have f0 := k0
            have f4 := k4
            have f5 := k5
            have f7 := k7
            clear k0 k4 k5 k7
            repeat' (first
              | refine ev_seq ?_
              | ((fail_if_success (refine is_loop ?_)); (fail_if_success (refine is_rfun ?_)); refine ev_block ?_)
              | ((first | (refine ev_regionK walks_none ?_; simp (disch := omega) [hg, hk, hT, tt1, tcap, hc0, hs0, hn0, hq, sp_bvE, htk, show ¬ (0 = q') by omega, f0, f4, f5, f7]; (try (refine ⟨by first | decide | rfl, ?_⟩))) | (refine ev_skip ?_; simp (disch := omega) [hg, hk, hT, tt1, tcap, hc0, hs0, hn0, hq, sp_bvE, htk, show ¬ (0 = q') by omega, f0, f4, f5, f7])); (try (refine ev_keep [0, 4, 5, 7] ?_; intro F; simp only [KeepF]; intro k0 k4 k5 k7; simp (disch := omega) [hg, hk, hT, tt1, tcap, hc0, hs0, hn0, hq, sp_bvE, htk, show ¬ (0 = q') by omega, f0, f4, f5, f7] at k0 k4 k5 k7; clear f0 f4 f5 f7; have f0 := k0 ; have f4 := k4 ; have f5 := k5 ; have f7 := k7; clear k0 k4 k5 k7)))
              | (refine ev_cond _ (by simp (disch := omega) [hg, hk, hT, tt1, tcap, hc0, hs0, hn0, hq, sp_bvE, htk, show ¬ (0 = q') by omega, f0, f4, f5, f7]; rfl) (fun hc => ?_) (fun hc => ?_) <;> first | (exfalso; simp (disch := omega) [hg, hk, hT, tt1, tcap, hc0, hs0, hn0, hq, sp_bvE, htk, show ¬ (0 = q') by omega] at hc; done) | (exfalso; simp at hc; omega) | (simp at hc))
              | ((first | refine ev_ret ?_ | refine ev_exit ?_); simp (disch := omega) [hg, hk, hT, tt1, tcap, hc0, hs0, hn0, hq, sp_bvE, htk, show ¬ (0 = q') by omega, f0, f4, f5, f7]))
end Go.Proofs.YtakpneafokmcpaaDoor
