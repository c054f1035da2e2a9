/- QStrC + QOpL + QRun + QAdL + QOff + QAny: printed by mergetpl.py -/
import Derived.Test.YtakobehkajphpaaQChk
import Derived.Lib.Strings
import Derived.Lib.Slices
import Derived.Lib.Walk
import Derived.Lib.Bytealg
import Derived.Test.YtakobehkajphpaaQOp
import Derived.Test.YtakobehkajphpaaQAdm
import Derived.Test.YtakobehkajphpaaQAdmit
import Derived.Test.YtakobehkajphpaaQSamp
import Derived.Test.YtakobehkajphpaaQRead
/- strings.Contains at a substring of one byte (after the shelf's contract), and logline.Check at an entry of time 1. -/
namespace Go.Proofs.Ytakobehkajphpaa.H
open Go Go.RowKit Go.Proofs.YtakobehkajphpaaW.PrintWords Go.Proofs.YtakobehkajphpaaW.PrintLast Go.Proofs.YtakobehkajphpaaW.PrintMore Go.Proofs.Ytakobehkajphpaa.PAll
set_option linter.unusedVariables false
set_option linter.unusedSimpArgs false

set_option maxHeartbeats 1000000 in
set_option maxRecDepth 100000 in
theorem slIB_calls (s : ByteArray) (c : Int) (w : World) :
    Calls Try.prog 102 #[.string s, .int .u8 c] w fun e w' => e = .returned (.int .i64 (Lib.indexByte s.data.toList c.toNat.toUInt8)) ∧ w = w' := by
  go_enter Try.func102, Try.ntmps102
  go_wp2
  rw [run_callFunc_extern Try.func109 (by kernel_rfl) (by kernel_rfl) (by kernel_rfl) (e := Extern.BytealgIndexByte.indexByte) (by kernel_rfl), Lib.run_indexByteString]
  simp only [Result.andThen]
  rw [Oper.upon_value]
  go_wp2
  go_ret
  exact ⟨rfl, rfl⟩
set_option maxHeartbeats 2000000 in
set_option maxRecDepth 100000 in
theorem slIndex_one (s : ByteArray) (c : UInt8) (w : World) :
    Calls Try.prog 96 #[.string s, .string ⟨#[c]⟩] w fun e w' => e = .returned (.int .i64 (Lib.indexByte s.data.toList c)) ∧ w = w' := by
  go_enter Try.func96, Try.ntmps96
  go_wp2_with (go_at_call 102; refine (slIB_calls _ _ _).mono ?_; rintro e w' ⟨rfl, rfl⟩)
  · have h : ([c] == s.toList) = true := by assumption
    go_ret
    refine ⟨?_, rfl⟩
    have e : s.data.toList = [c] := by rw [← Lib.toList_data]; exact (beq_iff_eq.1 h).symm
    rw [e]
    simp [Lib.indexByte]
  · go_ret
    exact ⟨rfl, rfl⟩
theorem SIndex_one (s : ByteArray) (c : UInt8) (w : World) :
    Calls Try.prog 81 #[.string s, .string ⟨#[c]⟩] w fun e w' => e = .returned (.int .i64 (Lib.indexByte s.data.toList c)) ∧ w = w' := by
  go_enter Try.func81, Try.ntmps81
  go_wp2_with (go_at_call 96; refine (slIndex_one _ _ _).mono ?_; rintro e w' ⟨rfl, rfl⟩)
  go_ret
  exact ⟨rfl, rfl⟩
theorem Contains_one (s : ByteArray) (c : UInt8) (w : World) :
    Calls Try.prog 60 #[.string s, .string ⟨#[c]⟩] w fun e w' => e = .returned (.bool (decide (0 ≤ Lib.indexByte s.data.toList c))) ∧ w = w' := by
  go_enter Try.func60, Try.ntmps60
  go_wp2_with (go_at_call 81; refine (SIndex_one _ _ _).mono ?_; rintro e w' ⟨rfl, rfl⟩)
  go_ret
  exact ⟨rfl, rfl⟩
set_option maxHeartbeats 2000000 in
set_option maxRecDepth 100000 in
theorem ECheck_log (w : World) : Calls Try.prog 41 #[.agg #[.int .i64 1, .slice none 0 0, .string ⟨#[]⟩, .slice none 0 0, .int .i64 0]] w fun e w' => e = .returned (.int .i64 0) ∧ Below w.heap.size w w' := by
  have hu0 := Try.underlying44
  have HX0 := Aside0.mk (heap_alloc_new w (.cells #[.int .i64 1, .slice none 0 0, .string ⟨#[]⟩, .slice none 0 0, .int .i64 0] 44))
  have HB0 := Aside0.mk (below_alloc (Below.refl _ w) (.cells #[.int .i64 1, .slice none 0 0, .string ⟨#[]⟩, .slice none 0 0, .int .i64 0] 44))
  have HLC := Aside0.mk (fun W => show Calls Try.prog 36 #[.slice none 0 0] W (fun e w' => e = .returned (.int .i64 0) ∧ Below W.heap.size W w') from LCheck_calls none 0 [] W (Kd.C_nil _ _) (Nat.le_refl _) (by simp) (fun x hx => by cases hx))
  have HCT := Aside0.mk (fun W => show Calls Try.prog 60 #[.string ⟨#[]⟩, .string ⟨#[10]⟩] W (fun e w' => e = .returned (.bool false) ∧ W = w') from Contains_one ⟨#[]⟩ 10 W)
  have x0 := (blk_cell HX0.out 0).trans rfl; have x1 := (blk_cell HX0.out 1).trans rfl; have x2 := (blk_cell HX0.out 2).trans rfl; have x3 := (blk_cell HX0.out 3).trans rfl; have x4 := (blk_cell HX0.out 4).trans rfl; simp only [List.getElem?_toArray, List.getElem?_cons_zero, List.getElem?_cons_succ] at x0 x1 x2 x3 x4
  go_enter Try.func41, Try.ntmps41
  go_wp2_with (first
    | (go_at_call 36; (with_reducible refine (HLC.out _).mono ?_); rintro e w1 ⟨rfl, hb⟩; have HBn := Aside0.mk (HB0.out.trans (hb.mono HB0.out.size)); have HXn := Aside0.mk ((hb.block w.heap.size (heap_lt HX0.out)).trans HX0.out); clear hb HB0 HX0 x0 x1 x2 x3 x4; have HB0 := HBn; have HX0 := HXn; clear HBn HXn; have x0 := (blk_cell HX0.out 0).trans rfl; have x1 := (blk_cell HX0.out 1).trans rfl; have x2 := (blk_cell HX0.out 2).trans rfl; have x3 := (blk_cell HX0.out 3).trans rfl; have x4 := (blk_cell HX0.out 4).trans rfl; simp only [List.getElem?_toArray, List.getElem?_cons_zero, List.getElem?_cons_succ] at x0 x1 x2 x3 x4)
    | (go_at_call 60; (with_reducible refine (HCT.out _).mono ?_); rintro e w1 ⟨rfl, rfl⟩))
  go_ret
  exact ⟨rfl, HB0.out⟩
end Go.Proofs.Ytakobehkajphpaa.H
/- head.CheckOp at a log entry of time 1. -/
namespace Go.Proofs.Ytakobehkajphpaa.H
open Go Go.RowKit Go.Proofs.YtakobehkajphpaaW.PrintWords Go.Proofs.YtakobehkajphpaaW.PrintLast Go.Proofs.YtakobehkajphpaaW.PrintMore Go.Proofs.Ytakobehkajphpaa.PAll
set_option linter.unusedVariables false
set_option linter.unusedSimpArgs false

set_option maxRecDepth 100000 in
set_option maxHeartbeats 16000000 in
theorem CheckOp_log (w : World) : Calls Try.prog 28 #[.agg #[.int .i64 4, .slice none 0 0, .int .i64 0, .int .i64 0, .int .i64 0, .int .i64 0, .int .i64 0, .int .i64 0, .int .i64 0, .int .i64 0, .int .i64 0, .slice none 0 0, .int .i64 1, .slice none 0 0, .string ⟨#[]⟩, .slice none 0 0, .int .i64 0, .int .i64 0, .int .i64 0, .int .i64 0, .string ⟨#[]⟩, .string ⟨#[]⟩, .int .i64 0, .int .i64 0, .int .i64 0, .slice none 0 0, .slice none 0 0, .int .i64 0, .slice none 0 0, .slice none 0 0, .slice none 0 0, .int .i64 0, .int .i64 0, .int .i64 0, .int .i64 0]] w fun e w' => e = .returned (.int .i64 0) ∧ Below w.heap.size w w' := by
  have hu0 := Try.underlying55
  have hu1 := Try.underlying44
  have HI := Aside0.mk (show (Try.prog.info? 55).map (·.size) = some 35 by kernel_rfl)
  have HONE := Aside0.mk (show (#[.int .i64 4, .slice none 0 0, .int .i64 0, .int .i64 0, .int .i64 0, .int .i64 0, .int .i64 0, .int .i64 0, .int .i64 0, .int .i64 0, .int .i64 0, .slice none 0 0, .int .i64 1, .slice none 0 0, .string ⟨#[]⟩, .slice none 0 0, .int .i64 0, .int .i64 0, .int .i64 0, .int .i64 0, .string ⟨#[]⟩, .string ⟨#[]⟩, .int .i64 0, .int .i64 0, .int .i64 0, .slice none 0 0, .slice none 0 0, .int .i64 0, .slice none 0 0, .slice none 0 0, .slice none 0 0, .int .i64 0, .int .i64 0, .int .i64 0, .int .i64 0] : Array Value).all (·.oneCell') = true by simp [Value.oneCell'])
  have HXA := Aside0.mk (heap_alloc_new w (.cells #[.int .i64 4, .slice none 0 0, .int .i64 0, .int .i64 0, .int .i64 0, .int .i64 0, .int .i64 0, .int .i64 0, .int .i64 0, .int .i64 0, .int .i64 0, .slice none 0 0, .int .i64 1, .slice none 0 0, .string ⟨#[]⟩, .slice none 0 0, .int .i64 0, .int .i64 0, .int .i64 0, .int .i64 0, .string ⟨#[]⟩, .string ⟨#[]⟩, .int .i64 0, .int .i64 0, .int .i64 0, .slice none 0 0, .slice none 0 0, .int .i64 0, .slice none 0 0, .slice none 0 0, .slice none 0 0, .int .i64 0, .int .i64 0, .int .i64 0, .int .i64 0] 55))
  have HXB := Aside0.mk (heap_alloc_keep (o := (.cells #[.int .i64 0, .slice none 0 0, .int .i64 0, .int .i64 0, .int .i64 0, .int .i64 0, .int .i64 0, .int .i64 0, .int .i64 0, .int .i64 0, .int .i64 0, .slice none 0 0, .int .i64 0, .slice none 0 0, .string ⟨#[]⟩, .slice none 0 0, .int .i64 0, .int .i64 0, .int .i64 0, .int .i64 0, .string ⟨#[]⟩, .string ⟨#[]⟩, .int .i64 0, .int .i64 0, .int .i64 0, .slice none 0 0, .slice none 0 0, .int .i64 0, .slice none 0 0, .slice none 0 0, .slice none 0 0, .int .i64 0, .int .i64 0, .int .i64 0, .int .i64 0] 55)) HXA.out)
  have HYB := Aside0.mk (heap_alloc_new (w.alloc (.cells #[.int .i64 4, .slice none 0 0, .int .i64 0, .int .i64 0, .int .i64 0, .int .i64 0, .int .i64 0, .int .i64 0, .int .i64 0, .int .i64 0, .int .i64 0, .slice none 0 0, .int .i64 1, .slice none 0 0, .string ⟨#[]⟩, .slice none 0 0, .int .i64 0, .int .i64 0, .int .i64 0, .int .i64 0, .string ⟨#[]⟩, .string ⟨#[]⟩, .int .i64 0, .int .i64 0, .int .i64 0, .slice none 0 0, .slice none 0 0, .int .i64 0, .slice none 0 0, .slice none 0 0, .slice none 0 0, .int .i64 0, .int .i64 0, .int .i64 0, .int .i64 0] 55)) (.cells #[.int .i64 0, .slice none 0 0, .int .i64 0, .int .i64 0, .int .i64 0, .int .i64 0, .int .i64 0, .int .i64 0, .int .i64 0, .int .i64 0, .int .i64 0, .slice none 0 0, .int .i64 0, .slice none 0 0, .string ⟨#[]⟩, .slice none 0 0, .int .i64 0, .int .i64 0, .int .i64 0, .int .i64 0, .string ⟨#[]⟩, .string ⟨#[]⟩, .int .i64 0, .int .i64 0, .int .i64 0, .slice none 0 0, .slice none 0 0, .int .i64 0, .slice none 0 0, .slice none 0 0, .slice none 0 0, .int .i64 0, .int .i64 0, .int .i64 0, .int .i64 0] 55))
  rw [World.size_alloc] at HYB
  have HBB := Aside0.mk (below_alloc (below_alloc (Below.refl _ w) (.cells #[.int .i64 4, .slice none 0 0, .int .i64 0, .int .i64 0, .int .i64 0, .int .i64 0, .int .i64 0, .int .i64 0, .int .i64 0, .int .i64 0, .int .i64 0, .slice none 0 0, .int .i64 1, .slice none 0 0, .string ⟨#[]⟩, .slice none 0 0, .int .i64 0, .int .i64 0, .int .i64 0, .int .i64 0, .string ⟨#[]⟩, .string ⟨#[]⟩, .int .i64 0, .int .i64 0, .int .i64 0, .slice none 0 0, .slice none 0 0, .int .i64 0, .slice none 0 0, .slice none 0 0, .slice none 0 0, .int .i64 0, .int .i64 0, .int .i64 0, .int .i64 0] 55)) (.cells #[.int .i64 0, .slice none 0 0, .int .i64 0, .int .i64 0, .int .i64 0, .int .i64 0, .int .i64 0, .int .i64 0, .int .i64 0, .int .i64 0, .int .i64 0, .slice none 0 0, .int .i64 0, .slice none 0 0, .string ⟨#[]⟩, .slice none 0 0, .int .i64 0, .int .i64 0, .int .i64 0, .int .i64 0, .string ⟨#[]⟩, .string ⟨#[]⟩, .int .i64 0, .int .i64 0, .int .i64 0, .slice none 0 0, .slice none 0 0, .int .i64 0, .slice none 0 0, .slice none 0 0, .slice none 0 0, .int .i64 0, .int .i64 0, .int .i64 0, .int .i64 0] 55))
  go_enter Try.func28, Try.ntmps28
  go_upto_region 34 with (first
    | (refine load_row' 55 (.tmp 1) w.heap.size 55 #[.int .i64 4, .slice none 0 0, .int .i64 0, .int .i64 0, .int .i64 0, .int .i64 0, .int .i64 0, .int .i64 0, .int .i64 0, .int .i64 0, .int .i64 0, .slice none 0 0, .int .i64 1, .slice none 0 0, .string ⟨#[]⟩, .slice none 0 0, .int .i64 0, .int .i64 0, .int .i64 0, .int .i64 0, .string ⟨#[]⟩, .string ⟨#[]⟩, .int .i64 0, .int .i64 0, .int .i64 0, .slice none 0 0, .slice none 0 0, .int .i64 0, .slice none 0 0, .slice none 0 0, .slice none 0 0, .int .i64 0, .int .i64 0, .int .i64 0, .int .i64 0] _ HXA.out hu0 rfl HI.out ?_ ?_ ?_ ?_; rfl; rfl; rfl)
    | (refine store_row' 55 (.tmp 3) (.tmp 5) (w.heap.size + 1) #[.int .i64 4, .slice none 0 0, .int .i64 0, .int .i64 0, .int .i64 0, .int .i64 0, .int .i64 0, .int .i64 0, .int .i64 0, .int .i64 0, .int .i64 0, .slice none 0 0, .int .i64 1, .slice none 0 0, .string ⟨#[]⟩, .slice none 0 0, .int .i64 0, .int .i64 0, .int .i64 0, .int .i64 0, .string ⟨#[]⟩, .string ⟨#[]⟩, .int .i64 0, .int .i64 0, .int .i64 0, .slice none 0 0, .slice none 0 0, .int .i64 0, .slice none 0 0, .slice none 0 0, .slice none 0 0, .int .i64 0, .int .i64 0, .int .i64 0, .int .i64 0] 55 #[.int .i64 0, .slice none 0 0, .int .i64 0, .int .i64 0, .int .i64 0, .int .i64 0, .int .i64 0, .int .i64 0, .int .i64 0, .int .i64 0, .int .i64 0, .slice none 0 0, .int .i64 0, .slice none 0 0, .string ⟨#[]⟩, .slice none 0 0, .int .i64 0, .int .i64 0, .int .i64 0, .int .i64 0, .string ⟨#[]⟩, .string ⟨#[]⟩, .int .i64 0, .int .i64 0, .int .i64 0, .slice none 0 0, .slice none 0 0, .int .i64 0, .slice none 0 0, .slice none 0 0, .slice none 0 0, .int .i64 0, .int .i64 0, .int .i64 0, .int .i64 0] HYB.out HI.out rfl HONE.out ?_ ?_ ?_ ?_ ?_ ?_; rfl; rfl; rfl; rfl; rfl; have HY0 := Aside0.mk (setRow_heap ((w.alloc (.cells #[.int .i64 4, .slice none 0 0, .int .i64 0, .int .i64 0, .int .i64 0, .int .i64 0, .int .i64 0, .int .i64 0, .int .i64 0, .int .i64 0, .int .i64 0, .slice none 0 0, .int .i64 1, .slice none 0 0, .string ⟨#[]⟩, .slice none 0 0, .int .i64 0, .int .i64 0, .int .i64 0, .int .i64 0, .string ⟨#[]⟩, .string ⟨#[]⟩, .int .i64 0, .int .i64 0, .int .i64 0, .slice none 0 0, .slice none 0 0, .int .i64 0, .slice none 0 0, .slice none 0 0, .slice none 0 0, .int .i64 0, .int .i64 0, .int .i64 0, .int .i64 0] 55)).alloc (.cells #[.int .i64 0, .slice none 0 0, .int .i64 0, .int .i64 0, .int .i64 0, .int .i64 0, .int .i64 0, .int .i64 0, .int .i64 0, .int .i64 0, .int .i64 0, .slice none 0 0, .int .i64 0, .slice none 0 0, .string ⟨#[]⟩, .slice none 0 0, .int .i64 0, .int .i64 0, .int .i64 0, .int .i64 0, .string ⟨#[]⟩, .string ⟨#[]⟩, .int .i64 0, .int .i64 0, .int .i64 0, .slice none 0 0, .slice none 0 0, .int .i64 0, .slice none 0 0, .slice none 0 0, .slice none 0 0, .int .i64 0, .int .i64 0, .int .i64 0, .int .i64 0] 55)) (w.heap.size + 1) _ #[.int .i64 4, .slice none 0 0, .int .i64 0, .int .i64 0, .int .i64 0, .int .i64 0, .int .i64 0, .int .i64 0, .int .i64 0, .int .i64 0, .int .i64 0, .slice none 0 0, .int .i64 1, .slice none 0 0, .string ⟨#[]⟩, .slice none 0 0, .int .i64 0, .int .i64 0, .int .i64 0, .int .i64 0, .string ⟨#[]⟩, .string ⟨#[]⟩, .int .i64 0, .int .i64 0, .int .i64 0, .slice none 0 0, .slice none 0 0, .int .i64 0, .slice none 0 0, .slice none 0 0, .slice none 0 0, .int .i64 0, .int .i64 0, .int .i64 0, .int .i64 0] 55 _ HYB.out); have HX0 := Aside0.mk ((setRow_other ((w.alloc (.cells #[.int .i64 4, .slice none 0 0, .int .i64 0, .int .i64 0, .int .i64 0, .int .i64 0, .int .i64 0, .int .i64 0, .int .i64 0, .int .i64 0, .int .i64 0, .slice none 0 0, .int .i64 1, .slice none 0 0, .string ⟨#[]⟩, .slice none 0 0, .int .i64 0, .int .i64 0, .int .i64 0, .int .i64 0, .string ⟨#[]⟩, .string ⟨#[]⟩, .int .i64 0, .int .i64 0, .int .i64 0, .slice none 0 0, .slice none 0 0, .int .i64 0, .slice none 0 0, .slice none 0 0, .slice none 0 0, .int .i64 0, .int .i64 0, .int .i64 0, .int .i64 0] 55)).alloc (.cells #[.int .i64 0, .slice none 0 0, .int .i64 0, .int .i64 0, .int .i64 0, .int .i64 0, .int .i64 0, .int .i64 0, .int .i64 0, .int .i64 0, .int .i64 0, .slice none 0 0, .int .i64 0, .slice none 0 0, .string ⟨#[]⟩, .slice none 0 0, .int .i64 0, .int .i64 0, .int .i64 0, .int .i64 0, .string ⟨#[]⟩, .string ⟨#[]⟩, .int .i64 0, .int .i64 0, .int .i64 0, .slice none 0 0, .slice none 0 0, .int .i64 0, .slice none 0 0, .slice none 0 0, .slice none 0 0, .int .i64 0, .int .i64 0, .int .i64 0, .int .i64 0] 55)) (w.heap.size + 1) w.heap.size #[.int .i64 4, .slice none 0 0, .int .i64 0, .int .i64 0, .int .i64 0, .int .i64 0, .int .i64 0, .int .i64 0, .int .i64 0, .int .i64 0, .int .i64 0, .slice none 0 0, .int .i64 1, .slice none 0 0, .string ⟨#[]⟩, .slice none 0 0, .int .i64 0, .int .i64 0, .int .i64 0, .int .i64 0, .string ⟨#[]⟩, .string ⟨#[]⟩, .int .i64 0, .int .i64 0, .int .i64 0, .slice none 0 0, .slice none 0 0, .int .i64 0, .slice none 0 0, .slice none 0 0, .slice none 0 0, .int .i64 0, .int .i64 0, .int .i64 0, .int .i64 0] (by omega)).trans HXB.out); have HB0 := Aside0.mk (below_setRow HBB.out (Nat.le_succ _) #[.int .i64 4, .slice none 0 0, .int .i64 0, .int .i64 0, .int .i64 0, .int .i64 0, .int .i64 0, .int .i64 0, .int .i64 0, .int .i64 0, .int .i64 0, .slice none 0 0, .int .i64 1, .slice none 0 0, .string ⟨#[]⟩, .slice none 0 0, .int .i64 0, .int .i64 0, .int .i64 0, .int .i64 0, .string ⟨#[]⟩, .string ⟨#[]⟩, .int .i64 0, .int .i64 0, .int .i64 0, .slice none 0 0, .slice none 0 0, .int .i64 0, .slice none 0 0, .slice none 0 0, .slice none 0 0, .int .i64 0, .int .i64 0, .int .i64 0, .int .i64 0]); generalize ((w.alloc (.cells #[.int .i64 4, .slice none 0 0, .int .i64 0, .int .i64 0, .int .i64 0, .int .i64 0, .int .i64 0, .int .i64 0, .int .i64 0, .int .i64 0, .int .i64 0, .slice none 0 0, .int .i64 1, .slice none 0 0, .string ⟨#[]⟩, .slice none 0 0, .int .i64 0, .int .i64 0, .int .i64 0, .int .i64 0, .string ⟨#[]⟩, .string ⟨#[]⟩, .int .i64 0, .int .i64 0, .int .i64 0, .slice none 0 0, .slice none 0 0, .int .i64 0, .slice none 0 0, .slice none 0 0, .slice none 0 0, .int .i64 0, .int .i64 0, .int .i64 0, .int .i64 0] 55)).alloc (.cells #[.int .i64 0, .slice none 0 0, .int .i64 0, .int .i64 0, .int .i64 0, .int .i64 0, .int .i64 0, .int .i64 0, .int .i64 0, .int .i64 0, .int .i64 0, .slice none 0 0, .int .i64 0, .slice none 0 0, .string ⟨#[]⟩, .slice none 0 0, .int .i64 0, .int .i64 0, .int .i64 0, .int .i64 0, .string ⟨#[]⟩, .string ⟨#[]⟩, .int .i64 0, .int .i64 0, .int .i64 0, .slice none 0 0, .slice none 0 0, .int .i64 0, .slice none 0 0, .slice none 0 0, .slice none 0 0, .int .i64 0, .int .i64 0, .int .i64 0, .int .i64 0] 55)).setRow (w.heap.size + 1) #[.int .i64 4, .slice none 0 0, .int .i64 0, .int .i64 0, .int .i64 0, .int .i64 0, .int .i64 0, .int .i64 0, .int .i64 0, .int .i64 0, .int .i64 0, .slice none 0 0, .int .i64 1, .slice none 0 0, .string ⟨#[]⟩, .slice none 0 0, .int .i64 0, .int .i64 0, .int .i64 0, .int .i64 0, .string ⟨#[]⟩, .string ⟨#[]⟩, .int .i64 0, .int .i64 0, .int .i64 0, .slice none 0 0, .slice none 0 0, .int .i64 0, .slice none 0 0, .slice none 0 0, .slice none 0 0, .int .i64 0, .int .i64 0, .int .i64 0, .int .i64 0] = W2 at *; obtain ⟨x0, _, _, _, _, _, _, _, _, _, _, _, x12, x13, x14, x15, x16, _, _, _, _, _, _, _, _, _, _, _, _, _, _, _, _, _, _⟩ := cells35 HX0.out; have y0 := (blk_cell HY0.out 0).trans rfl; simp only [List.getElem?_toArray, List.getElem?_cons_zero, List.getElem?_cons_succ] at y0; have fz0 := blk_frozen HY0.out 0)
    | (go_at_call 41; (with_reducible refine (ECheck_log _).mono ?_); rintro e w1 ⟨rfl, hb⟩; have hs0 := blk_set HY0.out 0 (.int .i64 0); simp only [List.setIfInBounds_toArray, List.set_cons_succ, List.set_cons_zero] at hs0; have hsx := blk_far HX0.out (p := ⟨w.heap.size + 1, 0, none⟩) (show w.heap.size ≠ w.heap.size + 1 by omega) (.int .i64 0); have HBn := Aside0.mk ((HB0.out.setCell (p := ⟨w.heap.size + 1, 0, none⟩) (Nat.le_succ _) (.int .i64 0)).trans (hb.mono (by have := HB0.out.size; simpa using this))); have HXn := Aside0.mk ((hb.block w.heap.size (heap_lt hsx)).trans hsx); have HYn := Aside0.mk ((hb.block (w.heap.size + 1) (heap_lt hs0)).trans hs0); clear hb HB0 HX0 HY0 hs0 hsx; have HB0 := HBn; have HX0 := HXn; have HY0 := HYn; clear HBn HXn HYn; clear x0 x12 x13 x14 x15 x16 y0 fz0; obtain ⟨_, _, _, _, _, _, _, _, _, _, _, _, y12, y13, y14, y15, y16, _, _, _, _, _, _, _, _, _, _, _, _, _, _, _, _, _, _⟩ := cells35 HY0.out; have fz := blk_frozen HY0.out; have fz12 := fz 12; have fz13 := fz 13; have fz14 := fz 14; have fz15 := fz 15; have fz16 := fz 16; clear fz))
  have hs4 := (blk_set (blk_set (blk_set (blk_set (blk_set HY0.out 12 (.int .i64 0)) 13 (.slice none 0 0)) 14 (.string ⟨#[]⟩)) 15 (.slice none 0 0)) 16 (.int .i64 0))
  simp only [List.setIfInBounds_toArray, List.set_cons_succ, List.set_cons_zero] at hs4
  have HY3 := Aside0.mk hs4
  have HB3 := Aside0.mk (((((HB0.out.setCell (p := ⟨w.heap.size + 1, 12, none⟩) (Nat.le_succ _) (.int .i64 0)).setCell (p := ⟨w.heap.size + 1, 13, none⟩) (Nat.le_succ _) (.slice none 0 0)).setCell (p := ⟨w.heap.size + 1, 14, none⟩) (Nat.le_succ _) (.string ⟨#[]⟩)).setCell (p := ⟨w.heap.size + 1, 15, none⟩) (Nat.le_succ _) (.slice none 0 0)).setCell (p := ⟨w.heap.size + 1, 16, none⟩) (Nat.le_succ _) (.int .i64 0))
  clear hs4 HY0 HX0 HB0
  clear y12 y13 y14 y15 y16 fz12 fz13 fz14 fz15 fz16
  generalize (((((w1.setCell ⟨w.heap.size + 1, 12, none⟩ (.int .i64 0)).setCell ⟨w.heap.size + 1, 13, none⟩ (.slice none 0 0)).setCell ⟨w.heap.size + 1, 14, none⟩ (.string ⟨#[]⟩)).setCell ⟨w.heap.size + 1, 15, none⟩ (.slice none 0 0)).setCell ⟨w.heap.size + 1, 16, none⟩ (.int .i64 0)) = W3 at *
  go_wp2_with (first
    | (refine gate_guard (by rfl) ?_; dsimp only; refine load_row' 55 (.tmp 3) (w.heap.size + 1) 55 #[.int .i64 0, .slice none 0 0, .int .i64 0, .int .i64 0, .int .i64 0, .int .i64 0, .int .i64 0, .int .i64 0, .int .i64 0, .int .i64 0, .int .i64 0, .slice none 0 0, .int .i64 0, .slice none 0 0, .string ⟨#[]⟩, .slice none 0 0, .int .i64 0, .int .i64 0, .int .i64 0, .int .i64 0, .string ⟨#[]⟩, .string ⟨#[]⟩, .int .i64 0, .int .i64 0, .int .i64 0, .slice none 0 0, .slice none 0 0, .int .i64 0, .slice none 0 0, .slice none 0 0, .slice none 0 0, .int .i64 0, .int .i64 0, .int .i64 0, .int .i64 0] _ HY3.out hu0 rfl HI.out ?_ ?_ ?_ ?_; rfl; rfl; rfl)
    | (go_at_call 45; (with_reducible refine (empty_zero _).mono ?_); rintro e w9 ⟨rfl, hb⟩; have HB9 := Aside0.mk (HB3.out.trans (hb.mono HB3.out.size)); clear hb))
  go_ret
  exact ⟨rfl, HB9.out⟩
end Go.Proofs.Ytakobehkajphpaa.H
/- What becomes of a tenant over many offers: plain laws. -/
namespace Go.Proofs.Ytakobehkajphpaa.H
open Go Go.RowKit Go.Proofs.YtakobehkajphpaaW.PrintWords Go.Proofs.YtakobehkajphpaaW.PrintLast Go.Proofs.YtakobehkajphpaaW.PrintMore Go.Proofs.Ytakobehkajphpaa.PAll
set_option linter.unusedVariables false
set_option linter.unusedSimpArgs false

theorem adm_none {t : TV} (h : ¬ t.level < 1000) : admT t none = ({ t with level := t.level - 1000, acc := cntI t.acc }, 0) := if_neg h
theorem cnt_b {n : Int} (h0 : 0 ≤ n) (h1 : n ≤ 1152921504606846976) : 0 ≤ cntI n ∧ cntI n ≤ 1152921504606846976 := by unfold cntI; split <;> omega
theorem cnt_lt {n : Int} (h : n + 1 ≤ 1152921504606846976) : cntI n = n + 1 := if_pos h
/-- The four ways of an operation. -/
theorem adm_cases (t : TV) (o : Option L72) :
    (t.level < 1000 ∧ admT t o = ({ t with rr := cntI t.rr }, 22)) ∨
    (¬ t.level < 1000 ∧ (∀ l, o = some l → hasS t.ser l = true) ∧ admT t o = ({ t with level := t.level - 1000, acc := cntI t.acc }, 0)) ∨
    (∃ l, o = some l ∧ ¬ t.level < 1000 ∧ ¬ hasS t.ser l = true ∧ (t.ser.length : Int) = t.mx ∧ admT t o = ({ t with rs := cntI t.rs }, 22)) ∨
    (∃ l, o = some l ∧ ¬ t.level < 1000 ∧ ¬ hasS t.ser l = true ∧ ¬ (t.ser.length : Int) = t.mx ∧ admT t o = ({ t with ser := insS t.ser (plcS t.ser l) l, level := t.level - 1000, acc := cntI t.acc }, 0)) := by
  by_cases h : t.level < 1000
  · exact .inl ⟨h, adm_rate h⟩
  · rcases o with _ | l
    · exact .inr (.inl ⟨h, (fun l hl => by cases hl), adm_none h⟩)
    · by_cases h1 : hasS t.ser l = true
      · exact .inr (.inl ⟨h, (fun l' hl => by cases hl; exact h1), adm_has h h1⟩)
      · by_cases h2 : (t.ser.length : Int) = t.mx
        · exact .inr (.inr (.inl ⟨l, rfl, h, h1, h2, adm_full h h1 h2⟩))
        · exact .inr (.inr (.inr ⟨l, rfl, h, h1, h2, adm_new h h1 h2⟩))
theorem adm_val {t : TV} (h : ValT t) {o : Option L72} (ho : ∀ l, o = some l → chk l = 0) : ValT (admT t o).1 := by
  have ca := cnt_b h.a0 h.a1
  have cr := cnt_b h.rr0 h.rr1
  have cs := cnt_b h.rs0 h.rs1
  rcases adm_cases t o with ⟨h1, e⟩ | ⟨h1, h2, e⟩ | ⟨l, h0, h1, h2, h3, e⟩ | ⟨l, h0, h1, h2, h3, e⟩
  all_goals rw [e]
  · exact { h with rr0 := cr.1, rr1 := cr.2 }
  · exact { h with l0 := (by show 0 ≤ t.level - 1000; omega), l1 := (by show t.level - 1000 ≤ 1000 * t.burst; have := h.l1; omega), a0 := ca.1, a1 := ca.2 }
  · exact { h with rs0 := cs.1, rs1 := cs.2 }
  · obtain ⟨hs1, hs2⟩ := (serL_iff _).1 h.ser
    refine { h with l0 := (by show 0 ≤ t.level - 1000; omega), l1 := (by show t.level - 1000 ≤ 1000 * t.burst; have := h.l1; omega), a0 := ca.1, a1 := ca.2, len := ?_, ser := ?_ }
    · show ((insS t.ser (plcS t.ser l) l).length : Int) ≤ t.mx
      rw [insS_len]; have := h.len; omega
    · refine (serL_iff _).2 ⟨fun x hx => ?_, insS_srt hs2 (fun hm => h2 ((hasS_iff hs2 l).2 hm))⟩
      rcases insS_mem.1 hx with hx | hx
      · exact hs1 x hx
      · rw [hx]; exact ho l h0
theorem adm_small {t : TV} (h : ValT t) (hS : SmallT t) {o : Option L72} (ho : ∀ l, o = some l → l.length ≤ 1000 ∧ Sz 1000 l) : SmallT (admT t o).1 := by
  rcases adm_cases t o with ⟨h1, e⟩ | ⟨h1, h2, e⟩ | ⟨l, h0, h1, h2, h3, e⟩ | ⟨l, h0, h1, h2, h3, e⟩
  all_goals rw [e]
  · exact ⟨hS.nm, hS.len, hS.ser⟩
  · exact ⟨hS.nm, hS.len, hS.ser⟩
  · exact ⟨hS.nm, hS.len, hS.ser⟩
  · refine ⟨hS.nm, ?_, fun x hx => ?_⟩
    · show (insS t.ser (plcS t.ser l) l).length ≤ 1000
      rw [insS_len]; have := h.len; have := h.m1; omega
    · rcases insS_mem.1 hx with hx | hx
      · exact hS.ser x hx
      · rw [hx]; exact ho l h0
theorem adm_code (t : TV) (o : Option L72) : (admT t o).2 = 0 ∨ (admT t o).2 = 22 := by
  rcases adm_cases t o with ⟨h1, e⟩ | ⟨h1, h2, e⟩ | ⟨l, h0, h1, h2, h3, e⟩ | ⟨l, h0, h1, h2, h3, e⟩
  all_goals rw [e]
  · exact .inr rfl
  · exact .inl rfl
  · exact .inr rfl
  · exact .inl rfl
def capI (B x : Int) : Int := if x ≤ 1000 * B then x else 1000 * B
theorem fill_level {t : TV} {now : Int} : (fillT t now).level = capI t.burst (t.level + t.rate * (now - t.clock)) := rfl
theorem pow_b {R a : Int} (h0 : 0 ≤ R) (h1 : R ≤ 255) (h2 : 0 ≤ a) (h3 : a ≤ 65535) : 0 ≤ R * a ∧ R * a ≤ 255 * 65535 := ⟨Int.mul_nonneg h0 h2, Int.mul_le_mul h1 h3 h2 (by omega)⟩

/-- What both sides of QuotaBest keep. -/
structure InvB (R B : Int) (n : Nat) (t : TV) (now level sel : Int) : Prop where
  val : ValT t
  small : SmallT t
  rate : t.rate = R
  burst : t.burst = B
  clk : t.clock = now
  r0 : 0 ≤ R
  r1 : R ≤ 255
  n1 : now ≤ 1 + 65535 * n
  acc : t.acc ≤ n
  s0 : 0 ≤ sel
  s1 : sel ≤ t.acc
  l0 : 0 ≤ level
  l1 : level ≤ 1000 * B
  l2 : level ≤ t.level + 1000 * (t.acc - sel)
/-- A selection's level and number behind an offer. -/
def picB (p : Bool) (L : Int) : Bool := p && decide (1000 ≤ L)
theorem InvB.step {R B : Int} {n : Nat} {t : TV} {now level sel : Int} (h : InvB R B n t now level sel) (hn : n < 30) {a : Int} (a0 : 0 ≤ a) (a1 : a ≤ 65535) (p : Bool) :
    InvB R B (n + 1) (admT (fillT t (now + a)) none).1 (now + a) (if picB p (capI B (level + R * a)) = true then capI B (level + R * a) - 1000 else capI B (level + R * a)) (if picB p (capI B (level + R * a)) = true then sel + 1 else sel) := by
  have hv := h.val
  have hp := pow_b h.r0 h.r1 a0 a1
  have hc := h.clk
  have hr := h.rate
  have hb := h.burst
  have n1 := h.n1
  have hc0 := hv.c0
  have e0 : (fillT t (now + a)).level = capI B (t.level + R * a) := by rw [fill_level, hb, hr, hc]; congr 2; rw [show now + a - now = a by omega]
  have hF : ValT (fillT t (now + a)) := fill_val hv (by omega) (by omega)
  have hA := adm_val hF (o := none) (fun l hl => by cases hl)
  have hS := adm_small hF (fill_small h.small (now + a)) (o := none) (fun l hl => by cases hl)
  have hac := h.acc
  have hcn : cntI t.acc = t.acc + 1 := cnt_lt (by omega)
  have s0 := h.s0
  have s1 := h.s1
  have l0 := h.l0
  have l1 := h.l1
  have l2 := h.l2
  have hl0 := hv.l0
  have hl1 := hv.l1
  have hB1 := hv.b0
  rw [hb] at hl1 hB1
  generalize hP : R * a = P at *
  have key : ∀ t' : TV, t'.rate = t.rate → t'.burst = t.burst → t'.clock = now + a → ValT t' → SmallT t' → ((t'.acc = t.acc + 1 ∧ t'.level = capI B (t.level + P) - 1000) ∨ (t'.acc = t.acc ∧ t'.level = capI B (t.level + P) ∧ capI B (t.level + P) < 1000)) →
      InvB R B (n + 1) t' (now + a) (if picB p (capI B (level + P)) = true then capI B (level + P) - 1000 else capI B (level + P)) (if picB p (capI B (level + P)) = true then sel + 1 else sel) := by
    intro t' g1 g2 g3 g4 g5 g6
    have g7 := g4.l0
    have hcap : ∀ x, capI B x = x ∧ x ≤ 1000 * B ∨ capI B x = 1000 * B ∧ 1000 * B < x := fun x => by
      unfold capI; by_cases hx : x ≤ 1000 * B
      · exact .inl ⟨if_pos hx, hx⟩
      · exact .inr ⟨if_neg hx, by omega⟩
    have c1 := hcap (level + P)
    have c2 := hcap (t.level + P)
    by_cases hpk : picB p (capI B (level + P)) = true
    · have hge : 1000 ≤ capI B (level + P) := by
        unfold picB at hpk; simp at hpk; exact hpk.2
      rw [if_pos hpk, if_pos hpk]
      refine ⟨g4, g5, by rw [g1, hr], by rw [g2, hb], g3, h.r0, h.r1, by push_cast; omega, ?_, ?_, ?_, ?_, ?_, ?_⟩
      all_goals (push_cast; omega)
    · rw [if_neg hpk, if_neg hpk]
      refine ⟨g4, g5, by rw [g1, hr], by rw [g2, hb], g3, h.r0, h.r1, by push_cast; omega, ?_, ?_, ?_, ?_, ?_, ?_⟩
      all_goals (push_cast; omega)
  rcases adm_cases (fillT t (now + a)) none with ⟨h1, e⟩ | ⟨h1, h2, e⟩ | ⟨l, h0, h1, h2, h3, e⟩ | ⟨l, h0, h1, h2, h3, e⟩
  · rw [e] at hA hS ⊢
    rw [e0] at h1
    exact key _ rfl rfl rfl hA hS (.inr ⟨rfl, e0, h1⟩)
  · rw [e] at hA hS ⊢
    exact key _ rfl rfl rfl hA hS (.inl ⟨hcn, by show (fillT t (now + a)).level - 1000 = _; rw [e0]⟩)
  · cases h0
  · cases h0
theorem InvB.start {B R : Int} (t : TV) (hv : ValT t) (hS : SmallT t) (hr : t.rate = R) (hb : t.burst = B) (hc : t.clock = 1) (hl : t.level = 1000 * B) (ha : t.acc = 0) (h0 : 0 ≤ R) (h1 : R ≤ 255) : InvB R B 0 t 1 (1000 * B) 0 :=
  ⟨hv, hS, hr, hb, hc, h0, h1, by omega, by omega, by omega, by omega, by have := hv.b0; omega, by omega, by omega⟩

/-- What the accepted operations of QuotaRate keep. -/
structure InvR (R B : Int) (n : Nat) (t : TV) (now : Int) (ts : List Int) : Prop where
  val : ValT t
  small : SmallT t
  rate : t.rate = R
  burst : t.burst = B
  clk : t.clock = now
  mx : t.mx = 8
  r0 : 0 ≤ R
  r1 : R ≤ 255
  n1 : now ≤ 1 + 65535 * n
  len : (ts.length : Int) = t.acc
  le : ts.length ≤ n
  up : ∀ i (h : i < ts.length), 1 ≤ ts[i] ∧ ts[i] ≤ now
  lev : ∀ i (h : i < ts.length), t.level + 1000 * ((ts.length : Int) - i) ≤ 1000 * B + R * (now - ts[i])
  all : ∀ i k (h : i ≤ k) (hk : k < ts.length), ts[i] ≤ ts[k] ∧ (k : Int) - i + 1 ≤ B + R * (ts[k] - ts[i]) / 1000
theorem InvR.step {R B : Int} {n : Nat} {t : TV} {now : Int} {ts : List Int} (h : InvR R B n t now ts) (hn : n < 30) {a : Int} (a0 : 0 ≤ a) (a1 : a ≤ 65535) (o : Option L72) (ho : ∀ l, o = some l → chk l = 0) (ho' : ∀ l, o = some l → l.length ≤ 1000 ∧ Sz 1000 l) :
    InvR R B (n + 1) (admT (fillT t (now + a)) o).1 (now + a) (if (admT (fillT t (now + a)) o).2 = 0 then ts ++ [now + a] else ts) := by
  have hv := h.val
  have hp := pow_b h.r0 h.r1 a0 a1
  have hc := h.clk
  have hr := h.rate
  have hb := h.burst
  have n1 := h.n1
  have hc0 := hv.c0
  have e0 : (fillT t (now + a)).level = capI B (t.level + R * a) := by rw [fill_level, hb, hr, hc]; congr 2; rw [show now + a - now = a by omega]
  have hF : ValT (fillT t (now + a)) := fill_val hv (by omega) (by omega)
  have hA := adm_val hF ho
  have hS := adm_small hF (fill_small h.small (now + a)) ho'
  have hle := h.le
  have hlen := h.len
  have hcn : cntI t.acc = t.acc + 1 := cnt_lt (by omega)
  have hcap : ∀ x, capI B x ≤ x ∧ capI B x ≤ 1000 * B := fun x => by
    unfold capI; split <;> omega
  have c2 := hcap (t.level + R * a)
  have lev' : ∀ i (h : i < ts.length), capI B (t.level + R * a) + 1000 * ((ts.length : Int) - i) ≤ 1000 * B + R * (now + a - ts[i]) := fun i hi => by
    have := h.lev i hi
    have e : R * (now + a - ts[i]) = R * (now - ts[i]) + R * a := by rw [← Int.mul_add]; congr 1; omega
    omega
  have up' : ∀ i (h : i < ts.length), 1 ≤ ts[i] ∧ ts[i] ≤ now + a := fun i hi => by have := h.up i hi; omega
  have refused : ∀ t' : TV, t'.rate = t.rate → t'.burst = t.burst → t'.clock = now + a → t'.mx = t.mx → ValT t' → SmallT t' → t'.acc = t.acc → t'.level = capI B (t.level + R * a) → InvR R B (n + 1) t' (now + a) ts := by
    intro t' g1 g2 g3 gm g4 g5 g6 g7
    exact ⟨g4, g5, by rw [g1, hr], by rw [g2, hb], g3, by rw [gm, h.mx], h.r0, h.r1, by push_cast; omega, by rw [g6]; exact hlen, by omega, up', fun i hi => by rw [g7]; exact lev' i hi, h.all⟩
  have accepted : ∀ t' : TV, t'.rate = t.rate → t'.burst = t.burst → t'.clock = now + a → t'.mx = t.mx → ValT t' → SmallT t' → t'.acc = t.acc + 1 → t'.level = capI B (t.level + R * a) - 1000 → InvR R B (n + 1) t' (now + a) (ts ++ [now + a]) := by
    intro t' g1 g2 g3 gm g4 g5 g6 g7
    have g8 := g4.l0
    refine ⟨g4, g5, by rw [g1, hr], by rw [g2, hb], g3, by rw [gm, h.mx], h.r0, h.r1, by push_cast; omega, by rw [g6, ← hlen]; simp, by simp; omega, fun i hi => ?_, fun i hi => ?_, fun i k hik hk => ?_⟩
    · rw [List.getElem_append]; split
      · exact up' i (by assumption)
      · simp; omega
    · rw [List.getElem_append]; split
      · rename_i h1
        have := lev' i h1
        simp only [List.length_append, List.length_singleton]; rw [g7]; push_cast; omega
      · simp only [List.length_append, List.length_singleton, List.getElem_singleton] at hi ⊢
        rw [g7, show now + a - (now + a) = 0 by omega, Int.mul_zero]; push_cast; omega
    · simp only [List.length_append, List.length_singleton] at hk
      by_cases hk1 : k < ts.length
      · rw [List.getElem_append_left hk1, List.getElem_append_left (by omega)]; exact h.all i k hik hk1
      · have hke : k = ts.length := by omega
        subst hke
        rw [show (ts ++ [now + a])[ts.length]'(by simp) = now + a by simp]
        by_cases hi1 : i < ts.length
        · rw [List.getElem_append_left hi1]
          have h1 := lev' i hi1
          have h2 := up' i hi1
          generalize R * (now + a - ts[i]) = X at *
          exact ⟨h2.2, by omega⟩
        · have hie : i = ts.length := by omega
          subst hie
          rw [show (ts ++ [now + a])[ts.length]'(by simp) = now + a by simp, show now + a - (now + a) = 0 by omega, Int.mul_zero]
          have := hv.b0
          rw [hb] at this
          exact ⟨Int.le_refl _, by omega⟩
  rcases adm_cases (fillT t (now + a)) o with ⟨h1, e⟩ | ⟨h1, h2, e⟩ | ⟨l, h0, h1, h2, h3, e⟩ | ⟨l, h0, h1, h2, h3, e⟩
  all_goals rw [e] at hA hS ⊢
  · rw [if_neg (show ¬ (22 : Int) = 0 by omega)]; exact refused _ rfl rfl rfl rfl hA hS rfl e0
  · rw [if_pos rfl]; exact accepted _ rfl rfl rfl rfl hA hS hcn (by show (fillT t (now + a)).level - 1000 = _; rw [e0])
  · rw [if_neg (show ¬ (22 : Int) = 0 by omega)]; exact refused _ rfl rfl rfl rfl hA hS rfl e0
  · rw [if_pos rfl]; exact accepted _ rfl rfl rfl rfl hA hS hcn (by show (fillT t (now + a)).level - 1000 = _; rw [e0])
end Go.Proofs.Ytakobehkajphpaa.H
/- quota.admit and quota.Admit at a log entry of time 1. -/
namespace Go.Proofs.Ytakobehkajphpaa.H
open Go Go.RowKit Go.Proofs.YtakobehkajphpaaW.PrintWords Go.Proofs.YtakobehkajphpaaW.PrintLast Go.Proofs.YtakobehkajphpaaW.PrintMore Go.Proofs.Ytakobehkajphpaa.PAll
attribute [local go_sem] max2_int min2_int max_two min_two
set_option linter.unusedVariables false
set_option linter.unusedSimpArgs false

set_option maxRecDepth 100000 in
set_option maxHeartbeats 16000000 in
theorem Qadmit_log (t0 t : TV) (now : Int) (hv : ValT t) (hS : SmallT t) (A : Option Addr) (c : Nat) (w : World)
    (hfl : ∀ W, Calls Try.prog 30 #[tv t0 (.slice A t.ser.length c), .int .i64 now] W fun e w' => e = .returned (tv t (.slice A t.ser.length c)) ∧ Below W.heap.size W w')
    (ok : Nat → Prop) (hr : Kd.F kLL w ok A t.ser.length t.ser) (hc : t.ser.length ≤ c) :
    Calls Try.prog 29 #[.func (.func 30) #[tv t0 (.slice A t.ser.length c)] #[], .agg #[.int .i64 4, .slice none 0 0, .int .i64 0, .int .i64 0, .int .i64 0, .int .i64 0, .int .i64 0, .int .i64 0, .int .i64 0, .int .i64 0, .int .i64 0, .slice none 0 0, .int .i64 1, .slice none 0 0, .string ⟨#[]⟩, .slice none 0 0, .int .i64 0, .int .i64 0, .int .i64 0, .int .i64 0, .string ⟨#[]⟩, .string ⟨#[]⟩, .int .i64 0, .int .i64 0, .int .i64 0, .slice none 0 0, .slice none 0 0, .int .i64 0, .slice none 0 0, .slice none 0 0, .slice none 0 0, .int .i64 0, .int .i64 0, .int .i64 0, .int .i64 0], .int .i64 now] w (RTF w ok (admT t none)) := by
  have HFL := Aside0.mk hfl
  have HC1 := Aside0.mk (fun W => Qcount_calls t.rr hv.rr0 hv.rr1 W)
  have HC3 := Aside0.mk (fun W => Qcount_calls t.acc hv.a0 hv.a1 W)
  have HR := Aside0.mk hr
  have hl0 := hv.l0
  have hl1 := hv.l1
  have hb1 := hv.b1
  have hu := Try.underlying25
  have hu2 := Try.underlying55
  have HXA := Aside0.mk (heap_alloc_keep (o := (.cells #[.string ⟨#[]⟩, .int .i64 0, .int .i64 0, .int .i64 0, .int .i64 0, .int .i64 0, .slice none 0 0, .int .i64 0, .int .i64 0, .int .i64 0] 25)) (heap_alloc_new w (.cells #[.int .i64 4, .slice none 0 0, .int .i64 0, .int .i64 0, .int .i64 0, .int .i64 0, .int .i64 0, .int .i64 0, .int .i64 0, .int .i64 0, .int .i64 0, .slice none 0 0, .int .i64 1, .slice none 0 0, .string ⟨#[]⟩, .slice none 0 0, .int .i64 0, .int .i64 0, .int .i64 0, .int .i64 0, .string ⟨#[]⟩, .string ⟨#[]⟩, .int .i64 0, .int .i64 0, .int .i64 0, .slice none 0 0, .slice none 0 0, .int .i64 0, .slice none 0 0, .slice none 0 0, .slice none 0 0, .int .i64 0, .int .i64 0, .int .i64 0, .int .i64 0] 55)))
  have HZA := Aside0.mk (heap_alloc_new (w.alloc (.cells #[.int .i64 4, .slice none 0 0, .int .i64 0, .int .i64 0, .int .i64 0, .int .i64 0, .int .i64 0, .int .i64 0, .int .i64 0, .int .i64 0, .int .i64 0, .slice none 0 0, .int .i64 1, .slice none 0 0, .string ⟨#[]⟩, .slice none 0 0, .int .i64 0, .int .i64 0, .int .i64 0, .int .i64 0, .string ⟨#[]⟩, .string ⟨#[]⟩, .int .i64 0, .int .i64 0, .int .i64 0, .slice none 0 0, .slice none 0 0, .int .i64 0, .slice none 0 0, .slice none 0 0, .slice none 0 0, .int .i64 0, .int .i64 0, .int .i64 0, .int .i64 0] 55)) (.cells #[.string ⟨#[]⟩, .int .i64 0, .int .i64 0, .int .i64 0, .int .i64 0, .int .i64 0, .slice none 0 0, .int .i64 0, .int .i64 0, .int .i64 0] 25))
  rw [World.size_alloc] at HZA
  have HBA := Aside0.mk (below_alloc (below_alloc (Below.refl _ w) (.cells #[.int .i64 4, .slice none 0 0, .int .i64 0, .int .i64 0, .int .i64 0, .int .i64 0, .int .i64 0, .int .i64 0, .int .i64 0, .int .i64 0, .int .i64 0, .slice none 0 0, .int .i64 1, .slice none 0 0, .string ⟨#[]⟩, .slice none 0 0, .int .i64 0, .int .i64 0, .int .i64 0, .int .i64 0, .string ⟨#[]⟩, .string ⟨#[]⟩, .int .i64 0, .int .i64 0, .int .i64 0, .slice none 0 0, .slice none 0 0, .int .i64 0, .slice none 0 0, .slice none 0 0, .slice none 0 0, .int .i64 0, .int .i64 0, .int .i64 0, .int .i64 0] 55)) (.cells #[.string ⟨#[]⟩, .int .i64 0, .int .i64 0, .int .i64 0, .int .i64 0, .int .i64 0, .slice none 0 0, .int .i64 0, .int .i64 0, .int .i64 0] 25))
  clear hfl hr hv hS
  go_enter Try.func29, Try.ntmps29
  go_upto_region 2 with (go_at_call 30; (with_reducible refine (HFL.out _).mono ?_); rintro e w1 ⟨rfl, hb⟩; have HB1 := Aside0.mk (HBA.out.trans (hb.mono HBA.out.size)); have HX1 := Aside0.mk ((hb.block w.heap.size (heap_lt HXA.out)).trans HXA.out); have HZ1 := Aside0.mk ((hb.block (w.heap.size + 1) (heap_lt HZA.out)).trans HZA.out); clear hb HXA HZA HBA)
  have HX := Aside0.mk (heap_alloc_keep (o := (.cells #[.string t.nm, .int .i64 t.rate, .int .i64 t.burst, .int .i64 t.level, .int .i64 t.clock, .int .i64 t.mx, .slice A t.ser.length c, .int .i64 t.acc, .int .i64 t.rr, .int .i64 t.rs] 25)) HX1.out)
  have HZ := Aside0.mk (heap_alloc_keep (o := (.cells #[.string t.nm, .int .i64 t.rate, .int .i64 t.burst, .int .i64 t.level, .int .i64 t.clock, .int .i64 t.mx, .slice A t.ser.length c, .int .i64 t.acc, .int .i64 t.rr, .int .i64 t.rs] 25)) HZ1.out)
  have HY := Aside0.mk (heap_alloc_new w1 (.cells #[.string t.nm, .int .i64 t.rate, .int .i64 t.burst, .int .i64 t.level, .int .i64 t.clock, .int .i64 t.mx, .slice A t.ser.length c, .int .i64 t.acc, .int .i64 t.rr, .int .i64 t.rs] 25))
  have HB := Aside0.mk (below_alloc HB1.out (.cells #[.string t.nm, .int .i64 t.rate, .int .i64 t.burst, .int .i64 t.level, .int .i64 t.clock, .int .i64 t.mx, .slice A t.ser.length c, .int .i64 t.acc, .int .i64 t.rr, .int .i64 t.rs] 25))
  have HX8 := Aside0.mk (show w.heap.size ≠ w1.heap.size from Nat.ne_of_lt (heap_lt HX1.out))
  have HZ8 := Aside0.mk (show w.heap.size + 1 ≠ w1.heap.size from Nat.ne_of_lt (heap_lt HZ1.out))
  have HB8 := Aside0.mk (show w.heap.size ≤ w1.heap.size from HB1.out.size)
  clear HX1 HZ1 HB1 HFL
  generalize w1.alloc (.cells #[.string t.nm, .int .i64 t.rate, .int .i64 t.burst, .int .i64 t.level, .int .i64 t.clock, .int .i64 t.mx, .slice A t.ser.length c, .int .i64 t.acc, .int .i64 t.rr, .int .i64 t.rs] 25) = W8 at *
  generalize w1.heap.size = B8 at *
  have n1 : w.heap.size + 1 ≠ B8 := HZ8.out
  have n2 : B8 ≠ w.heap.size + 1 := fun e => HZ8.out e.symm
  have n3 : w.heap.size ≠ B8 := HX8.out
  have n4 : B8 ≠ w.heap.size := fun e => HX8.out e.symm
  have x0 := (blk_cell HX.out 0).trans rfl; have x1 := (blk_cell HX.out 1).trans rfl; simp only [List.getElem?_toArray, List.getElem?_cons_zero, List.getElem?_cons_succ] at x0 x1; have y0 := (blk_cell HY.out 0).trans rfl; have y1 := (blk_cell HY.out 1).trans rfl; have y2 := (blk_cell HY.out 2).trans rfl; have y3 := (blk_cell HY.out 3).trans rfl; have y4 := (blk_cell HY.out 4).trans rfl; have y5 := (blk_cell HY.out 5).trans rfl; have y6 := (blk_cell HY.out 6).trans rfl; have y7 := (blk_cell HY.out 7).trans rfl; have y8 := (blk_cell HY.out 8).trans rfl; have y9 := (blk_cell HY.out 9).trans rfl; simp only [List.getElem?_toArray, List.getElem?_cons_zero, List.getElem?_cons_succ] at y0 y1 y2 y3 y4 y5 y6 y7 y8 y9; have f0 := blk_frozen HY.out 0; have f1 := blk_frozen HY.out 1; have f2 := blk_frozen HY.out 2; have f3 := blk_frozen HY.out 3; have f4 := blk_frozen HY.out 4; have f5 := blk_frozen HY.out 5; have f6 := blk_frozen HY.out 6; have f7 := blk_frozen HY.out 7; have f8 := blk_frozen HY.out 8; have f9 := blk_frozen HY.out 9; have z0 := (blk_cell HZ.out 0).trans rfl; have z1 := (blk_cell HZ.out 1).trans rfl; have z2 := (blk_cell HZ.out 2).trans rfl; have z3 := (blk_cell HZ.out 3).trans rfl; have z4 := (blk_cell HZ.out 4).trans rfl; have z5 := (blk_cell HZ.out 5).trans rfl; have z6 := (blk_cell HZ.out 6).trans rfl; have z7 := (blk_cell HZ.out 7).trans rfl; have z8 := (blk_cell HZ.out 8).trans rfl; have z9 := (blk_cell HZ.out 9).trans rfl; simp only [List.getElem?_toArray, List.getElem?_cons_zero, List.getElem?_cons_succ] at z0 z1 z2 z3 z4 z5 z6 z7 z8 z9; have g0 := blk_frozen HZ.out 0; have g1 := blk_frozen HZ.out 1; have g2 := blk_frozen HZ.out 2; have g3 := blk_frozen HZ.out 3; have g4 := blk_frozen HZ.out 4; have g5 := blk_frozen HZ.out 5; have g6 := blk_frozen HZ.out 6; have g7 := blk_frozen HZ.out 7; have g8 := blk_frozen HZ.out 8; have g9 := blk_frozen HZ.out 9
  by_cases hlv : t.level < 1000
  case pos =>
    have HE := Aside0.mk (adm_rate hlv (o := none))
    have d1 : decide (t.level < 1000) = true := decide_eq_true hlv
    clear hlv
    go_wp2_with (go_at_call 46; (with_reducible refine (HC1.out _).mono ?_); rintro e w7 ⟨rfl, hb⟩; have HBn := Aside0.mk (HB.out.trans (hb.mono HB.out.size)); have HXn := Aside0.mk ((hb.block w.heap.size (heap_lt HX.out)).trans HX.out); have HZn := Aside0.mk ((hb.block (w.heap.size + 1) (heap_lt HZ.out)).trans HZ.out); have HYn := Aside0.mk ((hb.block B8 (heap_lt HY.out)).trans HY.out); clear HB HX HY HZ x0 x1; clear y0 y1 y2 y3 y4 y5 y6 y7 y8 y9; clear f0 f1 f2 f3 f4 f5 f6 f7 f8 f9; clear z0 z1 z2 z3 z4 z5 z6 z7 z8 z9; clear g0 g1 g2 g3 g4 g5 g6 g7 g8 g9; have HB := HBn; have HX := HXn; have HY := HYn; have HZ := HZn; clear HBn HXn HYn HZn; have x0 := (blk_cell HX.out 0).trans rfl; have x1 := (blk_cell HX.out 1).trans rfl; simp only [List.getElem?_toArray, List.getElem?_cons_zero, List.getElem?_cons_succ] at x0 x1; have y0 := (blk_cell HY.out 0).trans rfl; have y1 := (blk_cell HY.out 1).trans rfl; have y2 := (blk_cell HY.out 2).trans rfl; have y3 := (blk_cell HY.out 3).trans rfl; have y4 := (blk_cell HY.out 4).trans rfl; have y5 := (blk_cell HY.out 5).trans rfl; have y6 := (blk_cell HY.out 6).trans rfl; have y7 := (blk_cell HY.out 7).trans rfl; have y8 := (blk_cell HY.out 8).trans rfl; have y9 := (blk_cell HY.out 9).trans rfl; simp only [List.getElem?_toArray, List.getElem?_cons_zero, List.getElem?_cons_succ] at y0 y1 y2 y3 y4 y5 y6 y7 y8 y9; have f0 := blk_frozen HY.out 0; have f1 := blk_frozen HY.out 1; have f2 := blk_frozen HY.out 2; have f3 := blk_frozen HY.out 3; have f4 := blk_frozen HY.out 4; have f5 := blk_frozen HY.out 5; have f6 := blk_frozen HY.out 6; have f7 := blk_frozen HY.out 7; have f8 := blk_frozen HY.out 8; have f9 := blk_frozen HY.out 9; have z0 := (blk_cell HZ.out 0).trans rfl; have z1 := (blk_cell HZ.out 1).trans rfl; have z2 := (blk_cell HZ.out 2).trans rfl; have z3 := (blk_cell HZ.out 3).trans rfl; have z4 := (blk_cell HZ.out 4).trans rfl; have z5 := (blk_cell HZ.out 5).trans rfl; have z6 := (blk_cell HZ.out 6).trans rfl; have z7 := (blk_cell HZ.out 7).trans rfl; have z8 := (blk_cell HZ.out 8).trans rfl; have z9 := (blk_cell HZ.out 9).trans rfl; simp only [List.getElem?_toArray, List.getElem?_cons_zero, List.getElem?_cons_succ] at z0 z1 z2 z3 z4 z5 z6 z7 z8 z9; have g0 := blk_frozen HZ.out 0; have g1 := blk_frozen HZ.out 1; have g2 := blk_frozen HZ.out 2; have g3 := blk_frozen HZ.out 3; have g4 := blk_frozen HZ.out 4; have g5 := blk_frozen HZ.out 5; have g6 := blk_frozen HZ.out 6; have g7 := blk_frozen HZ.out 7; have g8 := blk_frozen HZ.out 8; have g9 := blk_frozen HZ.out 9; clear hb)
    have hz9 := blk_far HZ.out (p := ⟨B8, 8, none⟩) HZ8.out (.int .i64 (cntI t.rr))
    have hb9 := HB.out.setCell (p := ⟨B8, 8, none⟩) HB8.out (.int .i64 (cntI t.rr))
    obtain ⟨q0, q1, q2, q3, q4, q5, q6, q7, q8, q9⟩ := set10_cells hz9 (.string t.nm) (.int .i64 t.rate) (.int .i64 t.burst) (.int .i64 t.level) (.int .i64 t.clock) (.int .i64 t.mx) (.slice A t.ser.length c) (.int .i64 t.acc) (.int .i64 (cntI t.rr)) (.int .i64 t.rs)
    unfold set10 at q0 q1 q2 q3 q4 q5 q6 q7 q8 q9
    refine bodyPost_ret (v := .tuple #[.agg #[.string t.nm, .int .i64 t.rate, .int .i64 t.burst, .int .i64 t.level, .int .i64 t.clock, .int .i64 t.mx, .slice A t.ser.length c, .int .i64 t.acc, .int .i64 (cntI t.rr), .int .i64 t.rs], .int .i64 22]) (by simp [results, Try.results29, go_sem, q0, q1, q2, q3, q4, q5, q6, q7, q8, q9]) rfl ?_
    have hb10 := set10_below hb9 (Nat.le_succ _) (.string t.nm) (.int .i64 t.rate) (.int .i64 t.burst) (.int .i64 t.level) (.int .i64 t.clock) (.int .i64 t.mx) (.slice A t.ser.length c) (.int .i64 t.acc) (.int .i64 (cntI t.rr)) (.int .i64 t.rs)
    rw [HE.out]
    exact ⟨A, c, rfl, hc, Kd.F_mono (Kd.F_below HR.out hb10) (fun k hk => .inl hk), hb10⟩
  case neg =>
    have d1 : decide (t.level < 1000) = false := decide_eq_false hlv
    have HE := Aside0.mk (adm_none hlv)
    clear hlv
    go_wp2_with (go_at_call 46; (with_reducible refine (HC3.out _).mono ?_); rintro e w7 ⟨rfl, hb⟩; have hy := (blk_set HY.out 3 (.int .i64 (t.level - 1000))); simp only [List.setIfInBounds_toArray, List.set_cons_succ, List.set_cons_zero] at hy; have hx := (blk_far HX.out (p := ⟨B8, 3, none⟩) HX8.out (.int .i64 (t.level - 1000))); have hz := (blk_far HZ.out (p := ⟨B8, 3, none⟩) HZ8.out (.int .i64 (t.level - 1000))); have hB := (HB.out.setCell (p := ⟨B8, 3, none⟩) HB8.out (.int .i64 (t.level - 1000))); clear HB HX HY HZ x0 x1; clear y0 y1 y2 y3 y4 y5 y6 y7 y8 y9; clear f0 f1 f2 f3 f4 f5 f6 f7 f8 f9; clear z0 z1 z2 z3 z4 z5 z6 z7 z8 z9; clear g0 g1 g2 g3 g4 g5 g6 g7 g8 g9; have HB := Aside0.mk (hB.trans (hb.mono hB.size)); have HX := Aside0.mk ((hb.block w.heap.size (heap_lt hx)).trans hx); have HY := Aside0.mk ((hb.block B8 (heap_lt hy)).trans hy); have HZ := Aside0.mk ((hb.block (w.heap.size + 1) (heap_lt hz)).trans hz); clear hx hy hz hB; have x0 := (blk_cell HX.out 0).trans rfl; have x1 := (blk_cell HX.out 1).trans rfl; simp only [List.getElem?_toArray, List.getElem?_cons_zero, List.getElem?_cons_succ] at x0 x1; have y0 := (blk_cell HY.out 0).trans rfl; have y1 := (blk_cell HY.out 1).trans rfl; have y2 := (blk_cell HY.out 2).trans rfl; have y3 := (blk_cell HY.out 3).trans rfl; have y4 := (blk_cell HY.out 4).trans rfl; have y5 := (blk_cell HY.out 5).trans rfl; have y6 := (blk_cell HY.out 6).trans rfl; have y7 := (blk_cell HY.out 7).trans rfl; have y8 := (blk_cell HY.out 8).trans rfl; have y9 := (blk_cell HY.out 9).trans rfl; simp only [List.getElem?_toArray, List.getElem?_cons_zero, List.getElem?_cons_succ] at y0 y1 y2 y3 y4 y5 y6 y7 y8 y9; have f0 := blk_frozen HY.out 0; have f1 := blk_frozen HY.out 1; have f2 := blk_frozen HY.out 2; have f3 := blk_frozen HY.out 3; have f4 := blk_frozen HY.out 4; have f5 := blk_frozen HY.out 5; have f6 := blk_frozen HY.out 6; have f7 := blk_frozen HY.out 7; have f8 := blk_frozen HY.out 8; have f9 := blk_frozen HY.out 9; have z0 := (blk_cell HZ.out 0).trans rfl; have z1 := (blk_cell HZ.out 1).trans rfl; have z2 := (blk_cell HZ.out 2).trans rfl; have z3 := (blk_cell HZ.out 3).trans rfl; have z4 := (blk_cell HZ.out 4).trans rfl; have z5 := (blk_cell HZ.out 5).trans rfl; have z6 := (blk_cell HZ.out 6).trans rfl; have z7 := (blk_cell HZ.out 7).trans rfl; have z8 := (blk_cell HZ.out 8).trans rfl; have z9 := (blk_cell HZ.out 9).trans rfl; simp only [List.getElem?_toArray, List.getElem?_cons_zero, List.getElem?_cons_succ] at z0 z1 z2 z3 z4 z5 z6 z7 z8 z9; have g0 := blk_frozen HZ.out 0; have g1 := blk_frozen HZ.out 1; have g2 := blk_frozen HZ.out 2; have g3 := blk_frozen HZ.out 3; have g4 := blk_frozen HZ.out 4; have g5 := blk_frozen HZ.out 5; have g6 := blk_frozen HZ.out 6; have g7 := blk_frozen HZ.out 7; have g8 := blk_frozen HZ.out 8; have g9 := blk_frozen HZ.out 9; clear hb)
    have hz9 := blk_far HZ.out (p := ⟨B8, 7, none⟩) HZ8.out (.int .i64 (cntI t.acc))
    have hb9 := HB.out.setCell (p := ⟨B8, 7, none⟩) HB8.out (.int .i64 (cntI t.acc))
    obtain ⟨q0, q1, q2, q3, q4, q5, q6, q7, q8, q9⟩ := set10_cells hz9 (.string t.nm) (.int .i64 t.rate) (.int .i64 t.burst) (.int .i64 (t.level - 1000)) (.int .i64 t.clock) (.int .i64 t.mx) (.slice A t.ser.length c) (.int .i64 (cntI t.acc)) (.int .i64 t.rr) (.int .i64 t.rs)
    unfold set10 at q0 q1 q2 q3 q4 q5 q6 q7 q8 q9
    refine bodyPost_ret (v := .tuple #[.agg #[.string t.nm, .int .i64 t.rate, .int .i64 t.burst, .int .i64 (t.level - 1000), .int .i64 t.clock, .int .i64 t.mx, .slice A t.ser.length c, .int .i64 (cntI t.acc), .int .i64 t.rr, .int .i64 t.rs], .int .i64 0]) (by simp [results, Try.results29, go_sem, q0, q1, q2, q3, q4, q5, q6, q7, q8, q9]) rfl ?_
    have hb10 := set10_below hb9 (Nat.le_succ _) (.string t.nm) (.int .i64 t.rate) (.int .i64 t.burst) (.int .i64 (t.level - 1000)) (.int .i64 t.clock) (.int .i64 t.mx) (.slice A t.ser.length c) (.int .i64 (cntI t.acc)) (.int .i64 t.rr) (.int .i64 t.rs)
    rw [HE.out]
    exact ⟨A, c, rfl, hc, Kd.F_mono (Kd.F_below HR.out hb10) (fun k hk => .inl hk), hb10⟩

set_option maxRecDepth 100000 in
set_option maxHeartbeats 16000000 in
theorem Admit_log (t : TV) (hv : ValT t) (hS : SmallT t) (now : Int) (h0 : t.clock ≤ now) (h1 : now ≤ 1099511627776) (A : Option Addr) (c : Nat) (w : World)
    (ok : Nat → Prop) (hr : Kd.F kLL w ok A t.ser.length t.ser) (hc : t.ser.length ≤ c) :
    Calls Try.prog 10 #[tv t (.slice A t.ser.length c), .agg #[.int .i64 4, .slice none 0 0, .int .i64 0, .int .i64 0, .int .i64 0, .int .i64 0, .int .i64 0, .int .i64 0, .int .i64 0, .int .i64 0, .int .i64 0, .slice none 0 0, .int .i64 1, .slice none 0 0, .string ⟨#[]⟩, .slice none 0 0, .int .i64 0, .int .i64 0, .int .i64 0, .int .i64 0, .string ⟨#[]⟩, .string ⟨#[]⟩, .int .i64 0, .int .i64 0, .int .i64 0, .slice none 0 0, .slice none 0 0, .int .i64 0, .slice none 0 0, .slice none 0 0, .slice none 0 0, .int .i64 0, .int .i64 0, .int .i64 0, .int .i64 0], .int .i64 now] w (RTF w ok (admT (fillT t now) none)) := by
  have HCK := Aside0.mk (fun W (h : Below w.heap.size w W) => show Calls Try.prog 17 #[tv t (.slice A t.ser.length c)] W (fun e w' => e = .returned (.int .i64 0) ∧ Below W.heap.size W w') by
    have := QCheck_calls t hS A c W (Kd.F_now (Kd.F_below hr h)) hc
    rwa [chkT_val hv] at this)
  have HCO := Aside0.mk (fun W (h : Below w.heap.size w W) => CheckOp_log W)
  have HAD := Aside0.mk (fun W (h : Below w.heap.size w W) => Qadmit_log t (fillT t now) now (fill_val hv h0 h1) (fill_small hS now) A c W (fun W => Qrefill_calls t hv now h0 h1 A t.ser.length c W) (fun k => ok k ∧ k < w.heap.size) (Kd.F_below (Kd.F_bound hr) h) hc)
  have d1 : decide (now < t.clock) = false := decide_eq_false (by omega)
  have d2 : decide (1099511627776 < now) = false := decide_eq_false (by omega)
  have hu := Try.underlying25
  have hu2 := Try.underlying55
  have HI := Aside0.mk (show (Try.prog.info? 55).map (·.size) = some 35 by kernel_rfl)
  have HY := Aside0.mk (heap_alloc_keep (o := (.cells #[.string ⟨#[]⟩, .int .i64 0, .int .i64 0, .int .i64 0, .int .i64 0, .int .i64 0, .slice none 0 0, .int .i64 0, .int .i64 0, .int .i64 0] 25)) (heap_alloc_keep (o := (.cells #[.int .i64 4, .slice none 0 0, .int .i64 0, .int .i64 0, .int .i64 0, .int .i64 0, .int .i64 0, .int .i64 0, .int .i64 0, .int .i64 0, .int .i64 0, .slice none 0 0, .int .i64 1, .slice none 0 0, .string ⟨#[]⟩, .slice none 0 0, .int .i64 0, .int .i64 0, .int .i64 0, .int .i64 0, .string ⟨#[]⟩, .string ⟨#[]⟩, .int .i64 0, .int .i64 0, .int .i64 0, .slice none 0 0, .slice none 0 0, .int .i64 0, .slice none 0 0, .slice none 0 0, .slice none 0 0, .int .i64 0, .int .i64 0, .int .i64 0, .int .i64 0] 55)) (heap_alloc_new w (.cells #[.string t.nm, .int .i64 t.rate, .int .i64 t.burst, .int .i64 t.level, .int .i64 t.clock, .int .i64 t.mx, .slice A t.ser.length c, .int .i64 t.acc, .int .i64 t.rr, .int .i64 t.rs] 25))))
  have HX := Aside0.mk (heap_alloc_keep (o := (.cells #[.string ⟨#[]⟩, .int .i64 0, .int .i64 0, .int .i64 0, .int .i64 0, .int .i64 0, .slice none 0 0, .int .i64 0, .int .i64 0, .int .i64 0] 25)) (heap_alloc_new (w.alloc (.cells #[.string t.nm, .int .i64 t.rate, .int .i64 t.burst, .int .i64 t.level, .int .i64 t.clock, .int .i64 t.mx, .slice A t.ser.length c, .int .i64 t.acc, .int .i64 t.rr, .int .i64 t.rs] 25)) (.cells #[.int .i64 4, .slice none 0 0, .int .i64 0, .int .i64 0, .int .i64 0, .int .i64 0, .int .i64 0, .int .i64 0, .int .i64 0, .int .i64 0, .int .i64 0, .slice none 0 0, .int .i64 1, .slice none 0 0, .string ⟨#[]⟩, .slice none 0 0, .int .i64 0, .int .i64 0, .int .i64 0, .int .i64 0, .string ⟨#[]⟩, .string ⟨#[]⟩, .int .i64 0, .int .i64 0, .int .i64 0, .slice none 0 0, .slice none 0 0, .int .i64 0, .slice none 0 0, .slice none 0 0, .slice none 0 0, .int .i64 0, .int .i64 0, .int .i64 0, .int .i64 0] 55)))
  have HZ := Aside0.mk (heap_alloc_new ((w.alloc (.cells #[.string t.nm, .int .i64 t.rate, .int .i64 t.burst, .int .i64 t.level, .int .i64 t.clock, .int .i64 t.mx, .slice A t.ser.length c, .int .i64 t.acc, .int .i64 t.rr, .int .i64 t.rs] 25)).alloc (.cells #[.int .i64 4, .slice none 0 0, .int .i64 0, .int .i64 0, .int .i64 0, .int .i64 0, .int .i64 0, .int .i64 0, .int .i64 0, .int .i64 0, .int .i64 0, .slice none 0 0, .int .i64 1, .slice none 0 0, .string ⟨#[]⟩, .slice none 0 0, .int .i64 0, .int .i64 0, .int .i64 0, .int .i64 0, .string ⟨#[]⟩, .string ⟨#[]⟩, .int .i64 0, .int .i64 0, .int .i64 0, .slice none 0 0, .slice none 0 0, .int .i64 0, .slice none 0 0, .slice none 0 0, .slice none 0 0, .int .i64 0, .int .i64 0, .int .i64 0, .int .i64 0] 55)) (.cells #[.string ⟨#[]⟩, .int .i64 0, .int .i64 0, .int .i64 0, .int .i64 0, .int .i64 0, .slice none 0 0, .int .i64 0, .int .i64 0, .int .i64 0] 25))
  have HB := Aside0.mk (below_alloc (below_alloc (below_alloc (Below.refl _ w) (.cells #[.string t.nm, .int .i64 t.rate, .int .i64 t.burst, .int .i64 t.level, .int .i64 t.clock, .int .i64 t.mx, .slice A t.ser.length c, .int .i64 t.acc, .int .i64 t.rr, .int .i64 t.rs] 25)) (.cells #[.int .i64 4, .slice none 0 0, .int .i64 0, .int .i64 0, .int .i64 0, .int .i64 0, .int .i64 0, .int .i64 0, .int .i64 0, .int .i64 0, .int .i64 0, .slice none 0 0, .int .i64 1, .slice none 0 0, .string ⟨#[]⟩, .slice none 0 0, .int .i64 0, .int .i64 0, .int .i64 0, .int .i64 0, .string ⟨#[]⟩, .string ⟨#[]⟩, .int .i64 0, .int .i64 0, .int .i64 0, .slice none 0 0, .slice none 0 0, .int .i64 0, .slice none 0 0, .slice none 0 0, .slice none 0 0, .int .i64 0, .int .i64 0, .int .i64 0, .int .i64 0] 55)) (.cells #[.string ⟨#[]⟩, .int .i64 0, .int .i64 0, .int .i64 0, .int .i64 0, .int .i64 0, .slice none 0 0, .int .i64 0, .int .i64 0, .int .i64 0] 25))
  simp only [World.size_alloc] at HX HZ
  clear hv hS hr h0 h1
  have y0 := (blk_cell HY.out 0).trans rfl; have y1 := (blk_cell HY.out 1).trans rfl; have y2 := (blk_cell HY.out 2).trans rfl; have y3 := (blk_cell HY.out 3).trans rfl; have y4 := (blk_cell HY.out 4).trans rfl; have y5 := (blk_cell HY.out 5).trans rfl; have y6 := (blk_cell HY.out 6).trans rfl; have y7 := (blk_cell HY.out 7).trans rfl; have y8 := (blk_cell HY.out 8).trans rfl; have y9 := (blk_cell HY.out 9).trans rfl; simp only [List.getElem?_toArray, List.getElem?_cons_zero, List.getElem?_cons_succ] at y0 y1 y2 y3 y4 y5 y6 y7 y8 y9
  go_enter Try.func10, Try.ntmps10
  go_wp2_with (first
    | (refine load_row' 55 (.tmp 4) (w.heap.size + 1) 55 #[.int .i64 4, .slice none 0 0, .int .i64 0, .int .i64 0, .int .i64 0, .int .i64 0, .int .i64 0, .int .i64 0, .int .i64 0, .int .i64 0, .int .i64 0, .slice none 0 0, .int .i64 1, .slice none 0 0, .string ⟨#[]⟩, .slice none 0 0, .int .i64 0, .int .i64 0, .int .i64 0, .int .i64 0, .string ⟨#[]⟩, .string ⟨#[]⟩, .int .i64 0, .int .i64 0, .int .i64 0, .slice none 0 0, .slice none 0 0, .int .i64 0, .slice none 0 0, .slice none 0 0, .slice none 0 0, .int .i64 0, .int .i64 0, .int .i64 0, .int .i64 0] _ HX.out hu2 rfl HI.out ?_ ?_ ?_ ?_; rfl; rfl; rfl)
    | (go_at_call 17; (with_reducible refine (HCK.out _ HB.out).mono ?_); rintro e w1 ⟨rfl, hb⟩; have HBn := Aside0.mk (HB.out.trans (hb.mono HB.out.size)); have HYn := Aside0.mk ((hb.block w.heap.size (heap_lt HY.out)).trans HY.out); have HXn := Aside0.mk ((hb.block (w.heap.size + 1) (heap_lt HX.out)).trans HX.out); have HZn := Aside0.mk ((hb.block (w.heap.size + 1 + 1) (heap_lt HZ.out)).trans HZ.out); clear HB HX HY HZ hb y0 y1 y2 y3 y4 y5 y6 y7 y8 y9; have HB := HBn; have HX := HXn; have HY := HYn; have HZ := HZn; clear HBn HXn HYn HZn; have y0 := (blk_cell HY.out 0).trans rfl; have y1 := (blk_cell HY.out 1).trans rfl; have y2 := (blk_cell HY.out 2).trans rfl; have y3 := (blk_cell HY.out 3).trans rfl; have y4 := (blk_cell HY.out 4).trans rfl; have y5 := (blk_cell HY.out 5).trans rfl; have y6 := (blk_cell HY.out 6).trans rfl; have y7 := (blk_cell HY.out 7).trans rfl; have y8 := (blk_cell HY.out 8).trans rfl; have y9 := (blk_cell HY.out 9).trans rfl; simp only [List.getElem?_toArray, List.getElem?_cons_zero, List.getElem?_cons_succ] at y0 y1 y2 y3 y4 y5 y6 y7 y8 y9)
    | (go_at_call 28; (with_reducible refine (HCO.out _ HB.out).mono ?_); rintro e w1 ⟨rfl, hb⟩; have HBn := Aside0.mk (HB.out.trans (hb.mono HB.out.size)); have HYn := Aside0.mk ((hb.block w.heap.size (heap_lt HY.out)).trans HY.out); have HXn := Aside0.mk ((hb.block (w.heap.size + 1) (heap_lt HX.out)).trans HX.out); have HZn := Aside0.mk ((hb.block (w.heap.size + 1 + 1) (heap_lt HZ.out)).trans HZ.out); clear HB HX HY HZ hb y0 y1 y2 y3 y4 y5 y6 y7 y8 y9; have HB := HBn; have HX := HXn; have HY := HYn; have HZ := HZn; clear HBn HXn HYn HZn; have y0 := (blk_cell HY.out 0).trans rfl; have y1 := (blk_cell HY.out 1).trans rfl; have y2 := (blk_cell HY.out 2).trans rfl; have y3 := (blk_cell HY.out 3).trans rfl; have y4 := (blk_cell HY.out 4).trans rfl; have y5 := (blk_cell HY.out 5).trans rfl; have y6 := (blk_cell HY.out 6).trans rfl; have y7 := (blk_cell HY.out 7).trans rfl; have y8 := (blk_cell HY.out 8).trans rfl; have y9 := (blk_cell HY.out 9).trans rfl; simp only [List.getElem?_toArray, List.getElem?_cons_zero, List.getElem?_cons_succ] at y0 y1 y2 y3 y4 y5 y6 y7 y8 y9)
    | (go_at_call 29; (refine (HAD.out _ HB.out).mono ?_); rintro e w5 ⟨A2, c2, rfl, hl2, hC2, hb⟩; have HQC := Aside0.mk hC2; have HL2 := Aside0.mk hl2; have HC2 := Aside0.mk hC2; have HB2 := Aside0.mk (HB.out.trans (hb.mono HB.out.size)); have HZ2 := Aside0.mk ((hb.block (w.heap.size + 1 + 1) (heap_lt HZ.out)).trans HZ.out); have HBX := Aside0.mk hb; have LZ := Aside0.mk (heap_lt HZ.out); have HSZ := Aside0.mk HB.out.size; clear hb hl2 hC2 y0 y1 y2 y3 y4 y5 y6 y7 y8 y9; have z0 := (blk_cell HZ2.out 0).trans rfl; have z1 := (blk_cell HZ2.out 1).trans rfl; have z2 := (blk_cell HZ2.out 2).trans rfl; have z3 := (blk_cell HZ2.out 3).trans rfl; have z4 := (blk_cell HZ2.out 4).trans rfl; have z5 := (blk_cell HZ2.out 5).trans rfl; have z6 := (blk_cell HZ2.out 6).trans rfl; have z7 := (blk_cell HZ2.out 7).trans rfl; have z8 := (blk_cell HZ2.out 8).trans rfl; have z9 := (blk_cell HZ2.out 9).trans rfl; simp only [List.getElem?_toArray, List.getElem?_cons_zero, List.getElem?_cons_succ] at z0 z1 z2 z3 z4 z5 z6 z7 z8 z9; have g0 := blk_frozen HZ2.out 0; have g1 := blk_frozen HZ2.out 1; have g2 := blk_frozen HZ2.out 2; have g3 := blk_frozen HZ2.out 3; have g4 := blk_frozen HZ2.out 4; have g5 := blk_frozen HZ2.out 5; have g6 := blk_frozen HZ2.out 6; have g7 := blk_frozen HZ2.out 7; have g8 := blk_frozen HZ2.out 8; have g9 := blk_frozen HZ2.out 9))
  obtain ⟨q0, q1, q2, q3, q4, q5, q6, q7, q8, q9⟩ := set10_cells HZ2.out (.string (admT (fillT t now) none).1.nm) (.int .i64 (admT (fillT t now) none).1.rate) (.int .i64 (admT (fillT t now) none).1.burst) (.int .i64 (admT (fillT t now) none).1.level) (.int .i64 (admT (fillT t now) none).1.clock) (.int .i64 (admT (fillT t now) none).1.mx) (.slice A2 (admT (fillT t now) none).1.ser.length c2) (.int .i64 (admT (fillT t now) none).1.acc) (.int .i64 (admT (fillT t now) none).1.rr) (.int .i64 (admT (fillT t now) none).1.rs)
  unfold set10 at q0 q1 q2 q3 q4 q5 q6 q7 q8 q9
  refine bodyPost_ret (v := .tuple #[.agg #[.string (admT (fillT t now) none).1.nm, .int .i64 (admT (fillT t now) none).1.rate, .int .i64 (admT (fillT t now) none).1.burst, .int .i64 (admT (fillT t now) none).1.level, .int .i64 (admT (fillT t now) none).1.clock, .int .i64 (admT (fillT t now) none).1.mx, .slice A2 (admT (fillT t now) none).1.ser.length c2, .int .i64 (admT (fillT t now) none).1.acc, .int .i64 (admT (fillT t now) none).1.rr, .int .i64 (admT (fillT t now) none).1.rs], .int .i64 (admT (fillT t now) none).2]) (by simp [results, Try.results10, go_sem, q0, q1, q2, q3, q4, q5, q6, q7, q8, q9]) rfl ?_
  have hb10 := set10_below HB2.out (show w.heap.size ≤ w.heap.size + 1 + 1 by omega) (.string (admT (fillT t now) none).1.nm) (.int .i64 (admT (fillT t now) none).1.rate) (.int .i64 (admT (fillT t now) none).1.burst) (.int .i64 (admT (fillT t now) none).1.level) (.int .i64 (admT (fillT t now) none).1.clock) (.int .i64 (admT (fillT t now) none).1.mx) (.slice A2 (admT (fillT t now) none).1.ser.length c2) (.int .i64 (admT (fillT t now) none).1.acc) (.int .i64 (admT (fillT t now) none).1.rr) (.int .i64 (admT (fillT t now) none).1.rs)
  refine ⟨A2, c2, rfl, HL2.out, ?_, hb10⟩
  refine Kd.F_mono (Kd.F_step HC2.out (fun k hk hlt => set10_far (k := k) ?_ (.string (admT (fillT t now) none).1.nm) (.int .i64 (admT (fillT t now) none).1.rate) (.int .i64 (admT (fillT t now) none).1.burst) (.int .i64 (admT (fillT t now) none).1.level) (.int .i64 (admT (fillT t now) none).1.clock) (.int .i64 (admT (fillT t now) none).1.mx) (.slice A2 (admT (fillT t now) none).1.ser.length c2) (.int .i64 (admT (fillT t now) none).1.acc) (.int .i64 (admT (fillT t now) none).1.rr) (.int .i64 (admT (fillT t now) none).1.rs))) (fun k hk => ?_)
  · rcases hk with hk | hk
    · have := hk.2; omega
    · have := LZ.out; omega
  · rcases hk with hk | hk
    · exact .inl hk.1
    · exact .inr (Nat.le_trans HSZ.out hk)
end Go.Proofs.Ytakobehkajphpaa.H
/- Offers: how they lie in memory, and the operation of one. -/
namespace Go.Proofs.Ytakobehkajphpaa.H
open Go Go.RowKit Go.Proofs.YtakobehkajphpaaW.PrintWords Go.Proofs.YtakobehkajphpaaW.PrintLast Go.Proofs.YtakobehkajphpaaW.PrintMore Go.Proofs.Ytakobehkajphpaa.PAll
set_option linter.unusedVariables false
set_option linter.unusedSimpArgs false

structure OfV where
  af : Int
  se : Int
def kOffer : Kd OfV := Kd.iso (Kd.pair (Kd.int .u16) (Kd.int .u8)) (fun x => (x.af, x.se))
theorem kOffer_open {w : World} {x : OfV} {cs : List Value} (h : kOffer.K w x cs) : cs = [.int .u16 x.af, .int .u8 x.se] := by
  obtain ⟨c0, d0, rfl, h0, h1⟩ := h
  cases h0; cases h1
  rfl
theorem opn_Offer : Opn 33 kOffer (fun x => (Lit.int .u16 x.af).wf = true ∧ (Lit.int .u8 x.se).wf = true) :=
  opn_struct (fun x : OfV => (x.af, x.se)) (fun p => ⟨p.1, p.2⟩) (fun _ => rfl) Try.underlying33 (by kernel_rfl)
    (opnF_cons (opn_int Try.underlying31 (by kernel_rfl)) (opnF_one (opn_int Try.underlying5 (by kernel_rfl))))
theorem opn_Offers : Opn 22 (Kd.slice 33 kOffer) (fun l => ∀ x ∈ l, (Lit.int .u16 x.af).wf = true ∧ (Lit.int .u8 x.se).wf = true) := opn_slice 33 Try.underlying22 (by kernel_rfl) opn_Offer
theorem at_Offer {w : World} {A : Option Addr} {l : List OfV} (h : Kd.C kOffer w A l.length l) (j : Nat) (hj : j < l.length) : ∃ ad, A = some ad ∧ w.cell? (ad.add (j * 2)) = some (.int .u16 l[j].af) ∧ w.cell? ⟨(ad.add (j * 2)).block, (ad.add (j * 2)).off + 1, none⟩ = some (.int .u8 l[j].se) := by
  obtain ⟨ad, c, e, _, hK, hc0⟩ := Kd.C_get h ⟨0, 0⟩ (j : Int) (by omega) (by omega)
  have hc : ∀ i u, c[i]? = some u → w.cell? (ad.add (j * 2 + i)) = some u := hc0
  obtain rfl := kOffer_open hK
  have hg : l.getD (j : Int).toNat ⟨0, 0⟩ = l[j] := by simp [List.getD_eq_getElem?_getD, List.getElem?_eq_getElem hj]
  rw [hg] at hc
  exact ⟨ad, e, hc 0 _ rfl, by rw [← add_field _ _ 1 (by omega)]; exact hc 1 _ rfl⟩
theorem wf_u16 {a : Int} (h : (Lit.int .u16 a).wf = true) : 0 ≤ a ∧ a ≤ 65535 := by
  have h1 : IntKind.u16.min ≤ a ∧ a ≤ IntKind.u16.max := by simpa [Lit.wf] using h
  simp [IntKind.min, IntKind.max, IntKind.signed, IntKind.bits] at h1
  omega
theorem wf_u8 {a : Int} (h : (Lit.int .u8 a).wf = true) : 0 ≤ a ∧ a ≤ 255 := by
  have h1 : IntKind.u8.min ≤ a ∧ a ≤ IntKind.u8.max := by simpa [Lit.wf] using h
  simp [IntKind.min, IntKind.max, IntKind.signed, IntKind.bits] at h1
  omega
/-- The value of the label of a series. -/
def opB (s : Int) : ByteArray := strOfNums [97 + s % 8]
theorem opB_size (s : Int) : (opB s).size = 1 := rfl
theorem opB_ne (s : Int) : ab (opB s) ≠ [] := fun h => by
  have := ab_length (opB s)
  rw [h, opB_size] at this
  simp at this
/-- The labels of an offer's operation. -/
def opS (s : Int) : Option L72 := if s = 0 then none else some (lv (opB s))
theorem opS_chk (s : Int) : ∀ l, opS s = some l → chk l = 0 := fun l h => by
  unfold opS at h
  split at h
  · cases h
  · cases h; exact chk_lv (opB_ne s) (by rw [opB_size]; omega)
theorem opS_small (s : Int) : ∀ l, opS s = some l → l.length ≤ 1000 ∧ Sz 1000 l := fun l h => by
  unfold opS at h
  split at h
  · cases h
  · cases h; exact ⟨by simp [lv], fun x hx => by simp [lv] at hx; subst hx; exact ⟨by show (1 : Nat) ≤ 1000; omega, by show (opB s).size ≤ 1000; rw [opB_size]; omega⟩⟩
set_option maxRecDepth 100000 in
set_option maxHeartbeats 4000000 in
theorem op_log (a : Int) (w : World) : Calls Try.prog 11 #[.agg #[.int .u16 a, .int .u8 0]] w fun e w' => e = .returned (.agg #[.int .i64 4, .slice none 0 0, .int .i64 0, .int .i64 0, .int .i64 0, .int .i64 0, .int .i64 0, .int .i64 0, .int .i64 0, .int .i64 0, .int .i64 0, .slice none 0 0, .int .i64 1, .slice none 0 0, .string ⟨#[]⟩, .slice none 0 0, .int .i64 0, .int .i64 0, .int .i64 0, .int .i64 0, .string ⟨#[]⟩, .string ⟨#[]⟩, .int .i64 0, .int .i64 0, .int .i64 0, .slice none 0 0, .slice none 0 0, .int .i64 0, .slice none 0 0, .slice none 0 0, .slice none 0 0, .int .i64 0, .int .i64 0, .int .i64 0, .int .i64 0]) ∧ Below w.heap.size w w' := by
  have hu0 := Try.underlying55
  have hu1 := Try.underlying33
  have hu2 := Try.underlying44
  have HI := Aside0.mk (show (Try.prog.info? 55).map (·.size) = some 35 by kernel_rfl)
  have HONE := Aside0.mk (show (#[.int .i64 4, .slice none 0 0, .int .i64 0, .int .i64 0, .int .i64 0, .int .i64 0, .int .i64 0, .int .i64 0, .int .i64 0, .int .i64 0, .int .i64 0, .slice none 0 0, .int .i64 1, .slice none 0 0, .string ⟨#[]⟩, .slice none 0 0, .int .i64 0, .int .i64 0, .int .i64 0, .int .i64 0, .string ⟨#[]⟩, .string ⟨#[]⟩, .int .i64 0, .int .i64 0, .int .i64 0, .slice none 0 0, .slice none 0 0, .int .i64 0, .slice none 0 0, .slice none 0 0, .slice none 0 0, .int .i64 0, .int .i64 0, .int .i64 0, .int .i64 0] : Array Value).all (·.oneCell') = true by simp [Value.oneCell'])
  have HX := Aside0.mk (heap_alloc_keep (o := (.cells #[.int .i64 0, .slice none 0 0, .int .i64 0, .int .i64 0, .int .i64 0, .int .i64 0, .int .i64 0, .int .i64 0, .int .i64 0, .int .i64 0, .int .i64 0, .slice none 0 0, .int .i64 0, .slice none 0 0, .string ⟨#[]⟩, .slice none 0 0, .int .i64 0, .int .i64 0, .int .i64 0, .int .i64 0, .string ⟨#[]⟩, .string ⟨#[]⟩, .int .i64 0, .int .i64 0, .int .i64 0, .slice none 0 0, .slice none 0 0, .int .i64 0, .slice none 0 0, .slice none 0 0, .slice none 0 0, .int .i64 0, .int .i64 0, .int .i64 0, .int .i64 0] 55)) (heap_alloc_new w (.cells #[.int .u16 a, .int .u8 0] 33)))
  have HZ := Aside0.mk (heap_alloc_new (w.alloc (.cells #[.int .u16 a, .int .u8 0] 33)) (.cells #[.int .i64 0, .slice none 0 0, .int .i64 0, .int .i64 0, .int .i64 0, .int .i64 0, .int .i64 0, .int .i64 0, .int .i64 0, .int .i64 0, .int .i64 0, .slice none 0 0, .int .i64 0, .slice none 0 0, .string ⟨#[]⟩, .slice none 0 0, .int .i64 0, .int .i64 0, .int .i64 0, .int .i64 0, .string ⟨#[]⟩, .string ⟨#[]⟩, .int .i64 0, .int .i64 0, .int .i64 0, .slice none 0 0, .slice none 0 0, .int .i64 0, .slice none 0 0, .slice none 0 0, .slice none 0 0, .int .i64 0, .int .i64 0, .int .i64 0, .int .i64 0] 55))
  rw [World.size_alloc] at HZ
  have HB := Aside0.mk (below_alloc (below_alloc (Below.refl _ w) (.cells #[.int .u16 a, .int .u8 0] 33)) (.cells #[.int .i64 0, .slice none 0 0, .int .i64 0, .int .i64 0, .int .i64 0, .int .i64 0, .int .i64 0, .int .i64 0, .int .i64 0, .int .i64 0, .int .i64 0, .slice none 0 0, .int .i64 0, .slice none 0 0, .string ⟨#[]⟩, .slice none 0 0, .int .i64 0, .int .i64 0, .int .i64 0, .int .i64 0, .string ⟨#[]⟩, .string ⟨#[]⟩, .int .i64 0, .int .i64 0, .int .i64 0, .slice none 0 0, .slice none 0 0, .int .i64 0, .slice none 0 0, .slice none 0 0, .slice none 0 0, .int .i64 0, .int .i64 0, .int .i64 0, .int .i64 0] 55))
  have x0 := (blk_cell HX.out 0).trans rfl; have x1 := (blk_cell HX.out 1).trans rfl; simp only [List.getElem?_toArray, List.getElem?_cons_zero, List.getElem?_cons_succ] at x0 x1
  go_enter Try.func11, Try.ntmps11
  go_wp2_with (refine store_row' 55 (.tmp 2) (.tmp 7) (w.heap.size + 1) #[.int .i64 4, .slice none 0 0, .int .i64 0, .int .i64 0, .int .i64 0, .int .i64 0, .int .i64 0, .int .i64 0, .int .i64 0, .int .i64 0, .int .i64 0, .slice none 0 0, .int .i64 1, .slice none 0 0, .string ⟨#[]⟩, .slice none 0 0, .int .i64 0, .int .i64 0, .int .i64 0, .int .i64 0, .string ⟨#[]⟩, .string ⟨#[]⟩, .int .i64 0, .int .i64 0, .int .i64 0, .slice none 0 0, .slice none 0 0, .int .i64 0, .slice none 0 0, .slice none 0 0, .slice none 0 0, .int .i64 0, .int .i64 0, .int .i64 0, .int .i64 0] 55 #[.int .i64 0, .slice none 0 0, .int .i64 0, .int .i64 0, .int .i64 0, .int .i64 0, .int .i64 0, .int .i64 0, .int .i64 0, .int .i64 0, .int .i64 0, .slice none 0 0, .int .i64 0, .slice none 0 0, .string ⟨#[]⟩, .slice none 0 0, .int .i64 0, .int .i64 0, .int .i64 0, .int .i64 0, .string ⟨#[]⟩, .string ⟨#[]⟩, .int .i64 0, .int .i64 0, .int .i64 0, .slice none 0 0, .slice none 0 0, .int .i64 0, .slice none 0 0, .slice none 0 0, .slice none 0 0, .int .i64 0, .int .i64 0, .int .i64 0, .int .i64 0] HZ.out HI.out rfl HONE.out ?_ ?_ ?_ ?_ ?_ ?_; rfl; rfl; rfl; rfl; rfl)
  have hz := setRow_heap ((w.alloc (.cells #[.int .u16 a, .int .u8 0] 33)).alloc (.cells #[.int .i64 0, .slice none 0 0, .int .i64 0, .int .i64 0, .int .i64 0, .int .i64 0, .int .i64 0, .int .i64 0, .int .i64 0, .int .i64 0, .int .i64 0, .slice none 0 0, .int .i64 0, .slice none 0 0, .string ⟨#[]⟩, .slice none 0 0, .int .i64 0, .int .i64 0, .int .i64 0, .int .i64 0, .string ⟨#[]⟩, .string ⟨#[]⟩, .int .i64 0, .int .i64 0, .int .i64 0, .slice none 0 0, .slice none 0 0, .int .i64 0, .slice none 0 0, .slice none 0 0, .slice none 0 0, .int .i64 0, .int .i64 0, .int .i64 0, .int .i64 0] 55)) (w.heap.size + 1) _ #[.int .i64 4, .slice none 0 0, .int .i64 0, .int .i64 0, .int .i64 0, .int .i64 0, .int .i64 0, .int .i64 0, .int .i64 0, .int .i64 0, .int .i64 0, .slice none 0 0, .int .i64 1, .slice none 0 0, .string ⟨#[]⟩, .slice none 0 0, .int .i64 0, .int .i64 0, .int .i64 0, .int .i64 0, .string ⟨#[]⟩, .string ⟨#[]⟩, .int .i64 0, .int .i64 0, .int .i64 0, .slice none 0 0, .slice none 0 0, .int .i64 0, .slice none 0 0, .slice none 0 0, .slice none 0 0, .int .i64 0, .int .i64 0, .int .i64 0, .int .i64 0] 55 _ HZ.out
  refine bodyPost_ret (results_cell_row Try.results11 _ _ (w.heap.size + 1) 55 _ (0, 0) _ rfl hz hu0 rfl HI.out) rfl ?_
  exact ⟨rfl, below_setRow HB.out (Nat.le_succ _) _⟩
set_option maxRecDepth 100000 in
set_option maxHeartbeats 4000000 in
theorem op_samp (a s : Int) (h0 : 1 ≤ s) (h1 : s ≤ 255) (w : World) : Calls Try.prog 11 #[.agg #[.int .u16 a, .int .u8 s]] w fun e w' => ∃ A, e = .returned (.agg #[.int .i64 1, .slice A 1 1, .int .i64 1, .int .i64 1, .int .i64 0, .int .i64 0, .int .i64 0, .int .i64 0, .int .i64 0, .int .i64 0, .int .i64 0, .slice none 0 0, .int .i64 0, .slice none 0 0, .string ⟨#[]⟩, .slice none 0 0, .int .i64 0, .int .i64 0, .int .i64 0, .int .i64 0, .string ⟨#[]⟩, .string ⟨#[]⟩, .int .i64 0, .int .i64 0, .int .i64 0, .slice none 0 0, .slice none 0 0, .int .i64 0, .slice none 0 0, .slice none 0 0, .slice none 0 0, .int .i64 0, .int .i64 0, .int .i64 0, .int .i64 0]) ∧ Kd.F k72 w' (fun k => w.heap.size ≤ k) A 1 (lv (opB s)) ∧ Below w.heap.size w w' := by
  have hu0 := Try.underlying55
  have hu1 := Try.underlying33
  have hu2 := Try.underlying44
  have HI := Aside0.mk (show (Try.prog.info? 55).map (·.size) = some 35 by kernel_rfl)
  have HONE := Aside0.mk (fun A : Option Addr => show (#[.int .i64 1, .slice A 1 1, .int .i64 1, .int .i64 1, .int .i64 0, .int .i64 0, .int .i64 0, .int .i64 0, .int .i64 0, .int .i64 0, .int .i64 0, .slice none 0 0, .int .i64 0, .slice none 0 0, .string ⟨#[]⟩, .slice none 0 0, .int .i64 0, .int .i64 0, .int .i64 0, .int .i64 0, .string ⟨#[]⟩, .string ⟨#[]⟩, .int .i64 0, .int .i64 0, .int .i64 0, .slice none 0 0, .slice none 0 0, .int .i64 0, .slice none 0 0, .slice none 0 0, .slice none 0 0, .int .i64 0, .int .i64 0, .int .i64 0, .int .i64 0] : Array Value).all (·.oneCell') = true by simp [Value.oneCell'])
  have HX := Aside0.mk (heap_alloc_keep (o := (.cells #[.int .i64 0, .slice none 0 0, .int .i64 0, .int .i64 0, .int .i64 0, .int .i64 0, .int .i64 0, .int .i64 0, .int .i64 0, .int .i64 0, .int .i64 0, .slice none 0 0, .int .i64 0, .slice none 0 0, .string ⟨#[]⟩, .slice none 0 0, .int .i64 0, .int .i64 0, .int .i64 0, .int .i64 0, .string ⟨#[]⟩, .string ⟨#[]⟩, .int .i64 0, .int .i64 0, .int .i64 0, .slice none 0 0, .slice none 0 0, .int .i64 0, .slice none 0 0, .slice none 0 0, .slice none 0 0, .int .i64 0, .int .i64 0, .int .i64 0, .int .i64 0] 55)) (heap_alloc_new w (.cells #[.int .u16 a, .int .u8 s] 33)))
  have HZ0 := Aside0.mk (heap_alloc_new (w.alloc (.cells #[.int .u16 a, .int .u8 s] 33)) (.cells #[.int .i64 0, .slice none 0 0, .int .i64 0, .int .i64 0, .int .i64 0, .int .i64 0, .int .i64 0, .int .i64 0, .int .i64 0, .int .i64 0, .int .i64 0, .slice none 0 0, .int .i64 0, .slice none 0 0, .string ⟨#[]⟩, .slice none 0 0, .int .i64 0, .int .i64 0, .int .i64 0, .int .i64 0, .string ⟨#[]⟩, .string ⟨#[]⟩, .int .i64 0, .int .i64 0, .int .i64 0, .slice none 0 0, .slice none 0 0, .int .i64 0, .slice none 0 0, .slice none 0 0, .slice none 0 0, .int .i64 0, .int .i64 0, .int .i64 0, .int .i64 0] 55))
  rw [World.size_alloc] at HZ0
  have HB0 := Aside0.mk (below_alloc (below_alloc (Below.refl _ w) (.cells #[.int .u16 a, .int .u8 s] 33)) (.cells #[.int .i64 0, .slice none 0 0, .int .i64 0, .int .i64 0, .int .i64 0, .int .i64 0, .int .i64 0, .int .i64 0, .int .i64 0, .int .i64 0, .int .i64 0, .slice none 0 0, .int .i64 0, .slice none 0 0, .string ⟨#[]⟩, .slice none 0 0, .int .i64 0, .int .i64 0, .int .i64 0, .int .i64 0, .string ⟨#[]⟩, .string ⟨#[]⟩, .int .i64 0, .int .i64 0, .int .i64 0, .slice none 0 0, .slice none 0 0, .int .i64 0, .slice none 0 0, .slice none 0 0, .slice none 0 0, .int .i64 0, .int .i64 0, .int .i64 0, .int .i64 0] 55))
  have HSP := Aside0.mk (fun W => sample_calls (opB s) W)
  have x0 := (blk_cell HX.out 0).trans rfl; have x1 := (blk_cell HX.out 1).trans rfl; simp only [List.getElem?_toArray, List.getElem?_cons_zero, List.getElem?_cons_succ] at x0 x1
  have hq0 : 0 ≤ s % 8 := by omega
  have hq1 : s % 8 < 8 := by omega
  have dz : (s == 0) = false := by simp; omega
  have hwr : IntKind.u8.wrap (97 + s % 8) = 97 + s % 8 := by simp [IntKind.wrap, IntKind.signed, IntKind.bits]; omega
  have HK8 := heap_alloc_new ((w.alloc (.cells #[.int .u16 a, .int .u8 s] 33)).alloc (.cells #[.int .i64 0, .slice none 0 0, .int .i64 0, .int .i64 0, .int .i64 0, .int .i64 0, .int .i64 0, .int .i64 0, .int .i64 0, .int .i64 0, .int .i64 0, .slice none 0 0, .int .i64 0, .slice none 0 0, .string ⟨#[]⟩, .slice none 0 0, .int .i64 0, .int .i64 0, .int .i64 0, .int .i64 0, .string ⟨#[]⟩, .string ⟨#[]⟩, .int .i64 0, .int .i64 0, .int .i64 0, .slice none 0 0, .slice none 0 0, .int .i64 0, .slice none 0 0, .slice none 0 0, .slice none 0 0, .int .i64 0, .int .i64 0, .int .i64 0, .int .i64 0] 55)) (.cells #[.int .u8 (97 + s % 8)] 5)
  simp only [World.size_alloc] at HK8
  have kcv : (convert 82 9 (.slice (some ⟨w.heap.size + 1 + 1, 0, none⟩) 1 1)).run Try.prog (((w.alloc (.cells #[.int .u16 a, .int .u8 s] 33)).alloc (.cells #[.int .i64 0, .slice none 0 0, .int .i64 0, .int .i64 0, .int .i64 0, .int .i64 0, .int .i64 0, .int .i64 0, .int .i64 0, .int .i64 0, .int .i64 0, .slice none 0 0, .int .i64 0, .slice none 0 0, .string ⟨#[]⟩, .slice none 0 0, .int .i64 0, .int .i64 0, .int .i64 0, .int .i64 0, .string ⟨#[]⟩, .string ⟨#[]⟩, .int .i64 0, .int .i64 0, .int .i64 0, .slice none 0 0, .slice none 0 0, .int .i64 0, .slice none 0 0, .slice none 0 0, .slice none 0 0, .int .i64 0, .int .i64 0, .int .i64 0, .int .i64 0] 55)).alloc (.cells #[.int .u8 (97 + s % 8)] 5)) = .ok (.string (opB s)) (((w.alloc (.cells #[.int .u16 a, .int .u8 s] 33)).alloc (.cells #[.int .i64 0, .slice none 0 0, .int .i64 0, .int .i64 0, .int .i64 0, .int .i64 0, .int .i64 0, .int .i64 0, .int .i64 0, .int .i64 0, .int .i64 0, .slice none 0 0, .int .i64 0, .slice none 0 0, .string ⟨#[]⟩, .slice none 0 0, .int .i64 0, .int .i64 0, .int .i64 0, .int .i64 0, .string ⟨#[]⟩, .string ⟨#[]⟩, .int .i64 0, .int .i64 0, .int .i64 0, .slice none 0 0, .slice none 0 0, .int .i64 0, .slice none 0 0, .slice none 0 0, .slice none 0 0, .int .i64 0, .int .i64 0, .int .i64 0, .int .i64 0] 55)).alloc (.cells #[.int .u8 (97 + s % 8)] 5)) := by
    refine Kd.C_string Try.underlying82 Try.underlying5 Try.underlying9 ?_
    refine ⟨rfl, by simp, fun _ => ⟨_, rfl, fun j p hj => ?_⟩⟩
    rcases j with _ | j
    · simp at hj; subst hj
      refine ⟨[.int .u8 (97 + s % 8)], rfl, rfl, fun i u hu => ?_⟩
      rcases i with _ | i
      · simp at hu; subst hu
        rw [add_plain]
        exact cell_of_heap HK8 _ _ (by simp [Kd.int, Kd.scalar])
      · simp at hu
    · simp at hj
  clear HK8
  have HB1 := Aside0.mk (below_alloc HB0.out (.cells #[.int .u8 (97 + s % 8)] 5))
  have HZ1 := Aside0.mk (heap_alloc_keep (o := (.cells #[.int .u8 (97 + s % 8)] 5)) HZ0.out)
  have hmo : Try.prog.follows .mixedOrders = true := by kernel_rfl
  go_enter Try.func11, Try.ntmps11
  go_wp2_with (first
    | (go_at_call 27; (with_reducible refine (HSP.out _).mono ?_); rintro e w1 ⟨A, rfl, hF, hb⟩; have HB2 := Aside0.mk (HB1.out.trans (hb.mono HB1.out.size)); have HZ2 := Aside0.mk ((hb.block (w.heap.size + 1) (heap_lt HZ1.out)).trans HZ1.out); have HF := Aside0.mk hF; clear hb hF)
    | (refine store_row' 55 (.tmp 2) (.tmp 14) (w.heap.size + 1) #[.int .i64 1, .slice A 1 1, .int .i64 1, .int .i64 1, .int .i64 0, .int .i64 0, .int .i64 0, .int .i64 0, .int .i64 0, .int .i64 0, .int .i64 0, .slice none 0 0, .int .i64 0, .slice none 0 0, .string ⟨#[]⟩, .slice none 0 0, .int .i64 0, .int .i64 0, .int .i64 0, .int .i64 0, .string ⟨#[]⟩, .string ⟨#[]⟩, .int .i64 0, .int .i64 0, .int .i64 0, .slice none 0 0, .slice none 0 0, .int .i64 0, .slice none 0 0, .slice none 0 0, .slice none 0 0, .int .i64 0, .int .i64 0, .int .i64 0, .int .i64 0] 55 #[.int .i64 0, .slice none 0 0, .int .i64 0, .int .i64 0, .int .i64 0, .int .i64 0, .int .i64 0, .int .i64 0, .int .i64 0, .int .i64 0, .int .i64 0, .slice none 0 0, .int .i64 0, .slice none 0 0, .string ⟨#[]⟩, .slice none 0 0, .int .i64 0, .int .i64 0, .int .i64 0, .int .i64 0, .string ⟨#[]⟩, .string ⟨#[]⟩, .int .i64 0, .int .i64 0, .int .i64 0, .slice none 0 0, .slice none 0 0, .int .i64 0, .slice none 0 0, .slice none 0 0, .slice none 0 0, .int .i64 0, .int .i64 0, .int .i64 0, .int .i64 0] HZ2.out HI.out rfl (HONE.out A) ?_ ?_ ?_ ?_ ?_ ?_; rfl; rfl; rfl; rfl; rfl))
  have hz := setRow_heap w1 (w.heap.size + 1) _ #[.int .i64 1, .slice A 1 1, .int .i64 1, .int .i64 1, .int .i64 0, .int .i64 0, .int .i64 0, .int .i64 0, .int .i64 0, .int .i64 0, .int .i64 0, .slice none 0 0, .int .i64 0, .slice none 0 0, .string ⟨#[]⟩, .slice none 0 0, .int .i64 0, .int .i64 0, .int .i64 0, .int .i64 0, .string ⟨#[]⟩, .string ⟨#[]⟩, .int .i64 0, .int .i64 0, .int .i64 0, .slice none 0 0, .slice none 0 0, .int .i64 0, .slice none 0 0, .slice none 0 0, .slice none 0 0, .int .i64 0, .int .i64 0, .int .i64 0, .int .i64 0] 55 _ HZ2.out
  refine bodyPost_ret (results_cell_row Try.results11 _ _ (w.heap.size + 1) 55 _ (0, 0) _ rfl hz hu0 rfl HI.out) rfl ?_
  refine ⟨A, rfl, Kd.F_mono (Kd.F_step HF.out (fun k hk _ => setRow_other _ _ _ _ (by simp at hk; omega))) (fun k hk => by simp at hk; omega), below_setRow HB2.out (Nat.le_succ _) _⟩
end Go.Proofs.Ytakobehkajphpaa.H
/- The operation of any offer, and quota.Admit at it. -/
namespace Go.Proofs.Ytakobehkajphpaa.H
open Go Go.RowKit Go.Proofs.YtakobehkajphpaaW.PrintWords Go.Proofs.YtakobehkajphpaaW.PrintLast Go.Proofs.YtakobehkajphpaaW.PrintMore Go.Proofs.Ytakobehkajphpaa.PAll
set_option linter.unusedVariables false
set_option linter.unusedSimpArgs false

def opV (s : Int) (A : Option Addr) : Value := if s = 0 then .agg #[.int .i64 4, .slice none 0 0, .int .i64 0, .int .i64 0, .int .i64 0, .int .i64 0, .int .i64 0, .int .i64 0, .int .i64 0, .int .i64 0, .int .i64 0, .slice none 0 0, .int .i64 1, .slice none 0 0, .string ⟨#[]⟩, .slice none 0 0, .int .i64 0, .int .i64 0, .int .i64 0, .int .i64 0, .string ⟨#[]⟩, .string ⟨#[]⟩, .int .i64 0, .int .i64 0, .int .i64 0, .slice none 0 0, .slice none 0 0, .int .i64 0, .slice none 0 0, .slice none 0 0, .slice none 0 0, .int .i64 0, .int .i64 0, .int .i64 0, .int .i64 0] else .agg #[.int .i64 1, .slice A 1 1, .int .i64 1, .int .i64 1, .int .i64 0, .int .i64 0, .int .i64 0, .int .i64 0, .int .i64 0, .int .i64 0, .int .i64 0, .slice none 0 0, .int .i64 0, .slice none 0 0, .string ⟨#[]⟩, .slice none 0 0, .int .i64 0, .int .i64 0, .int .i64 0, .int .i64 0, .string ⟨#[]⟩, .string ⟨#[]⟩, .int .i64 0, .int .i64 0, .int .i64 0, .slice none 0 0, .slice none 0 0, .int .i64 0, .slice none 0 0, .slice none 0 0, .slice none 0 0, .int .i64 0, .int .i64 0, .int .i64 0, .int .i64 0]
def opOK (W : World) (ok : Nat → Prop) (s : Int) (A : Option Addr) : Prop := s ≠ 0 → Kd.F k72 W ok A 1 (lv (opB s))
theorem opOK_mono {W : World} {ok ok' : Nat → Prop} {s : Int} {A : Option Addr} (h : opOK W ok s A) (hk : ∀ k, ok k → ok' k) : opOK W ok' s A := fun hs => Kd.F_mono (h hs) hk
theorem opOK_alloc {W : World} {ok : Nat → Prop} {s : Int} {A : Option Addr} (h : opOK (W) (fun k => ok k ∧ k < W.heap.size) s A) (o : Obj) : opOK (W.alloc o) ok s A := fun hs => Kd.F_mono (Kd.F_below (h hs) (below_alloc (Below.refl _ _) o)) (fun k hk => hk.1)
theorem opOK_below {W W' : World} {ok : Nat → Prop} {s : Int} {A : Option Addr} (h : opOK W ok s A) (hb : Below W.heap.size W W') (hk : ∀ k, ok k → k < W.heap.size) : opOK W' ok s A := fun hs => Kd.F_step (h hs) (fun k h1 h2 => hb.block k h2)
theorem op_any (a s : Int) (h0 : 0 ≤ s) (h1 : s ≤ 255) (w : World) : Calls Try.prog 11 #[.agg #[.int .u16 a, .int .u8 s]] w fun e w' => ∃ A, e = .returned (opV s A) ∧ opOK w' (fun k => w.heap.size ≤ k ∧ k < w'.heap.size) s A ∧ Below w.heap.size w w' := by
  by_cases hs : s = 0
  · subst hs
    exact (op_log a w).mono fun e w' ⟨he, hb⟩ => ⟨none, by rw [he]; rfl, fun h => absurd rfl h, hb⟩
  · refine (op_samp a s (by omega) h1 w).mono fun e w' ⟨A, he, hF, hb⟩ => ⟨A, by rw [he]; unfold opV; rw [if_neg hs], fun _ => Kd.F_bound hF, hb⟩
theorem Admit_any (t : TV) (hv : ValT t) (hS : SmallT t) (now : Int) (h0 : t.clock ≤ now) (h1 : now ≤ 1099511627776) (s : Int) (A : Option Addr) (c : Nat) (A' : Option Addr) (w : World)
    (ok : Nat → Prop) (hr : Kd.F kLL w ok A t.ser.length t.ser) (hc : t.ser.length ≤ c) (hr' : opOK w ok s A') :
    Calls Try.prog 10 #[tv t (.slice A t.ser.length c), opV s A', .int .i64 now] w (RTF w ok (admT (fillT t now) (opS s))) := by
  by_cases hs : s = 0
  · subst hs
    exact Admit_log t hv hS now h0 h1 A c w ok hr hc
  · unfold opV opS
    rw [if_neg hs, if_neg hs]
    exact Admit_sample t hv hS now h0 h1 (opB s) (opB_ne s) (by rw [opB_size]; omega) A c A' 1 w ok hr hc (hr' hs) (Nat.le_refl _)
end Go.Proofs.Ytakobehkajphpaa.H
