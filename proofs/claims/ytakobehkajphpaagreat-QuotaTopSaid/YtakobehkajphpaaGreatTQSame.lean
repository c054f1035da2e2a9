/- Offered, the reference's, and its Same. -/
import Derived.Test.YtakobehkajphpaaGreatTQFill
namespace Go.Proofs.YtakobehkajphpaaGreat.H
open Go Go.RowKit Go.Proofs.YtakobehkajphpaaGreatW.PrintWords Go.Proofs.YtakobehkajphpaaGreatW.PrintLast Go.Proofs.YtakobehkajphpaaGreatW.PrintMore Go.Proofs.YtakobehkajphpaaGreat.PAll
attribute [local go_sem] max2_int min2_int max_two min_two
set_option linter.unusedVariables false
set_option linter.unusedSimpArgs false

set_option maxRecDepth 100000 in
set_option maxHeartbeats 4000000 in
theorem QOffered_calls (t : TV) (hS : SmallT t) (A : Option Addr) (c : Nat) (w : World) (hr : Kd.C kLL w A t.ser.length t.ser) (hc : t.ser.length ≤ c) :
    Calls Tryz.prog 24 #[tv t (.slice A t.ser.length c)] w fun e w' => e = .returned (.int .i64 (offT t)) ∧ Below w.heap.size w w' := by
  have HCK := Aside0.mk (fun W (h : Below w.heap.size w W) => QCheck_calls t hS A c W (Kd.C_below hr h) hc)
  have hu := Tryz.underlying24
  have hbx := heap_alloc_new w (.cells #[.string t.nm, .int .i64 t.rate, .int .i64 t.burst, .int .i64 t.level, .int .i64 t.clock, .int .i64 t.mx, .slice A t.ser.length c, .int .i64 t.acc, .int .i64 t.rr, .int .i64 t.rs] 24)
  have HBX := Aside0.mk hbx
  have HW0 := Aside0.mk (below_alloc (Below.refl _ w) (.cells #[.string t.nm, .int .i64 t.rate, .int .i64 t.burst, .int .i64 t.level, .int .i64 t.clock, .int .i64 t.mx, .slice A t.ser.length c, .int .i64 t.acc, .int .i64 t.rr, .int .i64 t.rs] 24))
  have HSZ := Aside0.mk (show w.heap.size < (w.alloc (.cells #[.string t.nm, .int .i64 t.rate, .int .i64 t.burst, .int .i64 t.level, .int .i64 t.clock, .int .i64 t.mx, .slice A t.ser.length c, .int .i64 t.acc, .int .i64 t.rr, .int .i64 t.rs] 24)).heap.size by simp)
  have x0 := (blk_cell hbx 0).trans rfl; have x1 := (blk_cell hbx 1).trans rfl; have x2 := (blk_cell hbx 2).trans rfl; have x3 := (blk_cell hbx 3).trans rfl; have x4 := (blk_cell hbx 4).trans rfl; have x5 := (blk_cell hbx 5).trans rfl; have x6 := (blk_cell hbx 6).trans rfl; have x7 := (blk_cell hbx 7).trans rfl; have x8 := (blk_cell hbx 8).trans rfl; have x9 := (blk_cell hbx 9).trans rfl; simp only [List.getElem?_toArray, List.getElem?_cons_zero, List.getElem?_cons_succ] at x0 x1 x2 x3 x4 x5 x6 x7 x8 x9
  clear hbx hr hS
  by_cases hv : valB t = true
  case neg =>
    have HO := Aside0.mk (show offT t = 0 from if_neg hv)
    have hk : chkT t = 1 := if_neg hv
    rw [hk] at HCK
    clear hk hv
    go_enter Tryz.func24, Tryz.ntmps24
    go_wp2_with (go_at_call 25; (with_reducible refine (HCK.out _ HW0.out).mono ?_); rintro e w1 ⟨rfl, hb⟩; have hx1 := (hb.block w.heap.size HSZ.out).trans HBX.out; have HB1 := Aside0.mk (HW0.out.trans (hb.mono HW0.out.size)); clear x0 x1 x2 x3 x4 x5 x6 x7 x8 x9; have x0 := (blk_cell hx1 0).trans rfl; have x1 := (blk_cell hx1 1).trans rfl; have x2 := (blk_cell hx1 2).trans rfl; have x3 := (blk_cell hx1 3).trans rfl; have x4 := (blk_cell hx1 4).trans rfl; have x5 := (blk_cell hx1 5).trans rfl; have x6 := (blk_cell hx1 6).trans rfl; have x7 := (blk_cell hx1 7).trans rfl; have x8 := (blk_cell hx1 8).trans rfl; have x9 := (blk_cell hx1 9).trans rfl; simp only [List.getElem?_toArray, List.getElem?_cons_zero, List.getElem?_cons_succ] at x0 x1 x2 x3 x4 x5 x6 x7 x8 x9; clear hb hx1)
    go_ret
    exact ⟨by rw [HO.out]; rfl, HB1.out⟩
  case pos =>
    have hV := (val_iff t).1 hv
    have hk : chkT t = 0 := if_pos hv
    rw [hk] at HCK
    have a0 := hV.a0
    have a1 := hV.a1
    have r0 := hV.rr0
    have r1 := hV.rr1
    have s0 := hV.rs0
    have s1 := hV.rs1
    clear hk hV
    by_cases hs : t.acc + t.rr + t.rs ≤ 1152921504606846976
    case pos =>
      have HO := Aside0.mk (show offT t = t.acc + t.rr + t.rs from (if_pos hv).trans (if_pos hs))
      have d1 : decide (1152921504606846976 < t.acc + t.rr + t.rs) = false := decide_eq_false (by omega)
      clear hv
      go_enter Tryz.func24, Tryz.ntmps24
      go_wp2_with (go_at_call 25; (with_reducible refine (HCK.out _ HW0.out).mono ?_); rintro e w1 ⟨rfl, hb⟩; have hx1 := (hb.block w.heap.size HSZ.out).trans HBX.out; have HB1 := Aside0.mk (HW0.out.trans (hb.mono HW0.out.size)); clear x0 x1 x2 x3 x4 x5 x6 x7 x8 x9; have x0 := (blk_cell hx1 0).trans rfl; have x1 := (blk_cell hx1 1).trans rfl; have x2 := (blk_cell hx1 2).trans rfl; have x3 := (blk_cell hx1 3).trans rfl; have x4 := (blk_cell hx1 4).trans rfl; have x5 := (blk_cell hx1 5).trans rfl; have x6 := (blk_cell hx1 6).trans rfl; have x7 := (blk_cell hx1 7).trans rfl; have x8 := (blk_cell hx1 8).trans rfl; have x9 := (blk_cell hx1 9).trans rfl; simp only [List.getElem?_toArray, List.getElem?_cons_zero, List.getElem?_cons_succ] at x0 x1 x2 x3 x4 x5 x6 x7 x8 x9; clear hb hx1)
      all_goals first
        | (exfalso; omega)
        | (go_ret; exact ⟨by rw [HO.out]; rfl, HB1.out⟩)
    case neg =>
      have HO := Aside0.mk (show offT t = 1152921504606846976 from (if_pos hv).trans (if_neg hs))
      have d1 : decide (1152921504606846976 < t.acc + t.rr + t.rs) = true := decide_eq_true (by omega)
      clear hv
      go_enter Tryz.func24, Tryz.ntmps24
      go_wp2_with (go_at_call 25; (with_reducible refine (HCK.out _ HW0.out).mono ?_); rintro e w1 ⟨rfl, hb⟩; have hx1 := (hb.block w.heap.size HSZ.out).trans HBX.out; have HB1 := Aside0.mk (HW0.out.trans (hb.mono HW0.out.size)); clear x0 x1 x2 x3 x4 x5 x6 x7 x8 x9; have x0 := (blk_cell hx1 0).trans rfl; have x1 := (blk_cell hx1 1).trans rfl; have x2 := (blk_cell hx1 2).trans rfl; have x3 := (blk_cell hx1 3).trans rfl; have x4 := (blk_cell hx1 4).trans rfl; have x5 := (blk_cell hx1 5).trans rfl; have x6 := (blk_cell hx1 6).trans rfl; have x7 := (blk_cell hx1 7).trans rfl; have x8 := (blk_cell hx1 8).trans rfl; have x9 := (blk_cell hx1 9).trans rfl; simp only [List.getElem?_toArray, List.getElem?_cons_zero, List.getElem?_cons_succ] at x0 x1 x2 x3 x4 x5 x6 x7 x8 x9; clear hb hx1)
      all_goals first
        | (exfalso; omega)
        | (go_ret; exact ⟨by rw [HO.out]; rfl, HB1.out⟩)

end Go.Proofs.YtakobehkajphpaaGreat.H
