/- Offered, the reference's, and its Same. -/
import Derived.Test.YtakobehkajphpaaQFill
namespace Go.Proofs.Ytakobehkajphpaa.H
open Go Go.RowKit Go.Proofs.YtakobehkajphpaaW.PrintWords Go.Proofs.YtakobehkajphpaaW.PrintLast Go.Proofs.YtakobehkajphpaaW.PrintMore Go.Proofs.Ytakobehkajphpaa.PAll
attribute [local go_sem] max2_int min2_int max_two min_two
set_option linter.unusedVariables false
set_option linter.unusedSimpArgs false

set_option maxRecDepth 100000 in
set_option maxHeartbeats 4000000 in
theorem QOffered_calls (t : TV) (hS : SmallT t) (A : Option Addr) (c : Nat) (w : World) (hr : Kd.C kLL w A t.ser.length t.ser) (hc : t.ser.length ≤ c) :
    Calls Try.prog 19 #[tv t (.slice A t.ser.length c)] w fun e w' => e = .returned (.int .i64 (offT t)) ∧ Below w.heap.size w w' := by
  have HCK := Aside0.mk (fun W (h : Below w.heap.size w W) => QCheck_calls t hS A c W (Kd.C_below hr h) hc)
  have hu := Try.underlying25
  have hbx := heap_alloc_new w (.cells #[.string t.nm, .int .i64 t.rate, .int .i64 t.burst, .int .i64 t.level, .int .i64 t.clock, .int .i64 t.mx, .slice A t.ser.length c, .int .i64 t.acc, .int .i64 t.rr, .int .i64 t.rs] 25)
  have HBX := Aside0.mk hbx
  have HW0 := Aside0.mk (below_alloc (Below.refl _ w) (.cells #[.string t.nm, .int .i64 t.rate, .int .i64 t.burst, .int .i64 t.level, .int .i64 t.clock, .int .i64 t.mx, .slice A t.ser.length c, .int .i64 t.acc, .int .i64 t.rr, .int .i64 t.rs] 25))
  have HSZ := Aside0.mk (show w.heap.size < (w.alloc (.cells #[.string t.nm, .int .i64 t.rate, .int .i64 t.burst, .int .i64 t.level, .int .i64 t.clock, .int .i64 t.mx, .slice A t.ser.length c, .int .i64 t.acc, .int .i64 t.rr, .int .i64 t.rs] 25)).heap.size by simp)
  have x0 := (blk_cell hbx 0).trans rfl; have x1 := (blk_cell hbx 1).trans rfl; have x2 := (blk_cell hbx 2).trans rfl; have x3 := (blk_cell hbx 3).trans rfl; have x4 := (blk_cell hbx 4).trans rfl; have x5 := (blk_cell hbx 5).trans rfl; have x6 := (blk_cell hbx 6).trans rfl; have x7 := (blk_cell hbx 7).trans rfl; have x8 := (blk_cell hbx 8).trans rfl; have x9 := (blk_cell hbx 9).trans rfl; simp only [List.getElem?_toArray, List.getElem?_cons_zero, List.getElem?_cons_succ] at x0 x1 x2 x3 x4 x5 x6 x7 x8 x9
  clear hbx hr hS
  by_cases hv : valB t = true
  case neg =>
    have HO := Aside0.mk (show offT t = 0 from if_neg hv)
    have hk : chkT t = 1 := if_neg hv
    rw [hk] at HCK
    clear hk hv
    go_enter Try.func19, Try.ntmps19
    go_wp2_with (go_at_call 17; (with_reducible refine (HCK.out _ HW0.out).mono ?_); rintro e w1 ⟨rfl, hb⟩; have hx1 := (hb.block w.heap.size HSZ.out).trans HBX.out; have HB1 := Aside0.mk (HW0.out.trans (hb.mono HW0.out.size)); clear x0 x1 x2 x3 x4 x5 x6 x7 x8 x9; have x0 := (blk_cell hx1 0).trans rfl; have x1 := (blk_cell hx1 1).trans rfl; have x2 := (blk_cell hx1 2).trans rfl; have x3 := (blk_cell hx1 3).trans rfl; have x4 := (blk_cell hx1 4).trans rfl; have x5 := (blk_cell hx1 5).trans rfl; have x6 := (blk_cell hx1 6).trans rfl; have x7 := (blk_cell hx1 7).trans rfl; have x8 := (blk_cell hx1 8).trans rfl; have x9 := (blk_cell hx1 9).trans rfl; simp only [List.getElem?_toArray, List.getElem?_cons_zero, List.getElem?_cons_succ] at x0 x1 x2 x3 x4 x5 x6 x7 x8 x9; clear hb hx1)
    go_ret
    exact ⟨by rw [HO.out]; rfl, HB1.out⟩
  case pos =>
    have hV := (val_iff t).1 hv
    have hk : chkT t = 0 := if_pos hv
    rw [hk] at HCK
    have a0 := hV.a0
    have a1 := hV.a1
    have r0 := hV.rr0
    have r1 := hV.rr1
    have s0 := hV.rs0
    have s1 := hV.rs1
    clear hk hV
    by_cases hs : t.acc + t.rr + t.rs ≤ 1152921504606846976
    case pos =>
      have HO := Aside0.mk (show offT t = t.acc + t.rr + t.rs from (if_pos hv).trans (if_pos hs))
      have d1 : decide (1152921504606846976 < t.acc + t.rr + t.rs) = false := decide_eq_false (by omega)
      clear hv
      go_enter Try.func19, Try.ntmps19
      go_wp2_with (go_at_call 17; (with_reducible refine (HCK.out _ HW0.out).mono ?_); rintro e w1 ⟨rfl, hb⟩; have hx1 := (hb.block w.heap.size HSZ.out).trans HBX.out; have HB1 := Aside0.mk (HW0.out.trans (hb.mono HW0.out.size)); clear x0 x1 x2 x3 x4 x5 x6 x7 x8 x9; have x0 := (blk_cell hx1 0).trans rfl; have x1 := (blk_cell hx1 1).trans rfl; have x2 := (blk_cell hx1 2).trans rfl; have x3 := (blk_cell hx1 3).trans rfl; have x4 := (blk_cell hx1 4).trans rfl; have x5 := (blk_cell hx1 5).trans rfl; have x6 := (blk_cell hx1 6).trans rfl; have x7 := (blk_cell hx1 7).trans rfl; have x8 := (blk_cell hx1 8).trans rfl; have x9 := (blk_cell hx1 9).trans rfl; simp only [List.getElem?_toArray, List.getElem?_cons_zero, List.getElem?_cons_succ] at x0 x1 x2 x3 x4 x5 x6 x7 x8 x9; clear hb hx1)
      all_goals first
        | (exfalso; omega)
        | (go_ret; exact ⟨by rw [HO.out]; rfl, HB1.out⟩)
    case neg =>
      have HO := Aside0.mk (show offT t = 1152921504606846976 from (if_pos hv).trans (if_neg hs))
      have d1 : decide (1152921504606846976 < t.acc + t.rr + t.rs) = true := decide_eq_true (by omega)
      clear hv
      go_enter Try.func19, Try.ntmps19
      go_wp2_with (go_at_call 17; (with_reducible refine (HCK.out _ HW0.out).mono ?_); rintro e w1 ⟨rfl, hb⟩; have hx1 := (hb.block w.heap.size HSZ.out).trans HBX.out; have HB1 := Aside0.mk (HW0.out.trans (hb.mono HW0.out.size)); clear x0 x1 x2 x3 x4 x5 x6 x7 x8 x9; have x0 := (blk_cell hx1 0).trans rfl; have x1 := (blk_cell hx1 1).trans rfl; have x2 := (blk_cell hx1 2).trans rfl; have x3 := (blk_cell hx1 3).trans rfl; have x4 := (blk_cell hx1 4).trans rfl; have x5 := (blk_cell hx1 5).trans rfl; have x6 := (blk_cell hx1 6).trans rfl; have x7 := (blk_cell hx1 7).trans rfl; have x8 := (blk_cell hx1 8).trans rfl; have x9 := (blk_cell hx1 9).trans rfl; simp only [List.getElem?_toArray, List.getElem?_cons_zero, List.getElem?_cons_succ] at x0 x1 x2 x3 x4 x5 x6 x7 x8 x9; clear hb hx1)
      all_goals first
        | (exfalso; omega)
        | (go_ret; exact ⟨by rw [HO.out]; rfl, HB1.out⟩)

set_option maxRecDepth 100000 in
set_option maxHeartbeats 4000000 in
theorem rOffered_calls (t : TV) (hS : SmallT t) (A : Option Addr) (c : Nat) (w : World) (hr : Kd.C kLL w A t.ser.length t.ser) (hc : t.ser.length ≤ c) :
    Calls Try.prog 20 #[tv t (.slice A t.ser.length c)] w fun e w' => e = .returned (.int .i64 (offT t)) ∧ Below w.heap.size w w' := by
  have HCK := Aside0.mk (fun W (h : Below w.heap.size w W) => rCheck_calls t hS A c W (Kd.C_below hr h) hc)
  have hu := Try.underlying25
  have hbx := heap_alloc_new w (.cells #[.string t.nm, .int .i64 t.rate, .int .i64 t.burst, .int .i64 t.level, .int .i64 t.clock, .int .i64 t.mx, .slice A t.ser.length c, .int .i64 t.acc, .int .i64 t.rr, .int .i64 t.rs] 25)
  have HBX := Aside0.mk hbx
  have HW0 := Aside0.mk (below_alloc (Below.refl _ w) (.cells #[.string t.nm, .int .i64 t.rate, .int .i64 t.burst, .int .i64 t.level, .int .i64 t.clock, .int .i64 t.mx, .slice A t.ser.length c, .int .i64 t.acc, .int .i64 t.rr, .int .i64 t.rs] 25))
  have HSZ := Aside0.mk (show w.heap.size < (w.alloc (.cells #[.string t.nm, .int .i64 t.rate, .int .i64 t.burst, .int .i64 t.level, .int .i64 t.clock, .int .i64 t.mx, .slice A t.ser.length c, .int .i64 t.acc, .int .i64 t.rr, .int .i64 t.rs] 25)).heap.size by simp)
  have x0 := (blk_cell hbx 0).trans rfl; have x1 := (blk_cell hbx 1).trans rfl; have x2 := (blk_cell hbx 2).trans rfl; have x3 := (blk_cell hbx 3).trans rfl; have x4 := (blk_cell hbx 4).trans rfl; have x5 := (blk_cell hbx 5).trans rfl; have x6 := (blk_cell hbx 6).trans rfl; have x7 := (blk_cell hbx 7).trans rfl; have x8 := (blk_cell hbx 8).trans rfl; have x9 := (blk_cell hbx 9).trans rfl; simp only [List.getElem?_toArray, List.getElem?_cons_zero, List.getElem?_cons_succ] at x0 x1 x2 x3 x4 x5 x6 x7 x8 x9
  clear hbx hr hS
  by_cases hv : valB t = true
  case neg =>
    have HO := Aside0.mk (show offT t = 0 from if_neg hv)
    have hk : chkT t = 1 := if_neg hv
    rw [hk] at HCK
    clear hk hv
    go_enter Try.func20, Try.ntmps20
    go_wp2_with (go_at_call 18; (with_reducible refine (HCK.out _ HW0.out).mono ?_); rintro e w1 ⟨rfl, hb⟩; have hx1 := (hb.block w.heap.size HSZ.out).trans HBX.out; have HB1 := Aside0.mk (HW0.out.trans (hb.mono HW0.out.size)); clear x0 x1 x2 x3 x4 x5 x6 x7 x8 x9; have x0 := (blk_cell hx1 0).trans rfl; have x1 := (blk_cell hx1 1).trans rfl; have x2 := (blk_cell hx1 2).trans rfl; have x3 := (blk_cell hx1 3).trans rfl; have x4 := (blk_cell hx1 4).trans rfl; have x5 := (blk_cell hx1 5).trans rfl; have x6 := (blk_cell hx1 6).trans rfl; have x7 := (blk_cell hx1 7).trans rfl; have x8 := (blk_cell hx1 8).trans rfl; have x9 := (blk_cell hx1 9).trans rfl; simp only [List.getElem?_toArray, List.getElem?_cons_zero, List.getElem?_cons_succ] at x0 x1 x2 x3 x4 x5 x6 x7 x8 x9; clear hb hx1)
    go_ret
    exact ⟨by rw [HO.out]; rfl, HB1.out⟩
  case pos =>
    have hV := (val_iff t).1 hv
    have hk : chkT t = 0 := if_pos hv
    rw [hk] at HCK
    have a0 := hV.a0
    have a1 := hV.a1
    have r0 := hV.rr0
    have r1 := hV.rr1
    have s0 := hV.rs0
    have s1 := hV.rs1
    clear hk hV
    by_cases hs : t.acc + t.rr + t.rs ≤ 1152921504606846976
    case pos =>
      have HO := Aside0.mk (show offT t = t.acc + t.rr + t.rs from (if_pos hv).trans (if_pos hs))
      have d1 : decide (1152921504606846976 < t.acc + t.rr + t.rs) = false := decide_eq_false (by omega)
      clear hv
      go_enter Try.func20, Try.ntmps20
      go_wp2_with (go_at_call 18; (with_reducible refine (HCK.out _ HW0.out).mono ?_); rintro e w1 ⟨rfl, hb⟩; have hx1 := (hb.block w.heap.size HSZ.out).trans HBX.out; have HB1 := Aside0.mk (HW0.out.trans (hb.mono HW0.out.size)); clear x0 x1 x2 x3 x4 x5 x6 x7 x8 x9; have x0 := (blk_cell hx1 0).trans rfl; have x1 := (blk_cell hx1 1).trans rfl; have x2 := (blk_cell hx1 2).trans rfl; have x3 := (blk_cell hx1 3).trans rfl; have x4 := (blk_cell hx1 4).trans rfl; have x5 := (blk_cell hx1 5).trans rfl; have x6 := (blk_cell hx1 6).trans rfl; have x7 := (blk_cell hx1 7).trans rfl; have x8 := (blk_cell hx1 8).trans rfl; have x9 := (blk_cell hx1 9).trans rfl; simp only [List.getElem?_toArray, List.getElem?_cons_zero, List.getElem?_cons_succ] at x0 x1 x2 x3 x4 x5 x6 x7 x8 x9; clear hb hx1)
      all_goals first
        | (exfalso; omega)
        | (go_ret; exact ⟨by rw [HO.out]; rfl, HB1.out⟩)
    case neg =>
      have HO := Aside0.mk (show offT t = 1152921504606846976 from (if_pos hv).trans (if_neg hs))
      have d1 : decide (1152921504606846976 < t.acc + t.rr + t.rs) = true := decide_eq_true (by omega)
      clear hv
      go_enter Try.func20, Try.ntmps20
      go_wp2_with (go_at_call 18; (with_reducible refine (HCK.out _ HW0.out).mono ?_); rintro e w1 ⟨rfl, hb⟩; have hx1 := (hb.block w.heap.size HSZ.out).trans HBX.out; have HB1 := Aside0.mk (HW0.out.trans (hb.mono HW0.out.size)); clear x0 x1 x2 x3 x4 x5 x6 x7 x8 x9; have x0 := (blk_cell hx1 0).trans rfl; have x1 := (blk_cell hx1 1).trans rfl; have x2 := (blk_cell hx1 2).trans rfl; have x3 := (blk_cell hx1 3).trans rfl; have x4 := (blk_cell hx1 4).trans rfl; have x5 := (blk_cell hx1 5).trans rfl; have x6 := (blk_cell hx1 6).trans rfl; have x7 := (blk_cell hx1 7).trans rfl; have x8 := (blk_cell hx1 8).trans rfl; have x9 := (blk_cell hx1 9).trans rfl; simp only [List.getElem?_toArray, List.getElem?_cons_zero, List.getElem?_cons_succ] at x0 x1 x2 x3 x4 x5 x6 x7 x8 x9; clear hb hx1)
      all_goals first
        | (exfalso; omega)
        | (go_ret; exact ⟨by rw [HO.out]; rfl, HB1.out⟩)

set_option maxRecDepth 100000 in
set_option maxHeartbeats 8000000 in
theorem rSame_calls (t : TV) (hS : SmallT t) (A A' : Option Addr) (c c' : Nat) (w : World) (hr : Kd.C kLL w A t.ser.length t.ser) (hc : t.ser.length ≤ c) (hr' : Kd.C kLL w A' t.ser.length t.ser) (hc' : t.ser.length ≤ c') :
    Calls Try.prog 16 #[tv t (.slice A t.ser.length c), tv t (.slice A' t.ser.length c')] w fun e w' => e = .returned (.bool true) ∧ Below w.heap.size w w' := by
  have HR := Aside0.mk hr
  have HR' := Aside0.mk hr'
  have HSM := Aside0.mk hS
  have hsl := hS.len
  have hu := Try.underlying25
  have hu2 := Try.underlying35
  have hbx := heap_alloc_keep (o := (.cells #[.string t.nm, .int .i64 t.rate, .int .i64 t.burst, .int .i64 t.level, .int .i64 t.clock, .int .i64 t.mx, .slice A' t.ser.length c', .int .i64 t.acc, .int .i64 t.rr, .int .i64 t.rs] 25)) (heap_alloc_new w (.cells #[.string t.nm, .int .i64 t.rate, .int .i64 t.burst, .int .i64 t.level, .int .i64 t.clock, .int .i64 t.mx, .slice A t.ser.length c, .int .i64 t.acc, .int .i64 t.rr, .int .i64 t.rs] 25))
  have hby := heap_alloc_new (w.alloc (.cells #[.string t.nm, .int .i64 t.rate, .int .i64 t.burst, .int .i64 t.level, .int .i64 t.clock, .int .i64 t.mx, .slice A t.ser.length c, .int .i64 t.acc, .int .i64 t.rr, .int .i64 t.rs] 25)) (.cells #[.string t.nm, .int .i64 t.rate, .int .i64 t.burst, .int .i64 t.level, .int .i64 t.clock, .int .i64 t.mx, .slice A' t.ser.length c', .int .i64 t.acc, .int .i64 t.rr, .int .i64 t.rs] 25)
  rw [World.size_alloc] at hby
  have HBX := Aside0.mk hbx
  have HBY := Aside0.mk hby
  have HW0 := Aside0.mk (below_alloc (below_alloc (Below.refl _ w) (.cells #[.string t.nm, .int .i64 t.rate, .int .i64 t.burst, .int .i64 t.level, .int .i64 t.clock, .int .i64 t.mx, .slice A t.ser.length c, .int .i64 t.acc, .int .i64 t.rr, .int .i64 t.rs] 25)) (.cells #[.string t.nm, .int .i64 t.rate, .int .i64 t.burst, .int .i64 t.level, .int .i64 t.clock, .int .i64 t.mx, .slice A' t.ser.length c', .int .i64 t.acc, .int .i64 t.rr, .int .i64 t.rs] 25))
  have x0 := (blk_cell hbx 0).trans rfl; have x1 := (blk_cell hbx 1).trans rfl; have x2 := (blk_cell hbx 2).trans rfl; have x3 := (blk_cell hbx 3).trans rfl; have x4 := (blk_cell hbx 4).trans rfl; have x5 := (blk_cell hbx 5).trans rfl; have x6 := (blk_cell hbx 6).trans rfl; have x7 := (blk_cell hbx 7).trans rfl; have x8 := (blk_cell hbx 8).trans rfl; have x9 := (blk_cell hbx 9).trans rfl; simp only [List.getElem?_toArray, List.getElem?_cons_zero, List.getElem?_cons_succ] at x0 x1 x2 x3 x4 x5 x6 x7 x8 x9
  have y0 := (blk_cell hby 0).trans rfl; have y1 := (blk_cell hby 1).trans rfl; have y2 := (blk_cell hby 2).trans rfl; have y3 := (blk_cell hby 3).trans rfl; have y4 := (blk_cell hby 4).trans rfl; have y5 := (blk_cell hby 5).trans rfl; have y6 := (blk_cell hby 6).trans rfl; have y7 := (blk_cell hby 7).trans rfl; have y8 := (blk_cell hby 8).trans rfl; have y9 := (blk_cell hby 9).trans rfl; simp only [List.getElem?_toArray, List.getElem?_cons_zero, List.getElem?_cons_succ] at y0 y1 y2 y3 y4 y5 y6 y7 y8 y9
  clear hbx hby hr hr' hS
  go_enter Try.func16, Try.ntmps16
  go_wp2_with fail
  go_loopg [5] (t.ser.length) (fun kq v5 w' => ∃ i : Nat, v5 = .int .i64 i ∧ i ≤ t.ser.length ∧ Aside0 (kq = t.ser.length - i) ∧ Aside0 (Below w.heap.size w w') ∧ Aside0 (w'.heap[w.heap.size]? = some (.cells #[.string t.nm, .int .i64 t.rate, .int .i64 t.burst, .int .i64 t.level, .int .i64 t.clock, .int .i64 t.mx, .slice A t.ser.length c, .int .i64 t.acc, .int .i64 t.rr, .int .i64 t.rs] 25 (0, 0))) ∧ Aside0 (w'.heap[w.heap.size + 1]? = some (.cells #[.string t.nm, .int .i64 t.rate, .int .i64 t.burst, .int .i64 t.level, .int .i64 t.clock, .int .i64 t.mx, .slice A' t.ser.length c', .int .i64 t.acc, .int .i64 t.rr, .int .i64 t.rs] 25 (0, 0))))
  case atStart => exact ⟨0, rfl, by omega, ⟨rfl⟩, HW0, HBX, HBY⟩
  case round =>
    obtain ⟨i, rfl, hi, HK, HB, HX, HY⟩ := hrel
    clear x0 x1 x2 x3 x4 x5 x6 x7 x8 x9
    clear y0 y1 y2 y3 y4 y5 y6 y7 y8 y9
    have x0 := (blk_cell HX.out 0).trans rfl; have x1 := (blk_cell HX.out 1).trans rfl; have x2 := (blk_cell HX.out 2).trans rfl; have x3 := (blk_cell HX.out 3).trans rfl; have x4 := (blk_cell HX.out 4).trans rfl; have x5 := (blk_cell HX.out 5).trans rfl; have x6 := (blk_cell HX.out 6).trans rfl; have x7 := (blk_cell HX.out 7).trans rfl; have x8 := (blk_cell HX.out 8).trans rfl; have x9 := (blk_cell HX.out 9).trans rfl; simp only [List.getElem?_toArray, List.getElem?_cons_zero, List.getElem?_cons_succ] at x0 x1 x2 x3 x4 x5 x6 x7 x8 x9
    have y0 := (blk_cell HY.out 0).trans rfl; have y1 := (blk_cell HY.out 1).trans rfl; have y2 := (blk_cell HY.out 2).trans rfl; have y3 := (blk_cell HY.out 3).trans rfl; have y4 := (blk_cell HY.out 4).trans rfl; have y5 := (blk_cell HY.out 5).trans rfl; have y6 := (blk_cell HY.out 6).trans rfl; have y7 := (blk_cell HY.out 7).trans rfl; have y8 := (blk_cell HY.out 8).trans rfl; have y9 := (blk_cell HY.out 9).trans rfl; simp only [List.getElem?_toArray, List.getElem?_cons_zero, List.getElem?_cons_succ] at y0 y1 y2 y3 y4 y5 y6 y7 y8 y9
    by_cases hlt : i < t.ser.length
    · obtain ⟨ad, A1, c1, e1, hcell, hle, hC⟩ := slice_at (Kd.C_below HR.out HB.out) i hlt
      obtain ⟨ad', A2, c2, e2, hcell2, hle2, hC2⟩ := slice_at (Kd.C_below HR'.out HB.out) i hlt
      cases e1
      cases e2
      have pl : (0 ≤ (i : Int)) = True := eq_true (by omega)
      have dl : decide (i < t.ser.length) = true := decide_eq_true hlt
      have dl2 : ((i : Int) < (t.ser.length : Int)) = True := eq_true (by omega)
      have HCM := Aside0.mk (fun W (h : Below wr.heap.size wr W) => show Calls Try.prog 35 #[.slice A1 t.ser[i].length c1, .slice A2 t.ser[i].length c2] W (fun e w' => e = .returned (.int .i64 0) ∧ Drawn0 W w') by
        have := rCompare_calls A1 A2 c1 c2 t.ser[i] t.ser[i] W (Kd.C_below hC h) hle (Kd.C_below hC2 h) hle2 (by have := (HSM.out.ser t.ser[i] (List.getElem_mem hlt)).1; omega)
        rwa [(cmpLL_cm.zero t.ser[i] t.ser[i]).2 rfl] at this)
      clear hC hC2
      generalize t.ser[i] = l at *
      go_wp2_with fail
      go_quiet ((go_at_call 35; (with_reducible refine (HCM.out _ (by repeat (first | exact Below.refl _ _ | apply pw_below_drewN | apply below_drew))).mono ?_); rintro e w' ⟨rfl, ⟨nd, rfl⟩⟩; (first | exact ⟨rfl, _, World.drewN_drewN _ _ _⟩ | exact ⟨rfl, _, Eq.trans (World.drewN_drewN _ _ _) (congrArg (World.drewN _) (Nat.add_assoc _ _ _))⟩)))
      go_wp2
      go_roundg (t.ser.length - (i + 1))
      case measure => have := HK.out; omega
      case rel => exact ⟨i + 1, by simp, by omega, ⟨rfl⟩, ⟨by repeat (first | exact HB.out | apply pw_below_drewN | apply below_drew)⟩, ⟨HX.out⟩, ⟨HY.out⟩⟩
    · have hil : i = t.ser.length := by omega
      have HIL := Aside0.mk hil
      have dl : decide (i < t.ser.length) = false := decide_eq_false hlt
      clear hil
      go_wp2
      go_ret
      exact ⟨by simp, HB.out⟩
end Go.Proofs.Ytakobehkajphpaa.H
