/- Refill, New, Offered, and the reference's; the reference's Same. -/
import Derived.Test.YtakobehkajphpaaQRef
namespace Go.Proofs.Ytakobehkajphpaa.H
open Go Go.RowKit Go.Proofs.YtakobehkajphpaaW.PrintWords Go.Proofs.YtakobehkajphpaaW.PrintLast Go.Proofs.YtakobehkajphpaaW.PrintMore Go.Proofs.Ytakobehkajphpaa.PAll
attribute [local go_sem] max2_int min2_int max_two min_two
set_option linter.unusedVariables false
set_option linter.unusedSimpArgs false

/-- What a function that hands back a tenant and an error leaves. -/
def RT (W : World) (r : TV × Int) (e : Ending) (w' : World) : Prop := ∃ A c, e = .returned (.tuple #[tv r.1 (.slice A r.1.ser.length c), .int .i64 r.2]) ∧ r.1.ser.length ≤ c ∧ Kd.C kLL w' A r.1.ser.length r.1.ser ∧ Below W.heap.size W w'
theorem RT_zero (W w' : World) (k : Int) (hb : Below W.heap.size W w') : RT W (zT, k) (.returned (.tuple #[tv zT (.slice none 0 0), .int .i64 k])) w' := ⟨none, 0, rfl, Nat.le_refl _, Kd.C_nil _ _, hb⟩
theorem refillT_bad {t : TV} {now : Int} (h : ¬ valB t = true) : refillT t now = (zT, 1) := if_neg h
theorem refillT_rng {t : TV} {now : Int} (h : valB t = true) (ho : now < t.clock ∨ 1099511627776 < now) : refillT t now = (zT, 2) := (if_pos h).trans (if_pos ho)
theorem refillT_ok {t : TV} {now : Int} (h : valB t = true) (ho : ¬ (now < t.clock ∨ 1099511627776 < now)) : refillT t now = (fillT t now, 0) := (if_pos h).trans (if_neg ho)
theorem fill_small {t : TV} (h : SmallT t) (now : Int) : SmallT (fillT t now) := ⟨h.nm, h.len, h.ser⟩

/-- Ten stores into one block. -/
def set10 (W : World) (B : Nat) (v0 v1 v2 v3 v4 v5 v6 v7 v8 v9 : Value) : World := (((((((((W.setCell ⟨B, 0, none⟩ v0).setCell ⟨B, 1, none⟩ v1).setCell ⟨B, 2, none⟩ v2).setCell ⟨B, 3, none⟩ v3).setCell ⟨B, 4, none⟩ v4).setCell ⟨B, 5, none⟩ v5).setCell ⟨B, 6, none⟩ v6).setCell ⟨B, 7, none⟩ v7).setCell ⟨B, 8, none⟩ v8).setCell ⟨B, 9, none⟩ v9
theorem set10_cells {W : World} {B : Nat} {c0 c1 c2 c3 c4 c5 c6 c7 c8 c9 : Value} {T : TypeId} (h : W.heap[B]? = some (.cells #[c0, c1, c2, c3, c4, c5, c6, c7, c8, c9] T (0, 0))) (v0 v1 v2 v3 v4 v5 v6 v7 v8 v9 : Value) :
    (set10 W B v0 v1 v2 v3 v4 v5 v6 v7 v8 v9).cell? ⟨B, 0, none⟩ = some v0 ∧ (set10 W B v0 v1 v2 v3 v4 v5 v6 v7 v8 v9).cell? ⟨B, 1, none⟩ = some v1 ∧ (set10 W B v0 v1 v2 v3 v4 v5 v6 v7 v8 v9).cell? ⟨B, 2, none⟩ = some v2 ∧ (set10 W B v0 v1 v2 v3 v4 v5 v6 v7 v8 v9).cell? ⟨B, 3, none⟩ = some v3 ∧ (set10 W B v0 v1 v2 v3 v4 v5 v6 v7 v8 v9).cell? ⟨B, 4, none⟩ = some v4 ∧ (set10 W B v0 v1 v2 v3 v4 v5 v6 v7 v8 v9).cell? ⟨B, 5, none⟩ = some v5 ∧ (set10 W B v0 v1 v2 v3 v4 v5 v6 v7 v8 v9).cell? ⟨B, 6, none⟩ = some v6 ∧ (set10 W B v0 v1 v2 v3 v4 v5 v6 v7 v8 v9).cell? ⟨B, 7, none⟩ = some v7 ∧ (set10 W B v0 v1 v2 v3 v4 v5 v6 v7 v8 v9).cell? ⟨B, 8, none⟩ = some v8 ∧ (set10 W B v0 v1 v2 v3 v4 v5 v6 v7 v8 v9).cell? ⟨B, 9, none⟩ = some v9 := by
  have g := blk_set (blk_set (blk_set (blk_set (blk_set (blk_set (blk_set (blk_set (blk_set (blk_set h 0 v0) 1 v1) 2 v2) 3 v3) 4 v4) 5 v5) 6 v6) 7 v7) 8 v8) 9 v9
  simp only [List.setIfInBounds_toArray, List.set_cons_succ, List.set_cons_zero] at g
  unfold set10
  exact ⟨(blk_cell g 0).trans rfl, (blk_cell g 1).trans rfl, (blk_cell g 2).trans rfl, (blk_cell g 3).trans rfl, (blk_cell g 4).trans rfl, (blk_cell g 5).trans rfl, (blk_cell g 6).trans rfl, (blk_cell g 7).trans rfl, (blk_cell g 8).trans rfl, (blk_cell g 9).trans rfl⟩
theorem set10_below {w W : World} {n B : Nat} (h : Below n w W) (hB : n ≤ B) (v0 v1 v2 v3 v4 v5 v6 v7 v8 v9 : Value) : Below n w (set10 W B v0 v1 v2 v3 v4 v5 v6 v7 v8 v9) := by
  unfold set10
  exact ((((((((((h.setCell (p := ⟨B, 0, none⟩) hB v0).setCell (p := ⟨B, 1, none⟩) hB v1).setCell (p := ⟨B, 2, none⟩) hB v2).setCell (p := ⟨B, 3, none⟩) hB v3).setCell (p := ⟨B, 4, none⟩) hB v4).setCell (p := ⟨B, 5, none⟩) hB v5).setCell (p := ⟨B, 6, none⟩) hB v6).setCell (p := ⟨B, 7, none⟩) hB v7).setCell (p := ⟨B, 8, none⟩) hB v8).setCell (p := ⟨B, 9, none⟩) hB v9)

set_option maxRecDepth 100000 in
set_option maxHeartbeats 4000000 in
theorem Qrefill_calls (t : TV) (h : ValT t) (now : Int) (h0 : t.clock ≤ now) (h1 : now ≤ 1099511627776) (A : Option Addr) (n c : Nat) (w : World) :
    Calls Try.prog 30 #[tv t (.slice A n c), .int .i64 now] w fun e w' => e = .returned (tv (fillT t now) (.slice A n c)) ∧ Below w.heap.size w w' := by
  obtain ⟨hm0, hm1⟩ := fill_bounds h h0 h1
  have hl0 := h.l0
  have hl1 := h.l1
  have hb0 := h.b0
  have hb1 := h.b1
  have hc0 := h.c0
  have hc1 := h.c1
  clear h
  obtain ⟨nm, rate, burst, level, clock, mx, ser, acc, rr, rs⟩ := t
  simp only [tv, fillT] at *
  have hu := Try.underlying25
  have hu2 := Try.underlying81
  by_cases hs : level + rate * (now - clock) ≤ 1000 * burst
  case pos =>
    have d1 : decide (1000 * burst < level + rate * (now - clock)) = false := decide_eq_false (by omega)
    have HE := Aside0.mk (show (if level + rate * (now - clock) ≤ 1000 * burst then level + rate * (now - clock) else 1000 * burst) = level + rate * (now - clock) from if_pos hs)
    rw [HE.out]
    go_enter Try.func30, Try.ntmps30
    go_wp2
    all_goals first
      | (exfalso; omega)
      | exact bodyPost_ret (v := .agg #[.string nm, .int .i64 rate, .int .i64 burst, .int .i64 (level + rate * (now - clock)), .int .i64 now, .int .i64 mx, .slice A n c, .int .i64 acc, .int .i64 rr, .int .i64 rs]) (by simp [results, Try.results30, go_sem]) rfl ⟨rfl, by repeat (first | exact Below.refl _ _ | apply below_alloc)⟩
  case neg =>
    have d1 : decide (1000 * burst < level + rate * (now - clock)) = true := decide_eq_true (by omega)
    have HE := Aside0.mk (show (if level + rate * (now - clock) ≤ 1000 * burst then level + rate * (now - clock) else 1000 * burst) = 1000 * burst from if_neg hs)
    rw [HE.out]
    go_enter Try.func30, Try.ntmps30
    go_wp2
    all_goals first
      | (exfalso; omega)
      | exact bodyPost_ret (v := .agg #[.string nm, .int .i64 rate, .int .i64 burst, .int .i64 (1000 * burst), .int .i64 now, .int .i64 mx, .slice A n c, .int .i64 acc, .int .i64 rr, .int .i64 rs]) (by simp [results, Try.results30, go_sem]) rfl ⟨rfl, by repeat (first | exact Below.refl _ _ | apply below_alloc)⟩

set_option maxRecDepth 100000 in
set_option maxHeartbeats 4000000 in
theorem rrefilled_calls (t : TV) (h : ValT t) (now : Int) (h0 : t.clock ≤ now) (h1 : now ≤ 1099511627776) (A : Option Addr) (n c : Nat) (w : World) :
    Calls Try.prog 34 #[tv t (.slice A n c), .int .i64 now] w fun e w' => e = .returned (tv (fillT t now) (.slice A n c)) ∧ Below w.heap.size w w' := by
  obtain ⟨hm0, hm1⟩ := fill_bounds h h0 h1
  have hl0 := h.l0
  have hl1 := h.l1
  have hb0 := h.b0
  have hb1 := h.b1
  have hc0 := h.c0
  have hc1 := h.c1
  clear h
  obtain ⟨nm, rate, burst, level, clock, mx, ser, acc, rr, rs⟩ := t
  simp only [tv, fillT] at *
  have hu := Try.underlying25
  have hu2 : True := trivial
  by_cases hs : level + rate * (now - clock) ≤ 1000 * burst
  case pos =>
    have d1 : decide (1000 * burst < level + rate * (now - clock)) = false := decide_eq_false (by omega)
    have HE := Aside0.mk (show (if level + rate * (now - clock) ≤ 1000 * burst then level + rate * (now - clock) else 1000 * burst) = level + rate * (now - clock) from if_pos hs)
    rw [HE.out]
    go_enter Try.func34, Try.ntmps34
    go_wp2
    all_goals first
      | (exfalso; omega)
      | exact bodyPost_ret (v := .agg #[.string nm, .int .i64 rate, .int .i64 burst, .int .i64 (level + rate * (now - clock)), .int .i64 now, .int .i64 mx, .slice A n c, .int .i64 acc, .int .i64 rr, .int .i64 rs]) (by simp [results, Try.results34, go_sem]) rfl ⟨rfl, by repeat (first | exact Below.refl _ _ | apply below_alloc)⟩
  case neg =>
    have d1 : decide (1000 * burst < level + rate * (now - clock)) = true := decide_eq_true (by omega)
    have HE := Aside0.mk (show (if level + rate * (now - clock) ≤ 1000 * burst then level + rate * (now - clock) else 1000 * burst) = 1000 * burst from if_neg hs)
    rw [HE.out]
    go_enter Try.func34, Try.ntmps34
    go_wp2
    all_goals first
      | (exfalso; omega)
      | exact bodyPost_ret (v := .agg #[.string nm, .int .i64 rate, .int .i64 burst, .int .i64 (1000 * burst), .int .i64 now, .int .i64 mx, .slice A n c, .int .i64 acc, .int .i64 rr, .int .i64 rs]) (by simp [results, Try.results34, go_sem]) rfl ⟨rfl, by repeat (first | exact Below.refl _ _ | apply below_alloc)⟩

set_option maxRecDepth 100000 in
set_option maxHeartbeats 8000000 in
theorem QRefill_calls (t : TV) (hS : SmallT t) (now : Int) (A : Option Addr) (c : Nat) (w : World) (hr : Kd.C kLL w A t.ser.length t.ser) (hc : t.ser.length ≤ c) :
    Calls Try.prog 14 #[tv t (.slice A t.ser.length c), .int .i64 now] w (RT w (refillT t now)) := by
  have HCK := Aside0.mk (fun W (h : Below w.heap.size w W) => QCheck_calls t hS A c W (Kd.C_below hr h) hc)
  have HFL := Aside0.mk (fun W h h0 h1 => Qrefill_calls t h now h0 h1 A t.ser.length c W)
  have HR := Aside0.mk hr
  have hu := Try.underlying25
  have hbx := heap_alloc_keep (o := (.cells #[.string ⟨#[]⟩, .int .i64 0, .int .i64 0, .int .i64 0, .int .i64 0, .int .i64 0, .slice none 0 0, .int .i64 0, .int .i64 0, .int .i64 0] 25)) (heap_alloc_new w (.cells #[.string t.nm, .int .i64 t.rate, .int .i64 t.burst, .int .i64 t.level, .int .i64 t.clock, .int .i64 t.mx, .slice A t.ser.length c, .int .i64 t.acc, .int .i64 t.rr, .int .i64 t.rs] 25))
  have hbz := heap_alloc_new (w.alloc (.cells #[.string t.nm, .int .i64 t.rate, .int .i64 t.burst, .int .i64 t.level, .int .i64 t.clock, .int .i64 t.mx, .slice A t.ser.length c, .int .i64 t.acc, .int .i64 t.rr, .int .i64 t.rs] 25)) (.cells #[.string ⟨#[]⟩, .int .i64 0, .int .i64 0, .int .i64 0, .int .i64 0, .int .i64 0, .slice none 0 0, .int .i64 0, .int .i64 0, .int .i64 0] 25)
  rw [World.size_alloc] at hbz
  have HBX := Aside0.mk hbx
  have HBZ := Aside0.mk hbz
  have HW0 := Aside0.mk (below_alloc (below_alloc (Below.refl _ w) (.cells #[.string t.nm, .int .i64 t.rate, .int .i64 t.burst, .int .i64 t.level, .int .i64 t.clock, .int .i64 t.mx, .slice A t.ser.length c, .int .i64 t.acc, .int .i64 t.rr, .int .i64 t.rs] 25)) (.cells #[.string ⟨#[]⟩, .int .i64 0, .int .i64 0, .int .i64 0, .int .i64 0, .int .i64 0, .slice none 0 0, .int .i64 0, .int .i64 0, .int .i64 0] 25))
  have HSZ := Aside0.mk (show w.heap.size < ((w.alloc (.cells #[.string t.nm, .int .i64 t.rate, .int .i64 t.burst, .int .i64 t.level, .int .i64 t.clock, .int .i64 t.mx, .slice A t.ser.length c, .int .i64 t.acc, .int .i64 t.rr, .int .i64 t.rs] 25)).alloc (.cells #[.string ⟨#[]⟩, .int .i64 0, .int .i64 0, .int .i64 0, .int .i64 0, .int .i64 0, .slice none 0 0, .int .i64 0, .int .i64 0, .int .i64 0] 25)).heap.size by simp <;> omega)
  have HSZ2 := Aside0.mk (show w.heap.size + 1 < ((w.alloc (.cells #[.string t.nm, .int .i64 t.rate, .int .i64 t.burst, .int .i64 t.level, .int .i64 t.clock, .int .i64 t.mx, .slice A t.ser.length c, .int .i64 t.acc, .int .i64 t.rr, .int .i64 t.rs] 25)).alloc (.cells #[.string ⟨#[]⟩, .int .i64 0, .int .i64 0, .int .i64 0, .int .i64 0, .int .i64 0, .slice none 0 0, .int .i64 0, .int .i64 0, .int .i64 0] 25)).heap.size by simp <;> omega)
  have x0 := (blk_cell hbx 0).trans rfl; have x1 := (blk_cell hbx 1).trans rfl; have x2 := (blk_cell hbx 2).trans rfl; have x3 := (blk_cell hbx 3).trans rfl; have x4 := (blk_cell hbx 4).trans rfl; have x5 := (blk_cell hbx 5).trans rfl; have x6 := (blk_cell hbx 6).trans rfl; have x7 := (blk_cell hbx 7).trans rfl; have x8 := (blk_cell hbx 8).trans rfl; have x9 := (blk_cell hbx 9).trans rfl; simp only [List.getElem?_toArray, List.getElem?_cons_zero, List.getElem?_cons_succ] at x0 x1 x2 x3 x4 x5 x6 x7 x8 x9
  have z0 := (blk_cell hbz 0).trans rfl; have z1 := (blk_cell hbz 1).trans rfl; have z2 := (blk_cell hbz 2).trans rfl; have z3 := (blk_cell hbz 3).trans rfl; have z4 := (blk_cell hbz 4).trans rfl; have z5 := (blk_cell hbz 5).trans rfl; have z6 := (blk_cell hbz 6).trans rfl; have z7 := (blk_cell hbz 7).trans rfl; have z8 := (blk_cell hbz 8).trans rfl; have z9 := (blk_cell hbz 9).trans rfl; simp only [List.getElem?_toArray, List.getElem?_cons_zero, List.getElem?_cons_succ] at z0 z1 z2 z3 z4 z5 z6 z7 z8 z9
  clear hbx hbz hr
  by_cases hv : valB t = true
  case neg =>
    rw [refillT_bad hv]
    have hk : chkT t = 1 := if_neg hv
    rw [hk] at HCK
    clear hk hv
    go_enter Try.func14, Try.ntmps14
    go_wp2_with (first
      | (go_at_call 17; (with_reducible refine (HCK.out _ HW0.out).mono ?_); rintro e w1 ⟨rfl, hb⟩; have hx1 := (hb.block w.heap.size HSZ.out).trans HBX.out; have hz1 := (hb.block (w.heap.size + 1) HSZ2.out).trans HBZ.out; have HB1 := Aside0.mk (HW0.out.trans (hb.mono HW0.out.size)); clear x0 x1 x2 x3 x4 x5 x6 x7 x8 x9; clear z0 z1 z2 z3 z4 z5 z6 z7 z8 z9; have x0 := (blk_cell hx1 0).trans rfl; have x1 := (blk_cell hx1 1).trans rfl; have x2 := (blk_cell hx1 2).trans rfl; have x3 := (blk_cell hx1 3).trans rfl; have x4 := (blk_cell hx1 4).trans rfl; have x5 := (blk_cell hx1 5).trans rfl; have x6 := (blk_cell hx1 6).trans rfl; have x7 := (blk_cell hx1 7).trans rfl; have x8 := (blk_cell hx1 8).trans rfl; have x9 := (blk_cell hx1 9).trans rfl; simp only [List.getElem?_toArray, List.getElem?_cons_zero, List.getElem?_cons_succ] at x0 x1 x2 x3 x4 x5 x6 x7 x8 x9; have z0 := (blk_cell hz1 0).trans rfl; have z1 := (blk_cell hz1 1).trans rfl; have z2 := (blk_cell hz1 2).trans rfl; have z3 := (blk_cell hz1 3).trans rfl; have z4 := (blk_cell hz1 4).trans rfl; have z5 := (blk_cell hz1 5).trans rfl; have z6 := (blk_cell hz1 6).trans rfl; have z7 := (blk_cell hz1 7).trans rfl; have z8 := (blk_cell hz1 8).trans rfl; have z9 := (blk_cell hz1 9).trans rfl; simp only [List.getElem?_toArray, List.getElem?_cons_zero, List.getElem?_cons_succ] at z0 z1 z2 z3 z4 z5 z6 z7 z8 z9; have fz := blk_frozen hz1; have fz0 := fz 0; have fz1 := fz 1; have fz2 := fz 2; have fz3 := fz 3; have fz4 := fz 4; have fz5 := fz 5; have fz6 := fz 6; have fz7 := fz 7; have fz8 := fz 8; have fz9 := fz 9; have HZ1 := Aside0.mk hz1; clear hb hx1 hz1 fz))
    obtain ⟨q0, q1, q2, q3, q4, q5, q6, q7, q8, q9⟩ := set10_cells HZ1.out (.string ⟨#[]⟩) (.int .i64 0) (.int .i64 0) (.int .i64 0) (.int .i64 0) (.int .i64 0) (.slice none 0 0) (.int .i64 0) (.int .i64 0) (.int .i64 0)
    unfold set10 at q0 q1 q2 q3 q4 q5 q6 q7 q8 q9
    exact bodyPost_ret (v := .tuple #[.agg #[.string ⟨#[]⟩, .int .i64 0, .int .i64 0, .int .i64 0, .int .i64 0, .int .i64 0, .slice none 0 0, .int .i64 0, .int .i64 0, .int .i64 0], .int .i64 1]) (by simp [results, Try.results14, go_sem, q0, q1, q2, q3, q4, q5, q6, q7, q8, q9]) rfl (RT_zero _ _ 1 (set10_below HB1.out (Nat.le_succ _) _ _ _ _ _ _ _ _ _ _))
  case pos =>
    have hk : chkT t = 0 := if_pos hv
    rw [hk] at HCK
    have HV := Aside0.mk ((val_iff t).1 hv)
    clear hk
    by_cases ho : now < t.clock ∨ 1099511627776 < now
    case pos =>
      rw [refillT_rng hv ho]
      clear hv
      have HBT := Aside0.mk (fun W => between_calls now t.clock 1099511627776 W false (by rw [decide_eq_false (by omega)]))
      by_cases ho1 : now < t.clock
      case pos =>
        have d1 : decide (now < t.clock) = true := decide_eq_true ho1
        clear ho ho1
        go_enter Try.func14, Try.ntmps14
        go_wp2_with (first
              | (go_at_call 17; (with_reducible refine (HCK.out _ HW0.out).mono ?_); rintro e w1 ⟨rfl, hb⟩; have hx1 := (hb.block w.heap.size HSZ.out).trans HBX.out; have hz1 := (hb.block (w.heap.size + 1) HSZ2.out).trans HBZ.out; have HB1 := Aside0.mk (HW0.out.trans (hb.mono HW0.out.size)); clear x0 x1 x2 x3 x4 x5 x6 x7 x8 x9; clear z0 z1 z2 z3 z4 z5 z6 z7 z8 z9; have x0 := (blk_cell hx1 0).trans rfl; have x1 := (blk_cell hx1 1).trans rfl; have x2 := (blk_cell hx1 2).trans rfl; have x3 := (blk_cell hx1 3).trans rfl; have x4 := (blk_cell hx1 4).trans rfl; have x5 := (blk_cell hx1 5).trans rfl; have x6 := (blk_cell hx1 6).trans rfl; have x7 := (blk_cell hx1 7).trans rfl; have x8 := (blk_cell hx1 8).trans rfl; have x9 := (blk_cell hx1 9).trans rfl; simp only [List.getElem?_toArray, List.getElem?_cons_zero, List.getElem?_cons_succ] at x0 x1 x2 x3 x4 x5 x6 x7 x8 x9; have z0 := (blk_cell hz1 0).trans rfl; have z1 := (blk_cell hz1 1).trans rfl; have z2 := (blk_cell hz1 2).trans rfl; have z3 := (blk_cell hz1 3).trans rfl; have z4 := (blk_cell hz1 4).trans rfl; have z5 := (blk_cell hz1 5).trans rfl; have z6 := (blk_cell hz1 6).trans rfl; have z7 := (blk_cell hz1 7).trans rfl; have z8 := (blk_cell hz1 8).trans rfl; have z9 := (blk_cell hz1 9).trans rfl; simp only [List.getElem?_toArray, List.getElem?_cons_zero, List.getElem?_cons_succ] at z0 z1 z2 z3 z4 z5 z6 z7 z8 z9; have fz := blk_frozen hz1; have fz0 := fz 0; have fz1 := fz 1; have fz2 := fz 2; have fz3 := fz 3; have fz4 := fz 4; have fz5 := fz 5; have fz6 := fz 6; have fz7 := fz 7; have fz8 := fz 8; have fz9 := fz 9; have HZ1 := Aside0.mk hz1; clear hb hx1 hz1 fz))
        obtain ⟨q0, q1, q2, q3, q4, q5, q6, q7, q8, q9⟩ := set10_cells HZ1.out (.string ⟨#[]⟩) (.int .i64 0) (.int .i64 0) (.int .i64 0) (.int .i64 0) (.int .i64 0) (.slice none 0 0) (.int .i64 0) (.int .i64 0) (.int .i64 0)
        unfold set10 at q0 q1 q2 q3 q4 q5 q6 q7 q8 q9
        exact bodyPost_ret (v := .tuple #[.agg #[.string ⟨#[]⟩, .int .i64 0, .int .i64 0, .int .i64 0, .int .i64 0, .int .i64 0, .slice none 0 0, .int .i64 0, .int .i64 0, .int .i64 0], .int .i64 2]) (by simp [results, Try.results14, go_sem, q0, q1, q2, q3, q4, q5, q6, q7, q8, q9]) rfl (RT_zero _ _ 2 (set10_below (show Below w.heap.size w _ by first | exact HB1.out | exact pw_below_drewN HB1.out _) (Nat.le_succ _) _ _ _ _ _ _ _ _ _ _))
      case neg =>
        have d1 : decide (now < t.clock) = false := decide_eq_false ho1
        have d2 : decide (1099511627776 < now) = true := decide_eq_true (by omega)
        clear ho ho1
        go_enter Try.func14, Try.ntmps14
        go_wp2_with (first
              | (go_at_call 17; (with_reducible refine (HCK.out _ HW0.out).mono ?_); rintro e w1 ⟨rfl, hb⟩; have hx1 := (hb.block w.heap.size HSZ.out).trans HBX.out; have hz1 := (hb.block (w.heap.size + 1) HSZ2.out).trans HBZ.out; have HB1 := Aside0.mk (HW0.out.trans (hb.mono HW0.out.size)); clear x0 x1 x2 x3 x4 x5 x6 x7 x8 x9; clear z0 z1 z2 z3 z4 z5 z6 z7 z8 z9; have x0 := (blk_cell hx1 0).trans rfl; have x1 := (blk_cell hx1 1).trans rfl; have x2 := (blk_cell hx1 2).trans rfl; have x3 := (blk_cell hx1 3).trans rfl; have x4 := (blk_cell hx1 4).trans rfl; have x5 := (blk_cell hx1 5).trans rfl; have x6 := (blk_cell hx1 6).trans rfl; have x7 := (blk_cell hx1 7).trans rfl; have x8 := (blk_cell hx1 8).trans rfl; have x9 := (blk_cell hx1 9).trans rfl; simp only [List.getElem?_toArray, List.getElem?_cons_zero, List.getElem?_cons_succ] at x0 x1 x2 x3 x4 x5 x6 x7 x8 x9; have z0 := (blk_cell hz1 0).trans rfl; have z1 := (blk_cell hz1 1).trans rfl; have z2 := (blk_cell hz1 2).trans rfl; have z3 := (blk_cell hz1 3).trans rfl; have z4 := (blk_cell hz1 4).trans rfl; have z5 := (blk_cell hz1 5).trans rfl; have z6 := (blk_cell hz1 6).trans rfl; have z7 := (blk_cell hz1 7).trans rfl; have z8 := (blk_cell hz1 8).trans rfl; have z9 := (blk_cell hz1 9).trans rfl; simp only [List.getElem?_toArray, List.getElem?_cons_zero, List.getElem?_cons_succ] at z0 z1 z2 z3 z4 z5 z6 z7 z8 z9; have fz := blk_frozen hz1; have fz0 := fz 0; have fz1 := fz 1; have fz2 := fz 2; have fz3 := fz 3; have fz4 := fz 4; have fz5 := fz 5; have fz6 := fz 6; have fz7 := fz 7; have fz8 := fz 8; have fz9 := fz 9; have HZ1 := Aside0.mk hz1; clear hb hx1 hz1 fz))
        obtain ⟨q0, q1, q2, q3, q4, q5, q6, q7, q8, q9⟩ := set10_cells HZ1.out (.string ⟨#[]⟩) (.int .i64 0) (.int .i64 0) (.int .i64 0) (.int .i64 0) (.int .i64 0) (.slice none 0 0) (.int .i64 0) (.int .i64 0) (.int .i64 0)
        unfold set10 at q0 q1 q2 q3 q4 q5 q6 q7 q8 q9
        exact bodyPost_ret (v := .tuple #[.agg #[.string ⟨#[]⟩, .int .i64 0, .int .i64 0, .int .i64 0, .int .i64 0, .int .i64 0, .slice none 0 0, .int .i64 0, .int .i64 0, .int .i64 0], .int .i64 2]) (by simp [results, Try.results14, go_sem, q0, q1, q2, q3, q4, q5, q6, q7, q8, q9]) rfl (RT_zero _ _ 2 (set10_below (show Below w.heap.size w _ by first | exact HB1.out | exact pw_below_drewN HB1.out _) (Nat.le_succ _) _ _ _ _ _ _ _ _ _ _))
    case neg =>
      rw [refillT_ok hv ho]
      clear hv
      have HBT := Aside0.mk (fun W => between_calls now t.clock 1099511627776 W true (by rw [decide_eq_true (by omega)]))
      have d1 : decide (now < t.clock) = false := decide_eq_false (by omega)
      have d2 : decide (1099511627776 < now) = false := decide_eq_false (by omega)
      have HFL := Aside0.mk (fun W => HFL.out W HV.out (by omega) (by omega))
      clear ho
      go_enter Try.func14, Try.ntmps14
      go_wp2_with (first
      | (go_at_call 17; (with_reducible refine (HCK.out _ HW0.out).mono ?_); rintro e w1 ⟨rfl, hb⟩; have hx1 := (hb.block w.heap.size HSZ.out).trans HBX.out; have hz1 := (hb.block (w.heap.size + 1) HSZ2.out).trans HBZ.out; have HB1 := Aside0.mk (HW0.out.trans (hb.mono HW0.out.size)); clear x0 x1 x2 x3 x4 x5 x6 x7 x8 x9; clear z0 z1 z2 z3 z4 z5 z6 z7 z8 z9; have x0 := (blk_cell hx1 0).trans rfl; have x1 := (blk_cell hx1 1).trans rfl; have x2 := (blk_cell hx1 2).trans rfl; have x3 := (blk_cell hx1 3).trans rfl; have x4 := (blk_cell hx1 4).trans rfl; have x5 := (blk_cell hx1 5).trans rfl; have x6 := (blk_cell hx1 6).trans rfl; have x7 := (blk_cell hx1 7).trans rfl; have x8 := (blk_cell hx1 8).trans rfl; have x9 := (blk_cell hx1 9).trans rfl; simp only [List.getElem?_toArray, List.getElem?_cons_zero, List.getElem?_cons_succ] at x0 x1 x2 x3 x4 x5 x6 x7 x8 x9; have z0 := (blk_cell hz1 0).trans rfl; have z1 := (blk_cell hz1 1).trans rfl; have z2 := (blk_cell hz1 2).trans rfl; have z3 := (blk_cell hz1 3).trans rfl; have z4 := (blk_cell hz1 4).trans rfl; have z5 := (blk_cell hz1 5).trans rfl; have z6 := (blk_cell hz1 6).trans rfl; have z7 := (blk_cell hz1 7).trans rfl; have z8 := (blk_cell hz1 8).trans rfl; have z9 := (blk_cell hz1 9).trans rfl; simp only [List.getElem?_toArray, List.getElem?_cons_zero, List.getElem?_cons_succ] at z0 z1 z2 z3 z4 z5 z6 z7 z8 z9; have fz := blk_frozen hz1; have fz0 := fz 0; have fz1 := fz 1; have fz2 := fz 2; have fz3 := fz 3; have fz4 := fz 4; have fz5 := fz 5; have fz6 := fz 6; have fz7 := fz 7; have fz8 := fz 8; have fz9 := fz 9; have HZ1 := Aside0.mk hz1; clear hb hx1 hz1 fz)
      | (go_at_call 30; (with_reducible refine (HFL.out _).mono ?_); rintro e w3 ⟨rfl, hb⟩; have hz3 := hb; have HZ3 := Aside0.mk ((hb.block (w.heap.size + 1) (by have := heap_lt HZ1.out; simpa using this)).trans HZ1.out); have HB3 := Aside0.mk ((show Below w.heap.size w _ by first | exact HB1.out | exact pw_below_drewN HB1.out _).trans (hb.mono (show Below w.heap.size w _ by first | exact HB1.out | exact pw_below_drewN HB1.out _).size)); clear x0 x1 x2 x3 x4 x5 x6 x7 x8 x9; clear z0 z1 z2 z3 z4 z5 z6 z7 z8 z9; clear hz3 hb fz0 fz1 fz2 fz3 fz4 fz5 fz6 fz7 fz8 fz9; have z0 := (blk_cell HZ3.out 0).trans rfl; have z1 := (blk_cell HZ3.out 1).trans rfl; have z2 := (blk_cell HZ3.out 2).trans rfl; have z3 := (blk_cell HZ3.out 3).trans rfl; have z4 := (blk_cell HZ3.out 4).trans rfl; have z5 := (blk_cell HZ3.out 5).trans rfl; have z6 := (blk_cell HZ3.out 6).trans rfl; have z7 := (blk_cell HZ3.out 7).trans rfl; have z8 := (blk_cell HZ3.out 8).trans rfl; have z9 := (blk_cell HZ3.out 9).trans rfl; simp only [List.getElem?_toArray, List.getElem?_cons_zero, List.getElem?_cons_succ] at z0 z1 z2 z3 z4 z5 z6 z7 z8 z9; have fz := blk_frozen HZ3.out; have fz0 := fz 0; have fz1 := fz 1; have fz2 := fz 2; have fz3 := fz 3; have fz4 := fz 4; have fz5 := fz 5; have fz6 := fz 6; have fz7 := fz 7; have fz8 := fz 8; have fz9 := fz 9; clear fz))
      obtain ⟨q0, q1, q2, q3, q4, q5, q6, q7, q8, q9⟩ := set10_cells HZ3.out (.string (fillT t now).nm) (.int .i64 (fillT t now).rate) (.int .i64 (fillT t now).burst) (.int .i64 (fillT t now).level) (.int .i64 (fillT t now).clock) (.int .i64 (fillT t now).mx) (.slice A t.ser.length c) (.int .i64 (fillT t now).acc) (.int .i64 (fillT t now).rr) (.int .i64 (fillT t now).rs)
      unfold set10 at q0 q1 q2 q3 q4 q5 q6 q7 q8 q9
      exact bodyPost_ret (v := .tuple #[.agg #[.string (fillT t now).nm, .int .i64 (fillT t now).rate, .int .i64 (fillT t now).burst, .int .i64 (fillT t now).level, .int .i64 (fillT t now).clock, .int .i64 (fillT t now).mx, .slice A t.ser.length c, .int .i64 (fillT t now).acc, .int .i64 (fillT t now).rr, .int .i64 (fillT t now).rs], .int .i64 0]) (by simp [results, Try.results14, go_sem, q0, q1, q2, q3, q4, q5, q6, q7, q8, q9]) rfl ⟨A, c, rfl, hc, Kd.C_below HR.out (set10_below HB3.out (Nat.le_succ _) _ _ _ _ _ _ _ _ _ _), set10_below HB3.out (Nat.le_succ _) _ _ _ _ _ _ _ _ _ _⟩

set_option maxRecDepth 100000 in
set_option maxHeartbeats 8000000 in
theorem rRefill_calls (t : TV) (hS : SmallT t) (now : Int) (A : Option Addr) (c : Nat) (w : World) (hr : Kd.C kLL w A t.ser.length t.ser) (hc : t.ser.length ≤ c) :
    Calls Try.prog 15 #[tv t (.slice A t.ser.length c), .int .i64 now] w (RT w (refillT t now)) := by
  have HCK := Aside0.mk (fun W (h : Below w.heap.size w W) => rCheck_calls t hS A c W (Kd.C_below hr h) hc)
  have HFL := Aside0.mk (fun W h h0 h1 => rrefilled_calls t h now h0 h1 A t.ser.length c W)
  have HR := Aside0.mk hr
  have hu := Try.underlying25
  have hbx := heap_alloc_keep (o := (.cells #[.string ⟨#[]⟩, .int .i64 0, .int .i64 0, .int .i64 0, .int .i64 0, .int .i64 0, .slice none 0 0, .int .i64 0, .int .i64 0, .int .i64 0] 25)) (heap_alloc_new w (.cells #[.string t.nm, .int .i64 t.rate, .int .i64 t.burst, .int .i64 t.level, .int .i64 t.clock, .int .i64 t.mx, .slice A t.ser.length c, .int .i64 t.acc, .int .i64 t.rr, .int .i64 t.rs] 25))
  have hbz := heap_alloc_new (w.alloc (.cells #[.string t.nm, .int .i64 t.rate, .int .i64 t.burst, .int .i64 t.level, .int .i64 t.clock, .int .i64 t.mx, .slice A t.ser.length c, .int .i64 t.acc, .int .i64 t.rr, .int .i64 t.rs] 25)) (.cells #[.string ⟨#[]⟩, .int .i64 0, .int .i64 0, .int .i64 0, .int .i64 0, .int .i64 0, .slice none 0 0, .int .i64 0, .int .i64 0, .int .i64 0] 25)
  rw [World.size_alloc] at hbz
  have HBX := Aside0.mk hbx
  have HBZ := Aside0.mk hbz
  have HW0 := Aside0.mk (below_alloc (below_alloc (Below.refl _ w) (.cells #[.string t.nm, .int .i64 t.rate, .int .i64 t.burst, .int .i64 t.level, .int .i64 t.clock, .int .i64 t.mx, .slice A t.ser.length c, .int .i64 t.acc, .int .i64 t.rr, .int .i64 t.rs] 25)) (.cells #[.string ⟨#[]⟩, .int .i64 0, .int .i64 0, .int .i64 0, .int .i64 0, .int .i64 0, .slice none 0 0, .int .i64 0, .int .i64 0, .int .i64 0] 25))
  have HSZ := Aside0.mk (show w.heap.size < ((w.alloc (.cells #[.string t.nm, .int .i64 t.rate, .int .i64 t.burst, .int .i64 t.level, .int .i64 t.clock, .int .i64 t.mx, .slice A t.ser.length c, .int .i64 t.acc, .int .i64 t.rr, .int .i64 t.rs] 25)).alloc (.cells #[.string ⟨#[]⟩, .int .i64 0, .int .i64 0, .int .i64 0, .int .i64 0, .int .i64 0, .slice none 0 0, .int .i64 0, .int .i64 0, .int .i64 0] 25)).heap.size by simp <;> omega)
  have HSZ2 := Aside0.mk (show w.heap.size + 1 < ((w.alloc (.cells #[.string t.nm, .int .i64 t.rate, .int .i64 t.burst, .int .i64 t.level, .int .i64 t.clock, .int .i64 t.mx, .slice A t.ser.length c, .int .i64 t.acc, .int .i64 t.rr, .int .i64 t.rs] 25)).alloc (.cells #[.string ⟨#[]⟩, .int .i64 0, .int .i64 0, .int .i64 0, .int .i64 0, .int .i64 0, .slice none 0 0, .int .i64 0, .int .i64 0, .int .i64 0] 25)).heap.size by simp <;> omega)
  have x0 := (blk_cell hbx 0).trans rfl; have x1 := (blk_cell hbx 1).trans rfl; have x2 := (blk_cell hbx 2).trans rfl; have x3 := (blk_cell hbx 3).trans rfl; have x4 := (blk_cell hbx 4).trans rfl; have x5 := (blk_cell hbx 5).trans rfl; have x6 := (blk_cell hbx 6).trans rfl; have x7 := (blk_cell hbx 7).trans rfl; have x8 := (blk_cell hbx 8).trans rfl; have x9 := (blk_cell hbx 9).trans rfl; simp only [List.getElem?_toArray, List.getElem?_cons_zero, List.getElem?_cons_succ] at x0 x1 x2 x3 x4 x5 x6 x7 x8 x9
  have z0 := (blk_cell hbz 0).trans rfl; have z1 := (blk_cell hbz 1).trans rfl; have z2 := (blk_cell hbz 2).trans rfl; have z3 := (blk_cell hbz 3).trans rfl; have z4 := (blk_cell hbz 4).trans rfl; have z5 := (blk_cell hbz 5).trans rfl; have z6 := (blk_cell hbz 6).trans rfl; have z7 := (blk_cell hbz 7).trans rfl; have z8 := (blk_cell hbz 8).trans rfl; have z9 := (blk_cell hbz 9).trans rfl; simp only [List.getElem?_toArray, List.getElem?_cons_zero, List.getElem?_cons_succ] at z0 z1 z2 z3 z4 z5 z6 z7 z8 z9
  clear hbx hbz hr
  by_cases hv : valB t = true
  case neg =>
    rw [refillT_bad hv]
    have hk : chkT t = 1 := if_neg hv
    rw [hk] at HCK
    clear hk hv
    go_enter Try.func15, Try.ntmps15
    go_wp2_with (first
      | (go_at_call 18; (with_reducible refine (HCK.out _ HW0.out).mono ?_); rintro e w1 ⟨rfl, hb⟩; have hx1 := (hb.block w.heap.size HSZ.out).trans HBX.out; have hz1 := (hb.block (w.heap.size + 1) HSZ2.out).trans HBZ.out; have HB1 := Aside0.mk (HW0.out.trans (hb.mono HW0.out.size)); clear x0 x1 x2 x3 x4 x5 x6 x7 x8 x9; clear z0 z1 z2 z3 z4 z5 z6 z7 z8 z9; have x0 := (blk_cell hx1 0).trans rfl; have x1 := (blk_cell hx1 1).trans rfl; have x2 := (blk_cell hx1 2).trans rfl; have x3 := (blk_cell hx1 3).trans rfl; have x4 := (blk_cell hx1 4).trans rfl; have x5 := (blk_cell hx1 5).trans rfl; have x6 := (blk_cell hx1 6).trans rfl; have x7 := (blk_cell hx1 7).trans rfl; have x8 := (blk_cell hx1 8).trans rfl; have x9 := (blk_cell hx1 9).trans rfl; simp only [List.getElem?_toArray, List.getElem?_cons_zero, List.getElem?_cons_succ] at x0 x1 x2 x3 x4 x5 x6 x7 x8 x9; have z0 := (blk_cell hz1 0).trans rfl; have z1 := (blk_cell hz1 1).trans rfl; have z2 := (blk_cell hz1 2).trans rfl; have z3 := (blk_cell hz1 3).trans rfl; have z4 := (blk_cell hz1 4).trans rfl; have z5 := (blk_cell hz1 5).trans rfl; have z6 := (blk_cell hz1 6).trans rfl; have z7 := (blk_cell hz1 7).trans rfl; have z8 := (blk_cell hz1 8).trans rfl; have z9 := (blk_cell hz1 9).trans rfl; simp only [List.getElem?_toArray, List.getElem?_cons_zero, List.getElem?_cons_succ] at z0 z1 z2 z3 z4 z5 z6 z7 z8 z9; have fz := blk_frozen hz1; have fz0 := fz 0; have fz1 := fz 1; have fz2 := fz 2; have fz3 := fz 3; have fz4 := fz 4; have fz5 := fz 5; have fz6 := fz 6; have fz7 := fz 7; have fz8 := fz 8; have fz9 := fz 9; have HZ1 := Aside0.mk hz1; clear hb hx1 hz1 fz))
    obtain ⟨q0, q1, q2, q3, q4, q5, q6, q7, q8, q9⟩ := set10_cells HZ1.out (.string ⟨#[]⟩) (.int .i64 0) (.int .i64 0) (.int .i64 0) (.int .i64 0) (.int .i64 0) (.slice none 0 0) (.int .i64 0) (.int .i64 0) (.int .i64 0)
    unfold set10 at q0 q1 q2 q3 q4 q5 q6 q7 q8 q9
    exact bodyPost_ret (v := .tuple #[.agg #[.string ⟨#[]⟩, .int .i64 0, .int .i64 0, .int .i64 0, .int .i64 0, .int .i64 0, .slice none 0 0, .int .i64 0, .int .i64 0, .int .i64 0], .int .i64 1]) (by simp [results, Try.results15, go_sem, q0, q1, q2, q3, q4, q5, q6, q7, q8, q9]) rfl (RT_zero _ _ 1 (set10_below HB1.out (Nat.le_succ _) _ _ _ _ _ _ _ _ _ _))
  case pos =>
    have hk : chkT t = 0 := if_pos hv
    rw [hk] at HCK
    have HV := Aside0.mk ((val_iff t).1 hv)
    clear hk
    by_cases ho : now < t.clock ∨ 1099511627776 < now
    case pos =>
      rw [refillT_rng hv ho]
      clear hv
      have HBT := Aside0.mk (fun W => between_calls now t.clock 1099511627776 W false (by rw [decide_eq_false (by omega)]))
      clear ho
      go_enter Try.func15, Try.ntmps15
      go_wp2_with (first
            | (go_at_call 18; (with_reducible refine (HCK.out _ HW0.out).mono ?_); rintro e w1 ⟨rfl, hb⟩; have hx1 := (hb.block w.heap.size HSZ.out).trans HBX.out; have hz1 := (hb.block (w.heap.size + 1) HSZ2.out).trans HBZ.out; have HB1 := Aside0.mk (HW0.out.trans (hb.mono HW0.out.size)); clear x0 x1 x2 x3 x4 x5 x6 x7 x8 x9; clear z0 z1 z2 z3 z4 z5 z6 z7 z8 z9; have x0 := (blk_cell hx1 0).trans rfl; have x1 := (blk_cell hx1 1).trans rfl; have x2 := (blk_cell hx1 2).trans rfl; have x3 := (blk_cell hx1 3).trans rfl; have x4 := (blk_cell hx1 4).trans rfl; have x5 := (blk_cell hx1 5).trans rfl; have x6 := (blk_cell hx1 6).trans rfl; have x7 := (blk_cell hx1 7).trans rfl; have x8 := (blk_cell hx1 8).trans rfl; have x9 := (blk_cell hx1 9).trans rfl; simp only [List.getElem?_toArray, List.getElem?_cons_zero, List.getElem?_cons_succ] at x0 x1 x2 x3 x4 x5 x6 x7 x8 x9; have z0 := (blk_cell hz1 0).trans rfl; have z1 := (blk_cell hz1 1).trans rfl; have z2 := (blk_cell hz1 2).trans rfl; have z3 := (blk_cell hz1 3).trans rfl; have z4 := (blk_cell hz1 4).trans rfl; have z5 := (blk_cell hz1 5).trans rfl; have z6 := (blk_cell hz1 6).trans rfl; have z7 := (blk_cell hz1 7).trans rfl; have z8 := (blk_cell hz1 8).trans rfl; have z9 := (blk_cell hz1 9).trans rfl; simp only [List.getElem?_toArray, List.getElem?_cons_zero, List.getElem?_cons_succ] at z0 z1 z2 z3 z4 z5 z6 z7 z8 z9; have fz := blk_frozen hz1; have fz0 := fz 0; have fz1 := fz 1; have fz2 := fz 2; have fz3 := fz 3; have fz4 := fz 4; have fz5 := fz 5; have fz6 := fz 6; have fz7 := fz 7; have fz8 := fz 8; have fz9 := fz 9; have HZ1 := Aside0.mk hz1; clear hb hx1 hz1 fz)
            | (go_at_call 33; (with_reducible refine (HBT.out _).mono ?_); rintro e w2 ⟨rfl, ⟨q2, rfl⟩⟩; have HZ2 := Aside0.mk (show (w1.drewN q2).heap[w.heap.size + 1]? = some (.cells #[.string ⟨#[]⟩, .int .i64 0, .int .i64 0, .int .i64 0, .int .i64 0, .int .i64 0, .slice none 0 0, .int .i64 0, .int .i64 0, .int .i64 0] 25 (0, 0)) from HZ1.out); have HB2 := Aside0.mk (pw_below_drewN HB1.out q2)))
      obtain ⟨q0, q1, q2, q3, q4, q5, q6, q7, q8, q9⟩ := set10_cells HZ2.out (.string ⟨#[]⟩) (.int .i64 0) (.int .i64 0) (.int .i64 0) (.int .i64 0) (.int .i64 0) (.slice none 0 0) (.int .i64 0) (.int .i64 0) (.int .i64 0)
      unfold set10 at q0 q1 q2 q3 q4 q5 q6 q7 q8 q9
      exact bodyPost_ret (v := .tuple #[.agg #[.string ⟨#[]⟩, .int .i64 0, .int .i64 0, .int .i64 0, .int .i64 0, .int .i64 0, .slice none 0 0, .int .i64 0, .int .i64 0, .int .i64 0], .int .i64 2]) (by simp [results, Try.results15, go_sem, q0, q1, q2, q3, q4, q5, q6, q7, q8, q9]) rfl (RT_zero _ _ 2 (set10_below (show Below w.heap.size w _ by first | exact HB1.out | exact pw_below_drewN HB1.out _) (Nat.le_succ _) _ _ _ _ _ _ _ _ _ _))
    case neg =>
      rw [refillT_ok hv ho]
      clear hv
      have HBT := Aside0.mk (fun W => between_calls now t.clock 1099511627776 W true (by rw [decide_eq_true (by omega)]))
      have d1 : decide (now < t.clock) = false := decide_eq_false (by omega)
      have d2 : decide (1099511627776 < now) = false := decide_eq_false (by omega)
      have HFL := Aside0.mk (fun W => HFL.out W HV.out (by omega) (by omega))
      clear ho
      go_enter Try.func15, Try.ntmps15
      go_wp2_with (first
      | (go_at_call 18; (with_reducible refine (HCK.out _ HW0.out).mono ?_); rintro e w1 ⟨rfl, hb⟩; have hx1 := (hb.block w.heap.size HSZ.out).trans HBX.out; have hz1 := (hb.block (w.heap.size + 1) HSZ2.out).trans HBZ.out; have HB1 := Aside0.mk (HW0.out.trans (hb.mono HW0.out.size)); clear x0 x1 x2 x3 x4 x5 x6 x7 x8 x9; clear z0 z1 z2 z3 z4 z5 z6 z7 z8 z9; have x0 := (blk_cell hx1 0).trans rfl; have x1 := (blk_cell hx1 1).trans rfl; have x2 := (blk_cell hx1 2).trans rfl; have x3 := (blk_cell hx1 3).trans rfl; have x4 := (blk_cell hx1 4).trans rfl; have x5 := (blk_cell hx1 5).trans rfl; have x6 := (blk_cell hx1 6).trans rfl; have x7 := (blk_cell hx1 7).trans rfl; have x8 := (blk_cell hx1 8).trans rfl; have x9 := (blk_cell hx1 9).trans rfl; simp only [List.getElem?_toArray, List.getElem?_cons_zero, List.getElem?_cons_succ] at x0 x1 x2 x3 x4 x5 x6 x7 x8 x9; have z0 := (blk_cell hz1 0).trans rfl; have z1 := (blk_cell hz1 1).trans rfl; have z2 := (blk_cell hz1 2).trans rfl; have z3 := (blk_cell hz1 3).trans rfl; have z4 := (blk_cell hz1 4).trans rfl; have z5 := (blk_cell hz1 5).trans rfl; have z6 := (blk_cell hz1 6).trans rfl; have z7 := (blk_cell hz1 7).trans rfl; have z8 := (blk_cell hz1 8).trans rfl; have z9 := (blk_cell hz1 9).trans rfl; simp only [List.getElem?_toArray, List.getElem?_cons_zero, List.getElem?_cons_succ] at z0 z1 z2 z3 z4 z5 z6 z7 z8 z9; have fz := blk_frozen hz1; have fz0 := fz 0; have fz1 := fz 1; have fz2 := fz 2; have fz3 := fz 3; have fz4 := fz 4; have fz5 := fz 5; have fz6 := fz 6; have fz7 := fz 7; have fz8 := fz 8; have fz9 := fz 9; have HZ1 := Aside0.mk hz1; clear hb hx1 hz1 fz)
      | (go_at_call 33; (with_reducible refine (HBT.out _).mono ?_); rintro e w2 ⟨rfl, ⟨q2, rfl⟩⟩; have HZ2 := Aside0.mk (show (w1.drewN q2).heap[w.heap.size + 1]? = some (.cells #[.string ⟨#[]⟩, .int .i64 0, .int .i64 0, .int .i64 0, .int .i64 0, .int .i64 0, .slice none 0 0, .int .i64 0, .int .i64 0, .int .i64 0] 25 (0, 0)) from HZ1.out); have HB2 := Aside0.mk (pw_below_drewN HB1.out q2))
      | (go_at_call 34; (with_reducible refine (HFL.out _).mono ?_); rintro e w3 ⟨rfl, hb⟩; have hz3 := hb; have HZ3 := Aside0.mk ((hb.block (w.heap.size + 1) (by have := heap_lt HZ1.out; simpa using this)).trans HZ1.out); have HB3 := Aside0.mk ((show Below w.heap.size w _ by first | exact HB1.out | exact pw_below_drewN HB1.out _).trans (hb.mono (show Below w.heap.size w _ by first | exact HB1.out | exact pw_below_drewN HB1.out _).size)); clear x0 x1 x2 x3 x4 x5 x6 x7 x8 x9; clear z0 z1 z2 z3 z4 z5 z6 z7 z8 z9; clear hz3 hb fz0 fz1 fz2 fz3 fz4 fz5 fz6 fz7 fz8 fz9; have z0 := (blk_cell HZ3.out 0).trans rfl; have z1 := (blk_cell HZ3.out 1).trans rfl; have z2 := (blk_cell HZ3.out 2).trans rfl; have z3 := (blk_cell HZ3.out 3).trans rfl; have z4 := (blk_cell HZ3.out 4).trans rfl; have z5 := (blk_cell HZ3.out 5).trans rfl; have z6 := (blk_cell HZ3.out 6).trans rfl; have z7 := (blk_cell HZ3.out 7).trans rfl; have z8 := (blk_cell HZ3.out 8).trans rfl; have z9 := (blk_cell HZ3.out 9).trans rfl; simp only [List.getElem?_toArray, List.getElem?_cons_zero, List.getElem?_cons_succ] at z0 z1 z2 z3 z4 z5 z6 z7 z8 z9; have fz := blk_frozen HZ3.out; have fz0 := fz 0; have fz1 := fz 1; have fz2 := fz 2; have fz3 := fz 3; have fz4 := fz 4; have fz5 := fz 5; have fz6 := fz 6; have fz7 := fz 7; have fz8 := fz 8; have fz9 := fz 9; clear fz))
      obtain ⟨q0, q1, q2, q3, q4, q5, q6, q7, q8, q9⟩ := set10_cells HZ3.out (.string (fillT t now).nm) (.int .i64 (fillT t now).rate) (.int .i64 (fillT t now).burst) (.int .i64 (fillT t now).level) (.int .i64 (fillT t now).clock) (.int .i64 (fillT t now).mx) (.slice A t.ser.length c) (.int .i64 (fillT t now).acc) (.int .i64 (fillT t now).rr) (.int .i64 (fillT t now).rs)
      unfold set10 at q0 q1 q2 q3 q4 q5 q6 q7 q8 q9
      exact bodyPost_ret (v := .tuple #[.agg #[.string (fillT t now).nm, .int .i64 (fillT t now).rate, .int .i64 (fillT t now).burst, .int .i64 (fillT t now).level, .int .i64 (fillT t now).clock, .int .i64 (fillT t now).mx, .slice A t.ser.length c, .int .i64 (fillT t now).acc, .int .i64 (fillT t now).rr, .int .i64 (fillT t now).rs], .int .i64 0]) (by simp [results, Try.results15, go_sem, q0, q1, q2, q3, q4, q5, q6, q7, q8, q9]) rfl ⟨A, c, rfl, hc, Kd.C_below HR.out (set10_below HB3.out (Nat.le_succ _) _ _ _ _ _ _ _ _ _ _), set10_below HB3.out (Nat.le_succ _) _ _ _ _ _ _ _ _ _ _⟩
end Go.Proofs.Ytakobehkajphpaa.H
