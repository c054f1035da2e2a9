/- Refill, New, Offered, and the reference's; the reference's Same. -/
import Derived.Test.YtakobehkajphpaaGreatTQRef
namespace Go.Proofs.YtakobehkajphpaaGreat.H
open Go Go.RowKit Go.Proofs.YtakobehkajphpaaGreatW.PrintWords Go.Proofs.YtakobehkajphpaaGreatW.PrintLast Go.Proofs.YtakobehkajphpaaGreatW.PrintMore Go.Proofs.YtakobehkajphpaaGreat.PAll
attribute [local go_sem] max2_int min2_int max_two min_two
set_option linter.unusedVariables false
set_option linter.unusedSimpArgs false

/-- What a function that hands back a tenant and an error leaves. -/
def RT (W : World) (r : TV × Int) (e : Ending) (w' : World) : Prop := ∃ A c, e = .returned (.tuple #[tv r.1 (.slice A r.1.ser.length c), .int .i64 r.2]) ∧ r.1.ser.length ≤ c ∧ Kd.C kLL w' A r.1.ser.length r.1.ser ∧ Below W.heap.size W w'
theorem RT_zero (W w' : World) (k : Int) (hb : Below W.heap.size W w') : RT W (zT, k) (.returned (.tuple #[tv zT (.slice none 0 0), .int .i64 k])) w' := ⟨none, 0, rfl, Nat.le_refl _, Kd.C_nil _ _, hb⟩
theorem fill_small {t : TV} (h : SmallT t) (now : Int) : SmallT (fillT t now) := ⟨h.nm, h.len, h.ser⟩

/-- Ten stores into one block. -/
def set10 (W : World) (B : Nat) (v0 v1 v2 v3 v4 v5 v6 v7 v8 v9 : Value) : World := (((((((((W.setCell ⟨B, 0, none⟩ v0).setCell ⟨B, 1, none⟩ v1).setCell ⟨B, 2, none⟩ v2).setCell ⟨B, 3, none⟩ v3).setCell ⟨B, 4, none⟩ v4).setCell ⟨B, 5, none⟩ v5).setCell ⟨B, 6, none⟩ v6).setCell ⟨B, 7, none⟩ v7).setCell ⟨B, 8, none⟩ v8).setCell ⟨B, 9, none⟩ v9
theorem set10_cells {W : World} {B : Nat} {c0 c1 c2 c3 c4 c5 c6 c7 c8 c9 : Value} {T : TypeId} (h : W.heap[B]? = some (.cells #[c0, c1, c2, c3, c4, c5, c6, c7, c8, c9] T (0, 0))) (v0 v1 v2 v3 v4 v5 v6 v7 v8 v9 : Value) :
    (set10 W B v0 v1 v2 v3 v4 v5 v6 v7 v8 v9).cell? ⟨B, 0, none⟩ = some v0 ∧ (set10 W B v0 v1 v2 v3 v4 v5 v6 v7 v8 v9).cell? ⟨B, 1, none⟩ = some v1 ∧ (set10 W B v0 v1 v2 v3 v4 v5 v6 v7 v8 v9).cell? ⟨B, 2, none⟩ = some v2 ∧ (set10 W B v0 v1 v2 v3 v4 v5 v6 v7 v8 v9).cell? ⟨B, 3, none⟩ = some v3 ∧ (set10 W B v0 v1 v2 v3 v4 v5 v6 v7 v8 v9).cell? ⟨B, 4, none⟩ = some v4 ∧ (set10 W B v0 v1 v2 v3 v4 v5 v6 v7 v8 v9).cell? ⟨B, 5, none⟩ = some v5 ∧ (set10 W B v0 v1 v2 v3 v4 v5 v6 v7 v8 v9).cell? ⟨B, 6, none⟩ = some v6 ∧ (set10 W B v0 v1 v2 v3 v4 v5 v6 v7 v8 v9).cell? ⟨B, 7, none⟩ = some v7 ∧ (set10 W B v0 v1 v2 v3 v4 v5 v6 v7 v8 v9).cell? ⟨B, 8, none⟩ = some v8 ∧ (set10 W B v0 v1 v2 v3 v4 v5 v6 v7 v8 v9).cell? ⟨B, 9, none⟩ = some v9 := by
  have g := blk_set (blk_set (blk_set (blk_set (blk_set (blk_set (blk_set (blk_set (blk_set (blk_set h 0 v0) 1 v1) 2 v2) 3 v3) 4 v4) 5 v5) 6 v6) 7 v7) 8 v8) 9 v9
  simp only [List.setIfInBounds_toArray, List.set_cons_succ, List.set_cons_zero] at g
  unfold set10
  exact ⟨(blk_cell g 0).trans rfl, (blk_cell g 1).trans rfl, (blk_cell g 2).trans rfl, (blk_cell g 3).trans rfl, (blk_cell g 4).trans rfl, (blk_cell g 5).trans rfl, (blk_cell g 6).trans rfl, (blk_cell g 7).trans rfl, (blk_cell g 8).trans rfl, (blk_cell g 9).trans rfl⟩
theorem set10_below {w W : World} {n B : Nat} (h : Below n w W) (hB : n ≤ B) (v0 v1 v2 v3 v4 v5 v6 v7 v8 v9 : Value) : Below n w (set10 W B v0 v1 v2 v3 v4 v5 v6 v7 v8 v9) := by
  unfold set10
  exact ((((((((((h.setCell (p := ⟨B, 0, none⟩) hB v0).setCell (p := ⟨B, 1, none⟩) hB v1).setCell (p := ⟨B, 2, none⟩) hB v2).setCell (p := ⟨B, 3, none⟩) hB v3).setCell (p := ⟨B, 4, none⟩) hB v4).setCell (p := ⟨B, 5, none⟩) hB v5).setCell (p := ⟨B, 6, none⟩) hB v6).setCell (p := ⟨B, 7, none⟩) hB v7).setCell (p := ⟨B, 8, none⟩) hB v8).setCell (p := ⟨B, 9, none⟩) hB v9)

set_option maxRecDepth 100000 in
set_option maxHeartbeats 4000000 in
theorem Qrefill_calls (t : TV) (h : ValT t) (now : Int) (h0 : t.clock ≤ now) (h1 : now ≤ 1099511627776) (A : Option Addr) (n c : Nat) (w : World) :
    Calls Tryz.prog 28 #[tv t (.slice A n c), .int .i64 now] w fun e w' => e = .returned (tv (fillT t now) (.slice A n c)) ∧ Below w.heap.size w w' := by
  obtain ⟨hm0, hm1⟩ := fill_bounds h h0 h1
  have hl0 := h.l0
  have hl1 := h.l1
  have hb0 := h.b0
  have hb1 := h.b1
  have hc0 := h.c0
  have hc1 := h.c1
  clear h
  obtain ⟨nm, rate, burst, level, clock, mx, ser, acc, rr, rs⟩ := t
  simp only [tv, fillT] at *
  have hu := Tryz.underlying24
  have hu2 := Tryz.underlying78
  by_cases hs : level + rate * (now - clock) ≤ 1000 * burst
  case pos =>
    have d1 : decide (1000 * burst < level + rate * (now - clock)) = false := decide_eq_false (by omega)
    have HE := Aside0.mk (show (if level + rate * (now - clock) ≤ 1000 * burst then level + rate * (now - clock) else 1000 * burst) = level + rate * (now - clock) from if_pos hs)
    rw [HE.out]
    go_enter Tryz.func28, Tryz.ntmps28
    go_wp2
    all_goals first
      | (exfalso; omega)
      | exact bodyPost_ret (v := .agg #[.string nm, .int .i64 rate, .int .i64 burst, .int .i64 (level + rate * (now - clock)), .int .i64 now, .int .i64 mx, .slice A n c, .int .i64 acc, .int .i64 rr, .int .i64 rs]) (by simp [results, Tryz.results28, go_sem]) rfl ⟨rfl, by repeat (first | exact Below.refl _ _ | apply below_alloc)⟩
  case neg =>
    have d1 : decide (1000 * burst < level + rate * (now - clock)) = true := decide_eq_true (by omega)
    have HE := Aside0.mk (show (if level + rate * (now - clock) ≤ 1000 * burst then level + rate * (now - clock) else 1000 * burst) = 1000 * burst from if_neg hs)
    rw [HE.out]
    go_enter Tryz.func28, Tryz.ntmps28
    go_wp2
    all_goals first
      | (exfalso; omega)
      | exact bodyPost_ret (v := .agg #[.string nm, .int .i64 rate, .int .i64 burst, .int .i64 (1000 * burst), .int .i64 now, .int .i64 mx, .slice A n c, .int .i64 acc, .int .i64 rr, .int .i64 rs]) (by simp [results, Tryz.results28, go_sem]) rfl ⟨rfl, by repeat (first | exact Below.refl _ _ | apply below_alloc)⟩

end Go.Proofs.YtakobehkajphpaaGreat.H
