-- printed by the kit's print (print.py); merged by wip/mergeprint.py
import Derived.Test.YtakobehkajphpaaGreatTPF0
import Derived.Test.YtakobehkajphpaaGreatTHStr
namespace Go.Proofs.YtakobehkajphpaaGreat.PAll
open Go.RowKit Go.Proofs.YtakobehkajphpaaGreatW.PrintWords Go.Proofs.YtakobehkajphpaaGreatW.PrintLast Go.Proofs.YtakobehkajphpaaGreatW.PrintMore
attribute [local go_sem] max2_int min2_int max_two min_two max_three min_three max_four min_four
attribute [local go_sem] HS.run_gtr HS.run_leq HS.run_geq
set_option linter.unusedVariables false
set_option linter.unusedSimpArgs false
section
/-! ### heavyhitters_New: function 34 -/
def heavyhitters_New.f (a0 : Int) : Option (Int × Int × Int × (List (S64)) × Int) := if a0 < 2 then (some (0, 0, 0, ([] : List (S64)), 2)) else (if a0 > 100 then (some (0, 0, 0, ([] : List (S64)), 2)) else (some (a0, 0, 0, ([] : List (S64)), 0)))
set_option maxHeartbeats 8000000 in
set_option maxRecDepth 100000 in
theorem heavyhitters_New.calls (a0 : Int) (r1 : Int) (r2 : Int) (r3 : Int) (r4 : List (S64)) (r5 : Int) (w : World) (h : heavyhitters_New.f a0 = some (r1, r2, r3, r4, r5)) :
    Calls Tryz.prog 34 #[.int .i64 a0] w fun e w' => ∃ v3_ : Value, e = .returned (.tuple #[.agg #[.int .i64 r1, .int .i64 r2, .int .i64 r3, v3_], .int .i64 r5]) ∧ Kd.R k64 64 w' w.heap.size (fun _ => True) v3_ r4 ∧ Below w.heap.size w w' := by
  have hu55 := Tryz.underlying55
  have HB := Aside0.mk (Below.refl w.heap.size w)
  have H : (if a0 < 2 then (some (0, 0, 0, ([] : List (S64)), 2)) else (if a0 > 100 then (some (0, 0, 0, ([] : List (S64)), 2)) else (some (a0, 0, 0, ([] : List (S64)), 0)))) = some (r1, r2, r3, r4, r5) := h
  clear h
  by_cases c2 : a0 < 2
  · rw [if_pos c2] at H
    have c2b0 : decide (a0 < 2) = true := decide_eq_true c2
    clear c2
    simp only [Option.some.injEq, Prod.mk.injEq] at H
    obtain ⟨rfl, rfl, rfl, rfl, rfl⟩ := H
    go_enter Tryz.func34, Tryz.ntmps34
    go_wp2_with (first | ((with_reducible refine gate_dst (N := 2) rfl ?_); refine box_event ?hg (N := 2) ?hd (cs := #[.int .i64 0, .int .i64 0, .int .i64 0, .slice none 0 0]) (t := 55) ?hr ?_; (case hd => rfl); (case hg => rfl); (case hr => first | (go_simp; done) | (go_simp; rfl)); intro gb339 hg w3 hbox hb; have n0_ := Aside0.mk (below_step (by repeat (first | (with_reducible first | exact HB.out | apply below_alloc | apply pw_below_drewN | apply below_drew1) | exact HB.out)) hb); have n1_ := Aside0.mk (hbox); have n2_ := Aside0.mk ((by rw [hg]; exact (below_size (by repeat (first | (with_reducible first | exact HB.out | apply below_alloc | apply pw_below_drewN | apply below_drew1) | exact HB.out))) : w.heap.size ≤ gb339)); have n3_ := Aside0.mk ((by rw [hg]; exact (below_size (by repeat (first | (with_reducible first | exact HB.out | apply below_alloc | apply pw_below_drewN | apply below_drew1) | exact HB.out))) : w.heap.size ≤ gb339)); clear HB; have HB := n0_; have BK339 := n1_; have GW339 := n2_; have GE339 := n3_; clear n0_ n1_ n2_ n3_; clear hb hbox hg; have hcz4_0 : w3.cell? ⟨gb339, 0, none⟩ = some (.int .i64 0) := (blk_cell BK339.out 0).trans rfl; have hcz4_1 : w3.cell? ⟨gb339, 1, none⟩ = some (.int .i64 0) := (blk_cell BK339.out 1).trans rfl; have hcz4_2 : w3.cell? ⟨gb339, 2, none⟩ = some (.int .i64 0) := (blk_cell BK339.out 2).trans rfl; have hcz4_3 : w3.cell? ⟨gb339, 3, none⟩ = some (.slice none 0 0) := (blk_cell BK339.out 3).trans rfl; have hfz4_0 := blk_frozen BK339.out 0; have hfz4_1 := blk_frozen BK339.out 1; have hfz4_2 := blk_frozen BK339.out 2; have hfz4_3 := blk_frozen BK339.out 3))
    refine bodyPost_ret (results_ct rfl _ _ gb339 55 #[.int .i64 0, .int .i64 0, .int .i64 0, .slice none 0 0] (0, 0) _ rfl (by (with_reducible repeat (first | refine blk_drewN ?_ _ | refine blk_drew ?_ | refine blk_alloc ?_ _)); refine blk_put (cs := #[.int .i64 0, .int .i64 0, .int .i64 0, .slice none 0 0]) ?_ 3 _ rfl; (with_reducible repeat (first | refine blk_drewN ?_ _ | refine blk_drew ?_ | refine blk_alloc ?_ _)); refine blk_put (cs := #[.int .i64 0, .int .i64 0, .int .i64 0, .slice none 0 0]) ?_ 2 _ rfl; (with_reducible repeat (first | refine blk_drewN ?_ _ | refine blk_drew ?_ | refine blk_alloc ?_ _)); refine blk_put (cs := #[.int .i64 0, .int .i64 0, .int .i64 0, .slice none 0 0]) ?_ 1 _ rfl; (with_reducible repeat (first | refine blk_drewN ?_ _ | refine blk_drew ?_ | refine blk_alloc ?_ _)); refine blk_put (cs := #[.int .i64 0, .int .i64 0, .int .i64 0, .slice none 0 0]) ?_ 0 _ rfl; (with_reducible repeat (first | refine blk_drewN ?_ _ | refine blk_drew ?_ | refine blk_alloc ?_ _)); exact BK339.out) Tryz.underlying55 rfl (by kernel_rfl)) rfl ?_
    exact ⟨_, by first | rfl | (simp [errW_none, errW_some] <;> rfl) | (simp [*, errW_none, errW_some] <;> rfl), by first | exact Kd.R_nil _ _ _ _ _ | exact Kd.N_nil _ _ _ _ _ | exact Kd.V_nil _ _ _ _ _ | exact Kd.Q_nil _ _ _ _ _ | exact Kd.S_nil _ _ _ _ _, by repeat (first | (with_reducible first | exact HB.out | apply below_alloc | apply pw_below_drewN | apply below_drew1 | refine below_set ?_ GE339.out) | exact HB.out)⟩
  · rw [if_neg c2] at H
    have c2b0 : decide (a0 < 2) = false := decide_eq_false c2
    clear c2
    by_cases c5 : a0 > 100
    · rw [if_pos c5] at H
      have c5b0 : decide (100 < a0) = true := decide_eq_true c5
      clear c5
      simp only [Option.some.injEq, Prod.mk.injEq] at H
      obtain ⟨rfl, rfl, rfl, rfl, rfl⟩ := H
      go_enter Tryz.func34, Tryz.ntmps34
      go_wp2_with (first | ((with_reducible refine gate_dst (N := 2) rfl ?_); refine box_event ?hg (N := 2) ?hd (cs := #[.int .i64 0, .int .i64 0, .int .i64 0, .slice none 0 0]) (t := 55) ?hr ?_; (case hd => rfl); (case hg => rfl); (case hr => first | (go_simp; done) | (go_simp; rfl)); intro gb339 hg w6 hbox hb; have n0_ := Aside0.mk (below_step (by repeat (first | (with_reducible first | exact HB.out | apply below_alloc | apply pw_below_drewN | apply below_drew1) | exact HB.out)) hb); have n1_ := Aside0.mk (hbox); have n2_ := Aside0.mk ((by rw [hg]; exact (below_size (by repeat (first | (with_reducible first | exact HB.out | apply below_alloc | apply pw_below_drewN | apply below_drew1) | exact HB.out))) : w.heap.size ≤ gb339)); have n3_ := Aside0.mk ((by rw [hg]; exact (below_size (by repeat (first | (with_reducible first | exact HB.out | apply below_alloc | apply pw_below_drewN | apply below_drew1) | exact HB.out))) : w.heap.size ≤ gb339)); clear HB; have HB := n0_; have BK339 := n1_; have GW339 := n2_; have GE339 := n3_; clear n0_ n1_ n2_ n3_; clear hb hbox hg; have hcz7_0 : w6.cell? ⟨gb339, 0, none⟩ = some (.int .i64 0) := (blk_cell BK339.out 0).trans rfl; have hcz7_1 : w6.cell? ⟨gb339, 1, none⟩ = some (.int .i64 0) := (blk_cell BK339.out 1).trans rfl; have hcz7_2 : w6.cell? ⟨gb339, 2, none⟩ = some (.int .i64 0) := (blk_cell BK339.out 2).trans rfl; have hcz7_3 : w6.cell? ⟨gb339, 3, none⟩ = some (.slice none 0 0) := (blk_cell BK339.out 3).trans rfl; have hfz7_0 := blk_frozen BK339.out 0; have hfz7_1 := blk_frozen BK339.out 1; have hfz7_2 := blk_frozen BK339.out 2; have hfz7_3 := blk_frozen BK339.out 3))
      refine bodyPost_ret (results_ct rfl _ _ gb339 55 #[.int .i64 0, .int .i64 0, .int .i64 0, .slice none 0 0] (0, 0) _ rfl (by (with_reducible repeat (first | refine blk_drewN ?_ _ | refine blk_drew ?_ | refine blk_alloc ?_ _)); refine blk_put (cs := #[.int .i64 0, .int .i64 0, .int .i64 0, .slice none 0 0]) ?_ 3 _ rfl; (with_reducible repeat (first | refine blk_drewN ?_ _ | refine blk_drew ?_ | refine blk_alloc ?_ _)); refine blk_put (cs := #[.int .i64 0, .int .i64 0, .int .i64 0, .slice none 0 0]) ?_ 2 _ rfl; (with_reducible repeat (first | refine blk_drewN ?_ _ | refine blk_drew ?_ | refine blk_alloc ?_ _)); refine blk_put (cs := #[.int .i64 0, .int .i64 0, .int .i64 0, .slice none 0 0]) ?_ 1 _ rfl; (with_reducible repeat (first | refine blk_drewN ?_ _ | refine blk_drew ?_ | refine blk_alloc ?_ _)); refine blk_put (cs := #[.int .i64 0, .int .i64 0, .int .i64 0, .slice none 0 0]) ?_ 0 _ rfl; (with_reducible repeat (first | refine blk_drewN ?_ _ | refine blk_drew ?_ | refine blk_alloc ?_ _)); exact BK339.out) Tryz.underlying55 rfl (by kernel_rfl)) rfl ?_
      exact ⟨_, by first | rfl | (simp [errW_none, errW_some] <;> rfl) | (simp [*, errW_none, errW_some] <;> rfl), by first | exact Kd.R_nil _ _ _ _ _ | exact Kd.N_nil _ _ _ _ _ | exact Kd.V_nil _ _ _ _ _ | exact Kd.Q_nil _ _ _ _ _ | exact Kd.S_nil _ _ _ _ _, by repeat (first | (with_reducible first | exact HB.out | apply below_alloc | apply pw_below_drewN | apply below_drew1 | refine below_set ?_ GE339.out) | exact HB.out)⟩
    · rw [if_neg c5] at H
      have c5b0 : decide (100 < a0) = false := decide_eq_false c5
      clear c5
      simp only [Option.some.injEq, Prod.mk.injEq] at H
      obtain ⟨rfl, rfl, rfl, rfl, rfl⟩ := H
      go_enter Tryz.func34, Tryz.ntmps34
      go_wp2_with (first | ((with_reducible refine gate_dst (N := 2) rfl ?_); refine box_event ?hg (N := 2) ?hd (cs := #[.int .i64 0, .int .i64 0, .int .i64 0, .slice none 0 0]) (t := 55) ?hr ?_; (case hd => rfl); (case hg => rfl); (case hr => first | (go_simp; done) | (go_simp; rfl)); intro gb339 hg w8 hbox hb; have n0_ := Aside0.mk (below_step (by repeat (first | (with_reducible first | exact HB.out | apply below_alloc | apply pw_below_drewN | apply below_drew1) | exact HB.out)) hb); have n1_ := Aside0.mk (hbox); have n2_ := Aside0.mk ((by rw [hg]; exact (below_size (by repeat (first | (with_reducible first | exact HB.out | apply below_alloc | apply pw_below_drewN | apply below_drew1) | exact HB.out))) : w.heap.size ≤ gb339)); have n3_ := Aside0.mk ((by rw [hg]; exact (below_size (by repeat (first | (with_reducible first | exact HB.out | apply below_alloc | apply pw_below_drewN | apply below_drew1) | exact HB.out))) : w.heap.size ≤ gb339)); clear HB; have HB := n0_; have BK339 := n1_; have GW339 := n2_; have GE339 := n3_; clear n0_ n1_ n2_ n3_; clear hb hbox hg; have hcz9_0 : w8.cell? ⟨gb339, 0, none⟩ = some (.int .i64 0) := (blk_cell BK339.out 0).trans rfl; have hcz9_1 : w8.cell? ⟨gb339, 1, none⟩ = some (.int .i64 0) := (blk_cell BK339.out 1).trans rfl; have hcz9_2 : w8.cell? ⟨gb339, 2, none⟩ = some (.int .i64 0) := (blk_cell BK339.out 2).trans rfl; have hcz9_3 : w8.cell? ⟨gb339, 3, none⟩ = some (.slice none 0 0) := (blk_cell BK339.out 3).trans rfl; have hfz9_0 := blk_frozen BK339.out 0; have hfz9_1 := blk_frozen BK339.out 1; have hfz9_2 := blk_frozen BK339.out 2; have hfz9_3 := blk_frozen BK339.out 3))
      refine bodyPost_ret (results_ct rfl _ _ gb339 55 #[.int .i64 a0, .int .i64 0, .int .i64 0, .slice none 0 0] (0, 0) _ rfl (by (with_reducible repeat (first | refine blk_drewN ?_ _ | refine blk_drew ?_ | refine blk_alloc ?_ _)); refine blk_put (cs := #[.int .i64 a0, .int .i64 0, .int .i64 0, .slice none 0 0]) ?_ 3 _ rfl; (with_reducible repeat (first | refine blk_drewN ?_ _ | refine blk_drew ?_ | refine blk_alloc ?_ _)); refine blk_put (cs := #[.int .i64 a0, .int .i64 0, .int .i64 0, .slice none 0 0]) ?_ 2 _ rfl; (with_reducible repeat (first | refine blk_drewN ?_ _ | refine blk_drew ?_ | refine blk_alloc ?_ _)); refine blk_put (cs := #[.int .i64 a0, .int .i64 0, .int .i64 0, .slice none 0 0]) ?_ 1 _ rfl; (with_reducible repeat (first | refine blk_drewN ?_ _ | refine blk_drew ?_ | refine blk_alloc ?_ _)); refine blk_put (cs := #[.int .i64 0, .int .i64 0, .int .i64 0, .slice none 0 0]) ?_ 0 _ rfl; (with_reducible repeat (first | refine blk_drewN ?_ _ | refine blk_drew ?_ | refine blk_alloc ?_ _)); exact BK339.out) Tryz.underlying55 rfl (by kernel_rfl)) rfl ?_
      exact ⟨_, by first | rfl | (simp [errW_none, errW_some] <;> rfl) | (simp [*, errW_none, errW_some] <;> rfl), by first | exact Kd.R_nil _ _ _ _ _ | exact Kd.N_nil _ _ _ _ _ | exact Kd.V_nil _ _ _ _ _ | exact Kd.Q_nil _ _ _ _ _ | exact Kd.S_nil _ _ _ _ _, by repeat (first | (with_reducible first | exact HB.out | apply below_alloc | apply pw_below_drewN | apply below_drew1 | refine below_set ?_ GE339.out) | exact HB.out)⟩
end

section
/-! ### heavyhitters_Check: function 59 -/
mutual
def heavyhitters_Check.j0 : Nat → Bool → Int → Int → Int → List (S64) → Option (Int)
  | 0, _, _, _, _, _ => none
  | k + 1, x13, x341000, x341001, x341002, x341003 => if x13 = true then (some 2) else (if x341001 < 0 then (heavyhitters_Check.j1 k true x341000 x341001 x341002 x341003) else (if x341001 > 1099511627776 then (heavyhitters_Check.j1 k true x341000 x341001 x341002 x341003) else (if x341002 < 0 then (heavyhitters_Check.j1 k true x341000 x341001 x341002 x341003) else (heavyhitters_Check.j1 k (decide (x341002 > 1099511627776)) x341000 x341001 x341002 x341003))))
def heavyhitters_Check.j1 : Nat → Bool → Int → Int → Int → List (S64) → Option (Int)
  | 0, _, _, _, _, _ => none
  | k + 1, x31, x341000, x341001, x341002, x341003 => if x31 = true then (some 2) else (if (x341003.length : Int) > (wrap64 (x341000 - 1)) then (some 4) else (heavyhitters_Check.l0 k (wrap64 (x341000 * x341002)) x341003 (x341003.length : Int) 0 x341000 x341001 x341002 x341003))
def heavyhitters_Check.l0 : Nat → Int → List (S64) → Int → Int → Int → Int → Int → List (S64) → Option (Int)
  | 0, _, _, _, _, _, _, _, _ => none
  | k + 1, x3, x45, x46, x47, x341000, x341001, x341002, x341003 => if x47 < x46 then (if 0 ≤ x47 then (if x47 < (x45.length : Int) then (if (((rd_T64 x45 x47).f0).size : Int) > 200 then (some 4) else (if x47 > 0 then (if 0 ≤ (wrap64 (x47 - 1)) then (if (wrap64 (x47 - 1)) < (x341003.length : Int) then (heavyhitters_Check.j3 k x3 x45 x46 x47 (!(Op.bytesLess (((rd_T64 x341003 (wrap64 (x47 - 1))).f0).toList) (((rd_T64 x45 x47).f0).toList))) x341000 x341001 x341002 x341003 ((rd_T64 x45 x47).f0) ((rd_T64 x45 x47).f1)) else (none)) else (none)) else (heavyhitters_Check.j3 k x3 x45 x46 x47 false x341000 x341001 x341002 x341003 ((rd_T64 x45 x47).f0) ((rd_T64 x45 x47).f1)))) else (none)) else (none)) else (if x3 > x341001 then (some 10) else (some 0))
def heavyhitters_Check.j3 : Nat → Int → List (S64) → Int → Int → Bool → Int → Int → Int → List (S64) → ByteArray → Int → Option (Int)
  | 0, _, _, _, _, _, _, _, _, _, _, _ => none
  | k + 1, x3, x45, x46, x47, x69, x341000, x341001, x341002, x341003, x343000, x343001 => if x69 = true then (some 9) else (if x343001 < 1 then (some 2) else (if x343001 > 1099511627776 then (some 2) else (heavyhitters_Check.l0 k (wrap64 (x3 + x343001)) x45 x46 (wrap64 (x47 + 1)) x341000 x341001 x341002 x341003)))
end
def heavyhitters_Check.f (k : Nat) (a0_0 : Int) (a0_1 : Int) (a0_2 : Int) (l0_3 : List (S64)) : Option (Int) := if a0_0 < 2 then (heavyhitters_Check.j0 k true a0_0 a0_1 a0_2 l0_3) else (heavyhitters_Check.j0 k (decide (a0_0 > 100)) a0_0 a0_1 a0_2 l0_3)
theorem heavyhitters_Check.mono_l : ∀ k, (∀ y0 y1 y2 y3 y4, LeO (heavyhitters_Check.j0 k y0 y1 y2 y3 y4) (heavyhitters_Check.j0 (k + 1) y0 y1 y2 y3 y4)) ∧ (∀ y0 y1 y2 y3 y4, LeO (heavyhitters_Check.j1 k y0 y1 y2 y3 y4) (heavyhitters_Check.j1 (k + 1) y0 y1 y2 y3 y4)) ∧ (∀ y0 y1 y2 y3 y4 y5 y6 y7, LeO (heavyhitters_Check.l0 k y0 y1 y2 y3 y4 y5 y6 y7) (heavyhitters_Check.l0 (k + 1) y0 y1 y2 y3 y4 y5 y6 y7)) ∧ (∀ y0 y1 y2 y3 y4 y5 y6 y7 y8 y9 y10, LeO (heavyhitters_Check.j3 k y0 y1 y2 y3 y4 y5 y6 y7 y8 y9 y10) (heavyhitters_Check.j3 (k + 1) y0 y1 y2 y3 y4 y5 y6 y7 y8 y9 y10))
  | 0 => ⟨fun _ _ _ _ _ r h => by simp [heavyhitters_Check.j0] at h, fun _ _ _ _ _ r h => by simp [heavyhitters_Check.j1] at h, fun _ _ _ _ _ _ _ _ r h => by simp [heavyhitters_Check.l0] at h, fun _ _ _ _ _ _ _ _ _ _ _ r h => by simp [heavyhitters_Check.j3] at h⟩
  | k + 1 => by
    obtain ⟨ih0, ih1, ih2, ih3⟩ := heavyhitters_Check.mono_l k
    refine ⟨?_, ?_, ?_, ?_⟩
    · intro y0 y1 y2 y3 y4
      unfold heavyhitters_Check.j0
      repeat' first
      | (with_reducible exact ih0 _ _ _ _ _)
      | (with_reducible exact ih1 _ _ _ _ _)
      | (with_reducible exact ih2 _ _ _ _ _ _ _ _)
      | (with_reducible exact ih3 _ _ _ _ _ _ _ _ _ _ _)
      | (with_reducible exact LeO.refl _)
      | (with_reducible exact LeO.none _)
      | (with_reducible refine LeO.ite ?_ ?_)
      | (with_reducible refine LeO.bind ?_ (fun _ => ?_))
      | exact ih0 _ _ _ _ _
      | exact ih1 _ _ _ _ _
      | exact ih2 _ _ _ _ _ _ _ _
      | exact ih3 _ _ _ _ _ _ _ _ _ _ _
      | exact LeO.none _
      | refine LeO.ite ?_ ?_
      | refine LeO.bind ?_ (fun _ => ?_)
    · intro y0 y1 y2 y3 y4
      unfold heavyhitters_Check.j1
      repeat' first
      | (with_reducible exact ih0 _ _ _ _ _)
      | (with_reducible exact ih1 _ _ _ _ _)
      | (with_reducible exact ih2 _ _ _ _ _ _ _ _)
      | (with_reducible exact ih3 _ _ _ _ _ _ _ _ _ _ _)
      | (with_reducible exact LeO.refl _)
      | (with_reducible exact LeO.none _)
      | (with_reducible refine LeO.ite ?_ ?_)
      | (with_reducible refine LeO.bind ?_ (fun _ => ?_))
      | exact ih0 _ _ _ _ _
      | exact ih1 _ _ _ _ _
      | exact ih2 _ _ _ _ _ _ _ _
      | exact ih3 _ _ _ _ _ _ _ _ _ _ _
      | exact LeO.none _
      | refine LeO.ite ?_ ?_
      | refine LeO.bind ?_ (fun _ => ?_)
    · intro y0 y1 y2 y3 y4 y5 y6 y7
      unfold heavyhitters_Check.l0
      repeat' first
      | (with_reducible exact ih0 _ _ _ _ _)
      | (with_reducible exact ih1 _ _ _ _ _)
      | (with_reducible exact ih2 _ _ _ _ _ _ _ _)
      | (with_reducible exact ih3 _ _ _ _ _ _ _ _ _ _ _)
      | (with_reducible exact LeO.refl _)
      | (with_reducible exact LeO.none _)
      | (with_reducible refine LeO.ite ?_ ?_)
      | (with_reducible refine LeO.bind ?_ (fun _ => ?_))
      | exact ih0 _ _ _ _ _
      | exact ih1 _ _ _ _ _
      | exact ih2 _ _ _ _ _ _ _ _
      | exact ih3 _ _ _ _ _ _ _ _ _ _ _
      | exact LeO.none _
      | refine LeO.ite ?_ ?_
      | refine LeO.bind ?_ (fun _ => ?_)
    · intro y0 y1 y2 y3 y4 y5 y6 y7 y8 y9 y10
      unfold heavyhitters_Check.j3
      repeat' first
      | (with_reducible exact ih0 _ _ _ _ _)
      | (with_reducible exact ih1 _ _ _ _ _)
      | (with_reducible exact ih2 _ _ _ _ _ _ _ _)
      | (with_reducible exact ih3 _ _ _ _ _ _ _ _ _ _ _)
      | (with_reducible exact LeO.refl _)
      | (with_reducible exact LeO.none _)
      | (with_reducible refine LeO.ite ?_ ?_)
      | (with_reducible refine LeO.bind ?_ (fun _ => ?_))
      | exact ih0 _ _ _ _ _
      | exact ih1 _ _ _ _ _
      | exact ih2 _ _ _ _ _ _ _ _
      | exact ih3 _ _ _ _ _ _ _ _ _ _ _
      | exact LeO.none _
      | refine LeO.ite ?_ ?_
      | refine LeO.bind ?_ (fun _ => ?_)
theorem heavyhitters_Check.mono : ∀ a0 a1 a2 a3 k, LeO (heavyhitters_Check.f k a0 a1 a2 a3) (heavyhitters_Check.f (k + 1) a0 a1 a2 a3) := by
  intro a0 a1 a2 a3 k
  obtain ⟨ih0, ih1, ih2, ih3⟩ := heavyhitters_Check.mono_l k
  unfold heavyhitters_Check.f
  repeat' first
      | (with_reducible exact ih0 _ _ _ _ _)
      | (with_reducible exact ih1 _ _ _ _ _)
      | (with_reducible exact ih2 _ _ _ _ _ _ _ _)
      | (with_reducible exact ih3 _ _ _ _ _ _ _ _ _ _ _)
      | (with_reducible exact LeO.refl _)
      | (with_reducible exact LeO.none _)
      | (with_reducible refine LeO.ite ?_ ?_)
      | (with_reducible refine LeO.bind ?_ (fun _ => ?_))
      | exact ih0 _ _ _ _ _
      | exact ih1 _ _ _ _ _
      | exact ih2 _ _ _ _ _ _ _ _
      | exact ih3 _ _ _ _ _ _ _ _ _ _ _
      | exact LeO.none _
      | refine LeO.ite ?_ ?_
      | refine LeO.bind ?_ (fun _ => ?_)
set_option maxHeartbeats 8000000 in
set_option maxRecDepth 100000 in
theorem heavyhitters_Check.calls (k : Nat) (a0_0 : Int) (a0_1 : Int) (a0_2 : Int) (A0_3 : Option Addr) (c0_3 : Nat) (l0_3 : List (S64)) (r : Int) (w : World) (hr0_3 : Kd.C k64 w A0_3 l0_3.length l0_3) (hc0_3 : l0_3.length ≤ c0_3) (h : heavyhitters_Check.f k a0_0 a0_1 a0_2 l0_3 = some r) :
    Calls Tryz.prog 59 #[.agg #[.int .i64 a0_0, .int .i64 a0_1, .int .i64 a0_2, .slice A0_3 l0_3.length c0_3]] w fun e w' => e = .returned (.int .i64 r) ∧ Below w.heap.size w w' := by
  have hu55 := Tryz.underlying55
  have hu64 := Tryz.underlying64
  have HR0_3 := Aside0.mk hr0_3
  have HC0_3 := Aside0.mk hc0_3
  clear hr0_3 hc0_3
  have HB := Aside0.mk (Below.refl w.heap.size w)
  have H : (if a0_0 < 2 then (heavyhitters_Check.j0 k true a0_0 a0_1 a0_2 l0_3) else (heavyhitters_Check.j0 k (decide (a0_0 > 100)) a0_0 a0_1 a0_2 l0_3)) = some r := h
  clear h
  have HC2 := Aside0.mk H
  clear H
  go_enter Tryz.func59, Tryz.ntmps59
  go_upto_region 1 with (first | ((with_reducible refine gate_dst (N := 1) rfl ?_); refine box_event ?hg (N := 1) ?hd (cs := #[.int .i64 a0_0, .int .i64 a0_1, .int .i64 a0_2, .slice A0_3 l0_3.length c0_3]) (t := 55) ?hr ?_; (case hd => rfl); (case hg => rfl); (case hr => first | (go_simp; done) | (go_simp; rfl)); intro gb340 hg w3 hbox hb; have n0_ := Aside0.mk (below_step (by repeat (first | (with_reducible first | exact HB.out | apply below_alloc | apply pw_below_drewN | apply below_drew1) | exact HB.out)) hb); have n1_ := Aside0.mk (hbox); have n2_ := Aside0.mk ((by rw [hg]; exact (below_size (by repeat (first | (with_reducible first | exact HB.out | apply below_alloc | apply pw_below_drewN | apply below_drew1) | exact HB.out))) : w.heap.size ≤ gb340)); have n3_ := Aside0.mk ((by rw [hg]; exact (below_size (by repeat (first | (with_reducible first | exact HB.out | apply below_alloc | apply pw_below_drewN | apply below_drew1) | exact HB.out))) : w.heap.size ≤ gb340)); clear HB; have HB := n0_; have BK340 := n1_; have GW340 := n2_; have GE340 := n3_; clear n0_ n1_ n2_ n3_; clear hb hbox hg))
  repeat (go_quiet (first | ((with_reducible refine gate_dst (N := 1) rfl ?_); refine box_event ?hg (N := 1) ?hd (cs := #[.int .i64 a0_0, .int .i64 a0_1, .int .i64 a0_2, .slice A0_3 l0_3.length c0_3]) (t := 55) ?hr ?_; (case hd => rfl); (case hg => rfl); (case hr => first | (go_simp; done) | (go_simp; rfl)); intro gb340 hg w3 hbox hb; have n0_ := Aside0.mk (below_step (by repeat (first | (with_reducible first | exact HB.out | apply below_alloc | apply pw_below_drewN | apply below_drew1) | exact HB.out)) hb); have n1_ := Aside0.mk (hbox); have n2_ := Aside0.mk ((by rw [hg]; exact (below_size (by repeat (first | (with_reducible first | exact HB.out | apply below_alloc | apply pw_below_drewN | apply below_drew1) | exact HB.out))) : w.heap.size ≤ gb340)); have n3_ := Aside0.mk ((by rw [hg]; exact (below_size (by repeat (first | (with_reducible first | exact HB.out | apply below_alloc | apply pw_below_drewN | apply below_drew1) | exact HB.out))) : w.heap.size ≤ gb340)); clear HB; have HB := n0_; have BK340 := n1_; have GW340 := n2_; have GE340 := n3_; clear n0_ n1_ n2_ n3_; clear hb hbox hg)); go_upto_region 1 with (first | ((with_reducible refine gate_dst (N := 1) rfl ?_); refine box_event ?hg (N := 1) ?hd (cs := #[.int .i64 a0_0, .int .i64 a0_1, .int .i64 a0_2, .slice A0_3 l0_3.length c0_3]) (t := 55) ?hr ?_; (case hd => rfl); (case hg => rfl); (case hr => first | (go_simp; done) | (go_simp; rfl)); intro gb340 hg w3 hbox hb; have n0_ := Aside0.mk (below_step (by repeat (first | (with_reducible first | exact HB.out | apply below_alloc | apply pw_below_drewN | apply below_drew1) | exact HB.out)) hb); have n1_ := Aside0.mk (hbox); have n2_ := Aside0.mk ((by rw [hg]; exact (below_size (by repeat (first | (with_reducible first | exact HB.out | apply below_alloc | apply pw_below_drewN | apply below_drew1) | exact HB.out))) : w.heap.size ≤ gb340)); have n3_ := Aside0.mk ((by rw [hg]; exact (below_size (by repeat (first | (with_reducible first | exact HB.out | apply below_alloc | apply pw_below_drewN | apply below_drew1) | exact HB.out))) : w.heap.size ≤ gb340)); clear HB; have HB := n0_; have BK340 := n1_; have GW340 := n2_; have GE340 := n3_; clear n0_ n1_ n2_ n3_; clear hb hbox hg)))
  (try simp only [Act.put, List.setIfInBounds_toArray, List.set_cons_zero, List.set_cons_succ])
  go_cut [13] (fun v13 wc => ∃ (kq : Nat) (x13_1 : Bool), v13 = .bool x13_1 ∧ Aside0 (heavyhitters_Check.j0 kq x13_1 a0_0 a0_1 a0_2 l0_3 = some r) ∧ Aside0 (kq ≤ k) ∧ Aside0 (wc.heap[gb340]? = some (.cells #[.int .i64 a0_0, .int .i64 a0_1, .int .i64 a0_2, (.slice A0_3 l0_3.length c0_3)] 55 (0, 0))) ∧ Aside0 (Below w.heap.size w wc))
  case first =>
    have H := HC2.out
    clear HC2
    by_cases c4 : a0_0 < 2
    · rw [if_pos c4] at H
      have c4b0 : decide (a0_0 < 2) = true := decide_eq_true c4
      clear c4
      (first | rw [c4b0] | (simp only [i64_w, i32_w]; rw [c4b0]) | skip)
      have H' := Aside0.mk H
      clear H
      have hcz5_0 : w3.cell? ⟨gb340, 0, none⟩ = some (.int .i64 a0_0) := (blk_cell BK340.out 0).trans rfl
      have hcz5_1 : w3.cell? ⟨gb340, 1, none⟩ = some (.int .i64 a0_1) := (blk_cell BK340.out 1).trans rfl
      have hcz5_2 : w3.cell? ⟨gb340, 2, none⟩ = some (.int .i64 a0_2) := (blk_cell BK340.out 2).trans rfl
      have hcz5_3 : w3.cell? ⟨gb340, 3, none⟩ = some (.slice A0_3 l0_3.length c0_3) := (blk_cell BK340.out 3).trans rfl
      have hfz5_0 := blk_frozen BK340.out 0
      have hfz5_1 := blk_frozen BK340.out 1
      have hfz5_2 := blk_frozen BK340.out 2
      have hfz5_3 := blk_frozen BK340.out 3
      go_wp2
      repeat (go_quiet (fail); try go_wp2)
      go_meet
      case rel => exact ⟨_, (true), (by first | rfl | (simp; done) | (simp [*]; done)), H', ⟨by first | omega | exact Nat.le_refl _⟩, ⟨by (with_reducible repeat (first | refine blk_drewN ?_ _ | refine blk_drew ?_ | refine blk_alloc ?_ _)); exact BK340.out⟩, ⟨by repeat (first | (with_reducible first | exact HB.out | apply below_alloc | apply pw_below_drewN | apply below_drew1 | refine below_set ?_ GE340.out) | exact HB.out)⟩⟩
    · rw [if_neg c4] at H
      have c4b0 : decide (a0_0 < 2) = false := decide_eq_false c4
      clear c4
      (first | rw [c4b0] | (simp only [i64_w, i32_w]; rw [c4b0]) | skip)
      have H' := Aside0.mk H
      clear H
      have hcz6_0 : w3.cell? ⟨gb340, 0, none⟩ = some (.int .i64 a0_0) := (blk_cell BK340.out 0).trans rfl
      have hcz6_1 : w3.cell? ⟨gb340, 1, none⟩ = some (.int .i64 a0_1) := (blk_cell BK340.out 1).trans rfl
      have hcz6_2 : w3.cell? ⟨gb340, 2, none⟩ = some (.int .i64 a0_2) := (blk_cell BK340.out 2).trans rfl
      have hcz6_3 : w3.cell? ⟨gb340, 3, none⟩ = some (.slice A0_3 l0_3.length c0_3) := (blk_cell BK340.out 3).trans rfl
      have hfz6_0 := blk_frozen BK340.out 0
      have hfz6_1 := blk_frozen BK340.out 1
      have hfz6_2 := blk_frozen BK340.out 2
      have hfz6_3 := blk_frozen BK340.out 3
      go_wp2
      repeat (go_quiet (fail); try go_wp2)
      go_meet
      case rel => exact ⟨_, (decide (a0_0 > 100)), (by first | rfl | (simp; done) | (simp [*]; done)), H', ⟨by first | omega | exact Nat.le_refl _⟩, ⟨by (with_reducible repeat (first | refine blk_drewN ?_ _ | refine blk_drew ?_ | refine blk_alloc ?_ _)); exact BK340.out⟩, ⟨by repeat (first | (with_reducible first | exact HB.out | apply below_alloc | apply pw_below_drewN | apply below_drew1 | refine below_set ?_ GE340.out) | exact HB.out)⟩⟩
  case rest =>
    clear HC2
    try clear p2
    try clear c4
    try clear c4b0
    try clear c5
    try clear hcz5_0
    try clear hcz5_1
    try clear hcz5_2
    try clear hcz5_3
    try clear hcz6_0
    try clear hcz6_1
    try clear hcz6_2
    try clear hcz6_3
    try clear hfz5_0
    try clear hfz5_1
    try clear hfz5_2
    try clear hfz5_3
    try clear hfz6_0
    try clear hfz6_1
    try clear hfz6_2
    try clear hfz6_3
    obtain ⟨kq, x13_1, rfl, HA, HJ1, BK340, HB⟩ := hcut
    cases kq with
    | zero => exact absurd HA.out (by simp [heavyhitters_Check.j0])
    | succ kj1 =>
      have H := HA.out
      clear HA
      simp only [heavyhitters_Check.j0] at H
      by_cases c7 : x13_1 = true
      · subst c7
        have H1 : (some 2) = some r := by rw [if_pos rfl] at H; exact H
        clear H
        have H := H1
        clear H1
        obtain rfl := Option.some.inj H
        go_wp2
        repeat (go_quiet (fail); try go_wp2)
        go_ret
        exact ⟨by first | rfl | (simp [errW_none, errW_some] <;> rfl) | (simp [*, errW_none, errW_some] <;> rfl), by repeat (first | (with_reducible first | exact HB.out | apply below_alloc | apply pw_below_drewN | apply below_drew1 | refine below_set ?_ GE340.out) | exact HB.out)⟩
      · replace c7 := Bool.eq_false_iff.mpr c7
        subst c7
        have H1 : (if a0_1 < 0 then (heavyhitters_Check.j1 kj1 true a0_0 a0_1 a0_2 l0_3) else (if a0_1 > 1099511627776 then (heavyhitters_Check.j1 kj1 true a0_0 a0_1 a0_2 l0_3) else (if a0_2 < 0 then (heavyhitters_Check.j1 kj1 true a0_0 a0_1 a0_2 l0_3) else (heavyhitters_Check.j1 kj1 (decide (a0_2 > 1099511627776)) a0_0 a0_1 a0_2 l0_3)))) = some r := by rw [if_neg (show ¬ (false = true) by decide)] at H; exact H
        clear H
        have H := H1
        clear H1
        have HC8 := Aside0.mk H
        clear H
        go_upto_region 3 with (fail)
        repeat (go_quiet (fail); go_upto_region 3 with (fail))
        go_cut [31] (fun v31 wc => ∃ (kq : Nat) (x31_7 : Bool), v31 = .bool x31_7 ∧ Aside0 (heavyhitters_Check.j1 kq x31_7 a0_0 a0_1 a0_2 l0_3 = some r) ∧ Aside0 (kq ≤ kj1) ∧ Aside0 (wc.heap[gb340]? = some (.cells #[.int .i64 a0_0, .int .i64 a0_1, .int .i64 a0_2, (.slice A0_3 l0_3.length c0_3)] 55 (0, 0))) ∧ Aside0 (Below w.heap.size w wc))
        case first =>
          have H := HC8.out
          clear HC8
          by_cases c9 : a0_1 < 0
          · rw [if_pos c9] at H
            have c9b0 : decide (a0_1 < 0) = true := decide_eq_true c9
            clear c9
            (first | rw [c9b0] | (simp only [i64_w, i32_w]; rw [c9b0]) | skip)
            have H' := Aside0.mk H
            clear H
            have hcz10_0 : wc.cell? ⟨gb340, 0, none⟩ = some (.int .i64 a0_0) := (blk_cell BK340.out 0).trans rfl
            have hcz10_1 : wc.cell? ⟨gb340, 1, none⟩ = some (.int .i64 a0_1) := (blk_cell BK340.out 1).trans rfl
            have hcz10_2 : wc.cell? ⟨gb340, 2, none⟩ = some (.int .i64 a0_2) := (blk_cell BK340.out 2).trans rfl
            have hcz10_3 : wc.cell? ⟨gb340, 3, none⟩ = some (.slice A0_3 l0_3.length c0_3) := (blk_cell BK340.out 3).trans rfl
            have hfz10_0 := blk_frozen BK340.out 0
            have hfz10_1 := blk_frozen BK340.out 1
            have hfz10_2 := blk_frozen BK340.out 2
            have hfz10_3 := blk_frozen BK340.out 3
            go_wp2
            repeat (go_quiet (fail); try go_wp2)
            go_meet
            case rel => exact ⟨_, (true), (by first | rfl | (simp; done) | (simp [*]; done)), H', ⟨by have := HJ1.out; first | omega | exact Nat.le_refl _⟩, ⟨by (with_reducible repeat (first | refine blk_drewN ?_ _ | refine blk_drew ?_ | refine blk_alloc ?_ _)); exact BK340.out⟩, ⟨by repeat (first | (with_reducible first | exact HB.out | apply below_alloc | apply pw_below_drewN | apply below_drew1 | refine below_set ?_ GE340.out) | exact HB.out)⟩⟩
          · rw [if_neg c9] at H
            have c9b0 : decide (a0_1 < 0) = false := decide_eq_false c9
            clear c9
            (first | rw [c9b0] | (simp only [i64_w, i32_w]; rw [c9b0]) | skip)
            by_cases c11 : a0_1 > 1099511627776
            · rw [if_pos c11] at H
              have c11b0 : decide (1099511627776 < a0_1) = true := decide_eq_true c11
              clear c11
              have H' := Aside0.mk H
              clear H
              have hcz12_0 : wc.cell? ⟨gb340, 0, none⟩ = some (.int .i64 a0_0) := (blk_cell BK340.out 0).trans rfl
              have hcz12_1 : wc.cell? ⟨gb340, 1, none⟩ = some (.int .i64 a0_1) := (blk_cell BK340.out 1).trans rfl
              have hcz12_2 : wc.cell? ⟨gb340, 2, none⟩ = some (.int .i64 a0_2) := (blk_cell BK340.out 2).trans rfl
              have hcz12_3 : wc.cell? ⟨gb340, 3, none⟩ = some (.slice A0_3 l0_3.length c0_3) := (blk_cell BK340.out 3).trans rfl
              have hfz12_0 := blk_frozen BK340.out 0
              have hfz12_1 := blk_frozen BK340.out 1
              have hfz12_2 := blk_frozen BK340.out 2
              have hfz12_3 := blk_frozen BK340.out 3
              go_wp2
              repeat (go_quiet (fail); try go_wp2)
              go_meet
              case rel => exact ⟨_, (true), (by first | rfl | (simp; done) | (simp [*]; done)), H', ⟨by have := HJ1.out; first | omega | exact Nat.le_refl _⟩, ⟨by (with_reducible repeat (first | refine blk_drewN ?_ _ | refine blk_drew ?_ | refine blk_alloc ?_ _)); exact BK340.out⟩, ⟨by repeat (first | (with_reducible first | exact HB.out | apply below_alloc | apply pw_below_drewN | apply below_drew1 | refine below_set ?_ GE340.out) | exact HB.out)⟩⟩
            · rw [if_neg c11] at H
              have c11b0 : decide (1099511627776 < a0_1) = false := decide_eq_false c11
              clear c11
              by_cases c13 : a0_2 < 0
              · rw [if_pos c13] at H
                have c13b0 : decide (a0_2 < 0) = true := decide_eq_true c13
                clear c13
                have H' := Aside0.mk H
                clear H
                have hcz14_0 : wc.cell? ⟨gb340, 0, none⟩ = some (.int .i64 a0_0) := (blk_cell BK340.out 0).trans rfl
                have hcz14_1 : wc.cell? ⟨gb340, 1, none⟩ = some (.int .i64 a0_1) := (blk_cell BK340.out 1).trans rfl
                have hcz14_2 : wc.cell? ⟨gb340, 2, none⟩ = some (.int .i64 a0_2) := (blk_cell BK340.out 2).trans rfl
                have hcz14_3 : wc.cell? ⟨gb340, 3, none⟩ = some (.slice A0_3 l0_3.length c0_3) := (blk_cell BK340.out 3).trans rfl
                have hfz14_0 := blk_frozen BK340.out 0
                have hfz14_1 := blk_frozen BK340.out 1
                have hfz14_2 := blk_frozen BK340.out 2
                have hfz14_3 := blk_frozen BK340.out 3
                go_wp2
                repeat (go_quiet (fail); try go_wp2)
                go_meet
                case rel => exact ⟨_, (true), (by first | rfl | (simp; done) | (simp [*]; done)), H', ⟨by have := HJ1.out; first | omega | exact Nat.le_refl _⟩, ⟨by (with_reducible repeat (first | refine blk_drewN ?_ _ | refine blk_drew ?_ | refine blk_alloc ?_ _)); exact BK340.out⟩, ⟨by repeat (first | (with_reducible first | exact HB.out | apply below_alloc | apply pw_below_drewN | apply below_drew1 | refine below_set ?_ GE340.out) | exact HB.out)⟩⟩
              · rw [if_neg c13] at H
                have c13b0 : decide (a0_2 < 0) = false := decide_eq_false c13
                clear c13
                have H' := Aside0.mk H
                clear H
                have hcz15_0 : wc.cell? ⟨gb340, 0, none⟩ = some (.int .i64 a0_0) := (blk_cell BK340.out 0).trans rfl
                have hcz15_1 : wc.cell? ⟨gb340, 1, none⟩ = some (.int .i64 a0_1) := (blk_cell BK340.out 1).trans rfl
                have hcz15_2 : wc.cell? ⟨gb340, 2, none⟩ = some (.int .i64 a0_2) := (blk_cell BK340.out 2).trans rfl
                have hcz15_3 : wc.cell? ⟨gb340, 3, none⟩ = some (.slice A0_3 l0_3.length c0_3) := (blk_cell BK340.out 3).trans rfl
                have hfz15_0 := blk_frozen BK340.out 0
                have hfz15_1 := blk_frozen BK340.out 1
                have hfz15_2 := blk_frozen BK340.out 2
                have hfz15_3 := blk_frozen BK340.out 3
                go_wp2
                repeat (go_quiet (fail); try go_wp2)
                go_meet
                case rel => exact ⟨_, (decide (a0_2 > 1099511627776)), (by first | rfl | (simp; done) | (simp [*]; done)), H', ⟨by have := HJ1.out; first | omega | exact Nat.le_refl _⟩, ⟨by (with_reducible repeat (first | refine blk_drewN ?_ _ | refine blk_drew ?_ | refine blk_alloc ?_ _)); exact BK340.out⟩, ⟨by repeat (first | (with_reducible first | exact HB.out | apply below_alloc | apply pw_below_drewN | apply below_drew1 | refine below_set ?_ GE340.out) | exact HB.out)⟩⟩
        case rest =>
          clear HC8
          try clear c1
          try clear p2
          try clear c4
          try clear c4b0
          try clear c5
          try clear c7
          try clear c9
          try clear c9b0
          try clear c11
          try clear c11b0
          try clear c13
          try clear c13b0
          try clear hcz10_0
          try clear hcz10_1
          try clear hcz10_2
          try clear hcz10_3
          try clear hcz12_0
          try clear hcz12_1
          try clear hcz12_2
          try clear hcz12_3
          try clear hcz14_0
          try clear hcz14_1
          try clear hcz14_2
          try clear hcz14_3
          try clear hcz15_0
          try clear hcz15_1
          try clear hcz15_2
          try clear hcz15_3
          try clear hcz5_0
          try clear hcz5_1
          try clear hcz5_2
          try clear hcz5_3
          try clear hcz6_0
          try clear hcz6_1
          try clear hcz6_2
          try clear hcz6_3
          try clear hfz10_0
          try clear hfz10_1
          try clear hfz10_2
          try clear hfz10_3
          try clear hfz12_0
          try clear hfz12_1
          try clear hfz12_2
          try clear hfz12_3
          try clear hfz14_0
          try clear hfz14_1
          try clear hfz14_2
          try clear hfz14_3
          try clear hfz15_0
          try clear hfz15_1
          try clear hfz15_2
          try clear hfz15_3
          try clear hfz5_0
          try clear hfz5_1
          try clear hfz5_2
          try clear hfz5_3
          try clear hfz6_0
          try clear hfz6_1
          try clear hfz6_2
          try clear hfz6_3
          try clear p2
          obtain ⟨kq, x31_7, rfl, HA, HJ7, BK340, HB⟩ := hcut
          cases kq with
          | zero => exact absurd HA.out (by simp [heavyhitters_Check.j1])
          | succ kj7 =>
            have H := HA.out
            clear HA
            simp only [heavyhitters_Check.j1] at H
            by_cases c16 : x31_7 = true
            · subst c16
              have H1 : (some 2) = some r := by rw [if_pos rfl] at H; exact H
              clear H
              have H := H1
              clear H1
              obtain rfl := Option.some.inj H
              go_wp2
              repeat (go_quiet (fail); try go_wp2)
              go_ret
              exact ⟨by first | rfl | (simp [errW_none, errW_some] <;> rfl) | (simp [*, errW_none, errW_some] <;> rfl), by repeat (first | (with_reducible first | exact HB.out | apply below_alloc | apply pw_below_drewN | apply below_drew1 | refine below_set ?_ GE340.out) | exact HB.out)⟩
            · replace c16 := Bool.eq_false_iff.mpr c16
              subst c16
              have H1 : (if (l0_3.length : Int) > (wrap64 (a0_0 - 1)) then (some 4) else (heavyhitters_Check.l0 kj7 (wrap64 (a0_0 * a0_2)) l0_3 (l0_3.length : Int) 0 a0_0 a0_1 a0_2 l0_3)) = some r := by rw [if_neg (show ¬ (false = true) by decide)] at H; exact H
              clear H
              have H := H1
              clear H1
              by_cases c17 : (l0_3.length : Int) > (wrap64 (a0_0 - 1))
              · rw [if_pos c17] at H
                have c17b0 : decide ((wrap64 (a0_0 - 1)) < (l0_3.length : Int)) = true := decide_eq_true c17
                clear c17
                obtain rfl := Option.some.inj H
                have hcz18_0 : wc.cell? ⟨gb340, 0, none⟩ = some (.int .i64 a0_0) := (blk_cell BK340.out 0).trans rfl
                have hcz18_1 : wc.cell? ⟨gb340, 1, none⟩ = some (.int .i64 a0_1) := (blk_cell BK340.out 1).trans rfl
                have hcz18_2 : wc.cell? ⟨gb340, 2, none⟩ = some (.int .i64 a0_2) := (blk_cell BK340.out 2).trans rfl
                have hcz18_3 : wc.cell? ⟨gb340, 3, none⟩ = some (.slice A0_3 l0_3.length c0_3) := (blk_cell BK340.out 3).trans rfl
                have hfz18_0 := blk_frozen BK340.out 0
                have hfz18_1 := blk_frozen BK340.out 1
                have hfz18_2 := blk_frozen BK340.out 2
                have hfz18_3 := blk_frozen BK340.out 3
                go_wp2
                repeat (go_quiet (fail); try go_wp2)
                go_ret
                exact ⟨by first | rfl | (simp [errW_none, errW_some] <;> rfl) | (simp [*, errW_none, errW_some] <;> rfl), by repeat (first | (with_reducible first | exact HB.out | apply below_alloc | apply pw_below_drewN | apply below_drew1 | refine below_set ?_ GE340.out) | exact HB.out)⟩
              · rw [if_neg c17] at H
                have c17b0 : decide ((wrap64 (a0_0 - 1)) < (l0_3.length : Int)) = false := decide_eq_false c17
                clear c17
                have H' := Aside0.mk H
                clear H
                have hcz19_0 : wc.cell? ⟨gb340, 0, none⟩ = some (.int .i64 a0_0) := (blk_cell BK340.out 0).trans rfl
                have hcz19_1 : wc.cell? ⟨gb340, 1, none⟩ = some (.int .i64 a0_1) := (blk_cell BK340.out 1).trans rfl
                have hcz19_2 : wc.cell? ⟨gb340, 2, none⟩ = some (.int .i64 a0_2) := (blk_cell BK340.out 2).trans rfl
                have hcz19_3 : wc.cell? ⟨gb340, 3, none⟩ = some (.slice A0_3 l0_3.length c0_3) := (blk_cell BK340.out 3).trans rfl
                have hfz19_0 := blk_frozen BK340.out 0
                have hfz19_1 := blk_frozen BK340.out 1
                have hfz19_2 := blk_frozen BK340.out 2
                have hfz19_3 := blk_frozen BK340.out 3
                go_wp2
                repeat (go_quiet (fail); try go_wp2)
                go_loopg [3, 47] kj7 (fun kq v3 v47 w' => ∃ (x3_3 : Int) (x47_3 : Int), v3 = .int .i64 x3_3 ∧ v47 = .int .i64 x47_3 ∧ Aside0 (heavyhitters_Check.l0 kq x3_3 l0_3 (l0_3.length : Int) x47_3 a0_0 a0_1 a0_2 l0_3 = some r) ∧ Aside0 (kq ≤ kj7) ∧ Aside0 (w'.heap[gb340]? = some (.cells #[.int .i64 a0_0, .int .i64 a0_1, .int .i64 a0_2, (.slice A0_3 l0_3.length c0_3)] 55 (0, 0))) ∧ Aside0 (Below w.heap.size w w'))
                case atStart => exact ⟨(wrap64 (a0_0 * a0_2)), (0), (by first | rfl | (simp; done) | (simp [*]; done)), (by first | rfl | (simp; done) | (simp [*]; done)), H', ⟨Nat.le_refl _⟩, ⟨by (with_reducible repeat (first | refine blk_drewN ?_ _ | refine blk_drew ?_ | refine blk_alloc ?_ _)); exact BK340.out⟩, ⟨by repeat (first | (with_reducible first | exact HB.out | apply below_alloc | apply pw_below_drewN | apply below_drew1 | refine below_set ?_ GE340.out) | exact HB.out)⟩⟩
                case round =>
                  clear H'
                  try clear c1
                  try clear p2
                  try clear c4
                  try clear c4b0
                  try clear c5
                  try clear p6
                  try clear c7
                  try clear c9
                  try clear c9b0
                  try clear c11
                  try clear c11b0
                  try clear c13
                  try clear c13b0
                  try clear c16
                  try clear c17
                  try clear c17b0
                  try clear hcz10_0
                  try clear hcz10_1
                  try clear hcz10_2
                  try clear hcz10_3
                  try clear hcz12_0
                  try clear hcz12_1
                  try clear hcz12_2
                  try clear hcz12_3
                  try clear hcz14_0
                  try clear hcz14_1
                  try clear hcz14_2
                  try clear hcz14_3
                  try clear hcz15_0
                  try clear hcz15_1
                  try clear hcz15_2
                  try clear hcz15_3
                  try clear hcz18_0
                  try clear hcz18_1
                  try clear hcz18_2
                  try clear hcz18_3
                  try clear hcz19_0
                  try clear hcz19_1
                  try clear hcz19_2
                  try clear hcz19_3
                  try clear hcz5_0
                  try clear hcz5_1
                  try clear hcz5_2
                  try clear hcz5_3
                  try clear hcz6_0
                  try clear hcz6_1
                  try clear hcz6_2
                  try clear hcz6_3
                  try clear hfz10_0
                  try clear hfz10_1
                  try clear hfz10_2
                  try clear hfz10_3
                  try clear hfz12_0
                  try clear hfz12_1
                  try clear hfz12_2
                  try clear hfz12_3
                  try clear hfz14_0
                  try clear hfz14_1
                  try clear hfz14_2
                  try clear hfz14_3
                  try clear hfz15_0
                  try clear hfz15_1
                  try clear hfz15_2
                  try clear hfz15_3
                  try clear hfz18_0
                  try clear hfz18_1
                  try clear hfz18_2
                  try clear hfz18_3
                  try clear hfz19_0
                  try clear hfz19_1
                  try clear hfz19_2
                  try clear hfz19_3
                  try clear hfz5_0
                  try clear hfz5_1
                  try clear hfz5_2
                  try clear hfz5_3
                  try clear hfz6_0
                  try clear hfz6_1
                  try clear hfz6_2
                  try clear hfz6_3
                  try clear p2
                  obtain ⟨x3_3, x47_3, rfl, rfl, HA, HK3, BK340, HB⟩ := hrel
                  cases gk with
                  | zero => exact absurd HA.out (by simp [heavyhitters_Check.l0])
                  | succ k3 =>
                    have H := HA.out
                    clear HA
                    simp only [heavyhitters_Check.l0] at H
                    by_cases c20 : x47_3 < (l0_3.length : Int)
                    · rw [if_pos c20] at H
                      have c20b0 : decide (x47_3 < (l0_3.length : Int)) = true := decide_eq_true c20
                      clear c20
                      by_cases c21 : 0 ≤ x47_3
                      · rw [if_pos c21] at H
                        have c21b0 : decide (0 ≤ x47_3) = true := decide_eq_true c21
                        clear c21
                        by_cases c22 : x47_3 < (l0_3.length : Int)
                        · rw [if_pos c22] at H
                          have c22b0 : decide (x47_3 < (l0_3.length : Int)) = true := decide_eq_true c22
                          clear c22
                          by_cases c23 : (((rd_T64 l0_3 x47_3).f0).size : Int) > 200
                          · rw [if_pos c23] at H
                            have c23b0 : decide (200 < (((rd_T64 l0_3 x47_3).f0).size : Int)) = true := decide_eq_true c23
                            have c23b1 : decide (200 < ((rd_T64 l0_3 x47_3).f0).size) = true := decide_eq_true (by omega)
                            clear c23
                            obtain rfl := Option.some.inj H
                            have p341 : 0 ≤ (x47_3 : Int) := of_decide_eq_true (by first | (with_reducible assumption) | assumption)
                            have q341 : x47_3 < (l0_3.length : Int) := of_decide_eq_true (by first | (with_reducible assumption) | assumption)
                            obtain ⟨ad341, e341, hx341_0, hx341_1⟩ := at_T64 HR0_3.out x47_3 p341 q341
                            cases e341
                            replace hx341_0 := (HB.out.cell (World.block_lt_of_cell? w _ hx341_0)).trans hx341_0
                            replace hx341_1 := (HB.out.cell (World.block_lt_of_cell? w _ hx341_1)).trans hx341_1
                            replace p341 := eq_true p341
                            replace q341 := eq_true q341
                            go_wp2_with (first | ((with_reducible refine gate_dst (N := 5) rfl ?_); refine box_event ?hg (N := 5) ?hd (cs := #[.string (⟨#[]⟩ : ByteArray), .int .i64 0]) (t := 64) ?hr ?_; (case hd => rfl); (case hg => rfl); (case hr => first | (go_simp; done) | (go_simp; rfl)); intro gb342 hg w24 hbox hb; have n0_ := Aside0.mk (blk_below (g := gb340) (o := .cells #[.int .i64 a0_0, .int .i64 a0_1, .int .i64 a0_2, .slice (some ad341) l0_3.length c0_3] 55 (0, 0)) (by (with_reducible repeat (first | refine blk_drewN ?_ _ | refine blk_drew ?_ | refine blk_alloc ?_ _)); exact BK340.out) hb); have n1_ := Aside0.mk (below_step (by repeat (first | (with_reducible first | exact HB.out | apply below_alloc | apply pw_below_drewN | apply below_drew1 | refine below_set ?_ GE340.out) | exact HB.out)) hb); have n2_ := Aside0.mk (hbox); have n3_ := Aside0.mk ((by rw [hg]; exact (below_size (by repeat (first | (with_reducible first | exact HB.out | apply below_alloc | apply pw_below_drewN | apply below_drew1 | refine below_set ?_ GE340.out) | exact HB.out))) : w.heap.size ≤ gb342)); have n4_ := Aside0.mk ((by rw [hg]; exact (below_size (by repeat (first | (with_reducible first | exact HB.out | apply below_alloc | apply pw_below_drewN | apply below_drew1 | refine below_set ?_ GE340.out) | exact HB.out))) : w.heap.size ≤ gb342)); have n5_ := Aside0.mk ((by rw [hg]; exact Nat.ne_of_lt (blk_lt (g := gb340) (o := .cells #[.int .i64 a0_0, .int .i64 a0_1, .int .i64 a0_2, .slice (some ad341) l0_3.length c0_3] 55 (0, 0)) (by (with_reducible repeat (first | refine blk_drewN ?_ _ | refine blk_drew ?_ | refine blk_alloc ?_ _)); exact BK340.out)) : gb340 ≠ gb342)); have n6_ := Aside0.mk ((by rw [hg]; exact Nat.ne_of_gt (blk_lt (g := gb340) (o := .cells #[.int .i64 a0_0, .int .i64 a0_1, .int .i64 a0_2, .slice (some ad341) l0_3.length c0_3] 55 (0, 0)) (by (with_reducible repeat (first | refine blk_drewN ?_ _ | refine blk_drew ?_ | refine blk_alloc ?_ _)); exact BK340.out)) : gb342 ≠ gb340)); clear BK340; clear HB; have BK340 := n0_; have HB := n1_; have BK342 := n2_; have GW342 := n3_; have GE342 := n4_; have NB340_342 := n5_; have NB342_340 := n6_; clear n0_ n1_ n2_ n3_ n4_ n5_ n6_; clear hb hbox hg; have hnb25 := NB342_340.out; have hnc25 := NB340_342.out; have hcz26_0 : w24.cell? ⟨gb342, 0, none⟩ = some (.string (⟨#[]⟩ : ByteArray)) := (blk_cell BK342.out 0).trans rfl; have hcz26_1 : w24.cell? ⟨gb342, 1, none⟩ = some (.int .i64 0) := (blk_cell BK342.out 1).trans rfl; have hfz26_0 := blk_frozen BK342.out 0; have hfz26_1 := blk_frozen BK342.out 1))
                            repeat (go_quiet (first | ((with_reducible refine gate_dst (N := 5) rfl ?_); refine box_event ?hg (N := 5) ?hd (cs := #[.string (⟨#[]⟩ : ByteArray), .int .i64 0]) (t := 64) ?hr ?_; (case hd => rfl); (case hg => rfl); (case hr => first | (go_simp; done) | (go_simp; rfl)); intro gb342 hg w24 hbox hb; have n0_ := Aside0.mk (blk_below (g := gb340) (o := .cells #[.int .i64 a0_0, .int .i64 a0_1, .int .i64 a0_2, .slice (some ad341) l0_3.length c0_3] 55 (0, 0)) (by (with_reducible repeat (first | refine blk_drewN ?_ _ | refine blk_drew ?_ | refine blk_alloc ?_ _)); exact BK340.out) hb); have n1_ := Aside0.mk (below_step (by repeat (first | (with_reducible first | exact HB.out | apply below_alloc | apply pw_below_drewN | apply below_drew1 | refine below_set ?_ GE340.out) | exact HB.out)) hb); have n2_ := Aside0.mk (hbox); have n3_ := Aside0.mk ((by rw [hg]; exact (below_size (by repeat (first | (with_reducible first | exact HB.out | apply below_alloc | apply pw_below_drewN | apply below_drew1 | refine below_set ?_ GE340.out) | exact HB.out))) : w.heap.size ≤ gb342)); have n4_ := Aside0.mk ((by rw [hg]; exact (below_size (by repeat (first | (with_reducible first | exact HB.out | apply below_alloc | apply pw_below_drewN | apply below_drew1 | refine below_set ?_ GE340.out) | exact HB.out))) : w.heap.size ≤ gb342)); have n5_ := Aside0.mk ((by rw [hg]; exact Nat.ne_of_lt (blk_lt (g := gb340) (o := .cells #[.int .i64 a0_0, .int .i64 a0_1, .int .i64 a0_2, .slice (some ad341) l0_3.length c0_3] 55 (0, 0)) (by (with_reducible repeat (first | refine blk_drewN ?_ _ | refine blk_drew ?_ | refine blk_alloc ?_ _)); exact BK340.out)) : gb340 ≠ gb342)); have n6_ := Aside0.mk ((by rw [hg]; exact Nat.ne_of_gt (blk_lt (g := gb340) (o := .cells #[.int .i64 a0_0, .int .i64 a0_1, .int .i64 a0_2, .slice (some ad341) l0_3.length c0_3] 55 (0, 0)) (by (with_reducible repeat (first | refine blk_drewN ?_ _ | refine blk_drew ?_ | refine blk_alloc ?_ _)); exact BK340.out)) : gb342 ≠ gb340)); clear BK340; clear HB; have BK340 := n0_; have HB := n1_; have BK342 := n2_; have GW342 := n3_; have GE342 := n4_; have NB340_342 := n5_; have NB342_340 := n6_; clear n0_ n1_ n2_ n3_ n4_ n5_ n6_; clear hb hbox hg; have hnb25 := NB342_340.out; have hnc25 := NB340_342.out; have hcz26_0 : w24.cell? ⟨gb342, 0, none⟩ = some (.string (⟨#[]⟩ : ByteArray)) := (blk_cell BK342.out 0).trans rfl; have hcz26_1 : w24.cell? ⟨gb342, 1, none⟩ = some (.int .i64 0) := (blk_cell BK342.out 1).trans rfl; have hfz26_0 := blk_frozen BK342.out 0; have hfz26_1 := blk_frozen BK342.out 1)); try go_wp2_with (first | ((with_reducible refine gate_dst (N := 5) rfl ?_); refine box_event ?hg (N := 5) ?hd (cs := #[.string (⟨#[]⟩ : ByteArray), .int .i64 0]) (t := 64) ?hr ?_; (case hd => rfl); (case hg => rfl); (case hr => first | (go_simp; done) | (go_simp; rfl)); intro gb342 hg w24 hbox hb; have n0_ := Aside0.mk (blk_below (g := gb340) (o := .cells #[.int .i64 a0_0, .int .i64 a0_1, .int .i64 a0_2, .slice (some ad341) l0_3.length c0_3] 55 (0, 0)) (by (with_reducible repeat (first | refine blk_drewN ?_ _ | refine blk_drew ?_ | refine blk_alloc ?_ _)); exact BK340.out) hb); have n1_ := Aside0.mk (below_step (by repeat (first | (with_reducible first | exact HB.out | apply below_alloc | apply pw_below_drewN | apply below_drew1 | refine below_set ?_ GE340.out) | exact HB.out)) hb); have n2_ := Aside0.mk (hbox); have n3_ := Aside0.mk ((by rw [hg]; exact (below_size (by repeat (first | (with_reducible first | exact HB.out | apply below_alloc | apply pw_below_drewN | apply below_drew1 | refine below_set ?_ GE340.out) | exact HB.out))) : w.heap.size ≤ gb342)); have n4_ := Aside0.mk ((by rw [hg]; exact (below_size (by repeat (first | (with_reducible first | exact HB.out | apply below_alloc | apply pw_below_drewN | apply below_drew1 | refine below_set ?_ GE340.out) | exact HB.out))) : w.heap.size ≤ gb342)); have n5_ := Aside0.mk ((by rw [hg]; exact Nat.ne_of_lt (blk_lt (g := gb340) (o := .cells #[.int .i64 a0_0, .int .i64 a0_1, .int .i64 a0_2, .slice (some ad341) l0_3.length c0_3] 55 (0, 0)) (by (with_reducible repeat (first | refine blk_drewN ?_ _ | refine blk_drew ?_ | refine blk_alloc ?_ _)); exact BK340.out)) : gb340 ≠ gb342)); have n6_ := Aside0.mk ((by rw [hg]; exact Nat.ne_of_gt (blk_lt (g := gb340) (o := .cells #[.int .i64 a0_0, .int .i64 a0_1, .int .i64 a0_2, .slice (some ad341) l0_3.length c0_3] 55 (0, 0)) (by (with_reducible repeat (first | refine blk_drewN ?_ _ | refine blk_drew ?_ | refine blk_alloc ?_ _)); exact BK340.out)) : gb342 ≠ gb340)); clear BK340; clear HB; have BK340 := n0_; have HB := n1_; have BK342 := n2_; have GW342 := n3_; have GE342 := n4_; have NB340_342 := n5_; have NB342_340 := n6_; clear n0_ n1_ n2_ n3_ n4_ n5_ n6_; clear hb hbox hg; have hnb25 := NB342_340.out; have hnc25 := NB340_342.out; have hcz26_0 : w24.cell? ⟨gb342, 0, none⟩ = some (.string (⟨#[]⟩ : ByteArray)) := (blk_cell BK342.out 0).trans rfl; have hcz26_1 : w24.cell? ⟨gb342, 1, none⟩ = some (.int .i64 0) := (blk_cell BK342.out 1).trans rfl; have hfz26_0 := blk_frozen BK342.out 0; have hfz26_1 := blk_frozen BK342.out 1)))
                            go_ret
                            exact ⟨by first | rfl | (simp [errW_none, errW_some] <;> rfl) | (simp [*, errW_none, errW_some] <;> rfl), by repeat (first | (with_reducible first | exact HB.out | apply below_alloc | apply pw_below_drewN | apply below_drew1 | refine below_set ?_ GE340.out | refine below_set ?_ GE342.out) | exact HB.out)⟩
                          · rw [if_neg c23] at H
                            have c23b0 : decide (200 < (((rd_T64 l0_3 x47_3).f0).size : Int)) = false := decide_eq_false c23
                            have c23b1 : decide (200 < ((rd_T64 l0_3 x47_3).f0).size) = false := decide_eq_false (by omega)
                            clear c23
                            have HC27 := Aside0.mk H
                            clear H
                            have p341 : 0 ≤ (x47_3 : Int) := of_decide_eq_true (by first | (with_reducible assumption) | assumption)
                            have q341 : x47_3 < (l0_3.length : Int) := of_decide_eq_true (by first | (with_reducible assumption) | assumption)
                            obtain ⟨ad341, e341, hx341_0, hx341_1⟩ := at_T64 HR0_3.out x47_3 p341 q341
                            cases e341
                            replace hx341_0 := (HB.out.cell (World.block_lt_of_cell? w _ hx341_0)).trans hx341_0
                            replace hx341_1 := (HB.out.cell (World.block_lt_of_cell? w _ hx341_1)).trans hx341_1
                            replace p341 := eq_true p341
                            replace q341 := eq_true q341
                            go_upto_region 13 with (first | ((with_reducible refine gate_dst (N := 5) rfl ?_); refine box_event ?hg (N := 5) ?hd (cs := #[.string (⟨#[]⟩ : ByteArray), .int .i64 0]) (t := 64) ?hr ?_; (case hd => rfl); (case hg => rfl); (case hr => first | (go_simp; done) | (go_simp; rfl)); intro gb342 hg w28 hbox hb; have n0_ := Aside0.mk (blk_below (g := gb340) (o := .cells #[.int .i64 a0_0, .int .i64 a0_1, .int .i64 a0_2, .slice (some ad341) l0_3.length c0_3] 55 (0, 0)) (by (with_reducible repeat (first | refine blk_drewN ?_ _ | refine blk_drew ?_ | refine blk_alloc ?_ _)); exact BK340.out) hb); have n1_ := Aside0.mk (below_step (by repeat (first | (with_reducible first | exact HB.out | apply below_alloc | apply pw_below_drewN | apply below_drew1 | refine below_set ?_ GE340.out) | exact HB.out)) hb); have n2_ := Aside0.mk (hbox); have n3_ := Aside0.mk ((by rw [hg]; exact (below_size (by repeat (first | (with_reducible first | exact HB.out | apply below_alloc | apply pw_below_drewN | apply below_drew1 | refine below_set ?_ GE340.out) | exact HB.out))) : w.heap.size ≤ gb342)); have n4_ := Aside0.mk ((by rw [hg]; exact (below_size (by repeat (first | (with_reducible first | exact HB.out | apply below_alloc | apply pw_below_drewN | apply below_drew1 | refine below_set ?_ GE340.out) | exact HB.out))) : w.heap.size ≤ gb342)); have n5_ := Aside0.mk ((by rw [hg]; exact Nat.ne_of_lt (blk_lt (g := gb340) (o := .cells #[.int .i64 a0_0, .int .i64 a0_1, .int .i64 a0_2, .slice (some ad341) l0_3.length c0_3] 55 (0, 0)) (by (with_reducible repeat (first | refine blk_drewN ?_ _ | refine blk_drew ?_ | refine blk_alloc ?_ _)); exact BK340.out)) : gb340 ≠ gb342)); have n6_ := Aside0.mk ((by rw [hg]; exact Nat.ne_of_gt (blk_lt (g := gb340) (o := .cells #[.int .i64 a0_0, .int .i64 a0_1, .int .i64 a0_2, .slice (some ad341) l0_3.length c0_3] 55 (0, 0)) (by (with_reducible repeat (first | refine blk_drewN ?_ _ | refine blk_drew ?_ | refine blk_alloc ?_ _)); exact BK340.out)) : gb342 ≠ gb340)); clear BK340; clear HB; have BK340 := n0_; have HB := n1_; have BK342 := n2_; have GW342 := n3_; have GE342 := n4_; have NB340_342 := n5_; have NB342_340 := n6_; clear n0_ n1_ n2_ n3_ n4_ n5_ n6_; clear hb hbox hg; have hnb29 := NB342_340.out; have hnc29 := NB340_342.out; have hcz30_0 : w28.cell? ⟨gb342, 0, none⟩ = some (.string (⟨#[]⟩ : ByteArray)) := (blk_cell BK342.out 0).trans rfl; have hcz30_1 : w28.cell? ⟨gb342, 1, none⟩ = some (.int .i64 0) := (blk_cell BK342.out 1).trans rfl; have hfz30_0 := blk_frozen BK342.out 0; have hfz30_1 := blk_frozen BK342.out 1))
                            repeat (go_quiet (first | ((with_reducible refine gate_dst (N := 5) rfl ?_); refine box_event ?hg (N := 5) ?hd (cs := #[.string (⟨#[]⟩ : ByteArray), .int .i64 0]) (t := 64) ?hr ?_; (case hd => rfl); (case hg => rfl); (case hr => first | (go_simp; done) | (go_simp; rfl)); intro gb342 hg w28 hbox hb; have n0_ := Aside0.mk (blk_below (g := gb340) (o := .cells #[.int .i64 a0_0, .int .i64 a0_1, .int .i64 a0_2, .slice (some ad341) l0_3.length c0_3] 55 (0, 0)) (by (with_reducible repeat (first | refine blk_drewN ?_ _ | refine blk_drew ?_ | refine blk_alloc ?_ _)); exact BK340.out) hb); have n1_ := Aside0.mk (below_step (by repeat (first | (with_reducible first | exact HB.out | apply below_alloc | apply pw_below_drewN | apply below_drew1 | refine below_set ?_ GE340.out) | exact HB.out)) hb); have n2_ := Aside0.mk (hbox); have n3_ := Aside0.mk ((by rw [hg]; exact (below_size (by repeat (first | (with_reducible first | exact HB.out | apply below_alloc | apply pw_below_drewN | apply below_drew1 | refine below_set ?_ GE340.out) | exact HB.out))) : w.heap.size ≤ gb342)); have n4_ := Aside0.mk ((by rw [hg]; exact (below_size (by repeat (first | (with_reducible first | exact HB.out | apply below_alloc | apply pw_below_drewN | apply below_drew1 | refine below_set ?_ GE340.out) | exact HB.out))) : w.heap.size ≤ gb342)); have n5_ := Aside0.mk ((by rw [hg]; exact Nat.ne_of_lt (blk_lt (g := gb340) (o := .cells #[.int .i64 a0_0, .int .i64 a0_1, .int .i64 a0_2, .slice (some ad341) l0_3.length c0_3] 55 (0, 0)) (by (with_reducible repeat (first | refine blk_drewN ?_ _ | refine blk_drew ?_ | refine blk_alloc ?_ _)); exact BK340.out)) : gb340 ≠ gb342)); have n6_ := Aside0.mk ((by rw [hg]; exact Nat.ne_of_gt (blk_lt (g := gb340) (o := .cells #[.int .i64 a0_0, .int .i64 a0_1, .int .i64 a0_2, .slice (some ad341) l0_3.length c0_3] 55 (0, 0)) (by (with_reducible repeat (first | refine blk_drewN ?_ _ | refine blk_drew ?_ | refine blk_alloc ?_ _)); exact BK340.out)) : gb342 ≠ gb340)); clear BK340; clear HB; have BK340 := n0_; have HB := n1_; have BK342 := n2_; have GW342 := n3_; have GE342 := n4_; have NB340_342 := n5_; have NB342_340 := n6_; clear n0_ n1_ n2_ n3_ n4_ n5_ n6_; clear hb hbox hg; have hnb29 := NB342_340.out; have hnc29 := NB340_342.out; have hcz30_0 : w28.cell? ⟨gb342, 0, none⟩ = some (.string (⟨#[]⟩ : ByteArray)) := (blk_cell BK342.out 0).trans rfl; have hcz30_1 : w28.cell? ⟨gb342, 1, none⟩ = some (.int .i64 0) := (blk_cell BK342.out 1).trans rfl; have hfz30_0 := blk_frozen BK342.out 0; have hfz30_1 := blk_frozen BK342.out 1)); go_upto_region 13 with (first | ((with_reducible refine gate_dst (N := 5) rfl ?_); refine box_event ?hg (N := 5) ?hd (cs := #[.string (⟨#[]⟩ : ByteArray), .int .i64 0]) (t := 64) ?hr ?_; (case hd => rfl); (case hg => rfl); (case hr => first | (go_simp; done) | (go_simp; rfl)); intro gb342 hg w28 hbox hb; have n0_ := Aside0.mk (blk_below (g := gb340) (o := .cells #[.int .i64 a0_0, .int .i64 a0_1, .int .i64 a0_2, .slice (some ad341) l0_3.length c0_3] 55 (0, 0)) (by (with_reducible repeat (first | refine blk_drewN ?_ _ | refine blk_drew ?_ | refine blk_alloc ?_ _)); exact BK340.out) hb); have n1_ := Aside0.mk (below_step (by repeat (first | (with_reducible first | exact HB.out | apply below_alloc | apply pw_below_drewN | apply below_drew1 | refine below_set ?_ GE340.out) | exact HB.out)) hb); have n2_ := Aside0.mk (hbox); have n3_ := Aside0.mk ((by rw [hg]; exact (below_size (by repeat (first | (with_reducible first | exact HB.out | apply below_alloc | apply pw_below_drewN | apply below_drew1 | refine below_set ?_ GE340.out) | exact HB.out))) : w.heap.size ≤ gb342)); have n4_ := Aside0.mk ((by rw [hg]; exact (below_size (by repeat (first | (with_reducible first | exact HB.out | apply below_alloc | apply pw_below_drewN | apply below_drew1 | refine below_set ?_ GE340.out) | exact HB.out))) : w.heap.size ≤ gb342)); have n5_ := Aside0.mk ((by rw [hg]; exact Nat.ne_of_lt (blk_lt (g := gb340) (o := .cells #[.int .i64 a0_0, .int .i64 a0_1, .int .i64 a0_2, .slice (some ad341) l0_3.length c0_3] 55 (0, 0)) (by (with_reducible repeat (first | refine blk_drewN ?_ _ | refine blk_drew ?_ | refine blk_alloc ?_ _)); exact BK340.out)) : gb340 ≠ gb342)); have n6_ := Aside0.mk ((by rw [hg]; exact Nat.ne_of_gt (blk_lt (g := gb340) (o := .cells #[.int .i64 a0_0, .int .i64 a0_1, .int .i64 a0_2, .slice (some ad341) l0_3.length c0_3] 55 (0, 0)) (by (with_reducible repeat (first | refine blk_drewN ?_ _ | refine blk_drew ?_ | refine blk_alloc ?_ _)); exact BK340.out)) : gb342 ≠ gb340)); clear BK340; clear HB; have BK340 := n0_; have HB := n1_; have BK342 := n2_; have GW342 := n3_; have GE342 := n4_; have NB340_342 := n5_; have NB342_340 := n6_; clear n0_ n1_ n2_ n3_ n4_ n5_ n6_; clear hb hbox hg; have hnb29 := NB342_340.out; have hnc29 := NB340_342.out; have hcz30_0 : w28.cell? ⟨gb342, 0, none⟩ = some (.string (⟨#[]⟩ : ByteArray)) := (blk_cell BK342.out 0).trans rfl; have hcz30_1 : w28.cell? ⟨gb342, 1, none⟩ = some (.int .i64 0) := (blk_cell BK342.out 1).trans rfl; have hfz30_0 := blk_frozen BK342.out 0; have hfz30_1 := blk_frozen BK342.out 1)))
                            (try simp only [Act.put, List.setIfInBounds_toArray, List.set_cons_zero, List.set_cons_succ])
                            go_cut [69] (fun v69 wc => ∃ (kq : Nat) (x69_26 : Bool), v69 = .bool x69_26 ∧ Aside0 (heavyhitters_Check.j3 kq x3_3 l0_3 (l0_3.length : Int) x47_3 x69_26 a0_0 a0_1 a0_2 l0_3 ((rd_T64 l0_3 x47_3).f0) ((rd_T64 l0_3 x47_3).f1) = some r) ∧ Aside0 (kq ≤ k3) ∧ Aside0 (wc.heap[gb340]? = some (.cells #[.int .i64 a0_0, .int .i64 a0_1, .int .i64 a0_2, (.slice (some ad341) l0_3.length c0_3)] 55 (0, 0))) ∧ Aside0 (wc.heap[gb342]? = some (.cells #[.string ((rd_T64 l0_3 x47_3).f0), .int .i64 ((rd_T64 l0_3 x47_3).f1)] 64 (0, 0))) ∧ Aside0 (Below w.heap.size w wc))
                            case first =>
                              have H := HC27.out
                              clear HC27
                              by_cases c31 : x47_3 > 0
                              · rw [if_pos c31] at H
                                have c31b0 : decide (0 < x47_3) = true := decide_eq_true c31
                                clear c31
                                (first | rw [c31b0] | (simp only [i64_w, i32_w]; rw [c31b0]) | skip)
                                obtain ⟨ji32, hji32⟩ : ∃ j_ : Int, (wrap64 (x47_3 - 1)) = j_ := ⟨_, rfl⟩
                                replace H : (if 0 ≤ (ji32) then (if (ji32) < (l0_3.length : Int) then (heavyhitters_Check.j3 k3 x3_3 l0_3 (l0_3.length : Int) x47_3 (!(Op.bytesLess (((rd_T64 l0_3 (ji32)).f0).toList) (((rd_T64 l0_3 x47_3).f0).toList))) a0_0 a0_1 a0_2 l0_3 ((rd_T64 l0_3 x47_3).f0) ((rd_T64 l0_3 x47_3).f1)) else (none)) else (none)) = some r := by first | (rw [hji32] at H; exact H) | (simp only [hji32] at H ⊢; exact H)
                                have hji32w : (IntKind.i64.wrap (x47_3 - 1)) = ji32 := (i64_w _).trans hji32
                                by_cases c33 : 0 ≤ (ji32)
                                · rw [if_pos c33] at H
                                  have c33b0 : decide (0 ≤ (ji32)) = true := decide_eq_true c33
                                  clear c33
                                  by_cases c34 : (ji32) < (l0_3.length : Int)
                                  · rw [if_pos c34] at H
                                    have c34b0 : decide ((ji32) < (l0_3.length : Int)) = true := decide_eq_true c34
                                    clear c34
                                    have H' := Aside0.mk H
                                    clear H
                                    have hnb35 := NB342_340.out
                                    have hnc35 := NB340_342.out
                                    have hcz36_0 : w28.cell? ⟨gb342, 0, none⟩ = some (.string (⟨#[]⟩ : ByteArray)) := (blk_cell BK342.out 0).trans rfl
                                    have hcz36_1 : w28.cell? ⟨gb342, 1, none⟩ = some (.int .i64 0) := (blk_cell BK342.out 1).trans rfl
                                    have hfz36_0 := blk_frozen BK342.out 0
                                    have hfz36_1 := blk_frozen BK342.out 1
                                    have hcz37_0 : w28.cell? ⟨gb340, 0, none⟩ = some (.int .i64 a0_0) := (blk_cell BK340.out 0).trans rfl
                                    have hcz37_1 : w28.cell? ⟨gb340, 1, none⟩ = some (.int .i64 a0_1) := (blk_cell BK340.out 1).trans rfl
                                    have hcz37_2 : w28.cell? ⟨gb340, 2, none⟩ = some (.int .i64 a0_2) := (blk_cell BK340.out 2).trans rfl
                                    have hcz37_3 : w28.cell? ⟨gb340, 3, none⟩ = some (.slice (some ad341) l0_3.length c0_3) := (blk_cell BK340.out 3).trans rfl
                                    have hfz37_0 := blk_frozen BK340.out 0
                                    have hfz37_1 := blk_frozen BK340.out 1
                                    have hfz37_2 := blk_frozen BK340.out 2
                                    have hfz37_3 := blk_frozen BK340.out 3
                                    have p343 : 0 ≤ ((ji32) : Int) := of_decide_eq_true (by first | (with_reducible assumption) | assumption)
                                    have q343 : (ji32) < (l0_3.length : Int) := of_decide_eq_true (by first | (with_reducible assumption) | assumption)
                                    obtain ⟨ad343, e343, hx343_0, hx343_1⟩ := at_T64 HR0_3.out (ji32) p343 q343
                                    obtain rfl : ad341 = ad343 := (by injection e343)
                                    have hn343_0 : ad341.block ≠ gb342 := Nat.ne_of_lt (Nat.lt_of_lt_of_le (by have := World.block_lt_of_cell? _ _ hx343_0; first | rwa [add_block] at this | exact this) GW342.out)
                                    have hn343_1 : ad341.block ≠ gb342 := Nat.ne_of_lt (Nat.lt_of_lt_of_le (by have := World.block_lt_of_cell? _ _ hx343_0; first | rwa [add_block] at this | exact this) GW342.out)
                                    replace hx343_0 := (HB.out.cell (World.block_lt_of_cell? w _ hx343_0)).trans hx343_0
                                    replace hx343_1 := (HB.out.cell (World.block_lt_of_cell? w _ hx343_1)).trans hx343_1
                                    replace hx343_0 := (cell_far (p := ⟨gb342, 0, none⟩) (by first | (rw [add_block]; exact hn343_0) | (show (Addr.add _ _).block ≠ _; rw [add_block]; exact hn343_0) | exact hn343_0) (.string ((rd_T64 l0_3 x47_3).f0))).trans hx343_0
                                    replace hx343_1 := (cell_far (p := ⟨gb342, 0, none⟩) (by first | (rw [add_block]; exact hn343_0) | (show (Addr.add _ _).block ≠ _; rw [add_block]; exact hn343_0) | exact hn343_0) (.string ((rd_T64 l0_3 x47_3).f0))).trans hx343_1
                                    replace hx343_0 := (cell_far (p := ⟨gb342, 1, none⟩) (by first | (rw [add_block]; exact hn343_1) | (show (Addr.add _ _).block ≠ _; rw [add_block]; exact hn343_1) | exact hn343_1) (.int .i64 ((rd_T64 l0_3 x47_3).f1))).trans hx343_0
                                    replace hx343_1 := (cell_far (p := ⟨gb342, 1, none⟩) (by first | (rw [add_block]; exact hn343_1) | (show (Addr.add _ _).block ≠ _; rw [add_block]; exact hn343_1) | exact hn343_1) (.int .i64 ((rd_T64 l0_3 x47_3).f1))).trans hx343_1
                                    (try have hy343_0 := fun (n_ : Nat) => (show ((((w28.drewN n_).setCell ⟨gb342, 0, none⟩ (.string ((rd_T64 l0_3 x47_3).f0))).setCell ⟨gb342, 1, none⟩ (.int .i64 ((rd_T64 l0_3 x47_3).f1)))).cell? _ = some _ from hx343_0))
                                    (try have hy343_1 := fun (n_ : Nat) => (show ((((w28.drewN n_).setCell ⟨gb342, 0, none⟩ (.string ((rd_T64 l0_3 x47_3).f0))).setCell ⟨gb342, 1, none⟩ (.int .i64 ((rd_T64 l0_3 x47_3).f1)))).cell? _ = some _ from hx343_1))
                                    clear hn343_0
                                    clear hn343_1
                                    replace p343 := eq_true p343
                                    replace q343 := eq_true q343
                                    go_wp2
                                    repeat (go_quiet (fail); try go_wp2)
                                    go_meet
                                    case rel => exact ⟨_, (!(Op.bytesLess (((rd_T64 l0_3 (ji32)).f0).toList) (((rd_T64 l0_3 x47_3).f0).toList))), (by first | rfl | (simp; done) | (simp only [← hji32] <;> (first | rfl | simp)) | (simp [*]; done)), H', ⟨by have := HJ1.out; have := HJ7.out; have := HK3.out; first | omega | exact Nat.le_refl _⟩, ⟨by (with_reducible repeat (first | refine blk_drewN ?_ _ | refine blk_drew ?_ | refine blk_alloc ?_ _)); refine blk_far ?_ NB340_342.out _; (with_reducible repeat (first | refine blk_drewN ?_ _ | refine blk_drew ?_ | refine blk_alloc ?_ _)); refine blk_far ?_ NB340_342.out _; (with_reducible repeat (first | refine blk_drewN ?_ _ | refine blk_drew ?_ | refine blk_alloc ?_ _)); exact BK340.out⟩, ⟨by (with_reducible repeat (first | refine blk_drewN ?_ _ | refine blk_drew ?_ | refine blk_alloc ?_ _)); refine blk_put (cs := #[.string ((rd_T64 l0_3 x47_3).f0), .int .i64 0]) ?_ 1 _ rfl; (with_reducible repeat (first | refine blk_drewN ?_ _ | refine blk_drew ?_ | refine blk_alloc ?_ _)); refine blk_put (cs := #[.string (⟨#[]⟩ : ByteArray), .int .i64 0]) ?_ 0 _ rfl; (with_reducible repeat (first | refine blk_drewN ?_ _ | refine blk_drew ?_ | refine blk_alloc ?_ _)); exact BK342.out⟩, ⟨by repeat (first | (with_reducible first | exact HB.out | apply below_alloc | apply pw_below_drewN | apply below_drew1 | refine below_set ?_ GE340.out | refine below_set ?_ GE342.out) | exact HB.out)⟩⟩
                                  · rw [if_neg c34] at H
                                    exact absurd H (by simp)
                                · rw [if_neg c33] at H
                                  exact absurd H (by simp)
                              · rw [if_neg c31] at H
                                have c31b0 : decide (0 < x47_3) = false := decide_eq_false c31
                                clear c31
                                (first | rw [c31b0] | (simp only [i64_w, i32_w]; rw [c31b0]) | skip)
                                have H' := Aside0.mk H
                                clear H
                                go_wp2
                                repeat (go_quiet (fail); try go_wp2)
                                go_meet
                                case rel => exact ⟨_, (false), (by first | rfl | (simp; done) | (simp [*]; done)), H', ⟨by have := HJ1.out; have := HJ7.out; have := HK3.out; first | omega | exact Nat.le_refl _⟩, ⟨by (with_reducible repeat (first | refine blk_drewN ?_ _ | refine blk_drew ?_ | refine blk_alloc ?_ _)); refine blk_far ?_ NB340_342.out _; (with_reducible repeat (first | refine blk_drewN ?_ _ | refine blk_drew ?_ | refine blk_alloc ?_ _)); refine blk_far ?_ NB340_342.out _; (with_reducible repeat (first | refine blk_drewN ?_ _ | refine blk_drew ?_ | refine blk_alloc ?_ _)); exact BK340.out⟩, ⟨by (with_reducible repeat (first | refine blk_drewN ?_ _ | refine blk_drew ?_ | refine blk_alloc ?_ _)); refine blk_put (cs := #[.string ((rd_T64 l0_3 x47_3).f0), .int .i64 0]) ?_ 1 _ rfl; (with_reducible repeat (first | refine blk_drewN ?_ _ | refine blk_drew ?_ | refine blk_alloc ?_ _)); refine blk_put (cs := #[.string (⟨#[]⟩ : ByteArray), .int .i64 0]) ?_ 0 _ rfl; (with_reducible repeat (first | refine blk_drewN ?_ _ | refine blk_drew ?_ | refine blk_alloc ?_ _)); exact BK342.out⟩, ⟨by repeat (first | (with_reducible first | exact HB.out | apply below_alloc | apply pw_below_drewN | apply below_drew1 | refine below_set ?_ GE340.out | refine below_set ?_ GE342.out) | exact HB.out)⟩⟩
                            case rest =>
                              clear HC27
                              try clear c1
                              try clear c2
                              try clear p2
                              try clear c3
                              try clear p3
                              try clear q3
                              try clear hx3
                              try clear c4
                              try clear c4b0
                              try clear c5
                              try clear p6
                              try clear c7
                              try clear c9
                              try clear c9b0
                              try clear c11
                              try clear c11b0
                              try clear c13
                              try clear c13b0
                              try clear c16
                              try clear c17
                              try clear c17b0
                              try clear c20
                              try clear c20b0
                              try clear c21
                              try clear c21b0
                              try clear c22
                              try clear c22b0
                              try clear c23
                              try clear c23b0
                              try clear c23b1
                              try clear c25
                              try clear c29
                              try clear c31
                              try clear c31b0
                              try clear c33
                              try clear c33b0
                              try clear c34
                              try clear c34b0
                              try clear p34
                              try clear q34
                              try clear hx34
                              try clear c35
                              try clear hcz10_0
                              try clear hcz10_1
                              try clear hcz10_2
                              try clear hcz10_3
                              try clear hcz12_0
                              try clear hcz12_1
                              try clear hcz12_2
                              try clear hcz12_3
                              try clear hcz14_0
                              try clear hcz14_1
                              try clear hcz14_2
                              try clear hcz14_3
                              try clear hcz15_0
                              try clear hcz15_1
                              try clear hcz15_2
                              try clear hcz15_3
                              try clear hcz18_0
                              try clear hcz18_1
                              try clear hcz18_2
                              try clear hcz18_3
                              try clear hcz19_0
                              try clear hcz19_1
                              try clear hcz19_2
                              try clear hcz19_3
                              try clear hcz26_0
                              try clear hcz26_1
                              try clear hcz30_0
                              try clear hcz30_1
                              try clear hcz36_0
                              try clear hcz36_1
                              try clear hcz37_0
                              try clear hcz37_1
                              try clear hcz37_2
                              try clear hcz37_3
                              try clear hcz5_0
                              try clear hcz5_1
                              try clear hcz5_2
                              try clear hcz5_3
                              try clear hcz6_0
                              try clear hcz6_1
                              try clear hcz6_2
                              try clear hcz6_3
                              try clear hfz10_0
                              try clear hfz10_1
                              try clear hfz10_2
                              try clear hfz10_3
                              try clear hfz12_0
                              try clear hfz12_1
                              try clear hfz12_2
                              try clear hfz12_3
                              try clear hfz14_0
                              try clear hfz14_1
                              try clear hfz14_2
                              try clear hfz14_3
                              try clear hfz15_0
                              try clear hfz15_1
                              try clear hfz15_2
                              try clear hfz15_3
                              try clear hfz18_0
                              try clear hfz18_1
                              try clear hfz18_2
                              try clear hfz18_3
                              try clear hfz19_0
                              try clear hfz19_1
                              try clear hfz19_2
                              try clear hfz19_3
                              try clear hfz26_0
                              try clear hfz26_1
                              try clear hfz30_0
                              try clear hfz30_1
                              try clear hfz36_0
                              try clear hfz36_1
                              try clear hfz37_0
                              try clear hfz37_1
                              try clear hfz37_2
                              try clear hfz37_3
                              try clear hfz5_0
                              try clear hfz5_1
                              try clear hfz5_2
                              try clear hfz5_3
                              try clear hfz6_0
                              try clear hfz6_1
                              try clear hfz6_2
                              try clear hfz6_3
                              try clear hx341_0
                              try clear hx341_1
                              try clear hx343_0
                              try clear hx343_1
                              try clear p2
                              try clear p341
                              try clear p343
                              try clear p6
                              try clear q341
                              try clear q343
                              obtain ⟨kq, x69_26, rfl, HA, HJ26, BK340, BK342, HB⟩ := hcut
                              cases kq with
                              | zero => exact absurd HA.out (by simp [heavyhitters_Check.j3])
                              | succ kj26 =>
                                have H := HA.out
                                clear HA
                                simp only [heavyhitters_Check.j3] at H
                                by_cases c38 : x69_26 = true
                                · subst c38
                                  have H1 : (some 9) = some r := by rw [if_pos rfl] at H; exact H
                                  clear H
                                  have H := H1
                                  clear H1
                                  obtain rfl := Option.some.inj H
                                  go_wp2
                                  repeat (go_quiet (fail); try go_wp2)
                                  go_ret
                                  exact ⟨by first | rfl | (simp [errW_none, errW_some] <;> rfl) | (simp [*, errW_none, errW_some] <;> rfl), by repeat (first | (with_reducible first | exact HB.out | apply below_alloc | apply pw_below_drewN | apply below_drew1 | refine below_set ?_ GE340.out | refine below_set ?_ GE342.out) | exact HB.out)⟩
                                · replace c38 := Bool.eq_false_iff.mpr c38
                                  subst c38
                                  have H1 : (if ((rd_T64 l0_3 x47_3).f1) < 1 then (some 2) else (if ((rd_T64 l0_3 x47_3).f1) > 1099511627776 then (some 2) else (heavyhitters_Check.l0 kj26 (wrap64 (x3_3 + ((rd_T64 l0_3 x47_3).f1))) l0_3 (l0_3.length : Int) (wrap64 (x47_3 + 1)) a0_0 a0_1 a0_2 l0_3))) = some r := by rw [if_neg (show ¬ (false = true) by decide)] at H; exact H
                                  clear H
                                  have H := H1
                                  clear H1
                                  by_cases c39 : ((rd_T64 l0_3 x47_3).f1) < 1
                                  · rw [if_pos c39] at H
                                    have c39b0 : decide (((rd_T64 l0_3 x47_3).f1) < 1) = true := decide_eq_true c39
                                    clear c39
                                    obtain rfl := Option.some.inj H
                                    have hnb40 := NB342_340.out
                                    have hnc40 := NB340_342.out
                                    have hcz41_0 : wc.cell? ⟨gb342, 0, none⟩ = some (.string ((rd_T64 l0_3 x47_3).f0)) := (blk_cell BK342.out 0).trans rfl
                                    have hcz41_1 : wc.cell? ⟨gb342, 1, none⟩ = some (.int .i64 ((rd_T64 l0_3 x47_3).f1)) := (blk_cell BK342.out 1).trans rfl
                                    have hfz41_0 := blk_frozen BK342.out 0
                                    have hfz41_1 := blk_frozen BK342.out 1
                                    go_wp2
                                    repeat (go_quiet (fail); try go_wp2)
                                    go_ret
                                    exact ⟨by first | rfl | (simp [errW_none, errW_some] <;> rfl) | (simp [*, errW_none, errW_some] <;> rfl), by repeat (first | (with_reducible first | exact HB.out | apply below_alloc | apply pw_below_drewN | apply below_drew1 | refine below_set ?_ GE340.out | refine below_set ?_ GE342.out) | exact HB.out)⟩
                                  · rw [if_neg c39] at H
                                    have c39b0 : decide (((rd_T64 l0_3 x47_3).f1) < 1) = false := decide_eq_false c39
                                    clear c39
                                    by_cases c42 : ((rd_T64 l0_3 x47_3).f1) > 1099511627776
                                    · rw [if_pos c42] at H
                                      have c42b0 : decide (1099511627776 < ((rd_T64 l0_3 x47_3).f1)) = true := decide_eq_true c42
                                      clear c42
                                      obtain rfl := Option.some.inj H
                                      have hnb43 := NB342_340.out
                                      have hnc43 := NB340_342.out
                                      have hcz44_0 : wc.cell? ⟨gb342, 0, none⟩ = some (.string ((rd_T64 l0_3 x47_3).f0)) := (blk_cell BK342.out 0).trans rfl
                                      have hcz44_1 : wc.cell? ⟨gb342, 1, none⟩ = some (.int .i64 ((rd_T64 l0_3 x47_3).f1)) := (blk_cell BK342.out 1).trans rfl
                                      have hfz44_0 := blk_frozen BK342.out 0
                                      have hfz44_1 := blk_frozen BK342.out 1
                                      go_wp2
                                      repeat (go_quiet (fail); try go_wp2)
                                      go_ret
                                      exact ⟨by first | rfl | (simp [errW_none, errW_some] <;> rfl) | (simp [*, errW_none, errW_some] <;> rfl), by repeat (first | (with_reducible first | exact HB.out | apply below_alloc | apply pw_below_drewN | apply below_drew1 | refine below_set ?_ GE340.out | refine below_set ?_ GE342.out) | exact HB.out)⟩
                                    · rw [if_neg c42] at H
                                      have c42b0 : decide (1099511627776 < ((rd_T64 l0_3 x47_3).f1)) = false := decide_eq_false c42
                                      clear c42
                                      have H' := Aside0.mk H
                                      clear H
                                      have hnb45 := NB342_340.out
                                      have hnc45 := NB340_342.out
                                      have hcz46_0 : wc.cell? ⟨gb342, 0, none⟩ = some (.string ((rd_T64 l0_3 x47_3).f0)) := (blk_cell BK342.out 0).trans rfl
                                      have hcz46_1 : wc.cell? ⟨gb342, 1, none⟩ = some (.int .i64 ((rd_T64 l0_3 x47_3).f1)) := (blk_cell BK342.out 1).trans rfl
                                      have hfz46_0 := blk_frozen BK342.out 0
                                      have hfz46_1 := blk_frozen BK342.out 1
                                      go_wp2
                                      repeat (go_quiet (fail); try go_wp2)
                                      go_roundg kj26
                                      case measure => have := HJ1.out; have := HJ7.out; have := HK3.out; have := HJ26.out; omega
                                      case rel => exact ⟨(wrap64 (x3_3 + ((rd_T64 l0_3 x47_3).f1))), (wrap64 (x47_3 + 1)), (by first | rfl | (simp; done) | (simp [*]; done)), (by first | rfl | (simp; done) | (simp [*]; done)), H', ⟨by have := HJ1.out; have := HJ7.out; have := HK3.out; have := HJ26.out; omega⟩, ⟨by (with_reducible repeat (first | refine blk_drewN ?_ _ | refine blk_drew ?_ | refine blk_alloc ?_ _)); exact BK340.out⟩, ⟨by repeat (first | (with_reducible first | exact HB.out | apply below_alloc | apply pw_below_drewN | apply below_drew1 | refine below_set ?_ GE340.out | refine below_set ?_ GE342.out) | exact HB.out)⟩⟩
                        · rw [if_neg c22] at H
                          exact absurd H (by simp)
                      · rw [if_neg c21] at H
                        exact absurd H (by simp)
                    · rw [if_neg c20] at H
                      have c20b0 : decide (x47_3 < (l0_3.length : Int)) = false := decide_eq_false c20
                      clear c20
                      by_cases c47 : x3_3 > a0_1
                      · rw [if_pos c47] at H
                        have c47b0 : decide (a0_1 < x3_3) = true := decide_eq_true c47
                        clear c47
                        obtain rfl := Option.some.inj H
                        have hcz48_0 : wr.cell? ⟨gb340, 0, none⟩ = some (.int .i64 a0_0) := (blk_cell BK340.out 0).trans rfl
                        have hcz48_1 : wr.cell? ⟨gb340, 1, none⟩ = some (.int .i64 a0_1) := (blk_cell BK340.out 1).trans rfl
                        have hcz48_2 : wr.cell? ⟨gb340, 2, none⟩ = some (.int .i64 a0_2) := (blk_cell BK340.out 2).trans rfl
                        have hcz48_3 : wr.cell? ⟨gb340, 3, none⟩ = some (.slice A0_3 l0_3.length c0_3) := (blk_cell BK340.out 3).trans rfl
                        have hfz48_0 := blk_frozen BK340.out 0
                        have hfz48_1 := blk_frozen BK340.out 1
                        have hfz48_2 := blk_frozen BK340.out 2
                        have hfz48_3 := blk_frozen BK340.out 3
                        go_wp2
                        repeat (go_quiet (fail); try go_wp2)
                        go_ret
                        exact ⟨by first | rfl | (simp [errW_none, errW_some] <;> rfl) | (simp [*, errW_none, errW_some] <;> rfl), by repeat (first | (with_reducible first | exact HB.out | apply below_alloc | apply pw_below_drewN | apply below_drew1 | refine below_set ?_ GE340.out) | exact HB.out)⟩
                      · rw [if_neg c47] at H
                        have c47b0 : decide (a0_1 < x3_3) = false := decide_eq_false c47
                        clear c47
                        obtain rfl := Option.some.inj H
                        have hcz49_0 : wr.cell? ⟨gb340, 0, none⟩ = some (.int .i64 a0_0) := (blk_cell BK340.out 0).trans rfl
                        have hcz49_1 : wr.cell? ⟨gb340, 1, none⟩ = some (.int .i64 a0_1) := (blk_cell BK340.out 1).trans rfl
                        have hcz49_2 : wr.cell? ⟨gb340, 2, none⟩ = some (.int .i64 a0_2) := (blk_cell BK340.out 2).trans rfl
                        have hcz49_3 : wr.cell? ⟨gb340, 3, none⟩ = some (.slice A0_3 l0_3.length c0_3) := (blk_cell BK340.out 3).trans rfl
                        have hfz49_0 := blk_frozen BK340.out 0
                        have hfz49_1 := blk_frozen BK340.out 1
                        have hfz49_2 := blk_frozen BK340.out 2
                        have hfz49_3 := blk_frozen BK340.out 3
                        go_wp2
                        repeat (go_quiet (fail); try go_wp2)
                        go_ret
                        exact ⟨by first | rfl | (simp [errW_none, errW_some] <;> rfl) | (simp [*, errW_none, errW_some] <;> rfl), by repeat (first | (with_reducible first | exact HB.out | apply below_alloc | apply pw_below_drewN | apply below_drew1 | refine below_set ?_ GE340.out) | exact HB.out)⟩
end

end Go.Proofs.YtakobehkajphpaaGreat.PAll
