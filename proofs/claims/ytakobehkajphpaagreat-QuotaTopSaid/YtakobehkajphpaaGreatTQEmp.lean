/- What head.CheckOp comes to at operations that hold nothing else: equality of empty parts. -/
import Derived.Test.YtakobehkajphpaaGreatTLEq
import Derived.RegionTactic
import Derived.ChangeAlike
namespace Go.Proofs.YtakobehkajphpaaGreat.H
open Go Go.RowKit Go.Proofs.YtakobehkajphpaaGreatW.PrintWords Go.Proofs.YtakobehkajphpaaGreatW.PrintLast Go.Proofs.YtakobehkajphpaaGreatW.PrintMore Go.Proofs.YtakobehkajphpaaGreat.PAll
set_option linter.unusedVariables false
set_option linter.unusedSimpArgs false

theorem eqB_nil (w : World) : Calls Tryz.prog 123 #[.slice none 0 0, .slice none 0 0] w fun e w' => e = .returned (.bool true) ∧ Drawn0 w w' :=
  api_HistBucket.calls 1 none 0 [] none 0 [] true w (Kd.C_nil _ _) (Nat.le_refl _) (Kd.C_nil _ _) (Nat.le_refl _) rfl
theorem eqK_nil (w : World) : Calls Tryz.prog 126 #[.slice none 0 0, .slice none 0 0] w fun e w' => e = .returned (.bool true) ∧ Drawn0 w w' :=
  api_Link.calls 1 none 0 [] none 0 [] true w (Kd.C_nil _ _) (Nat.le_refl _) (Kd.C_nil _ _) (Nat.le_refl _) rfl
theorem eqN_nil (w : World) : Calls Tryz.prog 127 #[.slice none 0 0, .slice none 0 0] w fun e w' => e = .returned (.bool true) ∧ Drawn0 w w' :=
  api_FlameNode.calls 1 none 0 [] none 0 [] true w (Kd.C_nil _ _) (Nat.le_refl _) (Kd.C_nil _ _) (Nat.le_refl _) rfl
theorem eqL_nil (w : World) : Calls Tryz.prog 125 #[.slice none 0 0, .slice none 0 0] w fun e w' => e = .returned (.bool true) ∧ Drawn0 w w' :=
  Equal_calls none none 0 0 [] [] w (Kd.C_nil _ _) (Nat.le_refl _) (Kd.C_nil _ _) (Nat.le_refl _) (by simp)
theorem cmp_nil (w : World) : Calls Tryz.prog 45 #[.slice none 0 0, .slice none 0 0] w fun e w' => e = .returned (.int .i64 0) ∧ Below w.heap.size w w' :=
  Compare_calls none none 0 0 [] [] w (Kd.C_nil _ _) (Nat.le_refl _) (Kd.C_nil _ _) (Nat.le_refl _) (by simp)
theorem cmpI_zero (w : World) : Calls Tryz.prog 107 #[.int .i64 0, .int .i64 0] w fun e w' => e = .returned (.int .i64 0) ∧ Drawn0 w w' :=
  cmp_Compare_int.calls 0 0 0 w rfl
theorem cmpT_zero (w : World) : Calls Tryz.prog 73 #[.string ⟨#[]⟩, .string ⟨#[]⟩] w fun e w' => e = .returned (.int .i64 0) ∧ Drawn0 w w' := by
  have h := cmpS_calls ⟨#[]⟩ ⟨#[]⟩ w
  exact h

set_option maxRecDepth 100000 in
set_option maxHeartbeats 4000000 in
theorem eqHist_zero (w : World) : Calls Tryz.prog 85 #[.agg #[.int .i64 0, .int .i64 0, .int .i64 0, .int .i64 0, .int .i64 0, .int .i64 0, .slice none 0 0], .agg #[.int .i64 0, .int .i64 0, .int .i64 0, .int .i64 0, .int .i64 0, .int .i64 0, .slice none 0 0]] w fun e w' => e = .returned (.bool true) ∧ Below w.heap.size w w' := by
  have hu0 := Tryz.underlying32
  have hu1 := Tryz.underlying30
  have hbx := heap_alloc_keep (o := (.cells #[.int .i64 0, .int .i64 0, .int .i64 0, .int .i64 0, .int .i64 0, .int .i64 0, .slice none 0 0] 32)) (heap_alloc_new w (.cells #[.int .i64 0, .int .i64 0, .int .i64 0, .int .i64 0, .int .i64 0, .int .i64 0, .slice none 0 0] 32))
  have hby := heap_alloc_new (w.alloc (.cells #[.int .i64 0, .int .i64 0, .int .i64 0, .int .i64 0, .int .i64 0, .int .i64 0, .slice none 0 0] 32)) (.cells #[.int .i64 0, .int .i64 0, .int .i64 0, .int .i64 0, .int .i64 0, .int .i64 0, .slice none 0 0] 32)
  rw [World.size_alloc] at hby
  have HBX := Aside0.mk hbx
  have HBY := Aside0.mk hby
  have HW0 := Aside0.mk (below_alloc (below_alloc (Below.refl _ w) (.cells #[.int .i64 0, .int .i64 0, .int .i64 0, .int .i64 0, .int .i64 0, .int .i64 0, .slice none 0 0] 32)) (.cells #[.int .i64 0, .int .i64 0, .int .i64 0, .int .i64 0, .int .i64 0, .int .i64 0, .slice none 0 0] 32))
  have x0 := (blk_cell hbx 0).trans rfl; have x1 := (blk_cell hbx 1).trans rfl; have x2 := (blk_cell hbx 2).trans rfl; have x3 := (blk_cell hbx 3).trans rfl; have x4 := (blk_cell hbx 4).trans rfl; have x5 := (blk_cell hbx 5).trans rfl; have x6 := (blk_cell hbx 6).trans rfl; simp only [List.getElem?_toArray, List.getElem?_cons_zero, List.getElem?_cons_succ] at x0 x1 x2 x3 x4 x5 x6
  have y0 := (blk_cell hby 0).trans rfl; have y1 := (blk_cell hby 1).trans rfl; have y2 := (blk_cell hby 2).trans rfl; have y3 := (blk_cell hby 3).trans rfl; have y4 := (blk_cell hby 4).trans rfl; have y5 := (blk_cell hby 5).trans rfl; have y6 := (blk_cell hby 6).trans rfl; simp only [List.getElem?_toArray, List.getElem?_cons_zero, List.getElem?_cons_succ] at y0 y1 y2 y3 y4 y5 y6
  clear hbx hby
  go_enter Tryz.func85, Tryz.ntmps85
  go_wp2_with fail
  go_region
  all_goals
    go_wp2_with (go_at_call 123; (with_reducible refine (eqB_nil _).mono ?_); rintro e w1 ⟨rfl, ⟨q, rfl⟩⟩)
    go_ret
    exact ⟨rfl, by repeat (first | exact HW0.out | apply below_alloc | apply pw_below_drewN | apply below_drew)⟩

set_option maxRecDepth 100000 in
set_option maxHeartbeats 4000000 in
theorem cmpEntry_zero (w : World) : Calls Tryz.prog 124 #[.agg #[.int .i64 0, .slice none 0 0, .string ⟨#[]⟩, .slice none 0 0, .int .i64 0], .agg #[.int .i64 0, .slice none 0 0, .string ⟨#[]⟩, .slice none 0 0, .int .i64 0]] w fun e w' => e = .returned (.int .i64 0) ∧ Below w.heap.size w w' := by
  have hu0 := Tryz.underlying34
  have hbx := heap_alloc_keep (o := (.cells #[.int .i64 0, .slice none 0 0, .string ⟨#[]⟩, .slice none 0 0, .int .i64 0] 34)) (heap_alloc_new w (.cells #[.int .i64 0, .slice none 0 0, .string ⟨#[]⟩, .slice none 0 0, .int .i64 0] 34))
  have hby := heap_alloc_new (w.alloc (.cells #[.int .i64 0, .slice none 0 0, .string ⟨#[]⟩, .slice none 0 0, .int .i64 0] 34)) (.cells #[.int .i64 0, .slice none 0 0, .string ⟨#[]⟩, .slice none 0 0, .int .i64 0] 34)
  rw [World.size_alloc] at hby
  have HBX := Aside0.mk hbx
  have HBY := Aside0.mk hby
  have HW0 := Aside0.mk (below_alloc (below_alloc (Below.refl _ w) (.cells #[.int .i64 0, .slice none 0 0, .string ⟨#[]⟩, .slice none 0 0, .int .i64 0] 34)) (.cells #[.int .i64 0, .slice none 0 0, .string ⟨#[]⟩, .slice none 0 0, .int .i64 0] 34))
  have x0 := (blk_cell hbx 0).trans rfl; have x1 := (blk_cell hbx 1).trans rfl; have x2 := (blk_cell hbx 2).trans rfl; have x3 := (blk_cell hbx 3).trans rfl; have x4 := (blk_cell hbx 4).trans rfl; simp only [List.getElem?_toArray, List.getElem?_cons_zero, List.getElem?_cons_succ] at x0 x1 x2 x3 x4
  have y0 := (blk_cell hby 0).trans rfl; have y1 := (blk_cell hby 1).trans rfl; have y2 := (blk_cell hby 2).trans rfl; have y3 := (blk_cell hby 3).trans rfl; have y4 := (blk_cell hby 4).trans rfl; simp only [List.getElem?_toArray, List.getElem?_cons_zero, List.getElem?_cons_succ] at y0 y1 y2 y3 y4
  clear hbx hby
  have HB0 := HW0
  have HX0 := HBX
  have HY0 := HBY
  have LV0 : True := trivial
  go_enter Tryz.func124, Tryz.ntmps124
  go_wp2_with (first
    | (go_at_call 107; (with_reducible refine (cmpI_zero _).mono ?_); rintro e w1 ⟨rfl, hd⟩; have hb := hd.below; clear hd; have HBn := Aside0.mk (HB0.out.trans (hb.mono HB0.out.size)); have HXn := Aside0.mk ((hb.block w.heap.size (heap_lt HX0.out)).trans HX0.out); have HYn := Aside0.mk ((hb.block (w.heap.size + 1) (heap_lt HY0.out)).trans HY0.out); clear hb HB0 HX0 HY0; clear x0 x1 x2 x3 x4; clear y0 y1 y2 y3 y4; have HB0 := HBn; have HX0 := HXn; have HY0 := HYn; clear HBn HXn HYn; have x0 := (blk_cell HX0.out 0).trans rfl; have x1 := (blk_cell HX0.out 1).trans rfl; have x2 := (blk_cell HX0.out 2).trans rfl; have x3 := (blk_cell HX0.out 3).trans rfl; have x4 := (blk_cell HX0.out 4).trans rfl; simp only [List.getElem?_toArray, List.getElem?_cons_zero, List.getElem?_cons_succ] at x0 x1 x2 x3 x4; have y0 := (blk_cell HY0.out 0).trans rfl; have y1 := (blk_cell HY0.out 1).trans rfl; have y2 := (blk_cell HY0.out 2).trans rfl; have y3 := (blk_cell HY0.out 3).trans rfl; have y4 := (blk_cell HY0.out 4).trans rfl; simp only [List.getElem?_toArray, List.getElem?_cons_zero, List.getElem?_cons_succ] at y0 y1 y2 y3 y4)
    | (go_at_call 73; (with_reducible refine (cmpT_zero _).mono ?_); rintro e w1 ⟨rfl, hd⟩; have hb := hd.below; clear hd; have HBn := Aside0.mk (HB0.out.trans (hb.mono HB0.out.size)); have HXn := Aside0.mk ((hb.block w.heap.size (heap_lt HX0.out)).trans HX0.out); have HYn := Aside0.mk ((hb.block (w.heap.size + 1) (heap_lt HY0.out)).trans HY0.out); clear hb HB0 HX0 HY0; clear x0 x1 x2 x3 x4; clear y0 y1 y2 y3 y4; have HB0 := HBn; have HX0 := HXn; have HY0 := HYn; clear HBn HXn HYn; have x0 := (blk_cell HX0.out 0).trans rfl; have x1 := (blk_cell HX0.out 1).trans rfl; have x2 := (blk_cell HX0.out 2).trans rfl; have x3 := (blk_cell HX0.out 3).trans rfl; have x4 := (blk_cell HX0.out 4).trans rfl; simp only [List.getElem?_toArray, List.getElem?_cons_zero, List.getElem?_cons_succ] at x0 x1 x2 x3 x4; have y0 := (blk_cell HY0.out 0).trans rfl; have y1 := (blk_cell HY0.out 1).trans rfl; have y2 := (blk_cell HY0.out 2).trans rfl; have y3 := (blk_cell HY0.out 3).trans rfl; have y4 := (blk_cell HY0.out 4).trans rfl; simp only [List.getElem?_toArray, List.getElem?_cons_zero, List.getElem?_cons_succ] at y0 y1 y2 y3 y4)
    | (go_at_call 45; (with_reducible refine (cmp_nil _).mono ?_); rintro e w1 ⟨rfl, hb⟩; have HBn := Aside0.mk (HB0.out.trans (hb.mono HB0.out.size)); have HXn := Aside0.mk ((hb.block w.heap.size (heap_lt HX0.out)).trans HX0.out); have HYn := Aside0.mk ((hb.block (w.heap.size + 1) (heap_lt HY0.out)).trans HY0.out); clear hb HB0 HX0 HY0; clear x0 x1 x2 x3 x4; clear y0 y1 y2 y3 y4; have HB0 := HBn; have HX0 := HXn; have HY0 := HYn; clear HBn HXn HYn; have x0 := (blk_cell HX0.out 0).trans rfl; have x1 := (blk_cell HX0.out 1).trans rfl; have x2 := (blk_cell HX0.out 2).trans rfl; have x3 := (blk_cell HX0.out 3).trans rfl; have x4 := (blk_cell HX0.out 4).trans rfl; simp only [List.getElem?_toArray, List.getElem?_cons_zero, List.getElem?_cons_succ] at x0 x1 x2 x3 x4; have y0 := (blk_cell HY0.out 0).trans rfl; have y1 := (blk_cell HY0.out 1).trans rfl; have y2 := (blk_cell HY0.out 2).trans rfl; have y3 := (blk_cell HY0.out 3).trans rfl; have y4 := (blk_cell HY0.out 4).trans rfl; simp only [List.getElem?_toArray, List.getElem?_cons_zero, List.getElem?_cons_succ] at y0 y1 y2 y3 y4))
  go_ret
  exact ⟨rfl, HB0.out⟩

set_option maxRecDepth 100000 in
set_option maxHeartbeats 4000000 in
theorem eqEntry_zero (w : World) : Calls Tryz.prog 86 #[.agg #[.int .i64 0, .slice none 0 0, .string ⟨#[]⟩, .slice none 0 0, .int .i64 0], .agg #[.int .i64 0, .slice none 0 0, .string ⟨#[]⟩, .slice none 0 0, .int .i64 0]] w fun e w' => e = .returned (.bool true) ∧ Below w.heap.size w w' := by
  have hu0 := Tryz.underlying34
  have hbx := heap_alloc_keep (o := (.cells #[.int .i64 0, .slice none 0 0, .string ⟨#[]⟩, .slice none 0 0, .int .i64 0] 34)) (heap_alloc_new w (.cells #[.int .i64 0, .slice none 0 0, .string ⟨#[]⟩, .slice none 0 0, .int .i64 0] 34))
  have hby := heap_alloc_new (w.alloc (.cells #[.int .i64 0, .slice none 0 0, .string ⟨#[]⟩, .slice none 0 0, .int .i64 0] 34)) (.cells #[.int .i64 0, .slice none 0 0, .string ⟨#[]⟩, .slice none 0 0, .int .i64 0] 34)
  rw [World.size_alloc] at hby
  have HBX := Aside0.mk hbx
  have HBY := Aside0.mk hby
  have HW0 := Aside0.mk (below_alloc (below_alloc (Below.refl _ w) (.cells #[.int .i64 0, .slice none 0 0, .string ⟨#[]⟩, .slice none 0 0, .int .i64 0] 34)) (.cells #[.int .i64 0, .slice none 0 0, .string ⟨#[]⟩, .slice none 0 0, .int .i64 0] 34))
  have x0 := (blk_cell hbx 0).trans rfl; have x1 := (blk_cell hbx 1).trans rfl; have x2 := (blk_cell hbx 2).trans rfl; have x3 := (blk_cell hbx 3).trans rfl; have x4 := (blk_cell hbx 4).trans rfl; simp only [List.getElem?_toArray, List.getElem?_cons_zero, List.getElem?_cons_succ] at x0 x1 x2 x3 x4
  have y0 := (blk_cell hby 0).trans rfl; have y1 := (blk_cell hby 1).trans rfl; have y2 := (blk_cell hby 2).trans rfl; have y3 := (blk_cell hby 3).trans rfl; have y4 := (blk_cell hby 4).trans rfl; simp only [List.getElem?_toArray, List.getElem?_cons_zero, List.getElem?_cons_succ] at y0 y1 y2 y3 y4
  clear hbx hby
  go_enter Tryz.func86, Tryz.ntmps86
  go_wp2_with (go_at_call 124; (with_reducible refine (cmpEntry_zero _).mono ?_); rintro e w1 ⟨rfl, hb⟩; have HB1 := Aside0.mk (HW0.out.trans (hb.mono HW0.out.size)); clear hb)
  go_ret
  exact ⟨rfl, HB1.out⟩

set_option maxRecDepth 100000 in
set_option maxHeartbeats 4000000 in
theorem eqSpan_zero (w : World) : Calls Tryz.prog 87 #[.agg #[.int .i64 0, .int .i64 0, .int .i64 0, .string ⟨#[]⟩, .string ⟨#[]⟩, .int .i64 0, .int .i64 0, .int .i64 0, .slice none 0 0, .slice none 0 0], .agg #[.int .i64 0, .int .i64 0, .int .i64 0, .string ⟨#[]⟩, .string ⟨#[]⟩, .int .i64 0, .int .i64 0, .int .i64 0, .slice none 0 0, .slice none 0 0]] w fun e w' => e = .returned (.bool true) ∧ Below w.heap.size w w' := by
  have hu0 := Tryz.underlying37
  have hbx := heap_alloc_keep (o := (.cells #[.int .i64 0, .int .i64 0, .int .i64 0, .string ⟨#[]⟩, .string ⟨#[]⟩, .int .i64 0, .int .i64 0, .int .i64 0, .slice none 0 0, .slice none 0 0] 37)) (heap_alloc_new w (.cells #[.int .i64 0, .int .i64 0, .int .i64 0, .string ⟨#[]⟩, .string ⟨#[]⟩, .int .i64 0, .int .i64 0, .int .i64 0, .slice none 0 0, .slice none 0 0] 37))
  have hby := heap_alloc_new (w.alloc (.cells #[.int .i64 0, .int .i64 0, .int .i64 0, .string ⟨#[]⟩, .string ⟨#[]⟩, .int .i64 0, .int .i64 0, .int .i64 0, .slice none 0 0, .slice none 0 0] 37)) (.cells #[.int .i64 0, .int .i64 0, .int .i64 0, .string ⟨#[]⟩, .string ⟨#[]⟩, .int .i64 0, .int .i64 0, .int .i64 0, .slice none 0 0, .slice none 0 0] 37)
  rw [World.size_alloc] at hby
  have HBX := Aside0.mk hbx
  have HBY := Aside0.mk hby
  have HW0 := Aside0.mk (below_alloc (below_alloc (Below.refl _ w) (.cells #[.int .i64 0, .int .i64 0, .int .i64 0, .string ⟨#[]⟩, .string ⟨#[]⟩, .int .i64 0, .int .i64 0, .int .i64 0, .slice none 0 0, .slice none 0 0] 37)) (.cells #[.int .i64 0, .int .i64 0, .int .i64 0, .string ⟨#[]⟩, .string ⟨#[]⟩, .int .i64 0, .int .i64 0, .int .i64 0, .slice none 0 0, .slice none 0 0] 37))
  have x0 := (blk_cell hbx 0).trans rfl; have x1 := (blk_cell hbx 1).trans rfl; have x2 := (blk_cell hbx 2).trans rfl; have x3 := (blk_cell hbx 3).trans rfl; have x4 := (blk_cell hbx 4).trans rfl; have x5 := (blk_cell hbx 5).trans rfl; have x6 := (blk_cell hbx 6).trans rfl; have x7 := (blk_cell hbx 7).trans rfl; have x8 := (blk_cell hbx 8).trans rfl; have x9 := (blk_cell hbx 9).trans rfl; simp only [List.getElem?_toArray, List.getElem?_cons_zero, List.getElem?_cons_succ] at x0 x1 x2 x3 x4 x5 x6 x7 x8 x9
  have y0 := (blk_cell hby 0).trans rfl; have y1 := (blk_cell hby 1).trans rfl; have y2 := (blk_cell hby 2).trans rfl; have y3 := (blk_cell hby 3).trans rfl; have y4 := (blk_cell hby 4).trans rfl; have y5 := (blk_cell hby 5).trans rfl; have y6 := (blk_cell hby 6).trans rfl; have y7 := (blk_cell hby 7).trans rfl; have y8 := (blk_cell hby 8).trans rfl; have y9 := (blk_cell hby 9).trans rfl; simp only [List.getElem?_toArray, List.getElem?_cons_zero, List.getElem?_cons_succ] at y0 y1 y2 y3 y4 y5 y6 y7 y8 y9
  clear hbx hby
  go_enter Tryz.func87, Tryz.ntmps87
  go_wp2_with (first
    | (go_at_call 125; (with_reducible refine (eqL_nil _).mono ?_); rintro e w1 ⟨rfl, ⟨q, rfl⟩⟩)
    | (go_at_call 126; (with_reducible refine (eqK_nil _).mono ?_); rintro e w1 ⟨rfl, ⟨q, rfl⟩⟩))
  go_ret
  exact ⟨rfl, by repeat (first | exact HW0.out | apply pw_below_drewN)⟩

set_option maxRecDepth 100000 in
set_option maxHeartbeats 4000000 in
theorem eqProf_zero (w : World) : Calls Tryz.prog 88 #[.agg #[.int .i64 0, .slice none 0 0, .slice none 0 0], .agg #[.int .i64 0, .slice none 0 0, .slice none 0 0]] w fun e w' => e = .returned (.bool true) ∧ Below w.heap.size w w' := by
  have hu0 := Tryz.underlying41
  have hbx := heap_alloc_keep (o := (.cells #[.int .i64 0, .slice none 0 0, .slice none 0 0] 41)) (heap_alloc_new w (.cells #[.int .i64 0, .slice none 0 0, .slice none 0 0] 41))
  have hby := heap_alloc_new (w.alloc (.cells #[.int .i64 0, .slice none 0 0, .slice none 0 0] 41)) (.cells #[.int .i64 0, .slice none 0 0, .slice none 0 0] 41)
  rw [World.size_alloc] at hby
  have HBX := Aside0.mk hbx
  have HBY := Aside0.mk hby
  have HW0 := Aside0.mk (below_alloc (below_alloc (Below.refl _ w) (.cells #[.int .i64 0, .slice none 0 0, .slice none 0 0] 41)) (.cells #[.int .i64 0, .slice none 0 0, .slice none 0 0] 41))
  have x0 := (blk_cell hbx 0).trans rfl; have x1 := (blk_cell hbx 1).trans rfl; have x2 := (blk_cell hbx 2).trans rfl; simp only [List.getElem?_toArray, List.getElem?_cons_zero, List.getElem?_cons_succ] at x0 x1 x2
  have y0 := (blk_cell hby 0).trans rfl; have y1 := (blk_cell hby 1).trans rfl; have y2 := (blk_cell hby 2).trans rfl; simp only [List.getElem?_toArray, List.getElem?_cons_zero, List.getElem?_cons_succ] at y0 y1 y2
  clear hbx hby
  go_enter Tryz.func88, Tryz.ntmps88
  go_wp2_with (first
    | (go_at_call 125; (with_reducible refine (eqL_nil _).mono ?_); rintro e w1 ⟨rfl, ⟨q, rfl⟩⟩)
    | (go_at_call 127; (with_reducible refine (eqN_nil _).mono ?_); rintro e w1 ⟨rfl, ⟨q, rfl⟩⟩))
  go_ret
  exact ⟨rfl, by repeat (first | exact HW0.out | apply pw_below_drewN)⟩
end Go.Proofs.YtakobehkajphpaaGreat.H
