/- New, Offered, and the reference's; the reference's Same and Great. -/
import Derived.Test.YtakobehkajphpaaGreatTQFill
namespace Go.Proofs.YtakobehkajphpaaGreat.H
open Go Go.RowKit Go.Proofs.YtakobehkajphpaaGreatW.PrintWords Go.Proofs.YtakobehkajphpaaGreatW.PrintLast Go.Proofs.YtakobehkajphpaaGreatW.PrintMore Go.Proofs.YtakobehkajphpaaGreat.PAll
attribute [local go_sem] max2_int min2_int max_two min_two
set_option linter.unusedVariables false
set_option linter.unusedSimpArgs false

theorem newT_name {nm : ByteArray} {rate burst mx now : Int} (h : ¬ isNm (ab nm) = true) : newT nm rate burst mx now = (zT, 5) := if_neg h
theorem newT_rng {nm : ByteArray} {rate burst mx now : Int} (h : isNm (ab nm) = true) (h1 : ¬ rngB rate burst mx now = true) : newT nm rate burst mx now = (zT, 2) := (if_pos h).trans (if_neg h1)
theorem newT_ok {nm : ByteArray} {rate burst mx now : Int} (h : isNm (ab nm) = true) (h1 : rngB rate burst mx now = true) : newT nm rate burst mx now = (⟨nm, rate, burst, 1000 * burst, now, mx, [], 0, 0, 0⟩, 0) := (if_pos h).trans (if_pos h1)

set_option maxRecDepth 100000 in
set_option maxHeartbeats 8000000 in
theorem QNew_calls (nm : ByteArray) (hs : nm.size ≤ 1000) (rate burst mx now : Int) (w : World) :
    Calls Tryz.prog 22 #[.string nm, .int .i64 rate, .int .i64 burst, .int .i64 mx, .int .i64 now] w (RT w (newT nm rate burst mx now)) := by
  have HNM := Aside0.mk (fun W => qisName_calls nm hs W)
  have HRN := Aside0.mk (fun W => inRange_calls rate burst mx now W)
  have hu := Tryz.underlying24
  have HBZ := Aside0.mk (heap_alloc_new w (.cells #[.string ⟨#[]⟩, .int .i64 0, .int .i64 0, .int .i64 0, .int .i64 0, .int .i64 0, .slice none 0 0, .int .i64 0, .int .i64 0, .int .i64 0] 24))
  have HW0 := Aside0.mk (below_alloc (Below.refl _ w) (.cells #[.string ⟨#[]⟩, .int .i64 0, .int .i64 0, .int .i64 0, .int .i64 0, .int .i64 0, .slice none 0 0, .int .i64 0, .int .i64 0, .int .i64 0] 24))
  have HSZ := Aside0.mk (show w.heap.size < (w.alloc (.cells #[.string ⟨#[]⟩, .int .i64 0, .int .i64 0, .int .i64 0, .int .i64 0, .int .i64 0, .slice none 0 0, .int .i64 0, .int .i64 0, .int .i64 0] 24)).heap.size by simp)
  by_cases h1 : isNm (ab nm) = true
  case neg =>
    rw [newT_name h1]
    have h1' : isNm (ab nm) = false := by simpa using h1
    rw [h1'] at HNM
    clear h1 h1'
    go_enter Tryz.func22, Tryz.ntmps22
    go_wp2_with (go_at_call 42; (with_reducible refine (HNM.out _).mono ?_); rintro e w1 ⟨rfl, hb⟩; have HZ1 := Aside0.mk ((hb.block w.heap.size HSZ.out).trans HBZ.out); have HB1 := Aside0.mk (HW0.out.trans (hb.mono HW0.out.size)); clear hb; have fz := blk_frozen HZ1.out; have fz0 := fz 0; have fz1 := fz 1; have fz2 := fz 2; have fz3 := fz 3; have fz4 := fz 4; have fz5 := fz 5; have fz6 := fz 6; have fz7 := fz 7; have fz8 := fz 8; have fz9 := fz 9; have z0 := (blk_cell HZ1.out 0).trans rfl; have z1 := (blk_cell HZ1.out 1).trans rfl; have z2 := (blk_cell HZ1.out 2).trans rfl; have z3 := (blk_cell HZ1.out 3).trans rfl; have z4 := (blk_cell HZ1.out 4).trans rfl; have z5 := (blk_cell HZ1.out 5).trans rfl; have z6 := (blk_cell HZ1.out 6).trans rfl; have z7 := (blk_cell HZ1.out 7).trans rfl; have z8 := (blk_cell HZ1.out 8).trans rfl; have z9 := (blk_cell HZ1.out 9).trans rfl; simp only [List.getElem?_toArray, List.getElem?_cons_zero, List.getElem?_cons_succ] at z0 z1 z2 z3 z4 z5 z6 z7 z8 z9; clear fz)
    obtain ⟨q0, q1, q2, q3, q4, q5, q6, q7, q8, q9⟩ := set10_cells HZ1.out (.string ⟨#[]⟩) (.int .i64 0) (.int .i64 0) (.int .i64 0) (.int .i64 0) (.int .i64 0) (.slice none 0 0) (.int .i64 0) (.int .i64 0) (.int .i64 0)
    unfold set10 at q0 q1 q2 q3 q4 q5 q6 q7 q8 q9
    exact bodyPost_ret (v := .tuple #[.agg #[.string ⟨#[]⟩, .int .i64 0, .int .i64 0, .int .i64 0, .int .i64 0, .int .i64 0, .slice none 0 0, .int .i64 0, .int .i64 0, .int .i64 0], .int .i64 5]) (by simp [results, Tryz.results22, go_sem, q0, q1, q2, q3, q4, q5, q6, q7, q8, q9]) rfl (RT_zero _ _ 5 (set10_below HB1.out (Nat.le_refl _) _ _ _ _ _ _ _ _ _ _))
  case pos =>
    rw [h1] at HNM
    by_cases h2 : rngB rate burst mx now = true
    case neg =>
      rw [newT_rng h1 h2]
      have h2' : rngB rate burst mx now = false := by simpa using h2
      rw [h2'] at HRN
      clear h1 h2 h2'
      go_enter Tryz.func22, Tryz.ntmps22
      go_wp2_with (first
        | (go_at_call 42; (with_reducible refine (HNM.out _).mono ?_); rintro e w1 ⟨rfl, hb⟩; have HZ1 := Aside0.mk ((hb.block w.heap.size HSZ.out).trans HBZ.out); have HB1 := Aside0.mk (HW0.out.trans (hb.mono HW0.out.size)); clear hb; have fz := blk_frozen HZ1.out; have fz0 := fz 0; have fz1 := fz 1; have fz2 := fz 2; have fz3 := fz 3; have fz4 := fz 4; have fz5 := fz 5; have fz6 := fz 6; have fz7 := fz 7; have fz8 := fz 8; have fz9 := fz 9; have z0 := (blk_cell HZ1.out 0).trans rfl; have z1 := (blk_cell HZ1.out 1).trans rfl; have z2 := (blk_cell HZ1.out 2).trans rfl; have z3 := (blk_cell HZ1.out 3).trans rfl; have z4 := (blk_cell HZ1.out 4).trans rfl; have z5 := (blk_cell HZ1.out 5).trans rfl; have z6 := (blk_cell HZ1.out 6).trans rfl; have z7 := (blk_cell HZ1.out 7).trans rfl; have z8 := (blk_cell HZ1.out 8).trans rfl; have z9 := (blk_cell HZ1.out 9).trans rfl; simp only [List.getElem?_toArray, List.getElem?_cons_zero, List.getElem?_cons_succ] at z0 z1 z2 z3 z4 z5 z6 z7 z8 z9; clear fz)
        | (go_at_call 43; (with_reducible refine (HRN.out _).mono ?_); rintro e w2 ⟨rfl, ⟨q2, rfl⟩⟩; have HZ2 := Aside0.mk (show (w1.drewN q2).heap[w.heap.size]? = some (.cells #[.string ⟨#[]⟩, .int .i64 0, .int .i64 0, .int .i64 0, .int .i64 0, .int .i64 0, .slice none 0 0, .int .i64 0, .int .i64 0, .int .i64 0] 24 (0, 0)) from HZ1.out); have HB2 := Aside0.mk (pw_below_drewN HB1.out q2); clear z0 z1 z2 z3 z4 z5 z6 z7 z8 z9 fz0 fz1 fz2 fz3 fz4 fz5 fz6 fz7 fz8 fz9; have fz := blk_frozen HZ2.out; have fz0 := fz 0; have fz1 := fz 1; have fz2 := fz 2; have fz3 := fz 3; have fz4 := fz 4; have fz5 := fz 5; have fz6 := fz 6; have fz7 := fz 7; have fz8 := fz 8; have fz9 := fz 9; have z0 := (blk_cell HZ2.out 0).trans rfl; have z1 := (blk_cell HZ2.out 1).trans rfl; have z2 := (blk_cell HZ2.out 2).trans rfl; have z3 := (blk_cell HZ2.out 3).trans rfl; have z4 := (blk_cell HZ2.out 4).trans rfl; have z5 := (blk_cell HZ2.out 5).trans rfl; have z6 := (blk_cell HZ2.out 6).trans rfl; have z7 := (blk_cell HZ2.out 7).trans rfl; have z8 := (blk_cell HZ2.out 8).trans rfl; have z9 := (blk_cell HZ2.out 9).trans rfl; simp only [List.getElem?_toArray, List.getElem?_cons_zero, List.getElem?_cons_succ] at z0 z1 z2 z3 z4 z5 z6 z7 z8 z9; clear fz))
      obtain ⟨q0, q1, q2, q3, q4, q5, q6, q7, q8, q9⟩ := set10_cells HZ2.out (.string ⟨#[]⟩) (.int .i64 0) (.int .i64 0) (.int .i64 0) (.int .i64 0) (.int .i64 0) (.slice none 0 0) (.int .i64 0) (.int .i64 0) (.int .i64 0)
      unfold set10 at q0 q1 q2 q3 q4 q5 q6 q7 q8 q9
      exact bodyPost_ret (v := .tuple #[.agg #[.string ⟨#[]⟩, .int .i64 0, .int .i64 0, .int .i64 0, .int .i64 0, .int .i64 0, .slice none 0 0, .int .i64 0, .int .i64 0, .int .i64 0], .int .i64 2]) (by simp [results, Tryz.results22, go_sem, q0, q1, q2, q3, q4, q5, q6, q7, q8, q9]) rfl (RT_zero _ _ 2 (set10_below HB2.out (Nat.le_refl _) _ _ _ _ _ _ _ _ _ _))
    case pos =>
      rw [newT_ok h1 h2]
      rw [h2] at HRN
      obtain ⟨_, _, hb0, hb1, _⟩ := rng_iff.1 h2
      clear h1 h2
      go_enter Tryz.func22, Tryz.ntmps22
      go_wp2_with (first
        | (go_at_call 42; (with_reducible refine (HNM.out _).mono ?_); rintro e w1 ⟨rfl, hb⟩; have HZ1 := Aside0.mk ((hb.block w.heap.size HSZ.out).trans HBZ.out); have HB1 := Aside0.mk (HW0.out.trans (hb.mono HW0.out.size)); clear hb; have fz := blk_frozen HZ1.out; have fz0 := fz 0; have fz1 := fz 1; have fz2 := fz 2; have fz3 := fz 3; have fz4 := fz 4; have fz5 := fz 5; have fz6 := fz 6; have fz7 := fz 7; have fz8 := fz 8; have fz9 := fz 9; have z0 := (blk_cell HZ1.out 0).trans rfl; have z1 := (blk_cell HZ1.out 1).trans rfl; have z2 := (blk_cell HZ1.out 2).trans rfl; have z3 := (blk_cell HZ1.out 3).trans rfl; have z4 := (blk_cell HZ1.out 4).trans rfl; have z5 := (blk_cell HZ1.out 5).trans rfl; have z6 := (blk_cell HZ1.out 6).trans rfl; have z7 := (blk_cell HZ1.out 7).trans rfl; have z8 := (blk_cell HZ1.out 8).trans rfl; have z9 := (blk_cell HZ1.out 9).trans rfl; simp only [List.getElem?_toArray, List.getElem?_cons_zero, List.getElem?_cons_succ] at z0 z1 z2 z3 z4 z5 z6 z7 z8 z9; clear fz)
        | (go_at_call 43; (with_reducible refine (HRN.out _).mono ?_); rintro e w2 ⟨rfl, ⟨q2, rfl⟩⟩; have HZ2 := Aside0.mk (show (w1.drewN q2).heap[w.heap.size]? = some (.cells #[.string ⟨#[]⟩, .int .i64 0, .int .i64 0, .int .i64 0, .int .i64 0, .int .i64 0, .slice none 0 0, .int .i64 0, .int .i64 0, .int .i64 0] 24 (0, 0)) from HZ1.out); have HB2 := Aside0.mk (pw_below_drewN HB1.out q2); clear z0 z1 z2 z3 z4 z5 z6 z7 z8 z9 fz0 fz1 fz2 fz3 fz4 fz5 fz6 fz7 fz8 fz9; have fz := blk_frozen HZ2.out; have fz0 := fz 0; have fz1 := fz 1; have fz2 := fz 2; have fz3 := fz 3; have fz4 := fz 4; have fz5 := fz 5; have fz6 := fz 6; have fz7 := fz 7; have fz8 := fz 8; have fz9 := fz 9; have z0 := (blk_cell HZ2.out 0).trans rfl; have z1 := (blk_cell HZ2.out 1).trans rfl; have z2 := (blk_cell HZ2.out 2).trans rfl; have z3 := (blk_cell HZ2.out 3).trans rfl; have z4 := (blk_cell HZ2.out 4).trans rfl; have z5 := (blk_cell HZ2.out 5).trans rfl; have z6 := (blk_cell HZ2.out 6).trans rfl; have z7 := (blk_cell HZ2.out 7).trans rfl; have z8 := (blk_cell HZ2.out 8).trans rfl; have z9 := (blk_cell HZ2.out 9).trans rfl; simp only [List.getElem?_toArray, List.getElem?_cons_zero, List.getElem?_cons_succ] at z0 z1 z2 z3 z4 z5 z6 z7 z8 z9; clear fz))
      obtain ⟨q0, q1, q2, q3, q4, q5, q6, q7, q8, q9⟩ := set10_cells HZ2.out (.string nm) (.int .i64 rate) (.int .i64 burst) (.int .i64 (1000 * burst)) (.int .i64 now) (.int .i64 mx) (.slice none 0 0) (.int .i64 0) (.int .i64 0) (.int .i64 0)
      unfold set10 at q0 q1 q2 q3 q4 q5 q6 q7 q8 q9
      exact bodyPost_ret (v := .tuple #[.agg #[.string nm, .int .i64 rate, .int .i64 burst, .int .i64 (1000 * burst), .int .i64 now, .int .i64 mx, .slice none 0 0, .int .i64 0, .int .i64 0, .int .i64 0], .int .i64 0]) (by simp [results, Tryz.results22, go_sem, q0, q1, q2, q3, q4, q5, q6, q7, q8, q9]) rfl ⟨none, 0, rfl, Nat.le_refl _, Kd.C_nil _ _, set10_below HB2.out (Nat.le_refl _) _ _ _ _ _ _ _ _ _ _⟩

end Go.Proofs.YtakobehkajphpaaGreat.H
