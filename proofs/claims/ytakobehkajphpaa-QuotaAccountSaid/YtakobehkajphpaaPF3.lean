-- printed by the kit's print (print.py); merged by wip/mergeprint.py
import Derived.Test.YtakobehkajphpaaPF0
import Derived.Test.YtakobehkajphpaaHStr
namespace Go.Proofs.Ytakobehkajphpaa.PAll
open Go.RowKit Go.Proofs.YtakobehkajphpaaW.PrintWords Go.Proofs.YtakobehkajphpaaW.PrintLast Go.Proofs.YtakobehkajphpaaW.PrintMore
attribute [local go_sem] max2_int min2_int max_two min_two max_three min_three max_four min_four
attribute [local go_sem] HS.run_gtr HS.run_leq HS.run_geq
set_option linter.unusedVariables false
set_option linter.unusedSimpArgs false
section
/-! ### quota_count: function 46 -/
def quota_count.f (a0 : Int) : Option (Int) := some (mn (wrap64 (a0 + 1)) 1152921504606846976)
set_option maxHeartbeats 8000000 in
set_option maxRecDepth 100000 in
theorem quota_count.calls (a0 : Int) (r : Int) (w : World) (h : quota_count.f a0 = some r) :
    Calls Try.prog 46 #[.int .i64 a0] w fun e w' => e = .returned (.int .i64 r) ∧ Below w.heap.size w w' := by
  have HB := Aside0.mk (Below.refl w.heap.size w)
  have H : (some (mn (wrap64 (a0 + 1)) 1152921504606846976)) = some r := h
  clear h
  obtain ⟨ji2, hji2⟩ : ∃ j_ : Int, (mn (wrap64 (a0 + 1)) 1152921504606846976) = j_ := ⟨_, rfl⟩
  replace H : (some ji2) = some r := by first | (rw [hji2] at H; exact H) | (simp only [hji2] at H ⊢; exact H)
  (try (have hji2h : ji2 ≤ 1152921504606846976 := by (rw [← hji2]; unfold mn; (repeat' split) <;> omega)))
  (try (have hji2g : ji2 ≤ 64 := by omega))
  have hji2_ : (if 1152921504606846976 < (wrap64 (a0 + 1)) then 1152921504606846976 else (wrap64 (a0 + 1))) = ji2 := hji2
  obtain rfl := Option.some.inj H
  go_enter Try.func46, Try.ntmps46
  go_wp2
  go_ret
  exact ⟨by first | rfl | (simp [errW_none, errW_some] <;> rfl) | (simp only [← hji2]; first | rfl | (simp [errW_none, errW_some] <;> rfl)) | (simp [*, errW_none, errW_some] <;> rfl), by repeat (first | (with_reducible first | exact HB.out | apply below_alloc | apply pw_below_drewN | apply below_drew1) | exact HB.out)⟩
end

section
/-! ### lookoutref05_Great: function 31 -/
def lookoutref05_Great.l0 : Nat → List (S72) → Int → Option (Bool)
  | 0, _, _ => none
  | k + 1, x0, x3 => if x3 < (x0.length : Int) then (if 0 ≤ x3 then (if (((rd_T72 x0 x3).f0).size : Int) > 61 then (some true) else (if (((rd_T72 x0 x3).f1).size : Int) > 201 then (some true) else (lookoutref05_Great.l0 k x0 (wrap64 (x3 + 1))))) else (none)) else (some (decide ((x0.length : Int) > 17)))
def lookoutref05_Great.f (k : Nat) (l0 : List (S72)) : Option (Bool) := lookoutref05_Great.l0 k l0 0
theorem lookoutref05_Great.mono_l : ∀ k, (∀ y0 y1, LeO (lookoutref05_Great.l0 k y0 y1) (lookoutref05_Great.l0 (k + 1) y0 y1))
  | 0 => fun _ _ r h => by simp [lookoutref05_Great.l0] at h
  | k + 1 => by
    have ih0 := lookoutref05_Great.mono_l k
    · intro y0 y1
      unfold lookoutref05_Great.l0
      repeat' first
      | (with_reducible exact ih0 _ _)
      | (with_reducible exact LeO.refl _)
      | (with_reducible exact LeO.none _)
      | (with_reducible refine LeO.ite ?_ ?_)
      | (with_reducible refine LeO.bind ?_ (fun _ => ?_))
      | exact ih0 _ _
      | exact LeO.none _
      | refine LeO.ite ?_ ?_
      | refine LeO.bind ?_ (fun _ => ?_)
theorem lookoutref05_Great.mono : ∀ a0 k, LeO (lookoutref05_Great.f k a0) (lookoutref05_Great.f (k + 1) a0) := by
  intro a0 k
  have ih0 := lookoutref05_Great.mono_l k
  unfold lookoutref05_Great.f
  repeat' first
      | (with_reducible exact ih0 _ _)
      | (with_reducible exact LeO.refl _)
      | (with_reducible exact LeO.none _)
      | (with_reducible refine LeO.ite ?_ ?_)
      | (with_reducible refine LeO.bind ?_ (fun _ => ?_))
      | exact ih0 _ _
      | exact LeO.none _
      | refine LeO.ite ?_ ?_
      | refine LeO.bind ?_ (fun _ => ?_)
set_option maxHeartbeats 8000000 in
set_option maxRecDepth 100000 in
theorem lookoutref05_Great.calls (k : Nat) (A0 : Option Addr) (c0 : Nat) (l0 : List (S72)) (r : Bool) (w : World) (hr0 : Kd.C k72 w A0 l0.length l0) (hc0 : l0.length ≤ c0) (h : lookoutref05_Great.f k l0 = some r) :
    Calls Try.prog 31 #[.slice A0 l0.length c0] w fun e w' => e = .returned (.bool r) ∧ Drawn0 w w' := by
  have HR0 := Aside0.mk hr0
  have HC0 := Aside0.mk hc0
  clear hr0 hc0
  have H : (lookoutref05_Great.l0 k l0 0) = some r := h
  clear h
  have H' := Aside0.mk H
  clear H
  go_enter Try.func31, Try.ntmps31
  go_wp2
  go_loopg [3] k (fun kq v3 w' => ∃ (x3_1 : Int), v3 = .int .i64 x3_1 ∧ Aside0 (lookoutref05_Great.l0 kq l0 x3_1 = some r) ∧ Aside0 (kq ≤ k) ∧ Drawn0 w w')
  case atStart => exact ⟨(0), (by first | rfl | (simp; done) | (simp [*]; done)), H', ⟨Nat.le_refl _⟩, by repeat (first | exact Drawn0.refl _ | apply Drawn0.step)⟩
  case round =>
    clear H'
    obtain ⟨x3_1, rfl, HA, HK1, ⟨m1, rfl⟩⟩ := hrel
    cases gk with
    | zero => exact absurd HA.out (by simp [lookoutref05_Great.l0])
    | succ k1 =>
      have H := HA.out
      clear HA
      simp only [lookoutref05_Great.l0] at H
      by_cases c2 : x3_1 < (l0.length : Int)
      · rw [if_pos c2] at H
        have c2b0 : decide (x3_1 < (l0.length : Int)) = true := decide_eq_true c2
        clear c2
        by_cases c3 : 0 ≤ x3_1
        · rw [if_pos c3] at H
          have c3b0 : decide (0 ≤ x3_1) = true := decide_eq_true c3
          clear c3
          by_cases c4 : (((rd_T72 l0 x3_1).f0).size : Int) > 61
          · rw [if_pos c4] at H
            have c4b0 : decide (61 < (((rd_T72 l0 x3_1).f0).size : Int)) = true := decide_eq_true c4
            have c4b1 : decide (61 < ((rd_T72 l0 x3_1).f0).size) = true := decide_eq_true (by omega)
            clear c4
            obtain rfl := Option.some.inj H
            have p420 : 0 ≤ (x3_1 : Int) := of_decide_eq_true (by first | (with_reducible assumption) | assumption)
            have q420 : x3_1 < (l0.length : Int) := of_decide_eq_true (by first | (with_reducible assumption) | assumption)
            obtain ⟨ad420, e420, hx420_0, hx420_1⟩ := at_T72 HR0.out x3_1 p420 q420
            cases e420
            replace p420 := eq_true p420
            replace q420 := eq_true q420
            go_wp2
            go_ret
            exact ⟨by first | rfl | (simp; done) | (simp [*]; done), by repeat (first | exact Drawn0.refl _ | apply Drawn0.step)⟩
          · rw [if_neg c4] at H
            have c4b0 : decide (61 < (((rd_T72 l0 x3_1).f0).size : Int)) = false := decide_eq_false c4
            have c4b1 : decide (61 < ((rd_T72 l0 x3_1).f0).size) = false := decide_eq_false (by omega)
            clear c4
            by_cases c5 : (((rd_T72 l0 x3_1).f1).size : Int) > 201
            · rw [if_pos c5] at H
              have c5b0 : decide (201 < (((rd_T72 l0 x3_1).f1).size : Int)) = true := decide_eq_true c5
              have c5b1 : decide (201 < ((rd_T72 l0 x3_1).f1).size) = true := decide_eq_true (by omega)
              clear c5
              obtain rfl := Option.some.inj H
              have p420 : 0 ≤ (x3_1 : Int) := of_decide_eq_true (by first | (with_reducible assumption) | assumption)
              have q420 : x3_1 < (l0.length : Int) := of_decide_eq_true (by first | (with_reducible assumption) | assumption)
              obtain ⟨ad420, e420, hx420_0, hx420_1⟩ := at_T72 HR0.out x3_1 p420 q420
              cases e420
              replace p420 := eq_true p420
              replace q420 := eq_true q420
              have p421 : 0 ≤ (x3_1 : Int) := of_decide_eq_true (by first | (with_reducible assumption) | assumption)
              have q421 : x3_1 < (l0.length : Int) := of_decide_eq_true (by first | (with_reducible assumption) | assumption)
              obtain ⟨ad421, e421, hx421_0, hx421_1⟩ := at_T72 HR0.out x3_1 p421 q421
              obtain rfl : ad420 = ad421 := (by injection e421)
              replace p421 := eq_true p421
              replace q421 := eq_true q421
              go_wp2
              go_ret
              exact ⟨by first | rfl | (simp; done) | (simp [*]; done), by repeat (first | exact Drawn0.refl _ | apply Drawn0.step)⟩
            · rw [if_neg c5] at H
              have c5b0 : decide (201 < (((rd_T72 l0 x3_1).f1).size : Int)) = false := decide_eq_false c5
              have c5b1 : decide (201 < ((rd_T72 l0 x3_1).f1).size) = false := decide_eq_false (by omega)
              clear c5
              have H' := Aside0.mk H
              clear H
              have p420 : 0 ≤ (x3_1 : Int) := of_decide_eq_true (by first | (with_reducible assumption) | assumption)
              have q420 : x3_1 < (l0.length : Int) := of_decide_eq_true (by first | (with_reducible assumption) | assumption)
              obtain ⟨ad420, e420, hx420_0, hx420_1⟩ := at_T72 HR0.out x3_1 p420 q420
              cases e420
              replace p420 := eq_true p420
              replace q420 := eq_true q420
              have p421 : 0 ≤ (x3_1 : Int) := of_decide_eq_true (by first | (with_reducible assumption) | assumption)
              have q421 : x3_1 < (l0.length : Int) := of_decide_eq_true (by first | (with_reducible assumption) | assumption)
              obtain ⟨ad421, e421, hx421_0, hx421_1⟩ := at_T72 HR0.out x3_1 p421 q421
              obtain rfl : ad420 = ad421 := (by injection e421)
              replace p421 := eq_true p421
              replace q421 := eq_true q421
              go_wp2
              go_roundg k1
              case measure => have := HK1.out; omega
              case rel => exact ⟨(wrap64 (x3_1 + 1)), (by first | rfl | (simp; done) | (simp [*]; done)), H', ⟨by have := HK1.out; omega⟩, by repeat (first | exact Drawn0.refl _ | apply Drawn0.step)⟩
        · rw [if_neg c3] at H
          exact absurd H (by simp)
      · rw [if_neg c2] at H
        have c2b0 : decide (x3_1 < (l0.length : Int)) = false := decide_eq_false c2
        clear c2
        obtain rfl := Option.some.inj H
        go_wp2
        go_ret
        exact ⟨by first | rfl | (simp; done) | (simp [*]; done), by repeat (first | exact Drawn0.refl _ | apply Drawn0.step)⟩
end

section
/-! ### lookoutref55_Great: function 12 -/
def lookoutref55_Great.l0 : Nat → Int → ByteArray → Int → Int → Int → Int → Int → List (List (S72)) → Int → Int → Int → Option (Bool)
  | 0, _, _, _, _, _, _, _, _, _, _, _ => none
  | k + 1, x3, x423000, x423001, x423002, x423003, x423004, x423005, x423006, x423007, x423008, x423009 => if x3 < (x423006.length : Int) then (if 0 ≤ x3 then ((lookoutref05_Great.f k (rd_L2 x423006 x3)).bind fun t424 => (if t424 = true then (some true) else (lookoutref55_Great.l0 k (wrap64 (x3 + 1)) x423000 x423001 x423002 x423003 x423004 x423005 x423006 x423007 x423008 x423009))) else (none)) else (if (x423006.length : Int) > 12 then (some true) else (some (decide ((x423000.size : Int) > 100))))
def lookoutref55_Great.f (k : Nat) (a0_0 : ByteArray) (a0_1 : Int) (a0_2 : Int) (a0_3 : Int) (a0_4 : Int) (a0_5 : Int) (l0_6 : List (List (S72))) (a0_7 : Int) (a0_8 : Int) (a0_9 : Int) : Option (Bool) := lookoutref55_Great.l0 k 0 a0_0 a0_1 a0_2 a0_3 a0_4 a0_5 l0_6 a0_7 a0_8 a0_9
theorem lookoutref55_Great.mono_l : ∀ k, (∀ y0 y1 y2 y3 y4 y5 y6 y7 y8 y9 y10, LeO (lookoutref55_Great.l0 k y0 y1 y2 y3 y4 y5 y6 y7 y8 y9 y10) (lookoutref55_Great.l0 (k + 1) y0 y1 y2 y3 y4 y5 y6 y7 y8 y9 y10))
  | 0 => fun _ _ _ _ _ _ _ _ _ _ _ r h => by simp [lookoutref55_Great.l0] at h
  | k + 1 => by
    have ih0 := lookoutref55_Great.mono_l k
    · intro y0 y1 y2 y3 y4 y5 y6 y7 y8 y9 y10
      unfold lookoutref55_Great.l0
      repeat' first
      | (with_reducible exact ih0 _ _ _ _ _ _ _ _ _ _ _)
      | (with_reducible exact lookoutref05_Great.mono _ _)
      | (with_reducible exact LeO.refl _)
      | (with_reducible exact LeO.none _)
      | (with_reducible refine LeO.ite ?_ ?_)
      | (with_reducible refine LeO.bind ?_ (fun _ => ?_))
      | exact ih0 _ _ _ _ _ _ _ _ _ _ _
      | exact lookoutref05_Great.mono _ _
      | exact LeO.none _
      | refine LeO.ite ?_ ?_
      | refine LeO.bind ?_ (fun _ => ?_)
theorem lookoutref55_Great.mono : ∀ a0 a1 a2 a3 a4 a5 a6 a7 a8 a9 k, LeO (lookoutref55_Great.f k a0 a1 a2 a3 a4 a5 a6 a7 a8 a9) (lookoutref55_Great.f (k + 1) a0 a1 a2 a3 a4 a5 a6 a7 a8 a9) := by
  intro a0 a1 a2 a3 a4 a5 a6 a7 a8 a9 k
  have ih0 := lookoutref55_Great.mono_l k
  unfold lookoutref55_Great.f
  repeat' first
      | (with_reducible exact ih0 _ _ _ _ _ _ _ _ _ _ _)
      | (with_reducible exact lookoutref05_Great.mono _ _)
      | (with_reducible exact LeO.refl _)
      | (with_reducible exact LeO.none _)
      | (with_reducible refine LeO.ite ?_ ?_)
      | (with_reducible refine LeO.bind ?_ (fun _ => ?_))
      | exact ih0 _ _ _ _ _ _ _ _ _ _ _
      | exact lookoutref05_Great.mono _ _
      | exact LeO.none _
      | refine LeO.ite ?_ ?_
      | refine LeO.bind ?_ (fun _ => ?_)
set_option maxHeartbeats 8000000 in
set_option maxRecDepth 100000 in
theorem lookoutref55_Great.calls (k : Nat) (a0_0 : ByteArray) (a0_1 : Int) (a0_2 : Int) (a0_3 : Int) (a0_4 : Int) (a0_5 : Int) (A0_6 : Option Addr) (c0_6 : Nat) (l0_6 : List (List (S72))) (a0_7 : Int) (a0_8 : Int) (a0_9 : Int) (r : Bool) (w : World) (hr0_6 : Kd.C (Kd.slice 72 k72) w A0_6 l0_6.length l0_6) (hc0_6 : l0_6.length ≤ c0_6) (h : lookoutref55_Great.f k a0_0 a0_1 a0_2 a0_3 a0_4 a0_5 l0_6 a0_7 a0_8 a0_9 = some r) :
    Calls Try.prog 12 #[.agg #[.string a0_0, .int .i64 a0_1, .int .i64 a0_2, .int .i64 a0_3, .int .i64 a0_4, .int .i64 a0_5, .slice A0_6 l0_6.length c0_6, .int .i64 a0_7, .int .i64 a0_8, .int .i64 a0_9]] w fun e w' => e = .returned (.bool r) ∧ Below w.heap.size w w' := by
  have hu25 := Try.underlying25
  have HR0_6 := Aside0.mk hr0_6
  have HC0_6 := Aside0.mk hc0_6
  clear hr0_6 hc0_6
  have HB := Aside0.mk (Below.refl w.heap.size w)
  have H : (lookoutref55_Great.l0 k 0 a0_0 a0_1 a0_2 a0_3 a0_4 a0_5 l0_6 a0_7 a0_8 a0_9) = some r := h
  clear h
  have H' := Aside0.mk H
  clear H
  go_enter Try.func12, Try.ntmps12
  go_wp2_with (first | ((with_reducible refine gate_dst (N := 1) rfl ?_); (try (refine gate_guard (by rfl) ?_; dsimp only)); refine box_event ?hg (N := 1) ?hd (cs := #[.string a0_0, .int .i64 a0_1, .int .i64 a0_2, .int .i64 a0_3, .int .i64 a0_4, .int .i64 a0_5, .slice A0_6 l0_6.length c0_6, .int .i64 a0_7, .int .i64 a0_8, .int .i64 a0_9]) (t := 25) ?hr ?_; (case hd => rfl); (case hg => rfl); (case hr => first | (go_simp; done) | (go_simp; rfl)); intro gb422 hg w2 hbox hb; have n0_ := Aside0.mk (below_step (by repeat (first | (with_reducible first | exact HB.out | apply below_alloc | apply pw_below_drewN | apply below_drew1) | exact HB.out)) hb); have n1_ := Aside0.mk (hbox); have n2_ := Aside0.mk ((by rw [hg]; exact (below_size (by repeat (first | (with_reducible first | exact HB.out | apply below_alloc | apply pw_below_drewN | apply below_drew1) | exact HB.out))) : w.heap.size ≤ gb422)); have n3_ := Aside0.mk ((by rw [hg]; exact (below_size (by repeat (first | (with_reducible first | exact HB.out | apply below_alloc | apply pw_below_drewN | apply below_drew1) | exact HB.out))) : w.heap.size ≤ gb422)); clear HB; have HB := n0_; have BK422 := n1_; have GW422 := n2_; have GE422 := n3_; clear n0_ n1_ n2_ n3_; clear hb hbox hg))
  go_loopg [3] k (fun kq v3 w' => ∃ (x3_1 : Int), v3 = .int .i64 x3_1 ∧ Aside0 (lookoutref55_Great.l0 kq x3_1 a0_0 a0_1 a0_2 a0_3 a0_4 a0_5 l0_6 a0_7 a0_8 a0_9 = some r) ∧ Aside0 (kq ≤ k) ∧ Aside0 (w'.heap[gb422]? = some (.cells #[.string a0_0, .int .i64 a0_1, .int .i64 a0_2, .int .i64 a0_3, .int .i64 a0_4, .int .i64 a0_5, (.slice A0_6 l0_6.length c0_6), .int .i64 a0_7, .int .i64 a0_8, .int .i64 a0_9] 25 (0, 0))) ∧ Aside0 (Below w.heap.size w w'))
  case atStart => exact ⟨(0), (by first | rfl | (simp; done) | (simp [*]; done)), H', ⟨Nat.le_refl _⟩, ⟨by (with_reducible repeat (first | refine blk_drewN ?_ _ | refine blk_drew ?_ | refine blk_alloc ?_ _)); exact BK422.out⟩, ⟨by repeat (first | (with_reducible first | exact HB.out | apply below_alloc | apply pw_below_drewN | apply below_drew1 | refine below_set ?_ GE422.out) | exact HB.out)⟩⟩
  case round =>
    clear H'
    try clear c1
    try clear p2
    obtain ⟨x3_1, rfl, HA, HK1, BK422, HB⟩ := hrel
    cases gk with
    | zero => exact absurd HA.out (by simp [lookoutref55_Great.l0])
    | succ k1 =>
      have H := HA.out
      clear HA
      simp only [lookoutref55_Great.l0] at H
      by_cases c3 : x3_1 < (l0_6.length : Int)
      · rw [if_pos c3] at H
        have c3b0 : decide (x3_1 < (l0_6.length : Int)) = true := decide_eq_true c3
        clear c3
        by_cases c4 : 0 ≤ x3_1
        · rw [if_pos c4] at H
          have c4b0 : decide (0 ≤ x3_1) = true := decide_eq_true c4
          clear c4
          replace H := Option.bind_eq_some_iff.mp H
          obtain ⟨t424, A50, H⟩ := H
          replace H : (if t424 = true then (some true) else (lookoutref55_Great.l0 k1 (wrap64 (x3_1 + 1)) a0_0 a0_1 a0_2 a0_3 a0_4 a0_5 l0_6 a0_7 a0_8 a0_9)) = some r := H
          have A5 := Aside0.mk A50
          clear A50
          by_cases c6 : t424 = true
          · subst c6
            have H1 : (some true) = some r := by rw [if_pos rfl] at H; exact H
            clear H
            have H := H1
            clear H1
            obtain rfl := Option.some.inj H
            have hcz7_0 : wr.cell? ⟨gb422, 0, none⟩ = some (.string a0_0) := (blk_cell BK422.out 0).trans rfl
            have hcz7_1 : wr.cell? ⟨gb422, 1, none⟩ = some (.int .i64 a0_1) := (blk_cell BK422.out 1).trans rfl
            have hcz7_2 : wr.cell? ⟨gb422, 2, none⟩ = some (.int .i64 a0_2) := (blk_cell BK422.out 2).trans rfl
            have hcz7_3 : wr.cell? ⟨gb422, 3, none⟩ = some (.int .i64 a0_3) := (blk_cell BK422.out 3).trans rfl
            have hcz7_4 : wr.cell? ⟨gb422, 4, none⟩ = some (.int .i64 a0_4) := (blk_cell BK422.out 4).trans rfl
            have hcz7_5 : wr.cell? ⟨gb422, 5, none⟩ = some (.int .i64 a0_5) := (blk_cell BK422.out 5).trans rfl
            have hcz7_6 : wr.cell? ⟨gb422, 6, none⟩ = some (.slice A0_6 l0_6.length c0_6) := (blk_cell BK422.out 6).trans rfl
            have hcz7_7 : wr.cell? ⟨gb422, 7, none⟩ = some (.int .i64 a0_7) := (blk_cell BK422.out 7).trans rfl
            have hcz7_8 : wr.cell? ⟨gb422, 8, none⟩ = some (.int .i64 a0_8) := (blk_cell BK422.out 8).trans rfl
            have hcz7_9 : wr.cell? ⟨gb422, 9, none⟩ = some (.int .i64 a0_9) := (blk_cell BK422.out 9).trans rfl
            have hfz7_0 := blk_frozen BK422.out 0
            have hfz7_1 := blk_frozen BK422.out 1
            have hfz7_2 := blk_frozen BK422.out 2
            have hfz7_3 := blk_frozen BK422.out 3
            have hfz7_4 := blk_frozen BK422.out 4
            have hfz7_5 := blk_frozen BK422.out 5
            have hfz7_6 := blk_frozen BK422.out 6
            have hfz7_7 := blk_frozen BK422.out 7
            have hfz7_8 := blk_frozen BK422.out 8
            have hfz7_9 := blk_frozen BK422.out 9
            have p423 : 0 ≤ (x3_1 : Int) := of_decide_eq_true (by first | (with_reducible assumption) | assumption)
            have q423 : x3_1 < (l0_6.length : Int) := of_decide_eq_true (by first | (with_reducible assumption) | assumption)
            obtain ⟨ad423, A423_0, c423_0, e423, hx423_0, hl423_0, hi423_0⟩ := at_L2 HR0_6.out x3_1 p423 q423
            cases e423
            replace hx423_0 := (HB.out.cell (World.block_lt_of_cell? w _ hx423_0)).trans hx423_0
            have HR423_0 := Aside0.mk hi423_0
            have HC423_0 := Aside0.mk hl423_0
            clear hi423_0 hl423_0
            replace p423 := eq_true p423
            replace q423 := eq_true q423
            go_wp2_with (first | ((with_reducible refine gate_callee (f := 31) rfl ?_); refine goesL_ (some 16) rfl rfl Try.func31 (by kernel_rfl) rfl #[.slice A423_0 (rd_L2 l0_6 x3_1).length c423_0] rfl (by (try simp only [List.map_toArray, List.map_cons, List.map_nil]); first | done | rfl | (simp only [List.length_drop, List.length_take]; rfl)) ?_; (with_reducible refine (lookoutref05_Great.calls k1 _ _ (rd_L2 l0_6 x3_1) true _ ?side1 ?side2 A5.out).mono ?_); (case side1 => repeat (first | exact (Kd.C_below HR423_0.out HB.out) | (with_reducible refine Kd.C_alloc ?_ _) | (with_reducible refine Kd.C_drewN ?_ _) | (with_reducible refine Kd.C_drew ?_))); (case side2 => exact HC423_0.out); rintro e w' ⟨rfl, ⟨nd, rfl⟩⟩; refine ⟨_, rfl, ?_⟩))
            go_ret
            exact ⟨by first | rfl | (simp [errW_none, errW_some] <;> rfl) | (simp [*, errW_none, errW_some] <;> rfl), by repeat (first | (with_reducible first | exact HB.out | apply below_alloc | apply pw_below_drewN | apply below_drew1 | refine below_set ?_ GE422.out) | exact HB.out)⟩
          · replace c6 := Bool.eq_false_iff.mpr c6
            subst c6
            have H1 : (lookoutref55_Great.l0 k1 (wrap64 (x3_1 + 1)) a0_0 a0_1 a0_2 a0_3 a0_4 a0_5 l0_6 a0_7 a0_8 a0_9) = some r := by rw [if_neg (show ¬ (false = true) by decide)] at H; exact H
            clear H
            have H := H1
            clear H1
            have H' := Aside0.mk H
            clear H
            have hcz8_0 : wr.cell? ⟨gb422, 0, none⟩ = some (.string a0_0) := (blk_cell BK422.out 0).trans rfl
            have hcz8_1 : wr.cell? ⟨gb422, 1, none⟩ = some (.int .i64 a0_1) := (blk_cell BK422.out 1).trans rfl
            have hcz8_2 : wr.cell? ⟨gb422, 2, none⟩ = some (.int .i64 a0_2) := (blk_cell BK422.out 2).trans rfl
            have hcz8_3 : wr.cell? ⟨gb422, 3, none⟩ = some (.int .i64 a0_3) := (blk_cell BK422.out 3).trans rfl
            have hcz8_4 : wr.cell? ⟨gb422, 4, none⟩ = some (.int .i64 a0_4) := (blk_cell BK422.out 4).trans rfl
            have hcz8_5 : wr.cell? ⟨gb422, 5, none⟩ = some (.int .i64 a0_5) := (blk_cell BK422.out 5).trans rfl
            have hcz8_6 : wr.cell? ⟨gb422, 6, none⟩ = some (.slice A0_6 l0_6.length c0_6) := (blk_cell BK422.out 6).trans rfl
            have hcz8_7 : wr.cell? ⟨gb422, 7, none⟩ = some (.int .i64 a0_7) := (blk_cell BK422.out 7).trans rfl
            have hcz8_8 : wr.cell? ⟨gb422, 8, none⟩ = some (.int .i64 a0_8) := (blk_cell BK422.out 8).trans rfl
            have hcz8_9 : wr.cell? ⟨gb422, 9, none⟩ = some (.int .i64 a0_9) := (blk_cell BK422.out 9).trans rfl
            have hfz8_0 := blk_frozen BK422.out 0
            have hfz8_1 := blk_frozen BK422.out 1
            have hfz8_2 := blk_frozen BK422.out 2
            have hfz8_3 := blk_frozen BK422.out 3
            have hfz8_4 := blk_frozen BK422.out 4
            have hfz8_5 := blk_frozen BK422.out 5
            have hfz8_6 := blk_frozen BK422.out 6
            have hfz8_7 := blk_frozen BK422.out 7
            have hfz8_8 := blk_frozen BK422.out 8
            have hfz8_9 := blk_frozen BK422.out 9
            have p423 : 0 ≤ (x3_1 : Int) := of_decide_eq_true (by first | (with_reducible assumption) | assumption)
            have q423 : x3_1 < (l0_6.length : Int) := of_decide_eq_true (by first | (with_reducible assumption) | assumption)
            obtain ⟨ad423, A423_0, c423_0, e423, hx423_0, hl423_0, hi423_0⟩ := at_L2 HR0_6.out x3_1 p423 q423
            cases e423
            replace hx423_0 := (HB.out.cell (World.block_lt_of_cell? w _ hx423_0)).trans hx423_0
            have HR423_0 := Aside0.mk hi423_0
            have HC423_0 := Aside0.mk hl423_0
            clear hi423_0 hl423_0
            replace p423 := eq_true p423
            replace q423 := eq_true q423
            go_wp2_with (first | ((with_reducible refine gate_callee (f := 31) rfl ?_); refine goesL_ (some 16) rfl rfl Try.func31 (by kernel_rfl) rfl #[.slice A423_0 (rd_L2 l0_6 x3_1).length c423_0] rfl (by (try simp only [List.map_toArray, List.map_cons, List.map_nil]); first | done | rfl | (simp only [List.length_drop, List.length_take]; rfl)) ?_; (with_reducible refine (lookoutref05_Great.calls k1 _ _ (rd_L2 l0_6 x3_1) false _ ?side1 ?side2 A5.out).mono ?_); (case side1 => repeat (first | exact (Kd.C_below HR423_0.out HB.out) | (with_reducible refine Kd.C_alloc ?_ _) | (with_reducible refine Kd.C_drewN ?_ _) | (with_reducible refine Kd.C_drew ?_))); (case side2 => exact HC423_0.out); rintro e w' ⟨rfl, ⟨nd, rfl⟩⟩; refine ⟨_, rfl, ?_⟩))
            go_roundg k1
            case measure => have := HK1.out; omega
            case rel => exact ⟨(wrap64 (x3_1 + 1)), (by first | rfl | (simp; done) | (simp [*]; done)), H', ⟨by have := HK1.out; omega⟩, ⟨by (with_reducible repeat (first | refine blk_drewN ?_ _ | refine blk_drew ?_ | refine blk_alloc ?_ _)); exact BK422.out⟩, ⟨by repeat (first | (with_reducible first | exact HB.out | apply below_alloc | apply pw_below_drewN | apply below_drew1 | refine below_set ?_ GE422.out) | exact HB.out)⟩⟩
        · rw [if_neg c4] at H
          exact absurd H (by simp)
      · rw [if_neg c3] at H
        have c3b0 : decide (x3_1 < (l0_6.length : Int)) = false := decide_eq_false c3
        clear c3
        by_cases c9 : (l0_6.length : Int) > 12
        · rw [if_pos c9] at H
          have c9b0 : decide (12 < (l0_6.length : Int)) = true := decide_eq_true c9
          have c9b1 : decide (12 < l0_6.length) = true := decide_eq_true (by omega)
          clear c9
          obtain rfl := Option.some.inj H
          have hcz10_0 : wr.cell? ⟨gb422, 0, none⟩ = some (.string a0_0) := (blk_cell BK422.out 0).trans rfl
          have hcz10_1 : wr.cell? ⟨gb422, 1, none⟩ = some (.int .i64 a0_1) := (blk_cell BK422.out 1).trans rfl
          have hcz10_2 : wr.cell? ⟨gb422, 2, none⟩ = some (.int .i64 a0_2) := (blk_cell BK422.out 2).trans rfl
          have hcz10_3 : wr.cell? ⟨gb422, 3, none⟩ = some (.int .i64 a0_3) := (blk_cell BK422.out 3).trans rfl
          have hcz10_4 : wr.cell? ⟨gb422, 4, none⟩ = some (.int .i64 a0_4) := (blk_cell BK422.out 4).trans rfl
          have hcz10_5 : wr.cell? ⟨gb422, 5, none⟩ = some (.int .i64 a0_5) := (blk_cell BK422.out 5).trans rfl
          have hcz10_6 : wr.cell? ⟨gb422, 6, none⟩ = some (.slice A0_6 l0_6.length c0_6) := (blk_cell BK422.out 6).trans rfl
          have hcz10_7 : wr.cell? ⟨gb422, 7, none⟩ = some (.int .i64 a0_7) := (blk_cell BK422.out 7).trans rfl
          have hcz10_8 : wr.cell? ⟨gb422, 8, none⟩ = some (.int .i64 a0_8) := (blk_cell BK422.out 8).trans rfl
          have hcz10_9 : wr.cell? ⟨gb422, 9, none⟩ = some (.int .i64 a0_9) := (blk_cell BK422.out 9).trans rfl
          have hfz10_0 := blk_frozen BK422.out 0
          have hfz10_1 := blk_frozen BK422.out 1
          have hfz10_2 := blk_frozen BK422.out 2
          have hfz10_3 := blk_frozen BK422.out 3
          have hfz10_4 := blk_frozen BK422.out 4
          have hfz10_5 := blk_frozen BK422.out 5
          have hfz10_6 := blk_frozen BK422.out 6
          have hfz10_7 := blk_frozen BK422.out 7
          have hfz10_8 := blk_frozen BK422.out 8
          have hfz10_9 := blk_frozen BK422.out 9
          go_wp2
          go_ret
          exact ⟨by first | rfl | (simp [errW_none, errW_some] <;> rfl) | (simp [*, errW_none, errW_some] <;> rfl), by repeat (first | (with_reducible first | exact HB.out | apply below_alloc | apply pw_below_drewN | apply below_drew1 | refine below_set ?_ GE422.out) | exact HB.out)⟩
        · rw [if_neg c9] at H
          have c9b0 : decide (12 < (l0_6.length : Int)) = false := decide_eq_false c9
          have c9b1 : decide (12 < l0_6.length) = false := decide_eq_false (by omega)
          clear c9
          obtain rfl := Option.some.inj H
          have hcz11_0 : wr.cell? ⟨gb422, 0, none⟩ = some (.string a0_0) := (blk_cell BK422.out 0).trans rfl
          have hcz11_1 : wr.cell? ⟨gb422, 1, none⟩ = some (.int .i64 a0_1) := (blk_cell BK422.out 1).trans rfl
          have hcz11_2 : wr.cell? ⟨gb422, 2, none⟩ = some (.int .i64 a0_2) := (blk_cell BK422.out 2).trans rfl
          have hcz11_3 : wr.cell? ⟨gb422, 3, none⟩ = some (.int .i64 a0_3) := (blk_cell BK422.out 3).trans rfl
          have hcz11_4 : wr.cell? ⟨gb422, 4, none⟩ = some (.int .i64 a0_4) := (blk_cell BK422.out 4).trans rfl
          have hcz11_5 : wr.cell? ⟨gb422, 5, none⟩ = some (.int .i64 a0_5) := (blk_cell BK422.out 5).trans rfl
          have hcz11_6 : wr.cell? ⟨gb422, 6, none⟩ = some (.slice A0_6 l0_6.length c0_6) := (blk_cell BK422.out 6).trans rfl
          have hcz11_7 : wr.cell? ⟨gb422, 7, none⟩ = some (.int .i64 a0_7) := (blk_cell BK422.out 7).trans rfl
          have hcz11_8 : wr.cell? ⟨gb422, 8, none⟩ = some (.int .i64 a0_8) := (blk_cell BK422.out 8).trans rfl
          have hcz11_9 : wr.cell? ⟨gb422, 9, none⟩ = some (.int .i64 a0_9) := (blk_cell BK422.out 9).trans rfl
          have hfz11_0 := blk_frozen BK422.out 0
          have hfz11_1 := blk_frozen BK422.out 1
          have hfz11_2 := blk_frozen BK422.out 2
          have hfz11_3 := blk_frozen BK422.out 3
          have hfz11_4 := blk_frozen BK422.out 4
          have hfz11_5 := blk_frozen BK422.out 5
          have hfz11_6 := blk_frozen BK422.out 6
          have hfz11_7 := blk_frozen BK422.out 7
          have hfz11_8 := blk_frozen BK422.out 8
          have hfz11_9 := blk_frozen BK422.out 9
          go_wp2
          go_ret
          exact ⟨by first | rfl | (simp [errW_none, errW_some] <;> rfl) | (simp [*, errW_none, errW_some] <;> rfl), by repeat (first | (with_reducible first | exact HB.out | apply below_alloc | apply pw_below_drewN | apply below_drew1 | refine below_set ?_ GE422.out) | exact HB.out)⟩
end

section
/-! ### lookoutref05_letter: function 50 -/
def lookoutref05_letter.f (a0 : Int) : Option (Bool) := if a0 ≥ 97 then (if a0 ≤ 122 then (some true) else (if a0 ≥ 65 then (if a0 ≤ 90 then (some true) else (if a0 ≥ 48 then (if a0 ≤ 57 then (some true) else (some (a0 == 95))) else (some (a0 == 95)))) else (if a0 ≥ 48 then (if a0 ≤ 57 then (some true) else (some (a0 == 95))) else (some (a0 == 95))))) else (if a0 ≥ 65 then (if a0 ≤ 90 then (some true) else (if a0 ≥ 48 then (if a0 ≤ 57 then (some true) else (some (a0 == 95))) else (some (a0 == 95)))) else (if a0 ≥ 48 then (if a0 ≤ 57 then (some true) else (some (a0 == 95))) else (some (a0 == 95))))
set_option maxHeartbeats 8000000 in
set_option maxRecDepth 100000 in
theorem lookoutref05_letter.calls (a0 : Int) (r : Bool) (w : World) (h : lookoutref05_letter.f a0 = some r) :
    Calls Try.prog 50 #[.int .u8 a0] w fun e w' => e = .returned (.bool r) ∧ Drawn0 w w' := by
  have H : (if a0 ≥ 97 then (if a0 ≤ 122 then (some true) else (if a0 ≥ 65 then (if a0 ≤ 90 then (some true) else (if a0 ≥ 48 then (if a0 ≤ 57 then (some true) else (some (a0 == 95))) else (some (a0 == 95)))) else (if a0 ≥ 48 then (if a0 ≤ 57 then (some true) else (some (a0 == 95))) else (some (a0 == 95))))) else (if a0 ≥ 65 then (if a0 ≤ 90 then (some true) else (if a0 ≥ 48 then (if a0 ≤ 57 then (some true) else (some (a0 == 95))) else (some (a0 == 95)))) else (if a0 ≥ 48 then (if a0 ≤ 57 then (some true) else (some (a0 == 95))) else (some (a0 == 95))))) = some r := h
  clear h
  by_cases c2 : a0 ≥ 97
  · rw [if_pos c2] at H
    have c2b0 : decide (97 ≤ a0) = true := decide_eq_true c2
    clear c2
    by_cases c3 : a0 ≤ 122
    · rw [if_pos c3] at H
      have c3b0 : decide (a0 ≤ 122) = true := decide_eq_true c3
      clear c3
      obtain rfl := Option.some.inj H
      go_enter Try.func50, Try.ntmps50
      go_wp2
      go_ret
      exact ⟨by first | rfl | (simp; done) | (simp [*]; done), by repeat (first | exact Drawn0.refl _ | apply Drawn0.step)⟩
    · rw [if_neg c3] at H
      have c3b0 : decide (a0 ≤ 122) = false := decide_eq_false c3
      clear c3
      by_cases c4 : a0 ≥ 65
      · rw [if_pos c4] at H
        have c4b0 : decide (65 ≤ a0) = true := decide_eq_true c4
        clear c4
        by_cases c5 : a0 ≤ 90
        · rw [if_pos c5] at H
          have c5b0 : decide (a0 ≤ 90) = true := decide_eq_true c5
          clear c5
          obtain rfl := Option.some.inj H
          go_enter Try.func50, Try.ntmps50
          go_wp2
          go_ret
          exact ⟨by first | rfl | (simp; done) | (simp [*]; done), by repeat (first | exact Drawn0.refl _ | apply Drawn0.step)⟩
        · rw [if_neg c5] at H
          have c5b0 : decide (a0 ≤ 90) = false := decide_eq_false c5
          clear c5
          by_cases c6 : a0 ≥ 48
          · rw [if_pos c6] at H
            have c6b0 : decide (48 ≤ a0) = true := decide_eq_true c6
            clear c6
            by_cases c7 : a0 ≤ 57
            · rw [if_pos c7] at H
              have c7b0 : decide (a0 ≤ 57) = true := decide_eq_true c7
              clear c7
              obtain rfl := Option.some.inj H
              go_enter Try.func50, Try.ntmps50
              go_wp2
              go_ret
              exact ⟨by first | rfl | (simp; done) | (simp [*]; done), by repeat (first | exact Drawn0.refl _ | apply Drawn0.step)⟩
            · rw [if_neg c7] at H
              have c7b0 : decide (a0 ≤ 57) = false := decide_eq_false c7
              clear c7
              obtain rfl := Option.some.inj H
              go_enter Try.func50, Try.ntmps50
              go_wp2
              go_ret
              exact ⟨by first | rfl | (simp; done) | (simp [*]; done), by repeat (first | exact Drawn0.refl _ | apply Drawn0.step)⟩
          · rw [if_neg c6] at H
            have c6b0 : decide (48 ≤ a0) = false := decide_eq_false c6
            clear c6
            obtain rfl := Option.some.inj H
            go_enter Try.func50, Try.ntmps50
            go_wp2
            go_ret
            exact ⟨by first | rfl | (simp; done) | (simp [*]; done), by repeat (first | exact Drawn0.refl _ | apply Drawn0.step)⟩
      · rw [if_neg c4] at H
        have c4b0 : decide (65 ≤ a0) = false := decide_eq_false c4
        clear c4
        by_cases c8 : a0 ≥ 48
        · rw [if_pos c8] at H
          have c8b0 : decide (48 ≤ a0) = true := decide_eq_true c8
          clear c8
          by_cases c9 : a0 ≤ 57
          · rw [if_pos c9] at H
            have c9b0 : decide (a0 ≤ 57) = true := decide_eq_true c9
            clear c9
            obtain rfl := Option.some.inj H
            go_enter Try.func50, Try.ntmps50
            go_wp2
            go_ret
            exact ⟨by first | rfl | (simp; done) | (simp [*]; done), by repeat (first | exact Drawn0.refl _ | apply Drawn0.step)⟩
          · rw [if_neg c9] at H
            have c9b0 : decide (a0 ≤ 57) = false := decide_eq_false c9
            clear c9
            obtain rfl := Option.some.inj H
            go_enter Try.func50, Try.ntmps50
            go_wp2
            go_ret
            exact ⟨by first | rfl | (simp; done) | (simp [*]; done), by repeat (first | exact Drawn0.refl _ | apply Drawn0.step)⟩
        · rw [if_neg c8] at H
          have c8b0 : decide (48 ≤ a0) = false := decide_eq_false c8
          clear c8
          obtain rfl := Option.some.inj H
          go_enter Try.func50, Try.ntmps50
          go_wp2
          go_ret
          exact ⟨by first | rfl | (simp; done) | (simp [*]; done), by repeat (first | exact Drawn0.refl _ | apply Drawn0.step)⟩
  · rw [if_neg c2] at H
    have c2b0 : decide (97 ≤ a0) = false := decide_eq_false c2
    clear c2
    by_cases c10 : a0 ≥ 65
    · rw [if_pos c10] at H
      have c10b0 : decide (65 ≤ a0) = true := decide_eq_true c10
      clear c10
      by_cases c11 : a0 ≤ 90
      · rw [if_pos c11] at H
        have c11b0 : decide (a0 ≤ 90) = true := decide_eq_true c11
        clear c11
        obtain rfl := Option.some.inj H
        go_enter Try.func50, Try.ntmps50
        go_wp2
        go_ret
        exact ⟨by first | rfl | (simp; done) | (simp [*]; done), by repeat (first | exact Drawn0.refl _ | apply Drawn0.step)⟩
      · rw [if_neg c11] at H
        have c11b0 : decide (a0 ≤ 90) = false := decide_eq_false c11
        clear c11
        by_cases c12 : a0 ≥ 48
        · rw [if_pos c12] at H
          have c12b0 : decide (48 ≤ a0) = true := decide_eq_true c12
          clear c12
          by_cases c13 : a0 ≤ 57
          · rw [if_pos c13] at H
            have c13b0 : decide (a0 ≤ 57) = true := decide_eq_true c13
            clear c13
            obtain rfl := Option.some.inj H
            go_enter Try.func50, Try.ntmps50
            go_wp2
            go_ret
            exact ⟨by first | rfl | (simp; done) | (simp [*]; done), by repeat (first | exact Drawn0.refl _ | apply Drawn0.step)⟩
          · rw [if_neg c13] at H
            have c13b0 : decide (a0 ≤ 57) = false := decide_eq_false c13
            clear c13
            obtain rfl := Option.some.inj H
            go_enter Try.func50, Try.ntmps50
            go_wp2
            go_ret
            exact ⟨by first | rfl | (simp; done) | (simp [*]; done), by repeat (first | exact Drawn0.refl _ | apply Drawn0.step)⟩
        · rw [if_neg c12] at H
          have c12b0 : decide (48 ≤ a0) = false := decide_eq_false c12
          clear c12
          obtain rfl := Option.some.inj H
          go_enter Try.func50, Try.ntmps50
          go_wp2
          go_ret
          exact ⟨by first | rfl | (simp; done) | (simp [*]; done), by repeat (first | exact Drawn0.refl _ | apply Drawn0.step)⟩
    · rw [if_neg c10] at H
      have c10b0 : decide (65 ≤ a0) = false := decide_eq_false c10
      clear c10
      by_cases c14 : a0 ≥ 48
      · rw [if_pos c14] at H
        have c14b0 : decide (48 ≤ a0) = true := decide_eq_true c14
        clear c14
        by_cases c15 : a0 ≤ 57
        · rw [if_pos c15] at H
          have c15b0 : decide (a0 ≤ 57) = true := decide_eq_true c15
          clear c15
          obtain rfl := Option.some.inj H
          go_enter Try.func50, Try.ntmps50
          go_wp2
          go_ret
          exact ⟨by first | rfl | (simp; done) | (simp [*]; done), by repeat (first | exact Drawn0.refl _ | apply Drawn0.step)⟩
        · rw [if_neg c15] at H
          have c15b0 : decide (a0 ≤ 57) = false := decide_eq_false c15
          clear c15
          obtain rfl := Option.some.inj H
          go_enter Try.func50, Try.ntmps50
          go_wp2
          go_ret
          exact ⟨by first | rfl | (simp; done) | (simp [*]; done), by repeat (first | exact Drawn0.refl _ | apply Drawn0.step)⟩
      · rw [if_neg c14] at H
        have c14b0 : decide (48 ≤ a0) = false := decide_eq_false c14
        clear c14
        obtain rfl := Option.some.inj H
        go_enter Try.func50, Try.ntmps50
        go_wp2
        go_ret
        exact ⟨by first | rfl | (simp; done) | (simp [*]; done), by repeat (first | exact Drawn0.refl _ | apply Drawn0.step)⟩
end

section
/-! ### lookoutref05_Name: function 32 -/
def lookoutref05_Name.l0 : Nat → ByteArray → Int → Option (Bool)
  | 0, _, _ => none
  | k + 1, x0, x3 => if x3 < (x0.size : Int) then (if 0 ≤ x3 then ((lookoutref05_letter.f (bt x0 x3)).bind fun t425 => (if t425 = true then (lookoutref05_Name.l0 k x0 (wrap64 (x3 + 1))) else (some false))) else (none)) else (if (x0.size : Int) > 0 then (if (x0.size : Int) ≤ 60 then (if 0 < (x0.size : Int) then (if (bt x0 0) < 48 then (some true) else (some (decide ((bt x0 0) > 57)))) else (none)) else (some false)) else (some false))
def lookoutref05_Name.f (k : Nat) (a0 : ByteArray) : Option (Bool) := lookoutref05_Name.l0 k a0 0
theorem lookoutref05_Name.mono_l : ∀ k, (∀ y0 y1, LeO (lookoutref05_Name.l0 k y0 y1) (lookoutref05_Name.l0 (k + 1) y0 y1))
  | 0 => fun _ _ r h => by simp [lookoutref05_Name.l0] at h
  | k + 1 => by
    have ih0 := lookoutref05_Name.mono_l k
    · intro y0 y1
      unfold lookoutref05_Name.l0
      repeat' first
      | (with_reducible exact ih0 _ _)
      | (with_reducible exact LeO.refl _)
      | (with_reducible exact LeO.none _)
      | (with_reducible refine LeO.ite ?_ ?_)
      | (with_reducible refine LeO.bind ?_ (fun _ => ?_))
      | exact ih0 _ _
      | exact LeO.none _
      | refine LeO.ite ?_ ?_
      | refine LeO.bind ?_ (fun _ => ?_)
theorem lookoutref05_Name.mono : ∀ a0 k, LeO (lookoutref05_Name.f k a0) (lookoutref05_Name.f (k + 1) a0) := by
  intro a0 k
  have ih0 := lookoutref05_Name.mono_l k
  unfold lookoutref05_Name.f
  repeat' first
      | (with_reducible exact ih0 _ _)
      | (with_reducible exact LeO.refl _)
      | (with_reducible exact LeO.none _)
      | (with_reducible refine LeO.ite ?_ ?_)
      | (with_reducible refine LeO.bind ?_ (fun _ => ?_))
      | exact ih0 _ _
      | exact LeO.none _
      | refine LeO.ite ?_ ?_
      | refine LeO.bind ?_ (fun _ => ?_)
set_option maxHeartbeats 8000000 in
set_option maxRecDepth 100000 in
theorem lookoutref05_Name.calls (k : Nat) (a0 : ByteArray) (r : Bool) (w : World) (h : lookoutref05_Name.f k a0 = some r) :
    Calls Try.prog 32 #[.string a0] w fun e w' => e = .returned (.bool r) ∧ Drawn0 w w' := by
  have H : (lookoutref05_Name.l0 k a0 0) = some r := h
  clear h
  have H' := Aside0.mk H
  clear H
  go_enter Try.func32, Try.ntmps32
  go_wp2
  go_loopg [3] k (fun kq v3 w' => ∃ (x3_1 : Int), v3 = .int .i64 x3_1 ∧ Aside0 (lookoutref05_Name.l0 kq a0 x3_1 = some r) ∧ Aside0 (kq ≤ k) ∧ Drawn0 w w')
  case atStart => exact ⟨(0), (by first | rfl | (simp; done) | (simp [*]; done)), H', ⟨Nat.le_refl _⟩, by repeat (first | exact Drawn0.refl _ | apply Drawn0.step)⟩
  case round =>
    clear H'
    obtain ⟨x3_1, rfl, HA, HK1, ⟨m1, rfl⟩⟩ := hrel
    cases gk with
    | zero => exact absurd HA.out (by simp [lookoutref05_Name.l0])
    | succ k1 =>
      have H := HA.out
      clear HA
      simp only [lookoutref05_Name.l0] at H
      by_cases c2 : x3_1 < (a0.size : Int)
      · rw [if_pos c2] at H
        have c2b0 : decide (x3_1 < (a0.size : Int)) = true := decide_eq_true c2
        clear c2
        by_cases c3 : 0 ≤ x3_1
        · rw [if_pos c3] at H
          have c3b0 : decide (0 ≤ x3_1) = true := decide_eq_true c3
          clear c3
          replace H := Option.bind_eq_some_iff.mp H
          obtain ⟨t425, A50, H⟩ := H
          replace H : (if t425 = true then (lookoutref05_Name.l0 k1 a0 (wrap64 (x3_1 + 1))) else (some false)) = some r := H
          have A5 := Aside0.mk A50
          clear A50
          by_cases c6 : t425 = true
          · subst c6
            have H1 : (lookoutref05_Name.l0 k1 a0 (wrap64 (x3_1 + 1))) = some r := by rw [if_pos rfl] at H; exact H
            clear H
            have H := H1
            clear H1
            have H' := Aside0.mk H
            clear H
            have p4 : 0 ≤ (x3_1 : Int) := of_decide_eq_true (by first | (with_reducible assumption) | assumption)
            have q4 : x3_1 < (a0.size : Int) := of_decide_eq_true (by first | (with_reducible assumption) | assumption)
            have hx4 := bt_at a0 x3_1
            replace p4 := eq_true p4
            replace q4 := eq_true q4
            go_wp2_with (first | ((with_reducible refine gate_callee (f := 50) rfl ?_); refine goesL_ (some 13) rfl rfl Try.func50 (by kernel_rfl) rfl #[.int .u8 (bt a0 x3_1)] rfl (by (try simp only [List.map_toArray, List.map_cons, List.map_nil]); first | done | rfl | (simp only [List.length_drop, List.length_take]; rfl)) ?_; (with_reducible refine (lookoutref05_letter.calls (bt a0 x3_1) true _ A5.out).mono ?_); rintro e w' ⟨rfl, ⟨nd, rfl⟩⟩; refine ⟨_, rfl, ?_⟩))
            go_roundg k1
            case measure => have := HK1.out; omega
            case rel => exact ⟨(wrap64 (x3_1 + 1)), (by first | rfl | (simp; done) | (simp [*]; done)), H', ⟨by have := HK1.out; omega⟩, by repeat (first | exact Drawn0.refl _ | apply Drawn0.step)⟩
          · replace c6 := Bool.eq_false_iff.mpr c6
            subst c6
            have H1 : (some false) = some r := by rw [if_neg (show ¬ (false = true) by decide)] at H; exact H
            clear H
            have H := H1
            clear H1
            obtain rfl := Option.some.inj H
            have p4 : 0 ≤ (x3_1 : Int) := of_decide_eq_true (by first | (with_reducible assumption) | assumption)
            have q4 : x3_1 < (a0.size : Int) := of_decide_eq_true (by first | (with_reducible assumption) | assumption)
            have hx4 := bt_at a0 x3_1
            replace p4 := eq_true p4
            replace q4 := eq_true q4
            go_wp2_with (first | ((with_reducible refine gate_callee (f := 50) rfl ?_); refine goesL_ (some 13) rfl rfl Try.func50 (by kernel_rfl) rfl #[.int .u8 (bt a0 x3_1)] rfl (by (try simp only [List.map_toArray, List.map_cons, List.map_nil]); first | done | rfl | (simp only [List.length_drop, List.length_take]; rfl)) ?_; (with_reducible refine (lookoutref05_letter.calls (bt a0 x3_1) false _ A5.out).mono ?_); rintro e w' ⟨rfl, ⟨nd, rfl⟩⟩; refine ⟨_, rfl, ?_⟩))
            go_ret
            exact ⟨by first | rfl | (simp; done) | (simp [*]; done), by repeat (first | exact Drawn0.refl _ | apply Drawn0.step)⟩
        · rw [if_neg c3] at H
          exact absurd H (by simp)
      · rw [if_neg c2] at H
        have c2b0 : decide (x3_1 < (a0.size : Int)) = false := decide_eq_false c2
        clear c2
        by_cases c7 : (a0.size : Int) > 0
        · rw [if_pos c7] at H
          have c7b0 : decide (0 < (a0.size : Int)) = true := decide_eq_true c7
          have c7b1 : decide (0 < a0.size) = true := decide_eq_true (by omega)
          clear c7
          by_cases c8 : (a0.size : Int) ≤ 60
          · rw [if_pos c8] at H
            have c8b0 : decide ((a0.size : Int) ≤ 60) = true := decide_eq_true c8
            have c8b1 : decide (a0.size ≤ 60) = true := decide_eq_true (by omega)
            clear c8
            by_cases c9 : 0 < (a0.size : Int)
            · rw [if_pos c9] at H
              have c9b0 : decide (0 < (a0.size : Int)) = true := decide_eq_true c9
              have c9b1 : decide (0 < a0.size) = true := decide_eq_true (by omega)
              clear c9
              by_cases c11 : (bt a0 0) < 48
              · rw [if_pos c11] at H
                have c11b0 : decide ((bt a0 0) < 48) = true := decide_eq_true c11
                clear c11
                obtain rfl := Option.some.inj H
                have p10 : 0 ≤ (0 : Int) := (by omega)
                have q10 : 0 < a0.size := (by have : (0 : Int) < (a0.size : Int) := of_decide_eq_true (by first | (with_reducible assumption) | assumption); omega)
                have hx10 : ∀ h : 0 < a0.size, ((a0[0]'h).toNat : Int) = bt a0 0 := bt_at a0 0
                clear p10
                have qi10 : (0 < (a0.size : Int)) = True := eq_true (of_decide_eq_true (by first | (with_reducible assumption) | assumption))
                replace q10 := eq_true q10
                go_wp2
                go_ret
                exact ⟨by first | rfl | (simp; done) | (simp [*]; done), by repeat (first | exact Drawn0.refl _ | apply Drawn0.step)⟩
              · rw [if_neg c11] at H
                have c11b0 : decide ((bt a0 0) < 48) = false := decide_eq_false c11
                clear c11
                obtain rfl := Option.some.inj H
                have p10 : 0 ≤ (0 : Int) := (by omega)
                have q10 : 0 < a0.size := (by have : (0 : Int) < (a0.size : Int) := of_decide_eq_true (by first | (with_reducible assumption) | assumption); omega)
                have hx10 : ∀ h : 0 < a0.size, ((a0[0]'h).toNat : Int) = bt a0 0 := bt_at a0 0
                clear p10
                have qi10 : (0 < (a0.size : Int)) = True := eq_true (of_decide_eq_true (by first | (with_reducible assumption) | assumption))
                replace q10 := eq_true q10
                have p12 : 0 ≤ (0 : Int) := (by omega)
                have q12 : 0 < a0.size := (by have : (0 : Int) < (a0.size : Int) := of_decide_eq_true (by first | (with_reducible assumption) | assumption); omega)
                have hx12 : ∀ h : 0 < a0.size, ((a0[0]'h).toNat : Int) = bt a0 0 := bt_at a0 0
                clear p12
                have qi12 : (0 < (a0.size : Int)) = True := eq_true (of_decide_eq_true (by first | (with_reducible assumption) | assumption))
                replace q12 := eq_true q12
                go_wp2
                go_ret
                exact ⟨by first | rfl | (simp; done) | (simp [*]; done), by repeat (first | exact Drawn0.refl _ | apply Drawn0.step)⟩
            · rw [if_neg c9] at H
              exact absurd H (by simp)
          · rw [if_neg c8] at H
            have c8b0 : decide ((a0.size : Int) ≤ 60) = false := decide_eq_false c8
            have c8b1 : decide (a0.size ≤ 60) = false := decide_eq_false (by omega)
            clear c8
            obtain rfl := Option.some.inj H
            go_wp2
            go_ret
            exact ⟨by first | rfl | (simp; done) | (simp [*]; done), by repeat (first | exact Drawn0.refl _ | apply Drawn0.step)⟩
        · rw [if_neg c7] at H
          have c7b0 : decide (0 < (a0.size : Int)) = false := decide_eq_false c7
          have c7b1 : decide (0 < a0.size) = false := decide_eq_false (by omega)
          clear c7
          obtain rfl := Option.some.inj H
          go_wp2
          go_ret
          exact ⟨by first | rfl | (simp; done) | (simp [*]; done), by repeat (first | exact Drawn0.refl _ | apply Drawn0.step)⟩
end

section
/-! ### lookoutref55_between: function 33 -/
def lookoutref55_between.f (a0 : Int) (a1 : Int) (a2 : Int) : Option (Bool) := if a0 ≥ a1 then (some (decide (a0 ≤ a2))) else (some false)
set_option maxHeartbeats 8000000 in
set_option maxRecDepth 100000 in
theorem lookoutref55_between.calls (a0 : Int) (a1 : Int) (a2 : Int) (r : Bool) (w : World) (h : lookoutref55_between.f a0 a1 a2 = some r) :
    Calls Try.prog 33 #[.int .i64 a0, .int .i64 a1, .int .i64 a2] w fun e w' => e = .returned (.bool r) ∧ Drawn0 w w' := by
  have H : (if a0 ≥ a1 then (some (decide (a0 ≤ a2))) else (some false)) = some r := h
  clear h
  by_cases c4 : a0 ≥ a1
  · rw [if_pos c4] at H
    have c4b0 : decide (a1 ≤ a0) = true := decide_eq_true c4
    clear c4
    obtain rfl := Option.some.inj H
    go_enter Try.func33, Try.ntmps33
    go_wp2
    go_ret
    exact ⟨by first | rfl | (simp; done) | (simp [*]; done), by repeat (first | exact Drawn0.refl _ | apply Drawn0.step)⟩
  · rw [if_neg c4] at H
    have c4b0 : decide (a1 ≤ a0) = false := decide_eq_false c4
    clear c4
    obtain rfl := Option.some.inj H
    go_enter Try.func33, Try.ntmps33
    go_wp2
    go_ret
    exact ⟨by first | rfl | (simp; done) | (simp [*]; done), by repeat (first | exact Drawn0.refl _ | apply Drawn0.step)⟩
end

section
/-! ### lookoutref05_Text: function 51 -/
def lookoutref05_Text.f (a0 : ByteArray) (a1 : ByteArray) : Option (Int) := if (Op.bytesLess a0.toList a1.toList) = true then (some (-1)) else (if (Op.bytesLess a1.toList a0.toList) = true then (some 1) else (some 0))
set_option maxHeartbeats 8000000 in
set_option maxRecDepth 100000 in
theorem lookoutref05_Text.calls (a0 : ByteArray) (a1 : ByteArray) (r : Int) (w : World) (h : lookoutref05_Text.f a0 a1 = some r) :
    Calls Try.prog 51 #[.string a0, .string a1] w fun e w' => e = .returned (.int .i64 r) ∧ Drawn0 w w' := by
  have H : (if (Op.bytesLess a0.toList a1.toList) = true then (some (-1)) else (if (Op.bytesLess a1.toList a0.toList) = true then (some 1) else (some 0))) = some r := h
  clear h
  by_cases c3 : (Op.bytesLess a0.toList a1.toList) = true
  · rw [if_pos c3] at H
    have c3b0 : (Op.bytesLess a0.toList a1.toList) = true := c3
    clear c3
    obtain rfl := Option.some.inj H
    go_enter Try.func51, Try.ntmps51
    go_wp2
    go_ret
    exact ⟨by first | rfl | (simp; done) | (simp [*]; done), by repeat (first | exact Drawn0.refl _ | apply Drawn0.step)⟩
  · rw [if_neg c3] at H
    have c3b0 : (Op.bytesLess a0.toList a1.toList) = false := by simpa using c3
    clear c3
    by_cases c4 : (Op.bytesLess a1.toList a0.toList) = true
    · rw [if_pos c4] at H
      have c4b0 : (Op.bytesLess a1.toList a0.toList) = true := c4
      clear c4
      obtain rfl := Option.some.inj H
      go_enter Try.func51, Try.ntmps51
      go_wp2
      go_ret
      exact ⟨by first | rfl | (simp; done) | (simp [*]; done), by repeat (first | exact Drawn0.refl _ | apply Drawn0.step)⟩
    · rw [if_neg c4] at H
      have c4b0 : (Op.bytesLess a1.toList a0.toList) = false := by simpa using c4
      clear c4
      obtain rfl := Option.some.inj H
      go_enter Try.func51, Try.ntmps51
      go_wp2
      go_ret
      exact ⟨by first | rfl | (simp; done) | (simp [*]; done), by repeat (first | exact Drawn0.refl _ | apply Drawn0.step)⟩
end

section
/-! ### lookoutref05_Compare: function 35 -/
mutual
def lookoutref05_Compare.l0 : Nat → List (S72) → List (S72) → Int → Option (Int)
  | 0, _, _, _ => none
  | k + 1, x0, x1, x5 => if x5 < (x0.length : Int) then (lookoutref05_Compare.j1 k x0 x1 x5 (decide (x5 < (x1.length : Int)))) else (lookoutref05_Compare.j1 k x0 x1 x5 false)
def lookoutref05_Compare.j1 : Nat → List (S72) → List (S72) → Int → Bool → Option (Int)
  | 0, _, _, _, _ => none
  | k + 1, x0, x1, x5, x17 => if x17 = true then (if 0 ≤ x5 then (if x5 < (x0.length : Int) then (if x5 < (x1.length : Int) then ((lookoutref05_Text.f ((rd_T72 x0 x5).f0) ((rd_T72 x1 x5).f0)).bind fun t438 => (if t438 = 0 then ((lookoutref05_Text.f ((rd_T72 x0 x5).f1) ((rd_T72 x1 x5).f1)).bind fun t441 => (if t441 = 0 then (lookoutref05_Compare.l0 k x0 x1 (wrap64 (x5 + 1))) else (some t441))) else (some t438))) else (none)) else (none)) else (none)) else (if (x0.length : Int) < (x1.length : Int) then (some (-1)) else (if (x0.length : Int) > (x1.length : Int) then (some 1) else (some 0)))
end
def lookoutref05_Compare.f (k : Nat) (l0 : List (S72)) (l1 : List (S72)) : Option (Int) := lookoutref05_Compare.l0 k l0 l1 0
theorem lookoutref05_Compare.mono_l : ∀ k, (∀ y0 y1 y2, LeO (lookoutref05_Compare.l0 k y0 y1 y2) (lookoutref05_Compare.l0 (k + 1) y0 y1 y2)) ∧ (∀ y0 y1 y2 y3, LeO (lookoutref05_Compare.j1 k y0 y1 y2 y3) (lookoutref05_Compare.j1 (k + 1) y0 y1 y2 y3))
  | 0 => ⟨fun _ _ _ r h => by simp [lookoutref05_Compare.l0] at h, fun _ _ _ _ r h => by simp [lookoutref05_Compare.j1] at h⟩
  | k + 1 => by
    obtain ⟨ih0, ih1⟩ := lookoutref05_Compare.mono_l k
    refine ⟨?_, ?_⟩
    · intro y0 y1 y2
      unfold lookoutref05_Compare.l0
      repeat' first
      | (with_reducible exact ih0 _ _ _)
      | (with_reducible exact ih1 _ _ _ _)
      | (with_reducible exact LeO.refl _)
      | (with_reducible exact LeO.none _)
      | (with_reducible refine LeO.ite ?_ ?_)
      | (with_reducible refine LeO.bind ?_ (fun _ => ?_))
      | exact ih0 _ _ _
      | exact ih1 _ _ _ _
      | exact LeO.none _
      | refine LeO.ite ?_ ?_
      | refine LeO.bind ?_ (fun _ => ?_)
    · intro y0 y1 y2 y3
      unfold lookoutref05_Compare.j1
      repeat' first
      | (with_reducible exact ih0 _ _ _)
      | (with_reducible exact ih1 _ _ _ _)
      | (with_reducible exact LeO.refl _)
      | (with_reducible exact LeO.none _)
      | (with_reducible refine LeO.ite ?_ ?_)
      | (with_reducible refine LeO.bind ?_ (fun _ => ?_))
      | exact ih0 _ _ _
      | exact ih1 _ _ _ _
      | exact LeO.none _
      | refine LeO.ite ?_ ?_
      | refine LeO.bind ?_ (fun _ => ?_)
theorem lookoutref05_Compare.mono : ∀ a0 a1 k, LeO (lookoutref05_Compare.f k a0 a1) (lookoutref05_Compare.f (k + 1) a0 a1) := by
  intro a0 a1 k
  obtain ⟨ih0, ih1⟩ := lookoutref05_Compare.mono_l k
  unfold lookoutref05_Compare.f
  repeat' first
      | (with_reducible exact ih0 _ _ _)
      | (with_reducible exact ih1 _ _ _ _)
      | (with_reducible exact LeO.refl _)
      | (with_reducible exact LeO.none _)
      | (with_reducible refine LeO.ite ?_ ?_)
      | (with_reducible refine LeO.bind ?_ (fun _ => ?_))
      | exact ih0 _ _ _
      | exact ih1 _ _ _ _
      | exact LeO.none _
      | refine LeO.ite ?_ ?_
      | refine LeO.bind ?_ (fun _ => ?_)
set_option maxHeartbeats 8000000 in
set_option maxRecDepth 100000 in
theorem lookoutref05_Compare.calls (k : Nat) (A0 : Option Addr) (c0 : Nat) (l0 : List (S72)) (A1 : Option Addr) (c1 : Nat) (l1 : List (S72)) (r : Int) (w : World) (hr0 : Kd.C k72 w A0 l0.length l0) (hc0 : l0.length ≤ c0) (hr1 : Kd.C k72 w A1 l1.length l1) (hc1 : l1.length ≤ c1) (h : lookoutref05_Compare.f k l0 l1 = some r) :
    Calls Try.prog 35 #[.slice A0 l0.length c0, .slice A1 l1.length c1] w fun e w' => e = .returned (.int .i64 r) ∧ Drawn0 w w' := by
  have HR0 := Aside0.mk hr0
  have HC0 := Aside0.mk hc0
  clear hr0 hc0
  have HR1 := Aside0.mk hr1
  have HC1 := Aside0.mk hc1
  clear hr1 hc1
  have H : (lookoutref05_Compare.l0 k l0 l1 0) = some r := h
  clear h
  have H' := Aside0.mk H
  clear H
  go_enter Try.func35, Try.ntmps35
  go_wp2
  repeat (go_quiet (fail); try go_wp2)
  go_loopg [5] k (fun kq v5 w' => ∃ (x5_1 : Int), v5 = .int .i64 x5_1 ∧ Aside0 (lookoutref05_Compare.l0 kq l0 l1 x5_1 = some r) ∧ Aside0 (kq ≤ k) ∧ Drawn0 w w')
  case atStart => exact ⟨(0), (by first | rfl | (simp; done) | (simp [*]; done)), H', ⟨Nat.le_refl _⟩, by repeat (first | exact Drawn0.refl _ | apply Drawn0.step)⟩
  case round =>
    clear H'
    try clear c1
    try clear p2
    obtain ⟨x5_1, rfl, HA, HK1, ⟨m1, rfl⟩⟩ := hrel
    cases gk with
    | zero => exact absurd HA.out (by simp [lookoutref05_Compare.l0])
    | succ k1 =>
      have H := HA.out
      clear HA
      simp only [lookoutref05_Compare.l0] at H
      have HC3 := Aside0.mk H
      clear H
      go_upto_region 2 with (fail)
      repeat (go_quiet (fail); go_upto_region 2 with (fail))
      go_cut [17] (fun v17 wc => ∃ (kq : Nat) (x17_2 : Bool), v17 = .bool x17_2 ∧ Aside0 (lookoutref05_Compare.j1 kq l0 l1 x5_1 x17_2 = some r) ∧ Aside0 (kq ≤ k1) ∧ Drawn0 w wc)
      case first =>
        have H := HC3.out
        clear HC3
        by_cases c4 : x5_1 < (l0.length : Int)
        · rw [if_pos c4] at H
          have c4b0 : decide (x5_1 < (l0.length : Int)) = true := decide_eq_true c4
          clear c4
          (first | rw [c4b0] | (simp only [i64_w, i32_w]; rw [c4b0]) | skip)
          have H' := Aside0.mk H
          clear H
          go_wp2
          repeat (go_quiet (fail); try go_wp2)
          go_meet
          case rel => exact ⟨_, (decide (x5_1 < (l1.length : Int))), (by first | rfl | (simp; done) | (simp [*]; done)), H', ⟨by have := HK1.out; first | omega | exact Nat.le_refl _⟩, by repeat (first | exact Drawn0.refl _ | apply Drawn0.step)⟩
        · rw [if_neg c4] at H
          have c4b0 : decide (x5_1 < (l0.length : Int)) = false := decide_eq_false c4
          clear c4
          (first | rw [c4b0] | (simp only [i64_w, i32_w]; rw [c4b0]) | skip)
          have H' := Aside0.mk H
          clear H
          go_wp2
          repeat (go_quiet (fail); try go_wp2)
          go_meet
          case rel => exact ⟨_, (false), (by first | rfl | (simp; done) | (simp [*]; done)), H', ⟨by have := HK1.out; first | omega | exact Nat.le_refl _⟩, by repeat (first | exact Drawn0.refl _ | apply Drawn0.step)⟩
      case rest =>
        clear HC3
        try clear c1
        try clear p2
        try clear c3
        try clear c4
        try clear c4b0
        try clear p2
        obtain ⟨kq, x17_2, rfl, HA, HJ2, ⟨mc2, rfl⟩⟩ := hcut
        cases kq with
        | zero => exact absurd HA.out (by simp [lookoutref05_Compare.j1])
        | succ kj2 =>
          have H := HA.out
          clear HA
          simp only [lookoutref05_Compare.j1] at H
          by_cases c5 : x17_2 = true
          · subst c5
            have H1 : (if 0 ≤ x5_1 then (if x5_1 < (l0.length : Int) then (if x5_1 < (l1.length : Int) then ((lookoutref05_Text.f ((rd_T72 l0 x5_1).f0) ((rd_T72 l1 x5_1).f0)).bind fun t438 => (if t438 = 0 then ((lookoutref05_Text.f ((rd_T72 l0 x5_1).f1) ((rd_T72 l1 x5_1).f1)).bind fun t441 => (if t441 = 0 then (lookoutref05_Compare.l0 kj2 l0 l1 (wrap64 (x5_1 + 1))) else (some t441))) else (some t438))) else (none)) else (none)) else (none)) = some r := by rw [if_pos rfl] at H; exact H
            clear H
            have H := H1
            clear H1
            by_cases c6 : 0 ≤ x5_1
            · rw [if_pos c6] at H
              have c6b0 : decide (0 ≤ x5_1) = true := decide_eq_true c6
              clear c6
              by_cases c7 : x5_1 < (l0.length : Int)
              · rw [if_pos c7] at H
                have c7b0 : decide (x5_1 < (l0.length : Int)) = true := decide_eq_true c7
                clear c7
                by_cases c8 : x5_1 < (l1.length : Int)
                · rw [if_pos c8] at H
                  have c8b0 : decide (x5_1 < (l1.length : Int)) = true := decide_eq_true c8
                  clear c8
                  replace H := Option.bind_eq_some_iff.mp H
                  obtain ⟨t438, A90, H⟩ := H
                  replace H : (if t438 = 0 then ((lookoutref05_Text.f ((rd_T72 l0 x5_1).f1) ((rd_T72 l1 x5_1).f1)).bind fun t441 => (if t441 = 0 then (lookoutref05_Compare.l0 kj2 l0 l1 (wrap64 (x5_1 + 1))) else (some t441))) else (some t438)) = some r := H
                  have A9 := Aside0.mk A90
                  clear A90
                  by_cases c10 : t438 = 0
                  · rw [if_pos c10] at H
                    have c10b0 : (t438 == 0) = true := beq_iff_eq.mpr c10
                    have c10b1 : (t438 != 0) = false := bne_eq_false_iff_eq.mpr c10
                    clear c10
                    replace H := Option.bind_eq_some_iff.mp H
                    obtain ⟨t441, A110, H⟩ := H
                    replace H : (if t441 = 0 then (lookoutref05_Compare.l0 kj2 l0 l1 (wrap64 (x5_1 + 1))) else (some t441)) = some r := H
                    have A11 := Aside0.mk A110
                    clear A110
                    by_cases c12 : t441 = 0
                    · rw [if_pos c12] at H
                      have c12b0 : (t441 == 0) = true := beq_iff_eq.mpr c12
                      have c12b1 : (t441 != 0) = false := bne_eq_false_iff_eq.mpr c12
                      clear c12
                      have H' := Aside0.mk H
                      clear H
                      have p436 : 0 ≤ (x5_1 : Int) := of_decide_eq_true (by first | (with_reducible assumption) | assumption)
                      have q436 : x5_1 < (l0.length : Int) := of_decide_eq_true (by first | (with_reducible assumption) | assumption)
                      obtain ⟨ad436, e436, hx436_0, hx436_1⟩ := at_T72 HR0.out x5_1 p436 q436
                      cases e436
                      replace p436 := eq_true p436
                      replace q436 := eq_true q436
                      have p437 : 0 ≤ (x5_1 : Int) := of_decide_eq_true (by first | (with_reducible assumption) | assumption)
                      have q437 : x5_1 < (l1.length : Int) := of_decide_eq_true (by first | (with_reducible assumption) | assumption)
                      obtain ⟨ad437, e437, hx437_0, hx437_1⟩ := at_T72 HR1.out x5_1 p437 q437
                      cases e437
                      replace p437 := eq_true p437
                      replace q437 := eq_true q437
                      go_wp2_with (first | (go_at_call 51; (with_reducible refine (lookoutref05_Text.calls ((rd_T72 l0 x5_1).f0) ((rd_T72 l1 x5_1).f0) t438 _ A9.out).mono ?_); rintro e w' ⟨rfl, ⟨nd, rfl⟩⟩; (try first | exact ⟨rfl, _, World.drewN_drewN _ _ _⟩ | exact ⟨rfl, _, Eq.trans (World.drewN_drewN _ _ _) (congrArg (World.drewN _) (Nat.add_assoc _ _ _))⟩); have p439 : 0 ≤ (x5_1 : Int) := of_decide_eq_true (by first | (with_reducible assumption) | assumption); have q439 : x5_1 < (l0.length : Int) := of_decide_eq_true (by first | (with_reducible assumption) | assumption); obtain ⟨ad439, e439, hx439_0, hx439_1⟩ := at_T72 HR0.out x5_1 p439 q439; obtain rfl : ad436 = ad439 := (by injection e439); replace p439 := eq_true p439; replace q439 := eq_true q439; have p440 : 0 ≤ (x5_1 : Int) := of_decide_eq_true (by first | (with_reducible assumption) | assumption); have q440 : x5_1 < (l1.length : Int) := of_decide_eq_true (by first | (with_reducible assumption) | assumption); obtain ⟨ad440, e440, hx440_0, hx440_1⟩ := at_T72 HR1.out x5_1 p440 q440; obtain rfl : ad437 = ad440 := (by injection e440); replace p440 := eq_true p440; replace q440 := eq_true q440) | (go_at_call 51; (with_reducible refine (lookoutref05_Text.calls ((rd_T72 l0 x5_1).f1) ((rd_T72 l1 x5_1).f1) t441 _ A11.out).mono ?_); rintro e w' ⟨rfl, ⟨nd, rfl⟩⟩; (try first | exact ⟨rfl, _, World.drewN_drewN _ _ _⟩ | exact ⟨rfl, _, Eq.trans (World.drewN_drewN _ _ _) (congrArg (World.drewN _) (Nat.add_assoc _ _ _))⟩)))
                      repeat (go_quiet (first | (go_at_call 51; (with_reducible refine (lookoutref05_Text.calls ((rd_T72 l0 x5_1).f0) ((rd_T72 l1 x5_1).f0) t438 _ A9.out).mono ?_); rintro e w' ⟨rfl, ⟨nd, rfl⟩⟩; (try first | exact ⟨rfl, _, World.drewN_drewN _ _ _⟩ | exact ⟨rfl, _, Eq.trans (World.drewN_drewN _ _ _) (congrArg (World.drewN _) (Nat.add_assoc _ _ _))⟩); have p439 : 0 ≤ (x5_1 : Int) := of_decide_eq_true (by first | (with_reducible assumption) | assumption); have q439 : x5_1 < (l0.length : Int) := of_decide_eq_true (by first | (with_reducible assumption) | assumption); obtain ⟨ad439, e439, hx439_0, hx439_1⟩ := at_T72 HR0.out x5_1 p439 q439; obtain rfl : ad436 = ad439 := (by injection e439); replace p439 := eq_true p439; replace q439 := eq_true q439; have p440 : 0 ≤ (x5_1 : Int) := of_decide_eq_true (by first | (with_reducible assumption) | assumption); have q440 : x5_1 < (l1.length : Int) := of_decide_eq_true (by first | (with_reducible assumption) | assumption); obtain ⟨ad440, e440, hx440_0, hx440_1⟩ := at_T72 HR1.out x5_1 p440 q440; obtain rfl : ad437 = ad440 := (by injection e440); replace p440 := eq_true p440; replace q440 := eq_true q440) | (go_at_call 51; (with_reducible refine (lookoutref05_Text.calls ((rd_T72 l0 x5_1).f1) ((rd_T72 l1 x5_1).f1) t441 _ A11.out).mono ?_); rintro e w' ⟨rfl, ⟨nd, rfl⟩⟩; (try first | exact ⟨rfl, _, World.drewN_drewN _ _ _⟩ | exact ⟨rfl, _, Eq.trans (World.drewN_drewN _ _ _) (congrArg (World.drewN _) (Nat.add_assoc _ _ _))⟩))); try go_wp2_with (first | (go_at_call 51; (with_reducible refine (lookoutref05_Text.calls ((rd_T72 l0 x5_1).f0) ((rd_T72 l1 x5_1).f0) t438 _ A9.out).mono ?_); rintro e w' ⟨rfl, ⟨nd, rfl⟩⟩; (try first | exact ⟨rfl, _, World.drewN_drewN _ _ _⟩ | exact ⟨rfl, _, Eq.trans (World.drewN_drewN _ _ _) (congrArg (World.drewN _) (Nat.add_assoc _ _ _))⟩); have p439 : 0 ≤ (x5_1 : Int) := of_decide_eq_true (by first | (with_reducible assumption) | assumption); have q439 : x5_1 < (l0.length : Int) := of_decide_eq_true (by first | (with_reducible assumption) | assumption); obtain ⟨ad439, e439, hx439_0, hx439_1⟩ := at_T72 HR0.out x5_1 p439 q439; obtain rfl : ad436 = ad439 := (by injection e439); replace p439 := eq_true p439; replace q439 := eq_true q439; have p440 : 0 ≤ (x5_1 : Int) := of_decide_eq_true (by first | (with_reducible assumption) | assumption); have q440 : x5_1 < (l1.length : Int) := of_decide_eq_true (by first | (with_reducible assumption) | assumption); obtain ⟨ad440, e440, hx440_0, hx440_1⟩ := at_T72 HR1.out x5_1 p440 q440; obtain rfl : ad437 = ad440 := (by injection e440); replace p440 := eq_true p440; replace q440 := eq_true q440) | (go_at_call 51; (with_reducible refine (lookoutref05_Text.calls ((rd_T72 l0 x5_1).f1) ((rd_T72 l1 x5_1).f1) t441 _ A11.out).mono ?_); rintro e w' ⟨rfl, ⟨nd, rfl⟩⟩; (try first | exact ⟨rfl, _, World.drewN_drewN _ _ _⟩ | exact ⟨rfl, _, Eq.trans (World.drewN_drewN _ _ _) (congrArg (World.drewN _) (Nat.add_assoc _ _ _))⟩))))
                      go_roundg kj2
                      case measure => have := HK1.out; have := HJ2.out; omega
                      case rel => exact ⟨(wrap64 (x5_1 + 1)), (by first | rfl | (simp; done) | (simp [*]; done)), H', ⟨by have := HK1.out; have := HJ2.out; omega⟩, by repeat (first | exact Drawn0.refl _ | apply Drawn0.step)⟩
                    · rw [if_neg c12] at H
                      have c12b0 : (t441 == 0) = false := beq_eq_false_iff_ne.mpr c12
                      have c12b1 : (t441 != 0) = true := bne_iff_ne.mpr c12
                      obtain rfl := Option.some.inj H
                      have p436 : 0 ≤ (x5_1 : Int) := of_decide_eq_true (by first | (with_reducible assumption) | assumption)
                      have q436 : x5_1 < (l0.length : Int) := of_decide_eq_true (by first | (with_reducible assumption) | assumption)
                      obtain ⟨ad436, e436, hx436_0, hx436_1⟩ := at_T72 HR0.out x5_1 p436 q436
                      cases e436
                      replace p436 := eq_true p436
                      replace q436 := eq_true q436
                      have p437 : 0 ≤ (x5_1 : Int) := of_decide_eq_true (by first | (with_reducible assumption) | assumption)
                      have q437 : x5_1 < (l1.length : Int) := of_decide_eq_true (by first | (with_reducible assumption) | assumption)
                      obtain ⟨ad437, e437, hx437_0, hx437_1⟩ := at_T72 HR1.out x5_1 p437 q437
                      cases e437
                      replace p437 := eq_true p437
                      replace q437 := eq_true q437
                      go_wp2_with (first | (go_at_call 51; (with_reducible refine (lookoutref05_Text.calls ((rd_T72 l0 x5_1).f0) ((rd_T72 l1 x5_1).f0) t438 _ A9.out).mono ?_); rintro e w' ⟨rfl, ⟨nd, rfl⟩⟩; (try first | exact ⟨rfl, _, World.drewN_drewN _ _ _⟩ | exact ⟨rfl, _, Eq.trans (World.drewN_drewN _ _ _) (congrArg (World.drewN _) (Nat.add_assoc _ _ _))⟩); have p439 : 0 ≤ (x5_1 : Int) := of_decide_eq_true (by first | (with_reducible assumption) | assumption); have q439 : x5_1 < (l0.length : Int) := of_decide_eq_true (by first | (with_reducible assumption) | assumption); obtain ⟨ad439, e439, hx439_0, hx439_1⟩ := at_T72 HR0.out x5_1 p439 q439; obtain rfl : ad436 = ad439 := (by injection e439); replace p439 := eq_true p439; replace q439 := eq_true q439; have p440 : 0 ≤ (x5_1 : Int) := of_decide_eq_true (by first | (with_reducible assumption) | assumption); have q440 : x5_1 < (l1.length : Int) := of_decide_eq_true (by first | (with_reducible assumption) | assumption); obtain ⟨ad440, e440, hx440_0, hx440_1⟩ := at_T72 HR1.out x5_1 p440 q440; obtain rfl : ad437 = ad440 := (by injection e440); replace p440 := eq_true p440; replace q440 := eq_true q440) | (go_at_call 51; (with_reducible refine (lookoutref05_Text.calls ((rd_T72 l0 x5_1).f1) ((rd_T72 l1 x5_1).f1) t441 _ A11.out).mono ?_); rintro e w' ⟨rfl, ⟨nd, rfl⟩⟩; (try first | exact ⟨rfl, _, World.drewN_drewN _ _ _⟩ | exact ⟨rfl, _, Eq.trans (World.drewN_drewN _ _ _) (congrArg (World.drewN _) (Nat.add_assoc _ _ _))⟩)))
                      repeat (go_quiet (first | (go_at_call 51; (with_reducible refine (lookoutref05_Text.calls ((rd_T72 l0 x5_1).f0) ((rd_T72 l1 x5_1).f0) t438 _ A9.out).mono ?_); rintro e w' ⟨rfl, ⟨nd, rfl⟩⟩; (try first | exact ⟨rfl, _, World.drewN_drewN _ _ _⟩ | exact ⟨rfl, _, Eq.trans (World.drewN_drewN _ _ _) (congrArg (World.drewN _) (Nat.add_assoc _ _ _))⟩); have p439 : 0 ≤ (x5_1 : Int) := of_decide_eq_true (by first | (with_reducible assumption) | assumption); have q439 : x5_1 < (l0.length : Int) := of_decide_eq_true (by first | (with_reducible assumption) | assumption); obtain ⟨ad439, e439, hx439_0, hx439_1⟩ := at_T72 HR0.out x5_1 p439 q439; obtain rfl : ad436 = ad439 := (by injection e439); replace p439 := eq_true p439; replace q439 := eq_true q439; have p440 : 0 ≤ (x5_1 : Int) := of_decide_eq_true (by first | (with_reducible assumption) | assumption); have q440 : x5_1 < (l1.length : Int) := of_decide_eq_true (by first | (with_reducible assumption) | assumption); obtain ⟨ad440, e440, hx440_0, hx440_1⟩ := at_T72 HR1.out x5_1 p440 q440; obtain rfl : ad437 = ad440 := (by injection e440); replace p440 := eq_true p440; replace q440 := eq_true q440) | (go_at_call 51; (with_reducible refine (lookoutref05_Text.calls ((rd_T72 l0 x5_1).f1) ((rd_T72 l1 x5_1).f1) t441 _ A11.out).mono ?_); rintro e w' ⟨rfl, ⟨nd, rfl⟩⟩; (try first | exact ⟨rfl, _, World.drewN_drewN _ _ _⟩ | exact ⟨rfl, _, Eq.trans (World.drewN_drewN _ _ _) (congrArg (World.drewN _) (Nat.add_assoc _ _ _))⟩))); try go_wp2_with (first | (go_at_call 51; (with_reducible refine (lookoutref05_Text.calls ((rd_T72 l0 x5_1).f0) ((rd_T72 l1 x5_1).f0) t438 _ A9.out).mono ?_); rintro e w' ⟨rfl, ⟨nd, rfl⟩⟩; (try first | exact ⟨rfl, _, World.drewN_drewN _ _ _⟩ | exact ⟨rfl, _, Eq.trans (World.drewN_drewN _ _ _) (congrArg (World.drewN _) (Nat.add_assoc _ _ _))⟩); have p439 : 0 ≤ (x5_1 : Int) := of_decide_eq_true (by first | (with_reducible assumption) | assumption); have q439 : x5_1 < (l0.length : Int) := of_decide_eq_true (by first | (with_reducible assumption) | assumption); obtain ⟨ad439, e439, hx439_0, hx439_1⟩ := at_T72 HR0.out x5_1 p439 q439; obtain rfl : ad436 = ad439 := (by injection e439); replace p439 := eq_true p439; replace q439 := eq_true q439; have p440 : 0 ≤ (x5_1 : Int) := of_decide_eq_true (by first | (with_reducible assumption) | assumption); have q440 : x5_1 < (l1.length : Int) := of_decide_eq_true (by first | (with_reducible assumption) | assumption); obtain ⟨ad440, e440, hx440_0, hx440_1⟩ := at_T72 HR1.out x5_1 p440 q440; obtain rfl : ad437 = ad440 := (by injection e440); replace p440 := eq_true p440; replace q440 := eq_true q440) | (go_at_call 51; (with_reducible refine (lookoutref05_Text.calls ((rd_T72 l0 x5_1).f1) ((rd_T72 l1 x5_1).f1) t441 _ A11.out).mono ?_); rintro e w' ⟨rfl, ⟨nd, rfl⟩⟩; (try first | exact ⟨rfl, _, World.drewN_drewN _ _ _⟩ | exact ⟨rfl, _, Eq.trans (World.drewN_drewN _ _ _) (congrArg (World.drewN _) (Nat.add_assoc _ _ _))⟩))))
                      go_ret
                      exact ⟨by first | rfl | (simp; done) | (simp [*]; done), by repeat (first | exact Drawn0.refl _ | apply Drawn0.step)⟩
                  · rw [if_neg c10] at H
                    have c10b0 : (t438 == 0) = false := beq_eq_false_iff_ne.mpr c10
                    have c10b1 : (t438 != 0) = true := bne_iff_ne.mpr c10
                    obtain rfl := Option.some.inj H
                    have p436 : 0 ≤ (x5_1 : Int) := of_decide_eq_true (by first | (with_reducible assumption) | assumption)
                    have q436 : x5_1 < (l0.length : Int) := of_decide_eq_true (by first | (with_reducible assumption) | assumption)
                    obtain ⟨ad436, e436, hx436_0, hx436_1⟩ := at_T72 HR0.out x5_1 p436 q436
                    cases e436
                    replace p436 := eq_true p436
                    replace q436 := eq_true q436
                    have p437 : 0 ≤ (x5_1 : Int) := of_decide_eq_true (by first | (with_reducible assumption) | assumption)
                    have q437 : x5_1 < (l1.length : Int) := of_decide_eq_true (by first | (with_reducible assumption) | assumption)
                    obtain ⟨ad437, e437, hx437_0, hx437_1⟩ := at_T72 HR1.out x5_1 p437 q437
                    cases e437
                    replace p437 := eq_true p437
                    replace q437 := eq_true q437
                    go_wp2_with (first | (go_at_call 51; (with_reducible refine (lookoutref05_Text.calls ((rd_T72 l0 x5_1).f0) ((rd_T72 l1 x5_1).f0) t438 _ A9.out).mono ?_); rintro e w' ⟨rfl, ⟨nd, rfl⟩⟩; (try first | exact ⟨rfl, _, World.drewN_drewN _ _ _⟩ | exact ⟨rfl, _, Eq.trans (World.drewN_drewN _ _ _) (congrArg (World.drewN _) (Nat.add_assoc _ _ _))⟩)))
                    repeat (go_quiet (first | (go_at_call 51; (with_reducible refine (lookoutref05_Text.calls ((rd_T72 l0 x5_1).f0) ((rd_T72 l1 x5_1).f0) t438 _ A9.out).mono ?_); rintro e w' ⟨rfl, ⟨nd, rfl⟩⟩; (try first | exact ⟨rfl, _, World.drewN_drewN _ _ _⟩ | exact ⟨rfl, _, Eq.trans (World.drewN_drewN _ _ _) (congrArg (World.drewN _) (Nat.add_assoc _ _ _))⟩))); try go_wp2_with (first | (go_at_call 51; (with_reducible refine (lookoutref05_Text.calls ((rd_T72 l0 x5_1).f0) ((rd_T72 l1 x5_1).f0) t438 _ A9.out).mono ?_); rintro e w' ⟨rfl, ⟨nd, rfl⟩⟩; (try first | exact ⟨rfl, _, World.drewN_drewN _ _ _⟩ | exact ⟨rfl, _, Eq.trans (World.drewN_drewN _ _ _) (congrArg (World.drewN _) (Nat.add_assoc _ _ _))⟩))))
                    go_ret
                    exact ⟨by first | rfl | (simp; done) | (simp [*]; done), by repeat (first | exact Drawn0.refl _ | apply Drawn0.step)⟩
                · rw [if_neg c8] at H
                  exact absurd H (by simp)
              · rw [if_neg c7] at H
                exact absurd H (by simp)
            · rw [if_neg c6] at H
              exact absurd H (by simp)
          · replace c5 := Bool.eq_false_iff.mpr c5
            subst c5
            have H1 : (if (l0.length : Int) < (l1.length : Int) then (some (-1)) else (if (l0.length : Int) > (l1.length : Int) then (some 1) else (some 0))) = some r := by rw [if_neg (show ¬ (false = true) by decide)] at H; exact H
            clear H
            have H := H1
            clear H1
            by_cases c13 : (l0.length : Int) < (l1.length : Int)
            · rw [if_pos c13] at H
              have c13b0 : decide ((l0.length : Int) < (l1.length : Int)) = true := decide_eq_true c13
              have c13b1 : decide (l0.length < l1.length) = true := decide_eq_true (Int.ofNat_lt.mp c13)
              clear c13
              obtain rfl := Option.some.inj H
              go_wp2
              repeat (go_quiet (fail); try go_wp2)
              go_ret
              exact ⟨by first | rfl | (simp; done) | (simp [*]; done), by repeat (first | exact Drawn0.refl _ | apply Drawn0.step)⟩
            · rw [if_neg c13] at H
              have c13b0 : decide ((l0.length : Int) < (l1.length : Int)) = false := decide_eq_false c13
              have c13b1 : decide (l0.length < l1.length) = false := decide_eq_false (fun h => c13 (Int.ofNat_lt.mpr h))
              clear c13
              by_cases c14 : (l0.length : Int) > (l1.length : Int)
              · rw [if_pos c14] at H
                have c14b0 : decide ((l1.length : Int) < (l0.length : Int)) = true := decide_eq_true c14
                have c14b1 : decide (l1.length < l0.length) = true := decide_eq_true (Int.ofNat_lt.mp c14)
                clear c14
                obtain rfl := Option.some.inj H
                go_wp2
                repeat (go_quiet (fail); try go_wp2)
                go_ret
                exact ⟨by first | rfl | (simp; done) | (simp [*]; done), by repeat (first | exact Drawn0.refl _ | apply Drawn0.step)⟩
              · rw [if_neg c14] at H
                have c14b0 : decide ((l1.length : Int) < (l0.length : Int)) = false := decide_eq_false c14
                have c14b1 : decide (l1.length < l0.length) = false := decide_eq_false (fun h => c14 (Int.ofNat_lt.mpr h))
                clear c14
                obtain rfl := Option.some.inj H
                go_wp2
                repeat (go_quiet (fail); try go_wp2)
                go_ret
                exact ⟨by first | rfl | (simp; done) | (simp [*]; done), by repeat (first | exact Drawn0.refl _ | apply Drawn0.step)⟩
end

section
/-! ### lookoutref05_Check: function 38 -/
def lookoutref05_Check.l0 : Nat → List (S72) → Int → Option (Int)
  | 0, _, _ => none
  | k + 1, x0, x3 => if x3 < (x0.length : Int) then (if 0 ≤ x3 then ((lookoutref05_Name.f k ((rd_T72 x0 x3).f0)).bind fun t443 => (if t443 = true then (if ((rd_T72 x0 x3).f1).toList = ([] : List UInt8) then (some 1) else (if (((rd_T72 x0 x3).f1).size : Int) > 200 then (some 4) else (if x3 > 0 then (if 0 ≤ (wrap64 (x3 - 1)) then (if (wrap64 (x3 - 1)) < (x0.length : Int) then (if ((Op.bytesLess (((rd_T72 x0 (wrap64 (x3 - 1))).f0).toList) (((rd_T72 x0 x3).f0).toList)) = true) then (lookoutref05_Check.l0 k x0 (wrap64 (x3 + 1))) else (some 9)) else (none)) else (none)) else (lookoutref05_Check.l0 k x0 (wrap64 (x3 + 1)))))) else (some 5))) else (none)) else (some 0)
def lookoutref05_Check.f (k : Nat) (l0 : List (S72)) : Option (Int) := if (l0.length : Int) > 16 then (some 4) else (lookoutref05_Check.l0 k l0 0)
theorem lookoutref05_Check.mono_l : ∀ k, (∀ y0 y1, LeO (lookoutref05_Check.l0 k y0 y1) (lookoutref05_Check.l0 (k + 1) y0 y1))
  | 0 => fun _ _ r h => by simp [lookoutref05_Check.l0] at h
  | k + 1 => by
    have ih0 := lookoutref05_Check.mono_l k
    · intro y0 y1
      unfold lookoutref05_Check.l0
      repeat' first
      | (with_reducible exact ih0 _ _)
      | (with_reducible exact lookoutref05_Name.mono _ _)
      | (with_reducible exact LeO.refl _)
      | (with_reducible exact LeO.none _)
      | (with_reducible refine LeO.ite ?_ ?_)
      | (with_reducible refine LeO.bind ?_ (fun _ => ?_))
      | exact ih0 _ _
      | exact lookoutref05_Name.mono _ _
      | exact LeO.none _
      | refine LeO.ite ?_ ?_
      | refine LeO.bind ?_ (fun _ => ?_)
theorem lookoutref05_Check.mono : ∀ a0 k, LeO (lookoutref05_Check.f k a0) (lookoutref05_Check.f (k + 1) a0) := by
  intro a0 k
  have ih0 := lookoutref05_Check.mono_l k
  unfold lookoutref05_Check.f
  repeat' first
      | (with_reducible exact ih0 _ _)
      | (with_reducible exact lookoutref05_Name.mono _ _)
      | (with_reducible exact LeO.refl _)
      | (with_reducible exact LeO.none _)
      | (with_reducible refine LeO.ite ?_ ?_)
      | (with_reducible refine LeO.bind ?_ (fun _ => ?_))
      | exact ih0 _ _
      | exact lookoutref05_Name.mono _ _
      | exact LeO.none _
      | refine LeO.ite ?_ ?_
      | refine LeO.bind ?_ (fun _ => ?_)
set_option maxHeartbeats 8000000 in
set_option maxRecDepth 100000 in
theorem lookoutref05_Check.calls (k : Nat) (A0 : Option Addr) (c0 : Nat) (l0 : List (S72)) (r : Int) (w : World) (hr0 : Kd.C k72 w A0 l0.length l0) (hc0 : l0.length ≤ c0) (h : lookoutref05_Check.f k l0 = some r) :
    Calls Try.prog 38 #[.slice A0 l0.length c0] w fun e w' => e = .returned (.int .i64 r) ∧ Drawn0 w w' := by
  have HR0 := Aside0.mk hr0
  have HC0 := Aside0.mk hc0
  clear hr0 hc0
  have H : (if (l0.length : Int) > 16 then (some 4) else (lookoutref05_Check.l0 k l0 0)) = some r := h
  clear h
  by_cases c2 : (l0.length : Int) > 16
  · rw [if_pos c2] at H
    have c2b0 : decide (16 < (l0.length : Int)) = true := decide_eq_true c2
    have c2b1 : decide (16 < l0.length) = true := decide_eq_true (by omega)
    clear c2
    obtain rfl := Option.some.inj H
    go_enter Try.func38, Try.ntmps38
    go_wp2
    repeat (go_quiet (fail); try go_wp2)
    go_ret
    exact ⟨by first | rfl | (simp; done) | (simp [*]; done), by repeat (first | exact Drawn0.refl _ | apply Drawn0.step)⟩
  · rw [if_neg c2] at H
    have c2b0 : decide (16 < (l0.length : Int)) = false := decide_eq_false c2
    have c2b1 : decide (16 < l0.length) = false := decide_eq_false (by omega)
    clear c2
    have H' := Aside0.mk H
    clear H
    go_enter Try.func38, Try.ntmps38
    go_wp2
    repeat (go_quiet (fail); try go_wp2)
    go_loopg [3] k (fun kq v3 w' => ∃ (x3_1 : Int), v3 = .int .i64 x3_1 ∧ Aside0 (lookoutref05_Check.l0 kq l0 x3_1 = some r) ∧ Aside0 (kq ≤ k) ∧ Drawn0 w w')
    case atStart => exact ⟨(0), (by first | rfl | (simp; done) | (simp [*]; done)), H', ⟨Nat.le_refl _⟩, by repeat (first | exact Drawn0.refl _ | apply Drawn0.step)⟩
    case round =>
      clear H'
      try clear c2
      try clear c2b0
      try clear c2b1
      try clear p2
      obtain ⟨x3_1, rfl, HA, HK1, ⟨m1, rfl⟩⟩ := hrel
      cases gk with
      | zero => exact absurd HA.out (by simp [lookoutref05_Check.l0])
      | succ k1 =>
        have H := HA.out
        clear HA
        simp only [lookoutref05_Check.l0] at H
        by_cases c3 : x3_1 < (l0.length : Int)
        · rw [if_pos c3] at H
          have c3b0 : decide (x3_1 < (l0.length : Int)) = true := decide_eq_true c3
          clear c3
          by_cases c4 : 0 ≤ x3_1
          · rw [if_pos c4] at H
            have c4b0 : decide (0 ≤ x3_1) = true := decide_eq_true c4
            clear c4
            replace H := Option.bind_eq_some_iff.mp H
            obtain ⟨t443, A50, H⟩ := H
            replace H : (if t443 = true then (if ((rd_T72 l0 x3_1).f1).toList = ([] : List UInt8) then (some 1) else (if (((rd_T72 l0 x3_1).f1).size : Int) > 200 then (some 4) else (if x3_1 > 0 then (if 0 ≤ (wrap64 (x3_1 - 1)) then (if (wrap64 (x3_1 - 1)) < (l0.length : Int) then (if ((Op.bytesLess (((rd_T72 l0 (wrap64 (x3_1 - 1))).f0).toList) (((rd_T72 l0 x3_1).f0).toList)) = true) then (lookoutref05_Check.l0 k1 l0 (wrap64 (x3_1 + 1))) else (some 9)) else (none)) else (none)) else (lookoutref05_Check.l0 k1 l0 (wrap64 (x3_1 + 1)))))) else (some 5)) = some r := H
            have A5 := Aside0.mk A50
            clear A50
            by_cases c6 : t443 = true
            · subst c6
              have H1 : (if ((rd_T72 l0 x3_1).f1).toList = ([] : List UInt8) then (some 1) else (if (((rd_T72 l0 x3_1).f1).size : Int) > 200 then (some 4) else (if x3_1 > 0 then (if 0 ≤ (wrap64 (x3_1 - 1)) then (if (wrap64 (x3_1 - 1)) < (l0.length : Int) then (if ((Op.bytesLess (((rd_T72 l0 (wrap64 (x3_1 - 1))).f0).toList) (((rd_T72 l0 x3_1).f0).toList)) = true) then (lookoutref05_Check.l0 k1 l0 (wrap64 (x3_1 + 1))) else (some 9)) else (none)) else (none)) else (lookoutref05_Check.l0 k1 l0 (wrap64 (x3_1 + 1)))))) = some r := by rw [if_pos rfl] at H; exact H
              clear H
              have H := H1
              clear H1
              by_cases c7 : ((rd_T72 l0 x3_1).f1).toList = ([] : List UInt8)
              · rw [if_pos c7] at H
                have c7b0 : (((rd_T72 l0 x3_1).f1).toList == ([] : List UInt8)) = true := beq_iff_eq.mpr c7
                have c7b1 : (((rd_T72 l0 x3_1).f1).toList != ([] : List UInt8)) = false := bne_eq_false_iff_eq.mpr c7
                clear c7
                obtain rfl := Option.some.inj H
                have p442 : 0 ≤ (x3_1 : Int) := of_decide_eq_true (by first | (with_reducible assumption) | assumption)
                have q442 : x3_1 < (l0.length : Int) := of_decide_eq_true (by first | (with_reducible assumption) | assumption)
                obtain ⟨ad442, e442, hx442_0, hx442_1⟩ := at_T72 HR0.out x3_1 p442 q442
                cases e442
                replace p442 := eq_true p442
                replace q442 := eq_true q442
                go_wp2_with (first | (go_at_call 32; (with_reducible refine (lookoutref05_Name.calls k1 ((rd_T72 l0 x3_1).f0) true _ A5.out).mono ?_); rintro e w' ⟨rfl, ⟨nd, rfl⟩⟩; (try first | exact ⟨rfl, _, World.drewN_drewN _ _ _⟩ | exact ⟨rfl, _, Eq.trans (World.drewN_drewN _ _ _) (congrArg (World.drewN _) (Nat.add_assoc _ _ _))⟩); have p444 : 0 ≤ (x3_1 : Int) := of_decide_eq_true (by first | (with_reducible assumption) | assumption); have q444 : x3_1 < (l0.length : Int) := of_decide_eq_true (by first | (with_reducible assumption) | assumption); obtain ⟨ad444, e444, hx444_0, hx444_1⟩ := at_T72 HR0.out x3_1 p444 q444; obtain rfl : ad442 = ad444 := (by injection e444); replace p444 := eq_true p444; replace q444 := eq_true q444))
                repeat (go_quiet (first | (go_at_call 32; (with_reducible refine (lookoutref05_Name.calls k1 ((rd_T72 l0 x3_1).f0) true _ A5.out).mono ?_); rintro e w' ⟨rfl, ⟨nd, rfl⟩⟩; (try first | exact ⟨rfl, _, World.drewN_drewN _ _ _⟩ | exact ⟨rfl, _, Eq.trans (World.drewN_drewN _ _ _) (congrArg (World.drewN _) (Nat.add_assoc _ _ _))⟩); have p444 : 0 ≤ (x3_1 : Int) := of_decide_eq_true (by first | (with_reducible assumption) | assumption); have q444 : x3_1 < (l0.length : Int) := of_decide_eq_true (by first | (with_reducible assumption) | assumption); obtain ⟨ad444, e444, hx444_0, hx444_1⟩ := at_T72 HR0.out x3_1 p444 q444; obtain rfl : ad442 = ad444 := (by injection e444); replace p444 := eq_true p444; replace q444 := eq_true q444)); try go_wp2_with (first | (go_at_call 32; (with_reducible refine (lookoutref05_Name.calls k1 ((rd_T72 l0 x3_1).f0) true _ A5.out).mono ?_); rintro e w' ⟨rfl, ⟨nd, rfl⟩⟩; (try first | exact ⟨rfl, _, World.drewN_drewN _ _ _⟩ | exact ⟨rfl, _, Eq.trans (World.drewN_drewN _ _ _) (congrArg (World.drewN _) (Nat.add_assoc _ _ _))⟩); have p444 : 0 ≤ (x3_1 : Int) := of_decide_eq_true (by first | (with_reducible assumption) | assumption); have q444 : x3_1 < (l0.length : Int) := of_decide_eq_true (by first | (with_reducible assumption) | assumption); obtain ⟨ad444, e444, hx444_0, hx444_1⟩ := at_T72 HR0.out x3_1 p444 q444; obtain rfl : ad442 = ad444 := (by injection e444); replace p444 := eq_true p444; replace q444 := eq_true q444)))
                go_ret
                exact ⟨by first | rfl | (simp; done) | (simp [*]; done), by repeat (first | exact Drawn0.refl _ | apply Drawn0.step)⟩
              · rw [if_neg c7] at H
                have c7b0 : (((rd_T72 l0 x3_1).f1).toList == ([] : List UInt8)) = false := beq_eq_false_iff_ne.mpr c7
                have c7b1 : (((rd_T72 l0 x3_1).f1).toList != ([] : List UInt8)) = true := bne_iff_ne.mpr c7
                by_cases c8 : (((rd_T72 l0 x3_1).f1).size : Int) > 200
                · rw [if_pos c8] at H
                  have c8b0 : decide (200 < (((rd_T72 l0 x3_1).f1).size : Int)) = true := decide_eq_true c8
                  have c8b1 : decide (200 < ((rd_T72 l0 x3_1).f1).size) = true := decide_eq_true (by omega)
                  clear c8
                  obtain rfl := Option.some.inj H
                  have p442 : 0 ≤ (x3_1 : Int) := of_decide_eq_true (by first | (with_reducible assumption) | assumption)
                  have q442 : x3_1 < (l0.length : Int) := of_decide_eq_true (by first | (with_reducible assumption) | assumption)
                  obtain ⟨ad442, e442, hx442_0, hx442_1⟩ := at_T72 HR0.out x3_1 p442 q442
                  cases e442
                  replace p442 := eq_true p442
                  replace q442 := eq_true q442
                  go_wp2_with (first | (go_at_call 32; (with_reducible refine (lookoutref05_Name.calls k1 ((rd_T72 l0 x3_1).f0) true _ A5.out).mono ?_); rintro e w' ⟨rfl, ⟨nd, rfl⟩⟩; (try first | exact ⟨rfl, _, World.drewN_drewN _ _ _⟩ | exact ⟨rfl, _, Eq.trans (World.drewN_drewN _ _ _) (congrArg (World.drewN _) (Nat.add_assoc _ _ _))⟩); have p444 : 0 ≤ (x3_1 : Int) := of_decide_eq_true (by first | (with_reducible assumption) | assumption); have q444 : x3_1 < (l0.length : Int) := of_decide_eq_true (by first | (with_reducible assumption) | assumption); obtain ⟨ad444, e444, hx444_0, hx444_1⟩ := at_T72 HR0.out x3_1 p444 q444; obtain rfl : ad442 = ad444 := (by injection e444); replace p444 := eq_true p444; replace q444 := eq_true q444; have p445 : 0 ≤ (x3_1 : Int) := of_decide_eq_true (by first | (with_reducible assumption) | assumption); have q445 : x3_1 < (l0.length : Int) := of_decide_eq_true (by first | (with_reducible assumption) | assumption); obtain ⟨ad445, e445, hx445_0, hx445_1⟩ := at_T72 HR0.out x3_1 p445 q445; obtain rfl : ad442 = ad445 := (by injection e445); replace p445 := eq_true p445; replace q445 := eq_true q445))
                  repeat (go_quiet (first | (go_at_call 32; (with_reducible refine (lookoutref05_Name.calls k1 ((rd_T72 l0 x3_1).f0) true _ A5.out).mono ?_); rintro e w' ⟨rfl, ⟨nd, rfl⟩⟩; (try first | exact ⟨rfl, _, World.drewN_drewN _ _ _⟩ | exact ⟨rfl, _, Eq.trans (World.drewN_drewN _ _ _) (congrArg (World.drewN _) (Nat.add_assoc _ _ _))⟩); have p444 : 0 ≤ (x3_1 : Int) := of_decide_eq_true (by first | (with_reducible assumption) | assumption); have q444 : x3_1 < (l0.length : Int) := of_decide_eq_true (by first | (with_reducible assumption) | assumption); obtain ⟨ad444, e444, hx444_0, hx444_1⟩ := at_T72 HR0.out x3_1 p444 q444; obtain rfl : ad442 = ad444 := (by injection e444); replace p444 := eq_true p444; replace q444 := eq_true q444; have p445 : 0 ≤ (x3_1 : Int) := of_decide_eq_true (by first | (with_reducible assumption) | assumption); have q445 : x3_1 < (l0.length : Int) := of_decide_eq_true (by first | (with_reducible assumption) | assumption); obtain ⟨ad445, e445, hx445_0, hx445_1⟩ := at_T72 HR0.out x3_1 p445 q445; obtain rfl : ad442 = ad445 := (by injection e445); replace p445 := eq_true p445; replace q445 := eq_true q445)); try go_wp2_with (first | (go_at_call 32; (with_reducible refine (lookoutref05_Name.calls k1 ((rd_T72 l0 x3_1).f0) true _ A5.out).mono ?_); rintro e w' ⟨rfl, ⟨nd, rfl⟩⟩; (try first | exact ⟨rfl, _, World.drewN_drewN _ _ _⟩ | exact ⟨rfl, _, Eq.trans (World.drewN_drewN _ _ _) (congrArg (World.drewN _) (Nat.add_assoc _ _ _))⟩); have p444 : 0 ≤ (x3_1 : Int) := of_decide_eq_true (by first | (with_reducible assumption) | assumption); have q444 : x3_1 < (l0.length : Int) := of_decide_eq_true (by first | (with_reducible assumption) | assumption); obtain ⟨ad444, e444, hx444_0, hx444_1⟩ := at_T72 HR0.out x3_1 p444 q444; obtain rfl : ad442 = ad444 := (by injection e444); replace p444 := eq_true p444; replace q444 := eq_true q444; have p445 : 0 ≤ (x3_1 : Int) := of_decide_eq_true (by first | (with_reducible assumption) | assumption); have q445 : x3_1 < (l0.length : Int) := of_decide_eq_true (by first | (with_reducible assumption) | assumption); obtain ⟨ad445, e445, hx445_0, hx445_1⟩ := at_T72 HR0.out x3_1 p445 q445; obtain rfl : ad442 = ad445 := (by injection e445); replace p445 := eq_true p445; replace q445 := eq_true q445)))
                  go_ret
                  exact ⟨by first | rfl | (simp; done) | (simp [*]; done), by repeat (first | exact Drawn0.refl _ | apply Drawn0.step)⟩
                · rw [if_neg c8] at H
                  have c8b0 : decide (200 < (((rd_T72 l0 x3_1).f1).size : Int)) = false := decide_eq_false c8
                  have c8b1 : decide (200 < ((rd_T72 l0 x3_1).f1).size) = false := decide_eq_false (by omega)
                  clear c8
                  by_cases c9 : x3_1 > 0
                  · rw [if_pos c9] at H
                    have c9b0 : decide (0 < x3_1) = true := decide_eq_true c9
                    clear c9
                    obtain ⟨ji10, hji10⟩ : ∃ j_ : Int, (wrap64 (x3_1 - 1)) = j_ := ⟨_, rfl⟩
                    replace H : (if 0 ≤ (ji10) then (if (ji10) < (l0.length : Int) then (if ((Op.bytesLess (((rd_T72 l0 (ji10)).f0).toList) (((rd_T72 l0 x3_1).f0).toList)) = true) then (lookoutref05_Check.l0 k1 l0 (wrap64 (x3_1 + 1))) else (some 9)) else (none)) else (none)) = some r := by first | (rw [hji10] at H; exact H) | (simp only [hji10] at H ⊢; exact H)
                    (try rw [hji10] at A5)
                    have hji10w : (IntKind.i64.wrap (x3_1 - 1)) = ji10 := (i64_w _).trans hji10
                    by_cases c11 : 0 ≤ (ji10)
                    · rw [if_pos c11] at H
                      have c11b0 : decide (0 ≤ (ji10)) = true := decide_eq_true c11
                      clear c11
                      by_cases c12 : (ji10) < (l0.length : Int)
                      · rw [if_pos c12] at H
                        have c12b0 : decide ((ji10) < (l0.length : Int)) = true := decide_eq_true c12
                        clear c12
                        by_cases c13 : ((Op.bytesLess (((rd_T72 l0 (ji10)).f0).toList) (((rd_T72 l0 x3_1).f0).toList)) = true)
                        · rw [if_pos c13] at H
                          have c13b0 : (Op.bytesLess (((rd_T72 l0 (ji10)).f0).toList) (((rd_T72 l0 x3_1).f0).toList)) = true := c13
                          clear c13
                          have H' := Aside0.mk H
                          clear H
                          have p442 : 0 ≤ (x3_1 : Int) := of_decide_eq_true (by first | (with_reducible assumption) | assumption)
                          have q442 : x3_1 < (l0.length : Int) := of_decide_eq_true (by first | (with_reducible assumption) | assumption)
                          obtain ⟨ad442, e442, hx442_0, hx442_1⟩ := at_T72 HR0.out x3_1 p442 q442
                          cases e442
                          replace p442 := eq_true p442
                          replace q442 := eq_true q442
                          go_wp2_with (first | (go_at_call 32; (with_reducible refine (lookoutref05_Name.calls k1 ((rd_T72 l0 x3_1).f0) true _ A5.out).mono ?_); rintro e w' ⟨rfl, ⟨nd, rfl⟩⟩; (try first | exact ⟨rfl, _, World.drewN_drewN _ _ _⟩ | exact ⟨rfl, _, Eq.trans (World.drewN_drewN _ _ _) (congrArg (World.drewN _) (Nat.add_assoc _ _ _))⟩); have p444 : 0 ≤ (x3_1 : Int) := of_decide_eq_true (by first | (with_reducible assumption) | assumption); have q444 : x3_1 < (l0.length : Int) := of_decide_eq_true (by first | (with_reducible assumption) | assumption); obtain ⟨ad444, e444, hx444_0, hx444_1⟩ := at_T72 HR0.out x3_1 p444 q444; obtain rfl : ad442 = ad444 := (by injection e444); replace p444 := eq_true p444; replace q444 := eq_true q444; have p445 : 0 ≤ (x3_1 : Int) := of_decide_eq_true (by first | (with_reducible assumption) | assumption); have q445 : x3_1 < (l0.length : Int) := of_decide_eq_true (by first | (with_reducible assumption) | assumption); obtain ⟨ad445, e445, hx445_0, hx445_1⟩ := at_T72 HR0.out x3_1 p445 q445; obtain rfl : ad442 = ad445 := (by injection e445); replace p445 := eq_true p445; replace q445 := eq_true q445; have p446 : 0 ≤ (x3_1 : Int) := of_decide_eq_true (by first | (with_reducible assumption) | assumption); have q446 : x3_1 < (l0.length : Int) := of_decide_eq_true (by first | (with_reducible assumption) | assumption); obtain ⟨ad446, e446, hx446_0, hx446_1⟩ := at_T72 HR0.out x3_1 p446 q446; obtain rfl : ad442 = ad446 := (by injection e446); replace p446 := eq_true p446; replace q446 := eq_true q446; have p447 : 0 ≤ ((ji10) : Int) := of_decide_eq_true (by first | (with_reducible assumption) | assumption); have q447 : (ji10) < (l0.length : Int) := of_decide_eq_true (by first | (with_reducible assumption) | assumption); obtain ⟨ad447, e447, hx447_0, hx447_1⟩ := at_T72 HR0.out (ji10) p447 q447; obtain rfl : ad442 = ad447 := (by injection e447); replace p447 := eq_true p447; replace q447 := eq_true q447))
                          repeat (go_quiet (first | (go_at_call 32; (with_reducible refine (lookoutref05_Name.calls k1 ((rd_T72 l0 x3_1).f0) true _ A5.out).mono ?_); rintro e w' ⟨rfl, ⟨nd, rfl⟩⟩; (try first | exact ⟨rfl, _, World.drewN_drewN _ _ _⟩ | exact ⟨rfl, _, Eq.trans (World.drewN_drewN _ _ _) (congrArg (World.drewN _) (Nat.add_assoc _ _ _))⟩); have p444 : 0 ≤ (x3_1 : Int) := of_decide_eq_true (by first | (with_reducible assumption) | assumption); have q444 : x3_1 < (l0.length : Int) := of_decide_eq_true (by first | (with_reducible assumption) | assumption); obtain ⟨ad444, e444, hx444_0, hx444_1⟩ := at_T72 HR0.out x3_1 p444 q444; obtain rfl : ad442 = ad444 := (by injection e444); replace p444 := eq_true p444; replace q444 := eq_true q444; have p445 : 0 ≤ (x3_1 : Int) := of_decide_eq_true (by first | (with_reducible assumption) | assumption); have q445 : x3_1 < (l0.length : Int) := of_decide_eq_true (by first | (with_reducible assumption) | assumption); obtain ⟨ad445, e445, hx445_0, hx445_1⟩ := at_T72 HR0.out x3_1 p445 q445; obtain rfl : ad442 = ad445 := (by injection e445); replace p445 := eq_true p445; replace q445 := eq_true q445; have p446 : 0 ≤ (x3_1 : Int) := of_decide_eq_true (by first | (with_reducible assumption) | assumption); have q446 : x3_1 < (l0.length : Int) := of_decide_eq_true (by first | (with_reducible assumption) | assumption); obtain ⟨ad446, e446, hx446_0, hx446_1⟩ := at_T72 HR0.out x3_1 p446 q446; obtain rfl : ad442 = ad446 := (by injection e446); replace p446 := eq_true p446; replace q446 := eq_true q446; have p447 : 0 ≤ ((ji10) : Int) := of_decide_eq_true (by first | (with_reducible assumption) | assumption); have q447 : (ji10) < (l0.length : Int) := of_decide_eq_true (by first | (with_reducible assumption) | assumption); obtain ⟨ad447, e447, hx447_0, hx447_1⟩ := at_T72 HR0.out (ji10) p447 q447; obtain rfl : ad442 = ad447 := (by injection e447); replace p447 := eq_true p447; replace q447 := eq_true q447)); try go_wp2_with (first | (go_at_call 32; (with_reducible refine (lookoutref05_Name.calls k1 ((rd_T72 l0 x3_1).f0) true _ A5.out).mono ?_); rintro e w' ⟨rfl, ⟨nd, rfl⟩⟩; (try first | exact ⟨rfl, _, World.drewN_drewN _ _ _⟩ | exact ⟨rfl, _, Eq.trans (World.drewN_drewN _ _ _) (congrArg (World.drewN _) (Nat.add_assoc _ _ _))⟩); have p444 : 0 ≤ (x3_1 : Int) := of_decide_eq_true (by first | (with_reducible assumption) | assumption); have q444 : x3_1 < (l0.length : Int) := of_decide_eq_true (by first | (with_reducible assumption) | assumption); obtain ⟨ad444, e444, hx444_0, hx444_1⟩ := at_T72 HR0.out x3_1 p444 q444; obtain rfl : ad442 = ad444 := (by injection e444); replace p444 := eq_true p444; replace q444 := eq_true q444; have p445 : 0 ≤ (x3_1 : Int) := of_decide_eq_true (by first | (with_reducible assumption) | assumption); have q445 : x3_1 < (l0.length : Int) := of_decide_eq_true (by first | (with_reducible assumption) | assumption); obtain ⟨ad445, e445, hx445_0, hx445_1⟩ := at_T72 HR0.out x3_1 p445 q445; obtain rfl : ad442 = ad445 := (by injection e445); replace p445 := eq_true p445; replace q445 := eq_true q445; have p446 : 0 ≤ (x3_1 : Int) := of_decide_eq_true (by first | (with_reducible assumption) | assumption); have q446 : x3_1 < (l0.length : Int) := of_decide_eq_true (by first | (with_reducible assumption) | assumption); obtain ⟨ad446, e446, hx446_0, hx446_1⟩ := at_T72 HR0.out x3_1 p446 q446; obtain rfl : ad442 = ad446 := (by injection e446); replace p446 := eq_true p446; replace q446 := eq_true q446; have p447 : 0 ≤ ((ji10) : Int) := of_decide_eq_true (by first | (with_reducible assumption) | assumption); have q447 : (ji10) < (l0.length : Int) := of_decide_eq_true (by first | (with_reducible assumption) | assumption); obtain ⟨ad447, e447, hx447_0, hx447_1⟩ := at_T72 HR0.out (ji10) p447 q447; obtain rfl : ad442 = ad447 := (by injection e447); replace p447 := eq_true p447; replace q447 := eq_true q447)))
                          go_roundg k1
                          case measure => have := HK1.out; omega
                          case rel => exact ⟨(wrap64 (x3_1 + 1)), (by first | rfl | (simp; done) | (simp [*]; done)), H', ⟨by have := HK1.out; omega⟩, by repeat (first | exact Drawn0.refl _ | apply Drawn0.step)⟩
                        · rw [if_neg c13] at H
                          have c13b0 : (Op.bytesLess (((rd_T72 l0 (ji10)).f0).toList) (((rd_T72 l0 x3_1).f0).toList)) = false := by simpa using c13
                          clear c13
                          obtain rfl := Option.some.inj H
                          have p442 : 0 ≤ (x3_1 : Int) := of_decide_eq_true (by first | (with_reducible assumption) | assumption)
                          have q442 : x3_1 < (l0.length : Int) := of_decide_eq_true (by first | (with_reducible assumption) | assumption)
                          obtain ⟨ad442, e442, hx442_0, hx442_1⟩ := at_T72 HR0.out x3_1 p442 q442
                          cases e442
                          replace p442 := eq_true p442
                          replace q442 := eq_true q442
                          go_wp2_with (first | (go_at_call 32; (with_reducible refine (lookoutref05_Name.calls k1 ((rd_T72 l0 x3_1).f0) true _ A5.out).mono ?_); rintro e w' ⟨rfl, ⟨nd, rfl⟩⟩; (try first | exact ⟨rfl, _, World.drewN_drewN _ _ _⟩ | exact ⟨rfl, _, Eq.trans (World.drewN_drewN _ _ _) (congrArg (World.drewN _) (Nat.add_assoc _ _ _))⟩); have p444 : 0 ≤ (x3_1 : Int) := of_decide_eq_true (by first | (with_reducible assumption) | assumption); have q444 : x3_1 < (l0.length : Int) := of_decide_eq_true (by first | (with_reducible assumption) | assumption); obtain ⟨ad444, e444, hx444_0, hx444_1⟩ := at_T72 HR0.out x3_1 p444 q444; obtain rfl : ad442 = ad444 := (by injection e444); replace p444 := eq_true p444; replace q444 := eq_true q444; have p445 : 0 ≤ (x3_1 : Int) := of_decide_eq_true (by first | (with_reducible assumption) | assumption); have q445 : x3_1 < (l0.length : Int) := of_decide_eq_true (by first | (with_reducible assumption) | assumption); obtain ⟨ad445, e445, hx445_0, hx445_1⟩ := at_T72 HR0.out x3_1 p445 q445; obtain rfl : ad442 = ad445 := (by injection e445); replace p445 := eq_true p445; replace q445 := eq_true q445; have p446 : 0 ≤ (x3_1 : Int) := of_decide_eq_true (by first | (with_reducible assumption) | assumption); have q446 : x3_1 < (l0.length : Int) := of_decide_eq_true (by first | (with_reducible assumption) | assumption); obtain ⟨ad446, e446, hx446_0, hx446_1⟩ := at_T72 HR0.out x3_1 p446 q446; obtain rfl : ad442 = ad446 := (by injection e446); replace p446 := eq_true p446; replace q446 := eq_true q446; have p447 : 0 ≤ ((ji10) : Int) := of_decide_eq_true (by first | (with_reducible assumption) | assumption); have q447 : (ji10) < (l0.length : Int) := of_decide_eq_true (by first | (with_reducible assumption) | assumption); obtain ⟨ad447, e447, hx447_0, hx447_1⟩ := at_T72 HR0.out (ji10) p447 q447; obtain rfl : ad442 = ad447 := (by injection e447); replace p447 := eq_true p447; replace q447 := eq_true q447))
                          repeat (go_quiet (first | (go_at_call 32; (with_reducible refine (lookoutref05_Name.calls k1 ((rd_T72 l0 x3_1).f0) true _ A5.out).mono ?_); rintro e w' ⟨rfl, ⟨nd, rfl⟩⟩; (try first | exact ⟨rfl, _, World.drewN_drewN _ _ _⟩ | exact ⟨rfl, _, Eq.trans (World.drewN_drewN _ _ _) (congrArg (World.drewN _) (Nat.add_assoc _ _ _))⟩); have p444 : 0 ≤ (x3_1 : Int) := of_decide_eq_true (by first | (with_reducible assumption) | assumption); have q444 : x3_1 < (l0.length : Int) := of_decide_eq_true (by first | (with_reducible assumption) | assumption); obtain ⟨ad444, e444, hx444_0, hx444_1⟩ := at_T72 HR0.out x3_1 p444 q444; obtain rfl : ad442 = ad444 := (by injection e444); replace p444 := eq_true p444; replace q444 := eq_true q444; have p445 : 0 ≤ (x3_1 : Int) := of_decide_eq_true (by first | (with_reducible assumption) | assumption); have q445 : x3_1 < (l0.length : Int) := of_decide_eq_true (by first | (with_reducible assumption) | assumption); obtain ⟨ad445, e445, hx445_0, hx445_1⟩ := at_T72 HR0.out x3_1 p445 q445; obtain rfl : ad442 = ad445 := (by injection e445); replace p445 := eq_true p445; replace q445 := eq_true q445; have p446 : 0 ≤ (x3_1 : Int) := of_decide_eq_true (by first | (with_reducible assumption) | assumption); have q446 : x3_1 < (l0.length : Int) := of_decide_eq_true (by first | (with_reducible assumption) | assumption); obtain ⟨ad446, e446, hx446_0, hx446_1⟩ := at_T72 HR0.out x3_1 p446 q446; obtain rfl : ad442 = ad446 := (by injection e446); replace p446 := eq_true p446; replace q446 := eq_true q446; have p447 : 0 ≤ ((ji10) : Int) := of_decide_eq_true (by first | (with_reducible assumption) | assumption); have q447 : (ji10) < (l0.length : Int) := of_decide_eq_true (by first | (with_reducible assumption) | assumption); obtain ⟨ad447, e447, hx447_0, hx447_1⟩ := at_T72 HR0.out (ji10) p447 q447; obtain rfl : ad442 = ad447 := (by injection e447); replace p447 := eq_true p447; replace q447 := eq_true q447)); try go_wp2_with (first | (go_at_call 32; (with_reducible refine (lookoutref05_Name.calls k1 ((rd_T72 l0 x3_1).f0) true _ A5.out).mono ?_); rintro e w' ⟨rfl, ⟨nd, rfl⟩⟩; (try first | exact ⟨rfl, _, World.drewN_drewN _ _ _⟩ | exact ⟨rfl, _, Eq.trans (World.drewN_drewN _ _ _) (congrArg (World.drewN _) (Nat.add_assoc _ _ _))⟩); have p444 : 0 ≤ (x3_1 : Int) := of_decide_eq_true (by first | (with_reducible assumption) | assumption); have q444 : x3_1 < (l0.length : Int) := of_decide_eq_true (by first | (with_reducible assumption) | assumption); obtain ⟨ad444, e444, hx444_0, hx444_1⟩ := at_T72 HR0.out x3_1 p444 q444; obtain rfl : ad442 = ad444 := (by injection e444); replace p444 := eq_true p444; replace q444 := eq_true q444; have p445 : 0 ≤ (x3_1 : Int) := of_decide_eq_true (by first | (with_reducible assumption) | assumption); have q445 : x3_1 < (l0.length : Int) := of_decide_eq_true (by first | (with_reducible assumption) | assumption); obtain ⟨ad445, e445, hx445_0, hx445_1⟩ := at_T72 HR0.out x3_1 p445 q445; obtain rfl : ad442 = ad445 := (by injection e445); replace p445 := eq_true p445; replace q445 := eq_true q445; have p446 : 0 ≤ (x3_1 : Int) := of_decide_eq_true (by first | (with_reducible assumption) | assumption); have q446 : x3_1 < (l0.length : Int) := of_decide_eq_true (by first | (with_reducible assumption) | assumption); obtain ⟨ad446, e446, hx446_0, hx446_1⟩ := at_T72 HR0.out x3_1 p446 q446; obtain rfl : ad442 = ad446 := (by injection e446); replace p446 := eq_true p446; replace q446 := eq_true q446; have p447 : 0 ≤ ((ji10) : Int) := of_decide_eq_true (by first | (with_reducible assumption) | assumption); have q447 : (ji10) < (l0.length : Int) := of_decide_eq_true (by first | (with_reducible assumption) | assumption); obtain ⟨ad447, e447, hx447_0, hx447_1⟩ := at_T72 HR0.out (ji10) p447 q447; obtain rfl : ad442 = ad447 := (by injection e447); replace p447 := eq_true p447; replace q447 := eq_true q447)))
                          go_ret
                          exact ⟨by first | rfl | (simp; done) | (simp only [← hji10] <;> (first | rfl | simp)) | (simp [*]; done), by repeat (first | exact Drawn0.refl _ | apply Drawn0.step)⟩
                      · rw [if_neg c12] at H
                        exact absurd H (by simp)
                    · rw [if_neg c11] at H
                      exact absurd H (by simp)
                  · rw [if_neg c9] at H
                    have c9b0 : decide (0 < x3_1) = false := decide_eq_false c9
                    clear c9
                    have H' := Aside0.mk H
                    clear H
                    have p442 : 0 ≤ (x3_1 : Int) := of_decide_eq_true (by first | (with_reducible assumption) | assumption)
                    have q442 : x3_1 < (l0.length : Int) := of_decide_eq_true (by first | (with_reducible assumption) | assumption)
                    obtain ⟨ad442, e442, hx442_0, hx442_1⟩ := at_T72 HR0.out x3_1 p442 q442
                    cases e442
                    replace p442 := eq_true p442
                    replace q442 := eq_true q442
                    go_wp2_with (first | (go_at_call 32; (with_reducible refine (lookoutref05_Name.calls k1 ((rd_T72 l0 x3_1).f0) true _ A5.out).mono ?_); rintro e w' ⟨rfl, ⟨nd, rfl⟩⟩; (try first | exact ⟨rfl, _, World.drewN_drewN _ _ _⟩ | exact ⟨rfl, _, Eq.trans (World.drewN_drewN _ _ _) (congrArg (World.drewN _) (Nat.add_assoc _ _ _))⟩); have p444 : 0 ≤ (x3_1 : Int) := of_decide_eq_true (by first | (with_reducible assumption) | assumption); have q444 : x3_1 < (l0.length : Int) := of_decide_eq_true (by first | (with_reducible assumption) | assumption); obtain ⟨ad444, e444, hx444_0, hx444_1⟩ := at_T72 HR0.out x3_1 p444 q444; obtain rfl : ad442 = ad444 := (by injection e444); replace p444 := eq_true p444; replace q444 := eq_true q444; have p445 : 0 ≤ (x3_1 : Int) := of_decide_eq_true (by first | (with_reducible assumption) | assumption); have q445 : x3_1 < (l0.length : Int) := of_decide_eq_true (by first | (with_reducible assumption) | assumption); obtain ⟨ad445, e445, hx445_0, hx445_1⟩ := at_T72 HR0.out x3_1 p445 q445; obtain rfl : ad442 = ad445 := (by injection e445); replace p445 := eq_true p445; replace q445 := eq_true q445))
                    repeat (go_quiet (first | (go_at_call 32; (with_reducible refine (lookoutref05_Name.calls k1 ((rd_T72 l0 x3_1).f0) true _ A5.out).mono ?_); rintro e w' ⟨rfl, ⟨nd, rfl⟩⟩; (try first | exact ⟨rfl, _, World.drewN_drewN _ _ _⟩ | exact ⟨rfl, _, Eq.trans (World.drewN_drewN _ _ _) (congrArg (World.drewN _) (Nat.add_assoc _ _ _))⟩); have p444 : 0 ≤ (x3_1 : Int) := of_decide_eq_true (by first | (with_reducible assumption) | assumption); have q444 : x3_1 < (l0.length : Int) := of_decide_eq_true (by first | (with_reducible assumption) | assumption); obtain ⟨ad444, e444, hx444_0, hx444_1⟩ := at_T72 HR0.out x3_1 p444 q444; obtain rfl : ad442 = ad444 := (by injection e444); replace p444 := eq_true p444; replace q444 := eq_true q444; have p445 : 0 ≤ (x3_1 : Int) := of_decide_eq_true (by first | (with_reducible assumption) | assumption); have q445 : x3_1 < (l0.length : Int) := of_decide_eq_true (by first | (with_reducible assumption) | assumption); obtain ⟨ad445, e445, hx445_0, hx445_1⟩ := at_T72 HR0.out x3_1 p445 q445; obtain rfl : ad442 = ad445 := (by injection e445); replace p445 := eq_true p445; replace q445 := eq_true q445)); try go_wp2_with (first | (go_at_call 32; (with_reducible refine (lookoutref05_Name.calls k1 ((rd_T72 l0 x3_1).f0) true _ A5.out).mono ?_); rintro e w' ⟨rfl, ⟨nd, rfl⟩⟩; (try first | exact ⟨rfl, _, World.drewN_drewN _ _ _⟩ | exact ⟨rfl, _, Eq.trans (World.drewN_drewN _ _ _) (congrArg (World.drewN _) (Nat.add_assoc _ _ _))⟩); have p444 : 0 ≤ (x3_1 : Int) := of_decide_eq_true (by first | (with_reducible assumption) | assumption); have q444 : x3_1 < (l0.length : Int) := of_decide_eq_true (by first | (with_reducible assumption) | assumption); obtain ⟨ad444, e444, hx444_0, hx444_1⟩ := at_T72 HR0.out x3_1 p444 q444; obtain rfl : ad442 = ad444 := (by injection e444); replace p444 := eq_true p444; replace q444 := eq_true q444; have p445 : 0 ≤ (x3_1 : Int) := of_decide_eq_true (by first | (with_reducible assumption) | assumption); have q445 : x3_1 < (l0.length : Int) := of_decide_eq_true (by first | (with_reducible assumption) | assumption); obtain ⟨ad445, e445, hx445_0, hx445_1⟩ := at_T72 HR0.out x3_1 p445 q445; obtain rfl : ad442 = ad445 := (by injection e445); replace p445 := eq_true p445; replace q445 := eq_true q445)))
                    go_roundg k1
                    case measure => have := HK1.out; omega
                    case rel => exact ⟨(wrap64 (x3_1 + 1)), (by first | rfl | (simp; done) | (simp [*]; done)), H', ⟨by have := HK1.out; omega⟩, by repeat (first | exact Drawn0.refl _ | apply Drawn0.step)⟩
            · replace c6 := Bool.eq_false_iff.mpr c6
              subst c6
              have H1 : (some 5) = some r := by rw [if_neg (show ¬ (false = true) by decide)] at H; exact H
              clear H
              have H := H1
              clear H1
              obtain rfl := Option.some.inj H
              have p442 : 0 ≤ (x3_1 : Int) := of_decide_eq_true (by first | (with_reducible assumption) | assumption)
              have q442 : x3_1 < (l0.length : Int) := of_decide_eq_true (by first | (with_reducible assumption) | assumption)
              obtain ⟨ad442, e442, hx442_0, hx442_1⟩ := at_T72 HR0.out x3_1 p442 q442
              cases e442
              replace p442 := eq_true p442
              replace q442 := eq_true q442
              go_wp2_with (first | (go_at_call 32; (with_reducible refine (lookoutref05_Name.calls k1 ((rd_T72 l0 x3_1).f0) false _ A5.out).mono ?_); rintro e w' ⟨rfl, ⟨nd, rfl⟩⟩; (try first | exact ⟨rfl, _, World.drewN_drewN _ _ _⟩ | exact ⟨rfl, _, Eq.trans (World.drewN_drewN _ _ _) (congrArg (World.drewN _) (Nat.add_assoc _ _ _))⟩)))
              repeat (go_quiet (first | (go_at_call 32; (with_reducible refine (lookoutref05_Name.calls k1 ((rd_T72 l0 x3_1).f0) false _ A5.out).mono ?_); rintro e w' ⟨rfl, ⟨nd, rfl⟩⟩; (try first | exact ⟨rfl, _, World.drewN_drewN _ _ _⟩ | exact ⟨rfl, _, Eq.trans (World.drewN_drewN _ _ _) (congrArg (World.drewN _) (Nat.add_assoc _ _ _))⟩))); try go_wp2_with (first | (go_at_call 32; (with_reducible refine (lookoutref05_Name.calls k1 ((rd_T72 l0 x3_1).f0) false _ A5.out).mono ?_); rintro e w' ⟨rfl, ⟨nd, rfl⟩⟩; (try first | exact ⟨rfl, _, World.drewN_drewN _ _ _⟩ | exact ⟨rfl, _, Eq.trans (World.drewN_drewN _ _ _) (congrArg (World.drewN _) (Nat.add_assoc _ _ _))⟩))))
              go_ret
              exact ⟨by first | rfl | (simp; done) | (simp [*]; done), by repeat (first | exact Drawn0.refl _ | apply Drawn0.step)⟩
          · rw [if_neg c4] at H
            exact absurd H (by simp)
        · rw [if_neg c3] at H
          have c3b0 : decide (x3_1 < (l0.length : Int)) = false := decide_eq_false c3
          clear c3
          obtain rfl := Option.some.inj H
          go_wp2
          repeat (go_quiet (fail); try go_wp2)
          go_ret
          exact ⟨by first | rfl | (simp; done) | (simp [*]; done), by repeat (first | exact Drawn0.refl _ | apply Drawn0.step)⟩
end

end Go.Proofs.Ytakobehkajphpaa.PAll
