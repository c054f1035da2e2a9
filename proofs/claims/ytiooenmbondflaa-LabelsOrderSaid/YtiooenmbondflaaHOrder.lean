/- The walk of LabelsOrder. -/
import Derived.Test.YtiooenmbondflaaHGreat
import Derived.Test.YtiooenmbondflaaHCmp
namespace Go.Proofs.Ytiooenmbondflaa.H
open Go Go.RowKit Go.Proofs.YtiooenmbondflaaW.PrintWords Go.Proofs.YtiooenmbondflaaW.PrintLast Go.Proofs.YtiooenmbondflaaW.PrintMore Go.Proofs.Ytiooenmbondflaa.PAll
set_option linter.unusedVariables false
set_option linter.unusedSimpArgs false

theorem order_cases {x y z : Int} (hx : x = -1 ∨ x = 0 ∨ x = 1) (hy : y = -1 ∨ y = 0 ∨ y = 1) (hz : z = -1 ∨ z = 0 ∨ z = 1) (h : 0 < x ∨ 0 < y ∨ z ≤ 0 ∧ (z < 0 ↔ x < 0 ∨ y < 0)) :
    x = 1 ∨ x = -1 ∧ y = 1 ∨ x = 0 ∧ y = 1 ∨ x = -1 ∧ y = -1 ∧ z = -1 ∨ x = -1 ∧ y = 0 ∧ z = -1 ∨ x = 0 ∧ y = -1 ∧ z = -1 ∨ x = 0 ∧ y = 0 ∧ z = 0 := by
  rcases hx with rfl | rfl | rfl <;> rcases hy with rfl | rfl | rfl <;> rcases hz with rfl | rfl | rfl <;> simp at h ⊢

set_option maxRecDepth 100000 in
set_option maxHeartbeats 16000000 in
theorem LabelsOrder_row (w : World) (A0 : Option Addr) (l0 : L32) (c0 : Nat) (hr0 : Kd.C k32 w A0 l0.length l0) (hc0 : l0.length ≤ c0) (_ : ∀ x ∈ l0, x.f0.size ≤ maxLen ∧ x.f1.size ≤ maxLen) (A1 : Option Addr) (l1 : L32) (c1 : Nat) (hr1 : Kd.C k32 w A1 l1.length l1) (hc1 : l1.length ≤ c1) (_ : ∀ x ∈ l1, x.f0.size ≤ maxLen ∧ x.f1.size ≤ maxLen) (A2 : Option Addr) (l2 : L32) (c2 : Nat) (hr2 : Kd.C k32 w A2 l2.length l2) (hc2 : l2.length ≤ c2) (_ : ∀ x ∈ l2, x.f0.size ≤ maxLen ∧ x.f1.size ≤ maxLen) :
    Calls Try.prog 7 #[.slice A0 l0.length c0, .slice A1 l1.length c1, .slice A2 l2.length c2] w fun e w' => e = .returned (.bool true) ∧ Below w.heap.size w w' := by
  have HG := Aside0.mk (fun W n hn (h : Below w.heap.size w W) => great3 W n hn A0 A1 A2 c0 c1 c2 l0 l1 l2 (Kd.C_below hr0 h) hc0 (Kd.C_below hr1 h) hc1 (Kd.C_below hr2 h) hc2)
  have HA := Aside0.mk (fun W => awake_calls W)
  have HB2 := Aside0.mk (Below.refl w.heap.size w)
  cases hg : greatB l0 || greatB l1 || greatB l2 with
  | true =>
    rw [hg] at HG
    clear hg hr0 hr1 hr2 hc0 hc1 hc2
    go_enter Try.func7, Try.ntmps7
    go_wp2_with (first
      | (go_at_call 10; refine (HG.out _ _ rfl (by repeat (first | exact HB2.out | apply below_alloc | apply pw_below_drewN | apply below_drew))).mono ?_; rintro e w1 ⟨rfl, ⟨q, rfl⟩⟩)
      | (go_at_call 11; refine (HA.out _).mono ?_; rintro e w2 ⟨rfl, hb⟩; have n1_ := Aside0.mk ((show Below w.heap.size w _ by repeat (first | exact HB2.out | apply below_alloc | apply pw_below_drewN | apply below_drew)).trans (hb.mono (by have := HB2.out.size; simp; try omega))); clear HB2; have HB2 := n1_; clear n1_; clear hb))
    go_ret
    exact ⟨rfl, HB2.out⟩
  | false =>
    rw [hg] at HG
    obtain ⟨⟨g0, g1⟩, g2⟩ : (greatB l0 = false ∧ greatB l1 = false) ∧ greatB l2 = false := by simpa using hg
    have s0 := (small_of g0).1
    have s1 := (small_of g1).1
    have s2 := (small_of g2).1
    have H01 := Aside0.mk (fun W (h : Below w.heap.size w W) => Compare_calls A0 A1 c0 c1 l0 l1 W (Kd.C_below hr0 h) hc0 (Kd.C_below hr1 h) hc1 (by omega))
    have H12 := Aside0.mk (fun W (h : Below w.heap.size w W) => Compare_calls A1 A2 c1 c2 l1 l2 W (Kd.C_below hr1 h) hc1 (Kd.C_below hr2 h) hc2 (by omega))
    have H02 := Aside0.mk (fun W (h : Below w.heap.size w W) => Compare_calls A0 A2 c0 c2 l0 l2 W (Kd.C_below hr0 h) hc0 (Kd.C_below hr2 h) hc2 (by omega))
    have H10 := Aside0.mk (fun W (h : Below w.heap.size w W) => Compare_calls A1 A0 c1 c0 l1 l0 W (Kd.C_below hr1 h) hc1 (Kd.C_below hr0 h) hc0 (by omega))
    have HRC := Aside0.mk (fun W (h : Below w.heap.size w W) => rCompare_calls A0 A1 c0 c1 l0 l1 W (Kd.C_below hr0 h) hc0 (Kd.C_below hr1 h) hc1 (by omega))
    have HE := Aside0.mk (fun W (h : Below w.heap.size w W) => Equal_calls A0 A1 c0 c1 l0 l1 W (Kd.C_below hr0 h) hc0 (Kd.C_below hr1 h) hc1 (by omega))
    rw [cmpLL_cm.anti l0 l1] at H10
    have he : eqLB l0 l1 = decide (cmpLL l0 l1 = 0) := by
      rw [Bool.eq_iff_iff, eqLB_iff, decide_eq_true_eq, cmpLL_cm.zero]
    rw [he] at HE
    have hx := order_cases (cmpLL_cm.one l0 l1) (cmpLL_cm.one l1 l2) (cmpLL_cm.one l0 l2) (cmpLL_cm.law l0 l1 l2)
    clear hg g0 g1 g2 s0 s1 s2 he hr0 hr1 hr2 hc0 hc1 hc2
    generalize cmpLL l0 l1 = x at *
    generalize cmpLL l1 l2 = y at *
    generalize cmpLL l0 l2 = z at *
    rcases hx with rfl | ⟨rfl, rfl⟩ | ⟨rfl, rfl⟩ | ⟨rfl, rfl, rfl⟩ | ⟨rfl, rfl, rfl⟩ | ⟨rfl, rfl, rfl⟩ | ⟨rfl, rfl, rfl⟩
    all_goals
      simp only [Int.neg_neg, Int.neg_zero, Int.reduceNeg, Int.reduceEq, decide_true, decide_false] at H10 HE
      go_enter Try.func7, Try.ntmps7
      go_wp2_with (first
        | (go_at_call 10; refine (HG.out _ _ rfl (by repeat (first | exact HB2.out | apply below_alloc | apply pw_below_drewN | apply below_drew))).mono ?_; rintro e w1 ⟨rfl, ⟨q, rfl⟩⟩)
        | (go_at_call 25; refine (H01.out _ (by repeat (first | exact HB2.out | apply below_alloc | apply pw_below_drewN | apply below_drew))).mono ?_; clear H01; rintro e w3 ⟨rfl, hb⟩; have n1_ := Aside0.mk ((show Below w.heap.size w _ by repeat (first | exact HB2.out | apply below_alloc | apply pw_below_drewN | apply below_drew)).trans (hb.mono (by have := HB2.out.size; simp; try omega))); clear HB2; have HB2 := n1_; clear n1_; clear hb)
        | (go_at_call 25; refine (H12.out _ (by repeat (first | exact HB2.out | apply below_alloc | apply pw_below_drewN | apply below_drew))).mono ?_; clear H12; rintro e w4 ⟨rfl, hb⟩; have n1_ := Aside0.mk ((show Below w.heap.size w _ by repeat (first | exact HB2.out | apply below_alloc | apply pw_below_drewN | apply below_drew)).trans (hb.mono (by have := HB2.out.size; simp; try omega))); clear HB2; have HB2 := n1_; clear n1_; clear hb)
        | (go_at_call 25; refine (H02.out _ (by repeat (first | exact HB2.out | apply below_alloc | apply pw_below_drewN | apply below_drew))).mono ?_; clear H02; rintro e w5 ⟨rfl, hb⟩; have n1_ := Aside0.mk ((show Below w.heap.size w _ by repeat (first | exact HB2.out | apply below_alloc | apply pw_below_drewN | apply below_drew)).trans (hb.mono (by have := HB2.out.size; simp; try omega))); clear HB2; have HB2 := n1_; clear n1_; clear hb)
        | (go_at_call 26; refine (HRC.out _ (by repeat (first | exact HB2.out | apply below_alloc | apply pw_below_drewN | apply below_drew))).mono ?_; clear HRC; rintro e w7 ⟨rfl, ⟨q7, rfl⟩⟩)
        | (go_at_call 15; refine (HE.out _ (by repeat (first | exact HB2.out | apply below_alloc | apply pw_below_drewN | apply below_drew))).mono ?_; clear HE; rintro e w8 ⟨rfl, ⟨q8, rfl⟩⟩)
        | (go_at_call 25; refine (H10.out _ (by repeat (first | exact HB2.out | apply below_alloc | apply pw_below_drewN | apply below_drew))).mono ?_; clear H10; rintro e w6 ⟨rfl, hb⟩; have n1_ := Aside0.mk ((show Below w.heap.size w _ by repeat (first | exact HB2.out | apply below_alloc | apply pw_below_drewN | apply below_drew)).trans (hb.mono (by have := HB2.out.size; simp; try omega))); clear HB2; have HB2 := n1_; clear n1_; clear hb)
        | (go_at_call 11; refine (HA.out _).mono ?_; rintro e w2 ⟨rfl, hb⟩; have n1_ := Aside0.mk ((show Below w.heap.size w _ by repeat (first | exact HB2.out | apply below_alloc | apply pw_below_drewN | apply below_drew)).trans (hb.mono (by have := HB2.out.size; simp; try omega))); clear HB2; have HB2 := n1_; clear n1_; clear hb))
      go_ret
      exact ⟨rfl, HB2.out⟩
end Go.Proofs.Ytiooenmbondflaa.H
