/- The walk of HeavyhittersAdd: printed by gen_kladd.py. -/
import Derived.Test.YtgpkpeefbkcjeaaKRAdd
import Derived.Test.YtgpkpeefbkcjeaaKAwake
import Derived.Deep.RegionHeld3
namespace Go.Proofs.Ytgpkpeefbkcjeaa.H
open Go Go.RowKit Go.Proofs.YtgpkpeefbkcjeaaW.PrintWords Go.Proofs.YtgpkpeefbkcjeaaW.PrintLast Go.Proofs.YtgpkpeefbkcjeaaW.PrintMore Go.Proofs.Ytgpkpeefbkcjeaa.PAll
set_option linter.unusedVariables false
set_option linter.unusedSimpArgs false

theorem rNew_calls (K : Int) (w : World) : Calls Try.prog 15 #[.int .i64 K] w (RH w (newF K)) := by
  refine (lookoutref32_New.calls K (newF K).1.f0 (newF K).1.f1 (newF K).1.f2 (newF K).1.f3 (newF K).2 w ?_).mono ?_
  · unfold lookoutref32_New.f newF
    by_cases h1 : K < 2
    · rw [if_pos h1, if_pos (.inl h1)]; rfl
    · rw [if_neg h1]
      by_cases h2 : K > 100
      · rw [if_pos h2, if_pos (.inr h2)]; rfl
      · rw [if_neg h2, if_neg (by omega)]
  · rintro e w' ⟨v, rfl, hR, hb⟩
    exact ⟨v, rfl, hR, hb⟩
theorem addH_len' (x : HV) (k : ByteArray) (n : Int) : (addH x k n).1.f3.length ≤ x.f3.length + 1 := by
  unfold addH
  split
  · simp [zH]
  split
  · simp [zH]
  split
  · simp [zH]
  split
  · simp [zH]
  split
  · simp
  · unfold shrtH shrt
    split
    · rw [cutI_len]; exact Nat.le_trans List.countP_le_length (put_len _ _ _)
    · exact put_len _ _ _

set_option maxRecDepth 100000 in
set_option maxHeartbeats 16000000 in
theorem Add_row (w : World) (a : HV) (A : Option Addr) (ca : Nat) (hra : Kd.C k58 w A a.f3.length a.f3) (hca : a.f3.length ≤ ca) (K : Int) (_ : (Lit.int .i64 K).wf = true) (key : ByteArray) (hkm : key.size ≤ maxLen) (n : Int) (hnw : (Lit.int .i64 n).wf = true) :
    Calls Try.prog 3 #[.agg #[.int .i64 a.f0, .int .i64 a.f1, .int .i64 a.f2, .slice A a.f3.length ca], .int .i64 K, .string key, .int .i64 n] w fun e w' => e = .returned (.bool true) ∧ Below w.heap.size w w' := by
  have HG := Aside0.mk (fun W (h : Below w.heap.size w W) => Great_calls a A ca W (Kd.C_below hra h) hca)
  have HA := Aside0.mk (fun W => awake_calls W)
  have hu2 := Try.underlying24
  unfold maxLen at hkm
  obtain ⟨hn1, hn2⟩ : -9223372036854775808 ≤ n ∧ n ≤ 9223372036854775807 := by
    simp [Lit.wf, IntKind.min, IntKind.max, IntKind.signed, IntKind.bits] at hnw
    exact ⟨by omega, by omega⟩
  by_cases hg : 20 < a.f3.length
  · rw [decide_eq_true hg] at HG
    clear hg hra
    go_enter Try.func3, Try.ntmps3
    go_wp2_with fail
    have BA := Aside0.mk (heap_alloc_new w (.cells #[.int .i64 a.f0, .int .i64 a.f1, .int .i64 a.f2, .slice A a.f3.length ca] 24))
    have hW0 := Aside0.mk (show Below w.heap.size w (w.alloc (.cells #[.int .i64 a.f0, .int .i64 a.f1, .int .i64 a.f2, .slice A a.f3.length ca] 24)) by repeat (first | exact Below.refl _ _ | apply below_alloc))
    have hS0 := Aside0.mk (show w.heap.size < (w.alloc (.cells #[.int .i64 a.f0, .int .i64 a.f1, .int .i64 a.f2, .slice A a.f3.length ca] 24)).heap.size by simp)
    have HBB := Aside0.mk (Below.refl (w.alloc (.cells #[.int .i64 a.f0, .int .i64 a.f1, .int .i64 a.f2, .slice A a.f3.length ca] 24)).heap.size (w.alloc (.cells #[.int .i64 a.f0, .int .i64 a.f1, .int .i64 a.f2, .slice A a.f3.length ca] 24)))
    generalize hWW : (w.alloc (.cells #[.int .i64 a.f0, .int .i64 a.f1, .int .i64 a.f2, .slice A a.f3.length ca] 24)) = W0 at *
    clear hWW
    have a0 := (blk_cell ((HBB.out.block w.heap.size hS0.out).trans BA.out) 0).trans rfl
    have a1 := (blk_cell ((HBB.out.block w.heap.size hS0.out).trans BA.out) 1).trans rfl
    have a2 := (blk_cell ((HBB.out.block w.heap.size hS0.out).trans BA.out) 2).trans rfl
    have a3 := (blk_cell ((HBB.out.block w.heap.size hS0.out).trans BA.out) 3).trans rfl
    simp only [List.getElem?_toArray, List.getElem?_cons_zero, List.getElem?_cons_succ] at a0 a1 a2 a3
    go_wp2_with (first
      | (go_at_call 10; (with_reducible refine (HG.out _ (hW0.out.trans (HBB.out.mono hW0.out.size))).mono ?_); rintro e g1 ⟨rfl, hb⟩; have n1_ := Aside0.mk (HBB.out.trans (hb.mono HBB.out.size)); clear HBB; have HBB := n1_; clear n1_; clear hb HG a0 a1 a2 a3; have a0 := (blk_cell ((HBB.out.block w.heap.size hS0.out).trans BA.out) 0).trans rfl; have a1 := (blk_cell ((HBB.out.block w.heap.size hS0.out).trans BA.out) 1).trans rfl; have a2 := (blk_cell ((HBB.out.block w.heap.size hS0.out).trans BA.out) 2).trans rfl; have a3 := (blk_cell ((HBB.out.block w.heap.size hS0.out).trans BA.out) 3).trans rfl; simp only [List.getElem?_toArray, List.getElem?_cons_zero, List.getElem?_cons_succ] at a0 a1 a2 a3)
      | (go_at_call 11; (with_reducible refine (HA.out _).mono ?_); rintro e w8 ⟨rfl, hb⟩; have n1_ := Aside0.mk (HBB.out.trans (hb.mono HBB.out.size)); clear HBB; have HBB := n1_; clear n1_; clear hb))
    all_goals
      go_ret
      exact ⟨rfl, hW0.out.trans (HBB.out.mono hW0.out.size)⟩
  · rw [decide_eq_false hg] at HG
    have HAD := Aside0.mk (fun W (h : Below w.heap.size w W) => Add_calls a key n A ca W (Kd.C_below hra h) hca (by omega) hn1 hn2)
    have HRA := Aside0.mk (fun W (h : Below w.heap.size w W) => rAdd_calls a key n A ca W (Kd.C_below hra h) hca (by omega) hn1 hn2)
    have HNW := Aside0.mk (fun W => New_calls K W)
    have HRN := Aside0.mk (fun W => rNew_calls K W)
    have HCK := Aside0.mk (fun W (h : Below w.heap.size w W) => Check_calls a A ca W (Kd.C_below hra h) hca (by simp only [LB]; omega))
    have HCR := Aside0.mk (fun W (h : Below w.heap.size w W) => rCheck_calls a A ca W (Kd.C_below hra h) hca (by omega))
    have hla := addH_len' a key n
    have hln : (newF K).1.f3.length ≤ 0 := by unfold newF; split <;> simp [zH]
    generalize addH a key n = ra at *
    generalize newF K = rb at *
    generalize chkH a = rc at *
    obtain ⟨xr, ex⟩ := ra
    obtain ⟨yr, ey⟩ := rb
    simp only at hla hln
    unfold RH at HAD HNW HRN
    unfold RC at HRA
    simp only at HAD HNW HRN HRA
    have HSX := Aside0.mk (fun v v' W (h : CH W v xr.f3) (h' : CH W v' xr.f3) => Same_calls xr v v' W h h' (by simp only [LB]; omega))
    have HSY := Aside0.mk (fun v v' W (h : CH W v yr.f3) (h' : CH W v' yr.f3) => Same_calls yr v v' W h h' (by simp only [LB]; omega))
    have q1 : (ex == ex) = true := by simp
    have q2 : (ey == ey) = true := by simp
    have q3 : (rc == rc) = true := by simp
    clear hg hra
    go_enter Try.func3, Try.ntmps3
    go_wp2_with fail
    have BA := Aside0.mk (heap_alloc_new w (.cells #[.int .i64 a.f0, .int .i64 a.f1, .int .i64 a.f2, .slice A a.f3.length ca] 24))
    have hW0 := Aside0.mk (show Below w.heap.size w (w.alloc (.cells #[.int .i64 a.f0, .int .i64 a.f1, .int .i64 a.f2, .slice A a.f3.length ca] 24)) by repeat (first | exact Below.refl _ _ | apply below_alloc))
    have hS0 := Aside0.mk (show w.heap.size < (w.alloc (.cells #[.int .i64 a.f0, .int .i64 a.f1, .int .i64 a.f2, .slice A a.f3.length ca] 24)).heap.size by simp)
    have HBB := Aside0.mk (Below.refl (w.alloc (.cells #[.int .i64 a.f0, .int .i64 a.f1, .int .i64 a.f2, .slice A a.f3.length ca] 24)).heap.size (w.alloc (.cells #[.int .i64 a.f0, .int .i64 a.f1, .int .i64 a.f2, .slice A a.f3.length ca] 24)))
    generalize hWW : (w.alloc (.cells #[.int .i64 a.f0, .int .i64 a.f1, .int .i64 a.f2, .slice A a.f3.length ca] 24)) = W0 at *
    clear hWW
    have a0 := (blk_cell ((HBB.out.block w.heap.size hS0.out).trans BA.out) 0).trans rfl
    have a1 := (blk_cell ((HBB.out.block w.heap.size hS0.out).trans BA.out) 1).trans rfl
    have a2 := (blk_cell ((HBB.out.block w.heap.size hS0.out).trans BA.out) 2).trans rfl
    have a3 := (blk_cell ((HBB.out.block w.heap.size hS0.out).trans BA.out) 3).trans rfl
    simp only [List.getElem?_toArray, List.getElem?_cons_zero, List.getElem?_cons_succ] at a0 a1 a2 a3
    by_cases hks : 300 < key.size
    · go_wp2_with (first
        | (go_at_call 10; (with_reducible refine (HG.out _ (hW0.out.trans (HBB.out.mono hW0.out.size))).mono ?_); rintro e g1 ⟨rfl, hb⟩; have n1_ := Aside0.mk (HBB.out.trans (hb.mono HBB.out.size)); clear HBB; have HBB := n1_; clear n1_; clear hb HG a0 a1 a2 a3; have a0 := (blk_cell ((HBB.out.block w.heap.size hS0.out).trans BA.out) 0).trans rfl; have a1 := (blk_cell ((HBB.out.block w.heap.size hS0.out).trans BA.out) 1).trans rfl; have a2 := (blk_cell ((HBB.out.block w.heap.size hS0.out).trans BA.out) 2).trans rfl; have a3 := (blk_cell ((HBB.out.block w.heap.size hS0.out).trans BA.out) 3).trans rfl; simp only [List.getElem?_toArray, List.getElem?_cons_zero, List.getElem?_cons_succ] at a0 a1 a2 a3)
        | (go_at_call 11; (with_reducible refine (HA.out _).mono ?_); rintro e w8 ⟨rfl, hb⟩; have n1_ := Aside0.mk (HBB.out.trans (hb.mono HBB.out.size)); clear HBB; have HBB := n1_; clear n1_; clear hb))
      go_ret
      exact ⟨rfl, hW0.out.trans (HBB.out.mono hW0.out.size)⟩
    · go_wp2_with (first
        | (go_at_call 10; (with_reducible refine (HG.out _ (hW0.out.trans (HBB.out.mono hW0.out.size))).mono ?_); rintro e g1 ⟨rfl, hb⟩; have n1_ := Aside0.mk (HBB.out.trans (hb.mono HBB.out.size)); clear HBB; have HBB := n1_; clear n1_; clear hb HG a0 a1 a2 a3; have a0 := (blk_cell ((HBB.out.block w.heap.size hS0.out).trans BA.out) 0).trans rfl; have a1 := (blk_cell ((HBB.out.block w.heap.size hS0.out).trans BA.out) 1).trans rfl; have a2 := (blk_cell ((HBB.out.block w.heap.size hS0.out).trans BA.out) 2).trans rfl; have a3 := (blk_cell ((HBB.out.block w.heap.size hS0.out).trans BA.out) 3).trans rfl; simp only [List.getElem?_toArray, List.getElem?_cons_zero, List.getElem?_cons_succ] at a0 a1 a2 a3)
        | (go_at_call 12; (with_reducible refine (HAD.out _ (hW0.out.trans (HBB.out.mono hW0.out.size))).mono ?_); rintro e w1 ⟨v1, rfl, hR, hb⟩; have hR := CH.of_R hR; obtain ⟨A1, c1, rfl, hq1, hC1⟩ := hR; have n1_ := Aside0.mk (below_alloc (HBB.out.trans (hb.mono HBB.out.size)) (.cells #[.int .i64 xr.f0, .int .i64 xr.f1, .int .i64 xr.f2, .slice A1 xr.f3.length c1] 24)); clear HBB; have HBB := n1_; clear n1_; have B1 := Aside0.mk (heap_alloc_new w1 (.cells #[.int .i64 xr.f0, .int .i64 xr.f1, .int .i64 xr.f2, .slice A1 xr.f3.length c1] 24)); have L1 := Aside0.mk (show w1.heap.size < (w1.alloc (.cells #[.int .i64 xr.f0, .int .i64 xr.f1, .int .i64 xr.f2, .slice A1 xr.f3.length c1] 24)).heap.size by simp); have R1 := Aside0.mk (show CH (w1.alloc (.cells #[.int .i64 xr.f0, .int .i64 xr.f1, .int .i64 xr.f2, .slice A1 xr.f3.length c1] 24)) (.slice A1 xr.f3.length c1) xr.f3 from ⟨A1, c1, rfl, hq1, Kd.C_below hC1 (below_alloc (Below.refl _ w1) _)⟩); clear hb hC1 hq1 HAD a0 a1 a2 a3; have a0 := (blk_cell ((HBB.out.block w.heap.size hS0.out).trans BA.out) 0).trans rfl; have a1 := (blk_cell ((HBB.out.block w.heap.size hS0.out).trans BA.out) 1).trans rfl; have a2 := (blk_cell ((HBB.out.block w.heap.size hS0.out).trans BA.out) 2).trans rfl; have a3 := (blk_cell ((HBB.out.block w.heap.size hS0.out).trans BA.out) 3).trans rfl; simp only [List.getElem?_toArray, List.getElem?_cons_zero, List.getElem?_cons_succ] at a0 a1 a2 a3)
        | (go_at_call 13; (with_reducible refine (HRA.out _ (hW0.out.trans (HBB.out.mono hW0.out.size))).mono ?_); rintro e w2 ⟨v2, rfl, hR, hb⟩; obtain ⟨A2, c2, rfl, hq2, hC2⟩ := hR; have n1_ := Aside0.mk (below_alloc (HBB.out.trans (hb.mono HBB.out.size)) (.cells #[.int .i64 xr.f0, .int .i64 xr.f1, .int .i64 xr.f2, .slice A2 xr.f3.length c2] 24)); clear HBB; have HBB := n1_; clear n1_; have H1 := Aside0.mk (below_alloc hb (.cells #[.int .i64 xr.f0, .int .i64 xr.f1, .int .i64 xr.f2, .slice A2 xr.f3.length c2] 24)); have B2 := Aside0.mk (heap_alloc_new w2 (.cells #[.int .i64 xr.f0, .int .i64 xr.f1, .int .i64 xr.f2, .slice A2 xr.f3.length c2] 24)); have L2 := Aside0.mk (show w2.heap.size < (w2.alloc (.cells #[.int .i64 xr.f0, .int .i64 xr.f1, .int .i64 xr.f2, .slice A2 xr.f3.length c2] 24)).heap.size by simp); have R2 := Aside0.mk (show CH (w2.alloc (.cells #[.int .i64 xr.f0, .int .i64 xr.f1, .int .i64 xr.f2, .slice A2 xr.f3.length c2] 24)) (.slice A2 xr.f3.length c2) xr.f3 from ⟨A2, c2, rfl, hq2, Kd.C_below hC2 (below_alloc (Below.refl _ w2) _)⟩); clear hb hC2 hq2 HRA a0 a1 a2 a3; have a0 := (blk_cell ((HBB.out.block w.heap.size hS0.out).trans BA.out) 0).trans rfl; have a1 := (blk_cell ((HBB.out.block w.heap.size hS0.out).trans BA.out) 1).trans rfl; have a2 := (blk_cell ((HBB.out.block w.heap.size hS0.out).trans BA.out) 2).trans rfl; have a3 := (blk_cell ((HBB.out.block w.heap.size hS0.out).trans BA.out) 3).trans rfl; simp only [List.getElem?_toArray, List.getElem?_cons_zero, List.getElem?_cons_succ] at a0 a1 a2 a3)
        | (go_at_call 14; (with_reducible refine (HNW.out _ ).mono ?_); rintro e w3 ⟨v3, rfl, hR, hb⟩; have hR := CH.of_R hR; obtain ⟨A3, c3, rfl, hq3, hC3⟩ := hR; have n1_ := Aside0.mk (below_alloc (HBB.out.trans (hb.mono HBB.out.size)) (.cells #[.int .i64 yr.f0, .int .i64 yr.f1, .int .i64 yr.f2, .slice A3 yr.f3.length c3] 24)); clear HBB; have HBB := n1_; clear n1_; have n1_ := Aside0.mk (below_alloc (H1.out.trans (hb.mono H1.out.size)) (.cells #[.int .i64 yr.f0, .int .i64 yr.f1, .int .i64 yr.f2, .slice A3 yr.f3.length c3] 24)); clear H1; have H1 := n1_; clear n1_; have H2 := Aside0.mk (below_alloc hb (.cells #[.int .i64 yr.f0, .int .i64 yr.f1, .int .i64 yr.f2, .slice A3 yr.f3.length c3] 24)); have B3 := Aside0.mk (heap_alloc_new w3 (.cells #[.int .i64 yr.f0, .int .i64 yr.f1, .int .i64 yr.f2, .slice A3 yr.f3.length c3] 24)); have L3 := Aside0.mk (show w3.heap.size < (w3.alloc (.cells #[.int .i64 yr.f0, .int .i64 yr.f1, .int .i64 yr.f2, .slice A3 yr.f3.length c3] 24)).heap.size by simp); have R3 := Aside0.mk (show CH (w3.alloc (.cells #[.int .i64 yr.f0, .int .i64 yr.f1, .int .i64 yr.f2, .slice A3 yr.f3.length c3] 24)) (.slice A3 yr.f3.length c3) yr.f3 from ⟨A3, c3, rfl, hq3, Kd.C_below hC3 (below_alloc (Below.refl _ w3) _)⟩); clear hb hC3 hq3 HNW a0 a1 a2 a3; have a0 := (blk_cell ((HBB.out.block w.heap.size hS0.out).trans BA.out) 0).trans rfl; have a1 := (blk_cell ((HBB.out.block w.heap.size hS0.out).trans BA.out) 1).trans rfl; have a2 := (blk_cell ((HBB.out.block w.heap.size hS0.out).trans BA.out) 2).trans rfl; have a3 := (blk_cell ((HBB.out.block w.heap.size hS0.out).trans BA.out) 3).trans rfl; simp only [List.getElem?_toArray, List.getElem?_cons_zero, List.getElem?_cons_succ] at a0 a1 a2 a3)
        | (go_at_call 15; (with_reducible refine (HRN.out _ ).mono ?_); rintro e w4 ⟨v4, rfl, hR, hb⟩; have hR := CH.of_R hR; obtain ⟨A4, c4, rfl, hq4, hC4⟩ := hR; have n1_ := Aside0.mk (below_alloc (HBB.out.trans (hb.mono HBB.out.size)) (.cells #[.int .i64 yr.f0, .int .i64 yr.f1, .int .i64 yr.f2, .slice A4 yr.f3.length c4] 24)); clear HBB; have HBB := n1_; clear n1_; have n1_ := Aside0.mk (below_alloc (H1.out.trans (hb.mono H1.out.size)) (.cells #[.int .i64 yr.f0, .int .i64 yr.f1, .int .i64 yr.f2, .slice A4 yr.f3.length c4] 24)); clear H1; have H1 := n1_; clear n1_; have n1_ := Aside0.mk (below_alloc (H2.out.trans (hb.mono H2.out.size)) (.cells #[.int .i64 yr.f0, .int .i64 yr.f1, .int .i64 yr.f2, .slice A4 yr.f3.length c4] 24)); clear H2; have H2 := n1_; clear n1_; have H3 := Aside0.mk (below_alloc hb (.cells #[.int .i64 yr.f0, .int .i64 yr.f1, .int .i64 yr.f2, .slice A4 yr.f3.length c4] 24)); have B4 := Aside0.mk (heap_alloc_new w4 (.cells #[.int .i64 yr.f0, .int .i64 yr.f1, .int .i64 yr.f2, .slice A4 yr.f3.length c4] 24)); have L4 := Aside0.mk (show w4.heap.size < (w4.alloc (.cells #[.int .i64 yr.f0, .int .i64 yr.f1, .int .i64 yr.f2, .slice A4 yr.f3.length c4] 24)).heap.size by simp); have R4 := Aside0.mk (show CH (w4.alloc (.cells #[.int .i64 yr.f0, .int .i64 yr.f1, .int .i64 yr.f2, .slice A4 yr.f3.length c4] 24)) (.slice A4 yr.f3.length c4) yr.f3 from ⟨A4, c4, rfl, hq4, Kd.C_below hC4 (below_alloc (Below.refl _ w4) _)⟩); clear hb hC4 hq4 HRN a0 a1 a2 a3))
      have R1' := Aside0.mk (R1.out.below H1.out)
      have R2' := Aside0.mk (R2.out.below H2.out)
      have R3' := Aside0.mk (R3.out.below H3.out)
      have Ba := Aside0.mk ((HBB.out.block w.heap.size hS0.out).trans BA.out)
      have Bb1 := Aside0.mk ((H1.out.block w1.heap.size L1.out).trans B1.out)
      have Bb2 := Aside0.mk ((H2.out.block w2.heap.size L2.out).trans B2.out)
      have Bb3 := Aside0.mk ((H3.out.block w3.heap.size L3.out).trans B3.out)
      have Bb4 := B4
      have La := Aside0.mk (heap_lt Ba.out)
      have Lb1 := Aside0.mk (heap_lt Bb1.out)
      have Lb2 := Aside0.mk (heap_lt Bb2.out)
      have Lb3 := Aside0.mk (heap_lt Bb3.out)
      have Lb4 := Aside0.mk (heap_lt Bb4.out)
      have HB3 := Aside0.mk (Below.refl (w4.alloc (.cells #[.int .i64 yr.f0, .int .i64 yr.f1, .int .i64 yr.f2, .slice A4 yr.f3.length c4] 24)).heap.size (w4.alloc (.cells #[.int .i64 yr.f0, .int .i64 yr.f1, .int .i64 yr.f2, .slice A4 yr.f3.length c4] 24)))
      clear H1 H2 H3 R1 R2 R3 B1 B2 B3 L1 L2 L3 L4 BA
      generalize (w4.alloc (.cells #[.int .i64 yr.f0, .int .i64 yr.f1, .int .i64 yr.f2, .slice A4 yr.f3.length c4] 24)) = W4 at *
      have a0 := (blk_cell ((HB3.out.block w.heap.size La.out).trans Ba.out) 0).trans rfl
      have a1 := (blk_cell ((HB3.out.block w.heap.size La.out).trans Ba.out) 1).trans rfl
      have a2 := (blk_cell ((HB3.out.block w.heap.size La.out).trans Ba.out) 2).trans rfl
      have a3 := (blk_cell ((HB3.out.block w.heap.size La.out).trans Ba.out) 3).trans rfl
      have y10 := (blk_cell ((HB3.out.block w1.heap.size Lb1.out).trans Bb1.out) 0).trans rfl
      have y11 := (blk_cell ((HB3.out.block w1.heap.size Lb1.out).trans Bb1.out) 1).trans rfl
      have y12 := (blk_cell ((HB3.out.block w1.heap.size Lb1.out).trans Bb1.out) 2).trans rfl
      have y13 := (blk_cell ((HB3.out.block w1.heap.size Lb1.out).trans Bb1.out) 3).trans rfl
      have y20 := (blk_cell ((HB3.out.block w2.heap.size Lb2.out).trans Bb2.out) 0).trans rfl
      have y21 := (blk_cell ((HB3.out.block w2.heap.size Lb2.out).trans Bb2.out) 1).trans rfl
      have y22 := (blk_cell ((HB3.out.block w2.heap.size Lb2.out).trans Bb2.out) 2).trans rfl
      have y23 := (blk_cell ((HB3.out.block w2.heap.size Lb2.out).trans Bb2.out) 3).trans rfl
      have y30 := (blk_cell ((HB3.out.block w3.heap.size Lb3.out).trans Bb3.out) 0).trans rfl
      have y31 := (blk_cell ((HB3.out.block w3.heap.size Lb3.out).trans Bb3.out) 1).trans rfl
      have y32 := (blk_cell ((HB3.out.block w3.heap.size Lb3.out).trans Bb3.out) 2).trans rfl
      have y33 := (blk_cell ((HB3.out.block w3.heap.size Lb3.out).trans Bb3.out) 3).trans rfl
      have y40 := (blk_cell ((HB3.out.block w4.heap.size Lb4.out).trans Bb4.out) 0).trans rfl
      have y41 := (blk_cell ((HB3.out.block w4.heap.size Lb4.out).trans Bb4.out) 1).trans rfl
      have y42 := (blk_cell ((HB3.out.block w4.heap.size Lb4.out).trans Bb4.out) 2).trans rfl
      have y43 := (blk_cell ((HB3.out.block w4.heap.size Lb4.out).trans Bb4.out) 3).trans rfl
      simp only [List.getElem?_toArray, List.getElem?_cons_zero, List.getElem?_cons_succ] at a0 a1 a2 a3 y10 y11 y12 y13 y20 y21 y22 y23 y30 y31 y32 y33 y40 y41 y42 y43
      have HBd := Aside0.mk (show Below W4.heap.size W4 W4.drew by exact below_drew (Below.refl _ _))
      go_region_held3 (fun w' => w'.cell? ⟨w.heap.size, 0, none⟩ = some (.int .i64 a.f0) ∧ w'.cell? ⟨w.heap.size, 1, none⟩ = some (.int .i64 a.f1) ∧ w'.cell? ⟨w.heap.size, 2, none⟩ = some (.int .i64 a.f2) ∧ w'.cell? ⟨w.heap.size, 3, none⟩ = some (.slice A a.f3.length ca) ∧ w'.cell? ⟨w1.heap.size, 0, none⟩ = some (.int .i64 xr.f0) ∧ w'.cell? ⟨w1.heap.size, 1, none⟩ = some (.int .i64 xr.f1) ∧ w'.cell? ⟨w1.heap.size, 2, none⟩ = some (.int .i64 xr.f2) ∧ w'.cell? ⟨w1.heap.size, 3, none⟩ = some (.slice A1 xr.f3.length c1) ∧ w'.cell? ⟨w2.heap.size, 0, none⟩ = some (.int .i64 xr.f0) ∧ w'.cell? ⟨w2.heap.size, 1, none⟩ = some (.int .i64 xr.f1) ∧ w'.cell? ⟨w2.heap.size, 2, none⟩ = some (.int .i64 xr.f2) ∧ w'.cell? ⟨w2.heap.size, 3, none⟩ = some (.slice A2 xr.f3.length c2) ∧ w'.cell? ⟨w3.heap.size, 0, none⟩ = some (.int .i64 yr.f0) ∧ w'.cell? ⟨w3.heap.size, 1, none⟩ = some (.int .i64 yr.f1) ∧ w'.cell? ⟨w3.heap.size, 2, none⟩ = some (.int .i64 yr.f2) ∧ w'.cell? ⟨w3.heap.size, 3, none⟩ = some (.slice A3 yr.f3.length c3) ∧ w'.cell? ⟨w4.heap.size, 0, none⟩ = some (.int .i64 yr.f0) ∧ w'.cell? ⟨w4.heap.size, 1, none⟩ = some (.int .i64 yr.f1) ∧ w'.cell? ⟨w4.heap.size, 2, none⟩ = some (.int .i64 yr.f2) ∧ w'.cell? ⟨w4.heap.size, 3, none⟩ = some (.slice A4 yr.f3.length c4)) (go_keep)
        (first
        | (go_at_call 16; (with_reducible refine (HCK.out _ (by first | exact (hW0.out.trans ((HBB.out.trans (HB3.out.mono HBB.out.size)).mono hW0.out.size)) | exact (hW0.out.trans ((HBB.out.trans (HBd.out.mono HBB.out.size)).mono hW0.out.size)))).mono ?_); rintro e u1 ⟨rfl, hb⟩; have n1_ : Aside0 (Below W4.heap.size W4 u1) := ⟨by first | exact HB3.out.trans (hb.mono HB3.out.size) | exact HBd.out.trans (hb.mono HBd.out.size)⟩; clear HB3; have HB3 := n1_; clear n1_; clear hb a0 a1 a2 a3 y10 y11 y12 y13 y20 y21 y22 y23 y30 y31 y32 y33 y40 y41 y42 y43; have a0 := (blk_cell ((HB3.out.block w.heap.size La.out).trans Ba.out) 0).trans rfl; have a1 := (blk_cell ((HB3.out.block w.heap.size La.out).trans Ba.out) 1).trans rfl; have a2 := (blk_cell ((HB3.out.block w.heap.size La.out).trans Ba.out) 2).trans rfl; have a3 := (blk_cell ((HB3.out.block w.heap.size La.out).trans Ba.out) 3).trans rfl; have y10 := (blk_cell ((HB3.out.block w1.heap.size Lb1.out).trans Bb1.out) 0).trans rfl; have y11 := (blk_cell ((HB3.out.block w1.heap.size Lb1.out).trans Bb1.out) 1).trans rfl; have y12 := (blk_cell ((HB3.out.block w1.heap.size Lb1.out).trans Bb1.out) 2).trans rfl; have y13 := (blk_cell ((HB3.out.block w1.heap.size Lb1.out).trans Bb1.out) 3).trans rfl; have y20 := (blk_cell ((HB3.out.block w2.heap.size Lb2.out).trans Bb2.out) 0).trans rfl; have y21 := (blk_cell ((HB3.out.block w2.heap.size Lb2.out).trans Bb2.out) 1).trans rfl; have y22 := (blk_cell ((HB3.out.block w2.heap.size Lb2.out).trans Bb2.out) 2).trans rfl; have y23 := (blk_cell ((HB3.out.block w2.heap.size Lb2.out).trans Bb2.out) 3).trans rfl; have y30 := (blk_cell ((HB3.out.block w3.heap.size Lb3.out).trans Bb3.out) 0).trans rfl; have y31 := (blk_cell ((HB3.out.block w3.heap.size Lb3.out).trans Bb3.out) 1).trans rfl; have y32 := (blk_cell ((HB3.out.block w3.heap.size Lb3.out).trans Bb3.out) 2).trans rfl; have y33 := (blk_cell ((HB3.out.block w3.heap.size Lb3.out).trans Bb3.out) 3).trans rfl; have y40 := (blk_cell ((HB3.out.block w4.heap.size Lb4.out).trans Bb4.out) 0).trans rfl; have y41 := (blk_cell ((HB3.out.block w4.heap.size Lb4.out).trans Bb4.out) 1).trans rfl; have y42 := (blk_cell ((HB3.out.block w4.heap.size Lb4.out).trans Bb4.out) 2).trans rfl; have y43 := (blk_cell ((HB3.out.block w4.heap.size Lb4.out).trans Bb4.out) 3).trans rfl; simp only [List.getElem?_toArray, List.getElem?_cons_zero, List.getElem?_cons_succ] at a0 a1 a2 a3 y10 y11 y12 y13 y20 y21 y22 y23 y30 y31 y32 y33 y40 y41 y42 y43)
        | (go_at_call 17; (with_reducible refine (HCR.out _ (by first | exact (hW0.out.trans ((HBB.out.trans (HB3.out.mono HBB.out.size)).mono hW0.out.size)) | exact (hW0.out.trans ((HBB.out.trans (HBd.out.mono HBB.out.size)).mono hW0.out.size)))).mono ?_); rintro e u2 ⟨rfl, hb⟩; have n1_ : Aside0 (Below W4.heap.size W4 u2) := ⟨by first | exact HB3.out.trans (hb.mono HB3.out.size) | exact HBd.out.trans (hb.mono HBd.out.size)⟩; clear HB3; have HB3 := n1_; clear n1_; clear hb a0 a1 a2 a3 y10 y11 y12 y13 y20 y21 y22 y23 y30 y31 y32 y33 y40 y41 y42 y43; have a0 := (blk_cell ((HB3.out.block w.heap.size La.out).trans Ba.out) 0).trans rfl; have a1 := (blk_cell ((HB3.out.block w.heap.size La.out).trans Ba.out) 1).trans rfl; have a2 := (blk_cell ((HB3.out.block w.heap.size La.out).trans Ba.out) 2).trans rfl; have a3 := (blk_cell ((HB3.out.block w.heap.size La.out).trans Ba.out) 3).trans rfl; have y10 := (blk_cell ((HB3.out.block w1.heap.size Lb1.out).trans Bb1.out) 0).trans rfl; have y11 := (blk_cell ((HB3.out.block w1.heap.size Lb1.out).trans Bb1.out) 1).trans rfl; have y12 := (blk_cell ((HB3.out.block w1.heap.size Lb1.out).trans Bb1.out) 2).trans rfl; have y13 := (blk_cell ((HB3.out.block w1.heap.size Lb1.out).trans Bb1.out) 3).trans rfl; have y20 := (blk_cell ((HB3.out.block w2.heap.size Lb2.out).trans Bb2.out) 0).trans rfl; have y21 := (blk_cell ((HB3.out.block w2.heap.size Lb2.out).trans Bb2.out) 1).trans rfl; have y22 := (blk_cell ((HB3.out.block w2.heap.size Lb2.out).trans Bb2.out) 2).trans rfl; have y23 := (blk_cell ((HB3.out.block w2.heap.size Lb2.out).trans Bb2.out) 3).trans rfl; have y30 := (blk_cell ((HB3.out.block w3.heap.size Lb3.out).trans Bb3.out) 0).trans rfl; have y31 := (blk_cell ((HB3.out.block w3.heap.size Lb3.out).trans Bb3.out) 1).trans rfl; have y32 := (blk_cell ((HB3.out.block w3.heap.size Lb3.out).trans Bb3.out) 2).trans rfl; have y33 := (blk_cell ((HB3.out.block w3.heap.size Lb3.out).trans Bb3.out) 3).trans rfl; have y40 := (blk_cell ((HB3.out.block w4.heap.size Lb4.out).trans Bb4.out) 0).trans rfl; have y41 := (blk_cell ((HB3.out.block w4.heap.size Lb4.out).trans Bb4.out) 1).trans rfl; have y42 := (blk_cell ((HB3.out.block w4.heap.size Lb4.out).trans Bb4.out) 2).trans rfl; have y43 := (blk_cell ((HB3.out.block w4.heap.size Lb4.out).trans Bb4.out) 3).trans rfl; simp only [List.getElem?_toArray, List.getElem?_cons_zero, List.getElem?_cons_succ] at a0 a1 a2 a3 y10 y11 y12 y13 y20 y21 y22 y23 y30 y31 y32 y33 y40 y41 y42 y43)
        | (go_at_call 18; (with_reducible refine (HSX.out _ _ _ (by first | exact R1'.out.below HB3.out | exact R1'.out.below HBd.out) (by first | exact R2'.out.below HB3.out | exact R2'.out.below HBd.out)).mono ?_); rintro e u3 ⟨rfl, hb⟩; have n1_ : Aside0 (Below W4.heap.size W4 u3) := ⟨by first | exact HB3.out.trans (hb.mono HB3.out.size) | exact HBd.out.trans (hb.mono HBd.out.size)⟩; clear HB3; have HB3 := n1_; clear n1_; clear hb a0 a1 a2 a3 y10 y11 y12 y13 y20 y21 y22 y23 y30 y31 y32 y33 y40 y41 y42 y43; have a0 := (blk_cell ((HB3.out.block w.heap.size La.out).trans Ba.out) 0).trans rfl; have a1 := (blk_cell ((HB3.out.block w.heap.size La.out).trans Ba.out) 1).trans rfl; have a2 := (blk_cell ((HB3.out.block w.heap.size La.out).trans Ba.out) 2).trans rfl; have a3 := (blk_cell ((HB3.out.block w.heap.size La.out).trans Ba.out) 3).trans rfl; have y10 := (blk_cell ((HB3.out.block w1.heap.size Lb1.out).trans Bb1.out) 0).trans rfl; have y11 := (blk_cell ((HB3.out.block w1.heap.size Lb1.out).trans Bb1.out) 1).trans rfl; have y12 := (blk_cell ((HB3.out.block w1.heap.size Lb1.out).trans Bb1.out) 2).trans rfl; have y13 := (blk_cell ((HB3.out.block w1.heap.size Lb1.out).trans Bb1.out) 3).trans rfl; have y20 := (blk_cell ((HB3.out.block w2.heap.size Lb2.out).trans Bb2.out) 0).trans rfl; have y21 := (blk_cell ((HB3.out.block w2.heap.size Lb2.out).trans Bb2.out) 1).trans rfl; have y22 := (blk_cell ((HB3.out.block w2.heap.size Lb2.out).trans Bb2.out) 2).trans rfl; have y23 := (blk_cell ((HB3.out.block w2.heap.size Lb2.out).trans Bb2.out) 3).trans rfl; have y30 := (blk_cell ((HB3.out.block w3.heap.size Lb3.out).trans Bb3.out) 0).trans rfl; have y31 := (blk_cell ((HB3.out.block w3.heap.size Lb3.out).trans Bb3.out) 1).trans rfl; have y32 := (blk_cell ((HB3.out.block w3.heap.size Lb3.out).trans Bb3.out) 2).trans rfl; have y33 := (blk_cell ((HB3.out.block w3.heap.size Lb3.out).trans Bb3.out) 3).trans rfl; have y40 := (blk_cell ((HB3.out.block w4.heap.size Lb4.out).trans Bb4.out) 0).trans rfl; have y41 := (blk_cell ((HB3.out.block w4.heap.size Lb4.out).trans Bb4.out) 1).trans rfl; have y42 := (blk_cell ((HB3.out.block w4.heap.size Lb4.out).trans Bb4.out) 2).trans rfl; have y43 := (blk_cell ((HB3.out.block w4.heap.size Lb4.out).trans Bb4.out) 3).trans rfl; simp only [List.getElem?_toArray, List.getElem?_cons_zero, List.getElem?_cons_succ] at a0 a1 a2 a3 y10 y11 y12 y13 y20 y21 y22 y23 y30 y31 y32 y33 y40 y41 y42 y43)
        | (go_at_call 18; (with_reducible refine (HSY.out _ _ _ (by first | exact R3'.out.below HB3.out | exact R3'.out.below HBd.out) (by first | exact R4.out.below HB3.out | exact R4.out.below HBd.out)).mono ?_); rintro e u4 ⟨rfl, hb⟩; have n1_ : Aside0 (Below W4.heap.size W4 u4) := ⟨by first | exact HB3.out.trans (hb.mono HB3.out.size) | exact HBd.out.trans (hb.mono HBd.out.size)⟩; clear HB3; have HB3 := n1_; clear n1_; clear hb a0 a1 a2 a3 y10 y11 y12 y13 y20 y21 y22 y23 y30 y31 y32 y33 y40 y41 y42 y43; have a0 := (blk_cell ((HB3.out.block w.heap.size La.out).trans Ba.out) 0).trans rfl; have a1 := (blk_cell ((HB3.out.block w.heap.size La.out).trans Ba.out) 1).trans rfl; have a2 := (blk_cell ((HB3.out.block w.heap.size La.out).trans Ba.out) 2).trans rfl; have a3 := (blk_cell ((HB3.out.block w.heap.size La.out).trans Ba.out) 3).trans rfl; have y10 := (blk_cell ((HB3.out.block w1.heap.size Lb1.out).trans Bb1.out) 0).trans rfl; have y11 := (blk_cell ((HB3.out.block w1.heap.size Lb1.out).trans Bb1.out) 1).trans rfl; have y12 := (blk_cell ((HB3.out.block w1.heap.size Lb1.out).trans Bb1.out) 2).trans rfl; have y13 := (blk_cell ((HB3.out.block w1.heap.size Lb1.out).trans Bb1.out) 3).trans rfl; have y20 := (blk_cell ((HB3.out.block w2.heap.size Lb2.out).trans Bb2.out) 0).trans rfl; have y21 := (blk_cell ((HB3.out.block w2.heap.size Lb2.out).trans Bb2.out) 1).trans rfl; have y22 := (blk_cell ((HB3.out.block w2.heap.size Lb2.out).trans Bb2.out) 2).trans rfl; have y23 := (blk_cell ((HB3.out.block w2.heap.size Lb2.out).trans Bb2.out) 3).trans rfl; have y30 := (blk_cell ((HB3.out.block w3.heap.size Lb3.out).trans Bb3.out) 0).trans rfl; have y31 := (blk_cell ((HB3.out.block w3.heap.size Lb3.out).trans Bb3.out) 1).trans rfl; have y32 := (blk_cell ((HB3.out.block w3.heap.size Lb3.out).trans Bb3.out) 2).trans rfl; have y33 := (blk_cell ((HB3.out.block w3.heap.size Lb3.out).trans Bb3.out) 3).trans rfl; have y40 := (blk_cell ((HB3.out.block w4.heap.size Lb4.out).trans Bb4.out) 0).trans rfl; have y41 := (blk_cell ((HB3.out.block w4.heap.size Lb4.out).trans Bb4.out) 1).trans rfl; have y42 := (blk_cell ((HB3.out.block w4.heap.size Lb4.out).trans Bb4.out) 2).trans rfl; have y43 := (blk_cell ((HB3.out.block w4.heap.size Lb4.out).trans Bb4.out) 3).trans rfl; simp only [List.getElem?_toArray, List.getElem?_cons_zero, List.getElem?_cons_succ] at a0 a1 a2 a3 y10 y11 y12 y13 y20 y21 y22 y23 y30 y31 y32 y33 y40 y41 y42 y43)
        | (go_at_call 11; (with_reducible refine (HA.out _).mono ?_); rintro e w7 ⟨rfl, hb⟩; have n1_ : Aside0 (Below W4.heap.size W4 w7) := ⟨by first | exact HB3.out.trans (hb.mono HB3.out.size) | exact HBd.out.trans (hb.mono HBd.out.size)⟩; clear HB3; have HB3 := n1_; clear n1_; clear hb a0 a1 a2 a3 y10 y11 y12 y13 y20 y21 y22 y23 y30 y31 y32 y33 y40 y41 y42 y43; have a0 := (blk_cell ((HB3.out.block w.heap.size La.out).trans Ba.out) 0).trans rfl; have a1 := (blk_cell ((HB3.out.block w.heap.size La.out).trans Ba.out) 1).trans rfl; have a2 := (blk_cell ((HB3.out.block w.heap.size La.out).trans Ba.out) 2).trans rfl; have a3 := (blk_cell ((HB3.out.block w.heap.size La.out).trans Ba.out) 3).trans rfl; have y10 := (blk_cell ((HB3.out.block w1.heap.size Lb1.out).trans Bb1.out) 0).trans rfl; have y11 := (blk_cell ((HB3.out.block w1.heap.size Lb1.out).trans Bb1.out) 1).trans rfl; have y12 := (blk_cell ((HB3.out.block w1.heap.size Lb1.out).trans Bb1.out) 2).trans rfl; have y13 := (blk_cell ((HB3.out.block w1.heap.size Lb1.out).trans Bb1.out) 3).trans rfl; have y20 := (blk_cell ((HB3.out.block w2.heap.size Lb2.out).trans Bb2.out) 0).trans rfl; have y21 := (blk_cell ((HB3.out.block w2.heap.size Lb2.out).trans Bb2.out) 1).trans rfl; have y22 := (blk_cell ((HB3.out.block w2.heap.size Lb2.out).trans Bb2.out) 2).trans rfl; have y23 := (blk_cell ((HB3.out.block w2.heap.size Lb2.out).trans Bb2.out) 3).trans rfl; have y30 := (blk_cell ((HB3.out.block w3.heap.size Lb3.out).trans Bb3.out) 0).trans rfl; have y31 := (blk_cell ((HB3.out.block w3.heap.size Lb3.out).trans Bb3.out) 1).trans rfl; have y32 := (blk_cell ((HB3.out.block w3.heap.size Lb3.out).trans Bb3.out) 2).trans rfl; have y33 := (blk_cell ((HB3.out.block w3.heap.size Lb3.out).trans Bb3.out) 3).trans rfl; have y40 := (blk_cell ((HB3.out.block w4.heap.size Lb4.out).trans Bb4.out) 0).trans rfl; have y41 := (blk_cell ((HB3.out.block w4.heap.size Lb4.out).trans Bb4.out) 1).trans rfl; have y42 := (blk_cell ((HB3.out.block w4.heap.size Lb4.out).trans Bb4.out) 2).trans rfl; have y43 := (blk_cell ((HB3.out.block w4.heap.size Lb4.out).trans Bb4.out) 3).trans rfl; simp only [List.getElem?_toArray, List.getElem?_cons_zero, List.getElem?_cons_succ] at a0 a1 a2 a3 y10 y11 y12 y13 y20 y21 y22 y23 y30 y31 y32 y33 y40 y41 y42 y43))
      all_goals
        go_wp2
        go_ret
        exact ⟨rfl, hW0.out.trans ((HBB.out.trans (HB3.out.mono HBB.out.size)).mono hW0.out.size)⟩
end Go.Proofs.Ytgpkpeefbkcjeaa.H
