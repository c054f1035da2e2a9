/- The walk of HeavyhittersMerge: printed by gen_klmerge.py. -/
import Derived.Test.YtgpkpeefbkcjeaaKRMerge
import Derived.Test.YtgpkpeefbkcjeaaKMerge
namespace Go.Proofs.Ytgpkpeefbkcjeaa.H
open Go Go.RowKit Go.Proofs.YtgpkpeefbkcjeaaW.PrintWords Go.Proofs.YtgpkpeefbkcjeaaW.PrintLast Go.Proofs.YtgpkpeefbkcjeaaW.PrintMore Go.Proofs.Ytgpkpeefbkcjeaa.PAll
set_option linter.unusedVariables false
set_option linter.unusedSimpArgs false

theorem mrgH_len' (x y : HV) : (mrgH x y).1.f3.length ≤ x.f3.length + y.f3.length := by
  unfold mrgH
  split
  · simp [zH]
  split
  · simp [zH]
  split
  · simp [zH]
  · unfold shrtH shrt
    split
    · rw [cutI_len]; exact Nat.le_trans List.countP_le_length (mrgI_len _ _)
    · exact mrgI_len _ _

set_option maxRecDepth 100000 in
set_option maxHeartbeats 16000000 in
theorem Merge_row (w : World) (a : HV) (A : Option Addr) (ca : Nat) (hra : Kd.C k58 w A a.f3.length a.f3) (hca : a.f3.length ≤ ca) (b : HV) (B : Option Addr) (cb : Nat) (hrb : Kd.C k58 w B b.f3.length b.f3) (hcb : b.f3.length ≤ cb) :
    Calls Try.prog 5 #[.agg #[.int .i64 a.f0, .int .i64 a.f1, .int .i64 a.f2, .slice A a.f3.length ca], .agg #[.int .i64 b.f0, .int .i64 b.f1, .int .i64 b.f2, .slice B b.f3.length cb]] w fun e w' => e = .returned (.bool true) ∧ Below w.heap.size w w' := by
  have HGa := Aside0.mk (fun W (h : Below w.heap.size w W) => Great_calls a A ca W (Kd.C_below hra h) hca)
  have HGb := Aside0.mk (fun W (h : Below w.heap.size w W) => Great_calls b B cb W (Kd.C_below hrb h) hcb)
  have HA := Aside0.mk (fun W => awake_calls W)
  have hu2 := Try.underlying24
  by_cases hg : 20 < a.f3.length
  · rw [decide_eq_true hg] at HGa
    clear hg hra hrb
    go_enter Try.func5, Try.ntmps5
    go_wp2_with fail
    have ba := heap_alloc_keep (o := (.cells #[.int .i64 b.f0, .int .i64 b.f1, .int .i64 b.f2, .slice B b.f3.length cb] 24)) (heap_alloc_new w (.cells #[.int .i64 a.f0, .int .i64 a.f1, .int .i64 a.f2, .slice A a.f3.length ca] 24))
    have bb := heap_alloc_new (w.alloc (.cells #[.int .i64 a.f0, .int .i64 a.f1, .int .i64 a.f2, .slice A a.f3.length ca] 24)) (.cells #[.int .i64 b.f0, .int .i64 b.f1, .int .i64 b.f2, .slice B b.f3.length cb] 24)
    have hW0 := Aside0.mk (show Below w.heap.size w ((w.alloc (.cells #[.int .i64 a.f0, .int .i64 a.f1, .int .i64 a.f2, .slice A a.f3.length ca] 24)).alloc (.cells #[.int .i64 b.f0, .int .i64 b.f1, .int .i64 b.f2, .slice B b.f3.length cb] 24)) by repeat (first | exact Below.refl _ _ | apply below_alloc))
    have hSa := Aside0.mk (show w.heap.size < ((w.alloc (.cells #[.int .i64 a.f0, .int .i64 a.f1, .int .i64 a.f2, .slice A a.f3.length ca] 24)).alloc (.cells #[.int .i64 b.f0, .int .i64 b.f1, .int .i64 b.f2, .slice B b.f3.length cb] 24)).heap.size by simp; omega)
    have hSb := Aside0.mk (show w.heap.size + 1 < ((w.alloc (.cells #[.int .i64 a.f0, .int .i64 a.f1, .int .i64 a.f2, .slice A a.f3.length ca] 24)).alloc (.cells #[.int .i64 b.f0, .int .i64 b.f1, .int .i64 b.f2, .slice B b.f3.length cb] 24)).heap.size by simp)
    have HBB := Aside0.mk (Below.refl ((w.alloc (.cells #[.int .i64 a.f0, .int .i64 a.f1, .int .i64 a.f2, .slice A a.f3.length ca] 24)).alloc (.cells #[.int .i64 b.f0, .int .i64 b.f1, .int .i64 b.f2, .slice B b.f3.length cb] 24)).heap.size ((w.alloc (.cells #[.int .i64 a.f0, .int .i64 a.f1, .int .i64 a.f2, .slice A a.f3.length ca] 24)).alloc (.cells #[.int .i64 b.f0, .int .i64 b.f1, .int .i64 b.f2, .slice B b.f3.length cb] 24)))
    generalize hWW : ((w.alloc (.cells #[.int .i64 a.f0, .int .i64 a.f1, .int .i64 a.f2, .slice A a.f3.length ca] 24)).alloc (.cells #[.int .i64 b.f0, .int .i64 b.f1, .int .i64 b.f2, .slice B b.f3.length cb] 24)) = W0 at *
    clear hWW
    simp only [World.size_alloc] at ba bb
    have BA := Aside0.mk ba
    have BB := Aside0.mk bb
    clear ba bb
    have a0 := (blk_cell ((HBB.out.block w.heap.size hSa.out).trans BA.out) 0).trans rfl
    have a1 := (blk_cell ((HBB.out.block w.heap.size hSa.out).trans BA.out) 1).trans rfl
    have a2 := (blk_cell ((HBB.out.block w.heap.size hSa.out).trans BA.out) 2).trans rfl
    have a3 := (blk_cell ((HBB.out.block w.heap.size hSa.out).trans BA.out) 3).trans rfl
    have b0 := (blk_cell ((HBB.out.block (w.heap.size + 1) hSb.out).trans BB.out) 0).trans rfl
    have b1 := (blk_cell ((HBB.out.block (w.heap.size + 1) hSb.out).trans BB.out) 1).trans rfl
    have b2 := (blk_cell ((HBB.out.block (w.heap.size + 1) hSb.out).trans BB.out) 2).trans rfl
    have b3 := (blk_cell ((HBB.out.block (w.heap.size + 1) hSb.out).trans BB.out) 3).trans rfl
    simp only [List.getElem?_toArray, List.getElem?_cons_zero, List.getElem?_cons_succ] at a0 a1 a2 a3 b0 b1 b2 b3
    go_wp2_with (first
      | (go_at_call 10; (with_reducible refine (HGa.out _ (hW0.out.trans (HBB.out.mono hW0.out.size))).mono ?_); rintro e g1 ⟨rfl, hb⟩; have n1_ := Aside0.mk (HBB.out.trans (hb.mono HBB.out.size)); clear HBB; have HBB := n1_; clear n1_; clear hb HGa a0 a1 a2 a3 b0 b1 b2 b3; have a0 := (blk_cell ((HBB.out.block w.heap.size hSa.out).trans BA.out) 0).trans rfl; have a1 := (blk_cell ((HBB.out.block w.heap.size hSa.out).trans BA.out) 1).trans rfl; have a2 := (blk_cell ((HBB.out.block w.heap.size hSa.out).trans BA.out) 2).trans rfl; have a3 := (blk_cell ((HBB.out.block w.heap.size hSa.out).trans BA.out) 3).trans rfl; have b0 := (blk_cell ((HBB.out.block (w.heap.size + 1) hSb.out).trans BB.out) 0).trans rfl; have b1 := (blk_cell ((HBB.out.block (w.heap.size + 1) hSb.out).trans BB.out) 1).trans rfl; have b2 := (blk_cell ((HBB.out.block (w.heap.size + 1) hSb.out).trans BB.out) 2).trans rfl; have b3 := (blk_cell ((HBB.out.block (w.heap.size + 1) hSb.out).trans BB.out) 3).trans rfl; simp only [List.getElem?_toArray, List.getElem?_cons_zero, List.getElem?_cons_succ] at a0 a1 a2 a3 b0 b1 b2 b3)
      | (go_at_call 11; (with_reducible refine (HA.out _).mono ?_); rintro e w8 ⟨rfl, hb⟩; have n1_ := Aside0.mk (HBB.out.trans (hb.mono HBB.out.size)); clear HBB; have HBB := n1_; clear n1_; clear hb))
    all_goals
      go_ret
      exact ⟨rfl, hW0.out.trans (HBB.out.mono hW0.out.size)⟩
  · rw [decide_eq_false hg] at HGa
    by_cases hh : 20 < b.f3.length
    · rw [decide_eq_true hh] at HGb
      clear hg hh hra hrb
      go_enter Try.func5, Try.ntmps5
      go_wp2_with fail
      have ba := heap_alloc_keep (o := (.cells #[.int .i64 b.f0, .int .i64 b.f1, .int .i64 b.f2, .slice B b.f3.length cb] 24)) (heap_alloc_new w (.cells #[.int .i64 a.f0, .int .i64 a.f1, .int .i64 a.f2, .slice A a.f3.length ca] 24))
      have bb := heap_alloc_new (w.alloc (.cells #[.int .i64 a.f0, .int .i64 a.f1, .int .i64 a.f2, .slice A a.f3.length ca] 24)) (.cells #[.int .i64 b.f0, .int .i64 b.f1, .int .i64 b.f2, .slice B b.f3.length cb] 24)
      have hW0 := Aside0.mk (show Below w.heap.size w ((w.alloc (.cells #[.int .i64 a.f0, .int .i64 a.f1, .int .i64 a.f2, .slice A a.f3.length ca] 24)).alloc (.cells #[.int .i64 b.f0, .int .i64 b.f1, .int .i64 b.f2, .slice B b.f3.length cb] 24)) by repeat (first | exact Below.refl _ _ | apply below_alloc))
      have hSa := Aside0.mk (show w.heap.size < ((w.alloc (.cells #[.int .i64 a.f0, .int .i64 a.f1, .int .i64 a.f2, .slice A a.f3.length ca] 24)).alloc (.cells #[.int .i64 b.f0, .int .i64 b.f1, .int .i64 b.f2, .slice B b.f3.length cb] 24)).heap.size by simp; omega)
      have hSb := Aside0.mk (show w.heap.size + 1 < ((w.alloc (.cells #[.int .i64 a.f0, .int .i64 a.f1, .int .i64 a.f2, .slice A a.f3.length ca] 24)).alloc (.cells #[.int .i64 b.f0, .int .i64 b.f1, .int .i64 b.f2, .slice B b.f3.length cb] 24)).heap.size by simp)
      have HBB := Aside0.mk (Below.refl ((w.alloc (.cells #[.int .i64 a.f0, .int .i64 a.f1, .int .i64 a.f2, .slice A a.f3.length ca] 24)).alloc (.cells #[.int .i64 b.f0, .int .i64 b.f1, .int .i64 b.f2, .slice B b.f3.length cb] 24)).heap.size ((w.alloc (.cells #[.int .i64 a.f0, .int .i64 a.f1, .int .i64 a.f2, .slice A a.f3.length ca] 24)).alloc (.cells #[.int .i64 b.f0, .int .i64 b.f1, .int .i64 b.f2, .slice B b.f3.length cb] 24)))
      generalize hWW : ((w.alloc (.cells #[.int .i64 a.f0, .int .i64 a.f1, .int .i64 a.f2, .slice A a.f3.length ca] 24)).alloc (.cells #[.int .i64 b.f0, .int .i64 b.f1, .int .i64 b.f2, .slice B b.f3.length cb] 24)) = W0 at *
      clear hWW
      simp only [World.size_alloc] at ba bb
      have BA := Aside0.mk ba
      have BB := Aside0.mk bb
      clear ba bb
      have a0 := (blk_cell ((HBB.out.block w.heap.size hSa.out).trans BA.out) 0).trans rfl
      have a1 := (blk_cell ((HBB.out.block w.heap.size hSa.out).trans BA.out) 1).trans rfl
      have a2 := (blk_cell ((HBB.out.block w.heap.size hSa.out).trans BA.out) 2).trans rfl
      have a3 := (blk_cell ((HBB.out.block w.heap.size hSa.out).trans BA.out) 3).trans rfl
      have b0 := (blk_cell ((HBB.out.block (w.heap.size + 1) hSb.out).trans BB.out) 0).trans rfl
      have b1 := (blk_cell ((HBB.out.block (w.heap.size + 1) hSb.out).trans BB.out) 1).trans rfl
      have b2 := (blk_cell ((HBB.out.block (w.heap.size + 1) hSb.out).trans BB.out) 2).trans rfl
      have b3 := (blk_cell ((HBB.out.block (w.heap.size + 1) hSb.out).trans BB.out) 3).trans rfl
      simp only [List.getElem?_toArray, List.getElem?_cons_zero, List.getElem?_cons_succ] at a0 a1 a2 a3 b0 b1 b2 b3
      go_wp2_with (first
        | (go_at_call 10; (with_reducible refine (HGa.out _ (hW0.out.trans (HBB.out.mono hW0.out.size))).mono ?_); rintro e g1 ⟨rfl, hb⟩; have n1_ := Aside0.mk (HBB.out.trans (hb.mono HBB.out.size)); clear HBB; have HBB := n1_; clear n1_; clear hb HGa a0 a1 a2 a3 b0 b1 b2 b3; have a0 := (blk_cell ((HBB.out.block w.heap.size hSa.out).trans BA.out) 0).trans rfl; have a1 := (blk_cell ((HBB.out.block w.heap.size hSa.out).trans BA.out) 1).trans rfl; have a2 := (blk_cell ((HBB.out.block w.heap.size hSa.out).trans BA.out) 2).trans rfl; have a3 := (blk_cell ((HBB.out.block w.heap.size hSa.out).trans BA.out) 3).trans rfl; have b0 := (blk_cell ((HBB.out.block (w.heap.size + 1) hSb.out).trans BB.out) 0).trans rfl; have b1 := (blk_cell ((HBB.out.block (w.heap.size + 1) hSb.out).trans BB.out) 1).trans rfl; have b2 := (blk_cell ((HBB.out.block (w.heap.size + 1) hSb.out).trans BB.out) 2).trans rfl; have b3 := (blk_cell ((HBB.out.block (w.heap.size + 1) hSb.out).trans BB.out) 3).trans rfl; simp only [List.getElem?_toArray, List.getElem?_cons_zero, List.getElem?_cons_succ] at a0 a1 a2 a3 b0 b1 b2 b3)
        | (go_at_call 10; (with_reducible refine (HGb.out _ (hW0.out.trans (HBB.out.mono hW0.out.size))).mono ?_); rintro e g2 ⟨rfl, hb⟩; have n1_ := Aside0.mk (HBB.out.trans (hb.mono HBB.out.size)); clear HBB; have HBB := n1_; clear n1_; clear hb HGb a0 a1 a2 a3 b0 b1 b2 b3; have a0 := (blk_cell ((HBB.out.block w.heap.size hSa.out).trans BA.out) 0).trans rfl; have a1 := (blk_cell ((HBB.out.block w.heap.size hSa.out).trans BA.out) 1).trans rfl; have a2 := (blk_cell ((HBB.out.block w.heap.size hSa.out).trans BA.out) 2).trans rfl; have a3 := (blk_cell ((HBB.out.block w.heap.size hSa.out).trans BA.out) 3).trans rfl; have b0 := (blk_cell ((HBB.out.block (w.heap.size + 1) hSb.out).trans BB.out) 0).trans rfl; have b1 := (blk_cell ((HBB.out.block (w.heap.size + 1) hSb.out).trans BB.out) 1).trans rfl; have b2 := (blk_cell ((HBB.out.block (w.heap.size + 1) hSb.out).trans BB.out) 2).trans rfl; have b3 := (blk_cell ((HBB.out.block (w.heap.size + 1) hSb.out).trans BB.out) 3).trans rfl; simp only [List.getElem?_toArray, List.getElem?_cons_zero, List.getElem?_cons_succ] at a0 a1 a2 a3 b0 b1 b2 b3)
        | (go_at_call 11; (with_reducible refine (HA.out _).mono ?_); rintro e w8 ⟨rfl, hb⟩; have n1_ := Aside0.mk (HBB.out.trans (hb.mono HBB.out.size)); clear HBB; have HBB := n1_; clear n1_; clear hb))
      all_goals
        go_ret
        exact ⟨rfl, hW0.out.trans (HBB.out.mono hW0.out.size)⟩
    · rw [decide_eq_false hh] at HGb
      have HM1 := Aside0.mk (fun W (h : Below w.heap.size w W) => Merge_calls a b A B ca cb W (Kd.C_below hra h) hca (by omega) (Kd.C_below hrb h) hcb (by omega))
      have HM2 := Aside0.mk (fun W (h : Below w.heap.size w W) => rMerge_calls a b A B ca cb W (Kd.C_below hra h) hca (by omega) (Kd.C_below hrb h) hcb (by omega))
      have hlm := mrgH_len' a b
      generalize mrgH a b = ra at *
      obtain ⟨xr, ex⟩ := ra
      simp only at hlm
      unfold RH at HM1
      unfold RC at HM2
      simp only at HM1 HM2
      have HSX := Aside0.mk (fun v v' W (h : CH W v xr.f3) (h' : CH W v' xr.f3) => Same_calls xr v v' W h h' (by simp only [LB]; omega))
      have q1 : (ex == ex) = true := by simp
      clear hg hh hra hrb
      go_enter Try.func5, Try.ntmps5
      go_wp2_with fail
      have ba := heap_alloc_keep (o := (.cells #[.int .i64 b.f0, .int .i64 b.f1, .int .i64 b.f2, .slice B b.f3.length cb] 24)) (heap_alloc_new w (.cells #[.int .i64 a.f0, .int .i64 a.f1, .int .i64 a.f2, .slice A a.f3.length ca] 24))
      have bb := heap_alloc_new (w.alloc (.cells #[.int .i64 a.f0, .int .i64 a.f1, .int .i64 a.f2, .slice A a.f3.length ca] 24)) (.cells #[.int .i64 b.f0, .int .i64 b.f1, .int .i64 b.f2, .slice B b.f3.length cb] 24)
      have hW0 := Aside0.mk (show Below w.heap.size w ((w.alloc (.cells #[.int .i64 a.f0, .int .i64 a.f1, .int .i64 a.f2, .slice A a.f3.length ca] 24)).alloc (.cells #[.int .i64 b.f0, .int .i64 b.f1, .int .i64 b.f2, .slice B b.f3.length cb] 24)) by repeat (first | exact Below.refl _ _ | apply below_alloc))
      have hSa := Aside0.mk (show w.heap.size < ((w.alloc (.cells #[.int .i64 a.f0, .int .i64 a.f1, .int .i64 a.f2, .slice A a.f3.length ca] 24)).alloc (.cells #[.int .i64 b.f0, .int .i64 b.f1, .int .i64 b.f2, .slice B b.f3.length cb] 24)).heap.size by simp; omega)
      have hSb := Aside0.mk (show w.heap.size + 1 < ((w.alloc (.cells #[.int .i64 a.f0, .int .i64 a.f1, .int .i64 a.f2, .slice A a.f3.length ca] 24)).alloc (.cells #[.int .i64 b.f0, .int .i64 b.f1, .int .i64 b.f2, .slice B b.f3.length cb] 24)).heap.size by simp)
      have HBB := Aside0.mk (Below.refl ((w.alloc (.cells #[.int .i64 a.f0, .int .i64 a.f1, .int .i64 a.f2, .slice A a.f3.length ca] 24)).alloc (.cells #[.int .i64 b.f0, .int .i64 b.f1, .int .i64 b.f2, .slice B b.f3.length cb] 24)).heap.size ((w.alloc (.cells #[.int .i64 a.f0, .int .i64 a.f1, .int .i64 a.f2, .slice A a.f3.length ca] 24)).alloc (.cells #[.int .i64 b.f0, .int .i64 b.f1, .int .i64 b.f2, .slice B b.f3.length cb] 24)))
      generalize hWW : ((w.alloc (.cells #[.int .i64 a.f0, .int .i64 a.f1, .int .i64 a.f2, .slice A a.f3.length ca] 24)).alloc (.cells #[.int .i64 b.f0, .int .i64 b.f1, .int .i64 b.f2, .slice B b.f3.length cb] 24)) = W0 at *
      clear hWW
      simp only [World.size_alloc] at ba bb
      have BA := Aside0.mk ba
      have BB := Aside0.mk bb
      clear ba bb
      have a0 := (blk_cell ((HBB.out.block w.heap.size hSa.out).trans BA.out) 0).trans rfl
      have a1 := (blk_cell ((HBB.out.block w.heap.size hSa.out).trans BA.out) 1).trans rfl
      have a2 := (blk_cell ((HBB.out.block w.heap.size hSa.out).trans BA.out) 2).trans rfl
      have a3 := (blk_cell ((HBB.out.block w.heap.size hSa.out).trans BA.out) 3).trans rfl
      have b0 := (blk_cell ((HBB.out.block (w.heap.size + 1) hSb.out).trans BB.out) 0).trans rfl
      have b1 := (blk_cell ((HBB.out.block (w.heap.size + 1) hSb.out).trans BB.out) 1).trans rfl
      have b2 := (blk_cell ((HBB.out.block (w.heap.size + 1) hSb.out).trans BB.out) 2).trans rfl
      have b3 := (blk_cell ((HBB.out.block (w.heap.size + 1) hSb.out).trans BB.out) 3).trans rfl
      simp only [List.getElem?_toArray, List.getElem?_cons_zero, List.getElem?_cons_succ] at a0 a1 a2 a3 b0 b1 b2 b3
      go_wp2_with (first
        | (go_at_call 10; (with_reducible refine (HGa.out _ (hW0.out.trans (HBB.out.mono hW0.out.size))).mono ?_); rintro e g1 ⟨rfl, hb⟩; have n1_ := Aside0.mk (HBB.out.trans (hb.mono HBB.out.size)); clear HBB; have HBB := n1_; clear n1_; clear hb HGa a0 a1 a2 a3 b0 b1 b2 b3; have a0 := (blk_cell ((HBB.out.block w.heap.size hSa.out).trans BA.out) 0).trans rfl; have a1 := (blk_cell ((HBB.out.block w.heap.size hSa.out).trans BA.out) 1).trans rfl; have a2 := (blk_cell ((HBB.out.block w.heap.size hSa.out).trans BA.out) 2).trans rfl; have a3 := (blk_cell ((HBB.out.block w.heap.size hSa.out).trans BA.out) 3).trans rfl; have b0 := (blk_cell ((HBB.out.block (w.heap.size + 1) hSb.out).trans BB.out) 0).trans rfl; have b1 := (blk_cell ((HBB.out.block (w.heap.size + 1) hSb.out).trans BB.out) 1).trans rfl; have b2 := (blk_cell ((HBB.out.block (w.heap.size + 1) hSb.out).trans BB.out) 2).trans rfl; have b3 := (blk_cell ((HBB.out.block (w.heap.size + 1) hSb.out).trans BB.out) 3).trans rfl; simp only [List.getElem?_toArray, List.getElem?_cons_zero, List.getElem?_cons_succ] at a0 a1 a2 a3 b0 b1 b2 b3)
        | (go_at_call 10; (with_reducible refine (HGb.out _ (hW0.out.trans (HBB.out.mono hW0.out.size))).mono ?_); rintro e g2 ⟨rfl, hb⟩; have n1_ := Aside0.mk (HBB.out.trans (hb.mono HBB.out.size)); clear HBB; have HBB := n1_; clear n1_; clear hb HGb a0 a1 a2 a3 b0 b1 b2 b3; have a0 := (blk_cell ((HBB.out.block w.heap.size hSa.out).trans BA.out) 0).trans rfl; have a1 := (blk_cell ((HBB.out.block w.heap.size hSa.out).trans BA.out) 1).trans rfl; have a2 := (blk_cell ((HBB.out.block w.heap.size hSa.out).trans BA.out) 2).trans rfl; have a3 := (blk_cell ((HBB.out.block w.heap.size hSa.out).trans BA.out) 3).trans rfl; have b0 := (blk_cell ((HBB.out.block (w.heap.size + 1) hSb.out).trans BB.out) 0).trans rfl; have b1 := (blk_cell ((HBB.out.block (w.heap.size + 1) hSb.out).trans BB.out) 1).trans rfl; have b2 := (blk_cell ((HBB.out.block (w.heap.size + 1) hSb.out).trans BB.out) 2).trans rfl; have b3 := (blk_cell ((HBB.out.block (w.heap.size + 1) hSb.out).trans BB.out) 3).trans rfl; simp only [List.getElem?_toArray, List.getElem?_cons_zero, List.getElem?_cons_succ] at a0 a1 a2 a3 b0 b1 b2 b3)
        | (go_at_call 24; (with_reducible refine (HM1.out _ (hW0.out.trans (HBB.out.mono hW0.out.size))).mono ?_); rintro e w1 ⟨v1, rfl, hR, hb⟩; have hR := CH.of_R hR; obtain ⟨A1, c1, rfl, hq1, hC1⟩ := hR; have n1_ := Aside0.mk (below_alloc (HBB.out.trans (hb.mono HBB.out.size)) (.cells #[.int .i64 xr.f0, .int .i64 xr.f1, .int .i64 xr.f2, .slice A1 xr.f3.length c1] 24)); clear HBB; have HBB := n1_; clear n1_; have B1 := Aside0.mk (heap_alloc_new w1 (.cells #[.int .i64 xr.f0, .int .i64 xr.f1, .int .i64 xr.f2, .slice A1 xr.f3.length c1] 24)); have L1 := Aside0.mk (show w1.heap.size < (w1.alloc (.cells #[.int .i64 xr.f0, .int .i64 xr.f1, .int .i64 xr.f2, .slice A1 xr.f3.length c1] 24)).heap.size by simp); have R1 := Aside0.mk (show CH (w1.alloc (.cells #[.int .i64 xr.f0, .int .i64 xr.f1, .int .i64 xr.f2, .slice A1 xr.f3.length c1] 24)) (.slice A1 xr.f3.length c1) xr.f3 from ⟨A1, c1, rfl, hq1, Kd.C_below hC1 (below_alloc (Below.refl _ w1) _)⟩); clear hb hC1 hq1 HM1 a0 a1 a2 a3 b0 b1 b2 b3; have a0 := (blk_cell ((HBB.out.block w.heap.size hSa.out).trans BA.out) 0).trans rfl; have a1 := (blk_cell ((HBB.out.block w.heap.size hSa.out).trans BA.out) 1).trans rfl; have a2 := (blk_cell ((HBB.out.block w.heap.size hSa.out).trans BA.out) 2).trans rfl; have a3 := (blk_cell ((HBB.out.block w.heap.size hSa.out).trans BA.out) 3).trans rfl; have b0 := (blk_cell ((HBB.out.block (w.heap.size + 1) hSb.out).trans BB.out) 0).trans rfl; have b1 := (blk_cell ((HBB.out.block (w.heap.size + 1) hSb.out).trans BB.out) 1).trans rfl; have b2 := (blk_cell ((HBB.out.block (w.heap.size + 1) hSb.out).trans BB.out) 2).trans rfl; have b3 := (blk_cell ((HBB.out.block (w.heap.size + 1) hSb.out).trans BB.out) 3).trans rfl; simp only [List.getElem?_toArray, List.getElem?_cons_zero, List.getElem?_cons_succ] at a0 a1 a2 a3 b0 b1 b2 b3)
        | (go_at_call 25; (with_reducible refine (HM2.out _ (hW0.out.trans (HBB.out.mono hW0.out.size))).mono ?_); rintro e w2 ⟨v2, rfl, hR, hb⟩; obtain ⟨A2, c2, rfl, hq2, hC2⟩ := hR; have n1_ := Aside0.mk (below_alloc (HBB.out.trans (hb.mono HBB.out.size)) (.cells #[.int .i64 xr.f0, .int .i64 xr.f1, .int .i64 xr.f2, .slice A2 xr.f3.length c2] 24)); clear HBB; have HBB := n1_; clear n1_; have H1 := Aside0.mk (below_alloc hb (.cells #[.int .i64 xr.f0, .int .i64 xr.f1, .int .i64 xr.f2, .slice A2 xr.f3.length c2] 24)); have B2 := Aside0.mk (heap_alloc_new w2 (.cells #[.int .i64 xr.f0, .int .i64 xr.f1, .int .i64 xr.f2, .slice A2 xr.f3.length c2] 24)); have R1' := Aside0.mk (R1.out.below H1.out); have B1' := Aside0.mk ((H1.out.block w1.heap.size L1.out).trans B1.out); have R2 := Aside0.mk (show CH (w2.alloc (.cells #[.int .i64 xr.f0, .int .i64 xr.f1, .int .i64 xr.f2, .slice A2 xr.f3.length c2] 24)) (.slice A2 xr.f3.length c2) xr.f3 from ⟨A2, c2, rfl, hq2, Kd.C_below hC2 (below_alloc (Below.refl _ w2) _)⟩); clear hb hC2 hq2 HM2 H1 R1 B1 a0 a1 a2 a3 b0 b1 b2 b3; have y10 := (blk_cell (B1'.out) 0).trans rfl; have y11 := (blk_cell (B1'.out) 1).trans rfl; have y12 := (blk_cell (B1'.out) 2).trans rfl; have y13 := (blk_cell (B1'.out) 3).trans rfl; have y20 := (blk_cell (B2.out) 0).trans rfl; have y21 := (blk_cell (B2.out) 1).trans rfl; have y22 := (blk_cell (B2.out) 2).trans rfl; have y23 := (blk_cell (B2.out) 3).trans rfl; simp only [List.getElem?_toArray, List.getElem?_cons_zero, List.getElem?_cons_succ] at y10 y11 y12 y13 y20 y21 y22 y23)
        | (go_at_call 18; (with_reducible refine (HSX.out _ _ _ R1'.out R2.out).mono ?_); rintro e w3 ⟨rfl, hb⟩; have n1_ := Aside0.mk (HBB.out.trans (hb.mono HBB.out.size)); clear HBB; have HBB := n1_; clear n1_; clear hb)
        | (go_at_call 11; (with_reducible refine (HA.out _).mono ?_); rintro e w8 ⟨rfl, hb⟩; have n1_ := Aside0.mk (HBB.out.trans (hb.mono HBB.out.size)); clear HBB; have HBB := n1_; clear n1_; clear hb))
      all_goals
        go_ret
        exact ⟨rfl, hW0.out.trans (HBB.out.mono hW0.out.size)⟩
end Go.Proofs.Ytgpkpeefbkcjeaa.H
