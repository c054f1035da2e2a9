/- few, and whether one of the rows of keys is not in order. -/
import Derived.Test.YtgpkpeefbkcjeaaKRead2
namespace Go.Proofs.Ytgpkpeefbkcjeaa.H
open Go Go.RowKit Go.Proofs.YtgpkpeefbkcjeaaW.PrintWords Go.Proofs.YtgpkpeefbkcjeaaW.PrintLast Go.Proofs.YtgpkpeefbkcjeaaW.PrintMore Go.Proofs.Ytgpkpeefbkcjeaa.PAll
set_option linter.unusedVariables false
set_option linter.unusedSimpArgs false

/-- A key that is too long, or a number that is out of bounds. -/
def badM (x : S49) : Bool := decide (20 < x.f0.size) || decide (x.f1 < 0) || decide (1000000 < x.f1)
theorem rdM_get (l : List S49) (i : Nat) (h : i < l.length) : rd_T49 l (i : Int) = l[i] := by simp [rd_T49, List.getD_eq_getElem?_getD, List.getElem?_eq_getElem h]

set_option maxHeartbeats 1000000 in
theorem few1_calls (x : S49) (w : World) : Calls Try.prog 58 #[.agg #[.string x.f0, .int .i64 x.f1]] w fun e w' => e = .returned (.bool (badM x)) ∧ Below w.heap.size w w' := by
  have hc0 := cell_of_heap (heap_alloc_new w (.cells #[.string x.f0, .int .i64 x.f1] 49)) 0 _ rfl
  have hc1 := cell_of_heap (heap_alloc_new w (.cells #[.string x.f0, .int .i64 x.f1] 49)) 1 _ rfl
  have hu := Try.underlying49
  have hb := Aside0.mk (below_alloc (Below.refl w.heap.size w) (.cells #[.string x.f0, .int .i64 x.f1] 49))
  by_cases h1 : 20 < x.f0.size
  · have d1 : decide (20 < x.f0.size) = true := decide_eq_true h1
    have d1' : decide (20 < (x.f0.size : Int)) = true := decide_eq_true (by omega)
    go_enter Try.func58, Try.ntmps58
    go_wp2_with fail
    go_ret
    exact ⟨by simp [badM, d1], hb.out⟩
  · have d1 : decide (20 < x.f0.size) = false := decide_eq_false h1
    have d1' : decide (20 < (x.f0.size : Int)) = false := decide_eq_false (by omega)
    by_cases h2 : x.f1 < 0
    · have d2 : decide (x.f1 < 0) = true := decide_eq_true h2
      go_enter Try.func58, Try.ntmps58
      go_wp2_with fail
      go_ret
      exact ⟨by simp [badM, d1, d2], hb.out⟩
    · have d2 : decide (x.f1 < 0) = false := decide_eq_false h2
      go_enter Try.func58, Try.ntmps58
      go_wp2_with fail
      go_ret
      exact ⟨by simp [badM, d1, d2], hb.out⟩

set_option maxRecDepth 100000 in
set_option maxHeartbeats 2000000 in
theorem IndexM_calls (A : Option Addr) (c : Nat) (l : List S49) (w : World) (hr : Kd.C k49 w A l.length l) (hc : l.length ≤ c) (hl : l.length ≤ 1000000) :
    Calls Try.prog 61 #[.slice A l.length c, .func (.func 58) #[] #[]] w fun e w' => ∃ r : Int, e = .returned (.int .i64 r) ∧ decide (0 ≤ r) = l.any badM ∧ Below w.heap.size w w' := by
  have HR := Aside0.mk hr
  clear hr
  have hu := Try.underlying49
  go_enter Try.func61, Try.ntmps61
  go_wp2_with fail
  go_loopg [8] (l.length) (fun kq v8 w' => ∃ i : Nat, v8 = .int .i64 i ∧ i ≤ l.length ∧ Aside0 (kq = l.length - i) ∧ Aside0 (Below w.heap.size w w') ∧ Aside0 ((l.take i).any badM = false))
  case atStart => exact ⟨0, rfl, by omega, ⟨rfl⟩, ⟨Below.refl _ _⟩, ⟨by simp⟩⟩
  case round =>
    obtain ⟨i, rfl, hi, HK, HB, HA⟩ := hrel
    by_cases hlt : i < l.length
    · obtain ⟨ad, e1, hc0, hc1⟩ := at_T49 (Kd.C_below HR.out HB.out) (i : Int) (by omega) (by omega)
      cases e1
      rw [rdM_get l i hlt] at hc0 hc1
      simp only [Int.toNat_natCast] at hc0 hc1
      have pl : (0 ≤ (i : Int)) = True := eq_true (by omega)
      have dl : decide (i < l.length) = true := decide_eq_true hlt
      have HF := Aside0.mk (few1_calls l[i] wr)
      have HT := Aside0.mk (show (l.take (i + 1)).any badM = badM l[i] by rw [List.take_succ_eq_append_getElem hlt, List.any_append, HA.out]; simp)
      have HW := Aside0.mk (show badM l[i] = true → l.any badM = true from fun h => List.any_eq_true.2 ⟨l[i], List.getElem_mem hlt, h⟩)
      generalize l[i] = x at *
      cases hbm : badM x
      · rw [hbm] at HF HT
        clear hbm HW
        go_wp2_with (go_at_call 58; refine HF.out.mono ?_; rintro e w1 ⟨rfl, hb⟩)
        go_roundg (l.length - (i + 1))
        case measure => have := HK.out; omega
        case rel => exact ⟨i + 1, by simp, by omega, ⟨rfl⟩, ⟨HB.out.trans (hb.mono HB.out.size)⟩, HT⟩
      · rw [hbm] at HF
        have HW := Aside0.mk (HW.out hbm)
        clear hbm
        go_wp2_with (go_at_call 58; refine HF.out.mono ?_; rintro e w1 ⟨rfl, hb⟩)
        go_ret
        exact ⟨_, rfl, by rw [HW.out]; exact decide_eq_true (by omega), HB.out.trans (hb.mono HB.out.size)⟩
    · have hil : i = l.length := by omega
      subst hil
      have dl : decide (l.length < l.length) = false := decide_eq_false hlt
      rw [List.take_length] at HA
      go_wp2
      go_ret
      exact ⟨_, rfl, by rw [HA.out]; rfl, HB.out⟩

theorem ContainsM_calls (A : Option Addr) (c : Nat) (l : List S49) (w : World) (hr : Kd.C k49 w A l.length l) (hc : l.length ≤ c) (hl : l.length ≤ 1000000) :
    Calls Try.prog 57 #[.slice A l.length c, .func (.func 58) #[] #[]] w fun e w' => e = .returned (.bool (l.any badM)) ∧ Below w.heap.size w w' := by
  have HI := Aside0.mk (IndexM_calls A c l w hr hc hl)
  clear hr
  go_enter Try.func57, Try.ntmps57
  go_wp2_with (go_at_call 61; refine HI.out.mono ?_; rintro e w1 ⟨r, rfl, hd, hb⟩)
  go_ret
  exact ⟨by rw [← hd]; rfl, hb⟩

/-- Few keys, in order. -/
def fewL (l : List S49) : Bool := decide (l.length ≤ 20) && !l.any badM
theorem few_calls (A : Option Addr) (c : Nat) (l : List S49) (w : World) (hr : Kd.C k49 w A l.length l) (hc : l.length ≤ c) :
    Calls Try.prog 46 #[.slice A l.length c] w fun e w' => e = .returned (.bool (fewL l)) ∧ Below w.heap.size w w' := by
  by_cases hl : l.length ≤ 20
  · have HI := Aside0.mk (ContainsM_calls A c l w hr hc (by omega))
    clear hr
    have d1 : decide (l.length ≤ 20) = true := decide_eq_true hl
    have d1' : decide ((l.length : Int) ≤ 20) = true := decide_eq_true (by omega)
    have HE := Aside0.mk (show fewL l = !l.any badM by simp [fewL, hl])
    generalize l.any badM = q at *
    go_enter Try.func46, Try.ntmps46
    go_wp2_with (go_at_call 57; refine HI.out.mono ?_; rintro e w1 ⟨rfl, hb⟩)
    go_ret
    exact ⟨by rw [HE.out]; rfl, hb⟩
  · have d1 : decide (l.length ≤ 20) = false := decide_eq_false hl
    have d1' : decide ((l.length : Int) ≤ 20) = false := decide_eq_false (by omega)
    have HE := Aside0.mk (show fewL l = false by simp [fewL]; omega)
    go_enter Try.func46, Try.ntmps46
    go_wp2_with fail
    go_ret
    exact ⟨by rw [HE.out]; rfl, Below.refl _ _⟩
end Go.Proofs.Ytgpkpeefbkcjeaa.H
