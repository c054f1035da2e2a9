/- fits. -/
import Derived.Test.YtgpkpeefbkcjeaaKFew
namespace Go.Proofs.Ytgpkpeefbkcjeaa.H
open Go Go.RowKit Go.Proofs.YtgpkpeefbkcjeaaW.PrintWords Go.Proofs.YtgpkpeefbkcjeaaW.PrintLast Go.Proofs.YtgpkpeefbkcjeaaW.PrintMore Go.Proofs.Ytgpkpeefbkcjeaa.PAll
set_option linter.unusedVariables false
set_option linter.unusedSimpArgs false

abbrev kLM : Kd (List S49) := Kd.slice 49 k49
theorem fits1_calls (A : Option Addr) (c : Nat) (l : List S49) (w : World) (hr : Kd.C k49 w A l.length l) (hc : l.length ≤ c) :
    Calls Try.prog 45 #[.slice A l.length c] w fun e w' => e = .returned (.bool (!fewL l)) ∧ Below w.heap.size w w' := by
  have HI := Aside0.mk (few_calls A c l w hr hc)
  clear hr
  generalize fewL l = q at *
  go_enter Try.func45, Try.ntmps45
  go_wp2_with (go_at_call 46; refine HI.out.mono ?_; rintro e w1 ⟨rfl, hb⟩)
  go_ret
  exact ⟨rfl, hb⟩

set_option maxRecDepth 100000 in
set_option maxHeartbeats 2000000 in
theorem IndexLL_calls (A : Option Addr) (c : Nat) (ls : List (List S49)) (w : World) (hr : Kd.C kLM w A ls.length ls) (hc : ls.length ≤ c) (hl : ls.length ≤ 1000000) :
    Calls Try.prog 56 #[.slice A ls.length c, .func (.func 45) #[] #[]] w fun e w' => ∃ r : Int, e = .returned (.int .i64 r) ∧ decide (0 ≤ r) = ls.any (fun l => !fewL l) ∧ Below w.heap.size w w' := by
  have HR := Aside0.mk hr
  clear hr
  have hu := Try.underlying45
  go_enter Try.func56, Try.ntmps56
  go_wp2_with fail
  go_loopg [8] (ls.length) (fun kq v8 w' => ∃ i : Nat, v8 = .int .i64 i ∧ i ≤ ls.length ∧ Aside0 (kq = ls.length - i) ∧ Aside0 (Below w.heap.size w w') ∧ Aside0 ((ls.take i).any (fun l => !fewL l) = false))
  case atStart => exact ⟨0, rfl, by omega, ⟨rfl⟩, ⟨Below.refl _ _⟩, ⟨by simp⟩⟩
  case round =>
    obtain ⟨i, rfl, hi, HK, HB, HA⟩ := hrel
    by_cases hlt : i < ls.length
    · obtain ⟨ad, A1, c1, e1, hcell, hle, hC⟩ := slice_at (Kd.C_below HR.out HB.out) i hlt
      cases e1
      have pl : (0 ≤ (i : Int)) = True := eq_true (by omega)
      have dl : decide (i < ls.length) = true := decide_eq_true hlt
      have HF := Aside0.mk (fits1_calls A1 c1 ls[i] wr hC hle)
      have HT := Aside0.mk (show (ls.take (i + 1)).any (fun l => !fewL l) = !fewL ls[i] by rw [List.take_succ_eq_append_getElem hlt, List.any_append, HA.out]; simp)
      have HW := Aside0.mk (show (!fewL ls[i]) = true → ls.any (fun l => !fewL l) = true from fun h => List.any_eq_true.2 ⟨ls[i], List.getElem_mem hlt, h⟩)
      clear hC
      generalize ls[i] = x at *
      cases hbm : (!fewL x)
      · rw [hbm] at HF HT
        clear hbm HW
        go_wp2_with (go_at_call 45; refine HF.out.mono ?_; rintro e w1 ⟨rfl, hb⟩)
        go_roundg (ls.length - (i + 1))
        case measure => have := HK.out; omega
        case rel => exact ⟨i + 1, by simp, by omega, ⟨rfl⟩, ⟨HB.out.trans (hb.mono HB.out.size)⟩, HT⟩
      · rw [hbm] at HF
        have HW := Aside0.mk (HW.out hbm)
        clear hbm
        go_wp2_with (go_at_call 45; refine HF.out.mono ?_; rintro e w1 ⟨rfl, hb⟩)
        go_ret
        exact ⟨_, rfl, by rw [HW.out]; exact decide_eq_true (by omega), HB.out.trans (hb.mono HB.out.size)⟩
    · have hil : i = ls.length := by omega
      subst hil
      have dl : decide (ls.length < ls.length) = false := decide_eq_false hlt
      rw [List.take_length] at HA
      go_wp2
      go_ret
      exact ⟨_, rfl, by rw [HA.out]; rfl, HB.out⟩

theorem ContainsLL_calls (A : Option Addr) (c : Nat) (ls : List (List S49)) (w : World) (hr : Kd.C kLM w A ls.length ls) (hc : ls.length ≤ c) (hl : ls.length ≤ 1000000) :
    Calls Try.prog 44 #[.slice A ls.length c, .func (.func 45) #[] #[]] w fun e w' => e = .returned (.bool (ls.any (fun l => !fewL l))) ∧ Below w.heap.size w w' := by
  have HI := Aside0.mk (IndexLL_calls A c ls w hr hc hl)
  clear hr
  go_enter Try.func44, Try.ntmps44
  go_wp2_with (go_at_call 56; refine HI.out.mono ?_; rintro e w1 ⟨r, rfl, hd, hb⟩)
  go_ret
  exact ⟨by rw [← hd]; rfl, hb⟩

/-- Few parts of few keys. -/
def fitsL (ls : List (List S49)) : Bool := decide (0 < ls.length) && decide (ls.length ≤ 5) && !ls.any (fun l => !fewL l)
set_option maxHeartbeats 1000000 in
theorem fits_calls (A : Option Addr) (c : Nat) (ls : List (List S49)) (w : World) (hr : Kd.C kLM w A ls.length ls) (hc : ls.length ≤ c) :
    Calls Try.prog 26 #[.slice A ls.length c] w fun e w' => e = .returned (.bool (fitsL ls)) ∧ Below w.heap.size w w' := by
  by_cases h0 : 0 < ls.length
  · have d0 : decide (0 < ls.length) = true := decide_eq_true h0
    have d0' : decide (0 < (ls.length : Int)) = true := decide_eq_true (by omega)
    by_cases hl : ls.length ≤ 5
    · have HI := Aside0.mk (ContainsLL_calls A c ls w hr hc (by omega))
      clear hr
      have d1 : decide (ls.length ≤ 5) = true := decide_eq_true hl
      have d1' : decide ((ls.length : Int) ≤ 5) = true := decide_eq_true (by omega)
      have HE := Aside0.mk (show fitsL ls = !ls.any (fun l => !fewL l) by unfold fitsL; rw [d0, d1]; rfl)
      generalize ls.any (fun l => !fewL l) = q at *
      go_enter Try.func26, Try.ntmps26
      go_wp2_with (go_at_call 44; refine HI.out.mono ?_; rintro e w1 ⟨rfl, hb⟩)
      go_ret
      exact ⟨by rw [HE.out]; rfl, hb⟩
    · have d1 : decide (ls.length ≤ 5) = false := decide_eq_false hl
      have d1' : decide ((ls.length : Int) ≤ 5) = false := decide_eq_false (by omega)
      have HE := Aside0.mk (show fitsL ls = false by unfold fitsL; rw [d0, d1]; rfl)
      go_enter Try.func26, Try.ntmps26
      go_wp2_with fail
      go_ret
      exact ⟨by rw [HE.out]; rfl, Below.refl _ _⟩
  · have d0 : decide (0 < ls.length) = false := decide_eq_false h0
    have d0' : decide (0 < (ls.length : Int)) = false := decide_eq_false (by omega)
    have HE := Aside0.mk (show fitsL ls = false by unfold fitsL; rw [d0]; rfl)
    go_enter Try.func26, Try.ntmps26
    go_wp2_with fail
    go_ret
    exact ⟨by rw [HE.out]; rfl, Below.refl _ _⟩
end Go.Proofs.Ytgpkpeefbkcjeaa.H
