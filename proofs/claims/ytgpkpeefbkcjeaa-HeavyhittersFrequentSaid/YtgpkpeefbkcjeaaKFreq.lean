/- Whether a summary has an item with a key: slices.ContainsFunc over a closure that holds a key. -/
import Derived.Test.YtgpkpeefbkcjeaaKTree
import Derived.Test.YtgpkpeefbkcjeaaKAwake
namespace Go.Proofs.Ytgpkpeefbkcjeaa.H
open Go Go.RowKit Go.Proofs.YtgpkpeefbkcjeaaW.PrintWords Go.Proofs.YtgpkpeefbkcjeaaW.PrintLast Go.Proofs.YtgpkpeefbkcjeaaW.PrintMore Go.Proofs.Ytgpkpeefbkcjeaa.PAll
set_option linter.unusedVariables false
set_option linter.unusedSimpArgs false

def hasKy (y : ByteArray) (x : S58) : Bool := decide (x.f0 = y)
set_option maxHeartbeats 1000000 in
theorem Freq1_calls (x : S58) (y : ByteArray) (B : Nat) (w : World) (hB : B < w.heap.size) (hy : w.cell? ⟨B, 0, none⟩ = some (.string y)) :
    Calls Try.prog 32 #[.agg #[.string x.f0, .int .i64 x.f1], .pointer (some ⟨B, 0, none⟩)] w fun e w' => e = .returned (.bool (hasKy y x)) ∧ Below w.heap.size w w' := by
  have hc0 := cell_of_heap (heap_alloc_new w (.cells #[.string x.f0, .int .i64 x.f1] 58)) 0 _ rfl
  have hc1 := cell_of_heap (heap_alloc_new w (.cells #[.string x.f0, .int .i64 x.f1] 58)) 1 _ rfl
  have hy1 := ((below_alloc (Below.refl w.heap.size w) (.cells #[.string x.f0, .int .i64 x.f1] 58)).cell (p := ⟨B, 0, none⟩) hB).trans hy
  have hu := Try.underlying58
  have hu3 := Try.underlying49
  have hb := Aside0.mk (below_alloc (Below.refl w.heap.size w) (.cells #[.string x.f0, .int .i64 x.f1] 58))
  have HE := Aside0.mk (toList_iff x.f0 y)
  clear hy
  go_enter Try.func32, Try.ntmps32
  go_wp2_with fail
  go_ret
  refine ⟨?_, hb.out⟩
  have h := HE.out
  unfold hasKy
  by_cases e : x.f0 = y
  · simp [e]
  · have e2 : ¬ x.f0.toList = y.toList := fun q => e (h.1 q)
    simp [e, e2]

set_option maxRecDepth 100000 in
set_option maxHeartbeats 2000000 in
theorem IndexK_calls (y : ByteArray) (B : Nat) (A : Option Addr) (c : Nat) (l : L58) (w : World) (hB : B < w.heap.size) (hy : w.cell? ⟨B, 0, none⟩ = some (.string y)) (hr : Kd.C k58 w A l.length l) (hc : l.length ≤ c) (hl : l.length ≤ 1000000) :
    Calls Try.prog 47 #[.slice A l.length c, .func (.func 32) #[] #[.pointer (some ⟨B, 0, none⟩)]] w fun e w' => ∃ r : Int, e = .returned (.int .i64 r) ∧ decide (0 ≤ r) = l.any (hasKy y) ∧ Below w.heap.size w w' := by
  have HR := Aside0.mk hr
  have HY := Aside0.mk hy
  have HBL := Aside0.mk hB
  clear hr hy hB
  have hu := Try.underlying58
  go_enter Try.func47, Try.ntmps47
  go_wp2_with fail
  go_loopg [8] (l.length) (fun kq v8 w' => ∃ i : Nat, v8 = .int .i64 i ∧ i ≤ l.length ∧ Aside0 (kq = l.length - i) ∧ Aside0 (Below w.heap.size w w') ∧ Aside0 ((l.take i).any (hasKy y) = false))
  case atStart => exact ⟨0, rfl, by omega, ⟨rfl⟩, ⟨Below.refl _ _⟩, ⟨by simp⟩⟩
  case round =>
    obtain ⟨i, rfl, hi, HK, HB, HA⟩ := hrel
    by_cases hlt : i < l.length
    · obtain ⟨ad, e1, hc0, hc1⟩ := at_T58 (Kd.C_below HR.out HB.out) (i : Int) (by omega) (by omega)
      cases e1
      rw [rdT_get l i hlt] at hc0 hc1
      simp only [Int.toNat_natCast] at hc0 hc1
      have pl : (0 ≤ (i : Int)) = True := eq_true (by omega)
      have dl : decide (i < l.length) = true := decide_eq_true hlt
      have HF := Aside0.mk (Freq1_calls l[i] y B wr (Nat.lt_of_lt_of_le HBL.out HB.out.size) ((HB.out.cell (p := ⟨B, 0, none⟩) HBL.out).trans HY.out))
      have HT := Aside0.mk (show (l.take (i + 1)).any (hasKy y) = hasKy y l[i] by rw [List.take_succ_eq_append_getElem hlt, List.any_append, HA.out]; simp)
      have HW := Aside0.mk (show hasKy y l[i] = true → l.any (hasKy y) = true from fun h => List.any_eq_true.2 ⟨l[i], List.getElem_mem hlt, h⟩)
      generalize l[i] = x at *
      cases hbm : hasKy y x
      · rw [hbm] at HF HT
        clear hbm HW
        go_wp2_with (go_at_call 32; refine HF.out.mono ?_; rintro e w1 ⟨rfl, hb⟩)
        go_roundg (l.length - (i + 1))
        case measure => have := HK.out; omega
        case rel => exact ⟨i + 1, by simp, by omega, ⟨rfl⟩, ⟨HB.out.trans (hb.mono HB.out.size)⟩, HT⟩
      · rw [hbm] at HF
        have HW := Aside0.mk (HW.out hbm)
        clear hbm
        go_wp2_with (go_at_call 32; refine HF.out.mono ?_; rintro e w1 ⟨rfl, hb⟩)
        go_ret
        exact ⟨_, rfl, by rw [HW.out]; exact decide_eq_true (by omega), HB.out.trans (hb.mono HB.out.size)⟩
    · have hil : i = l.length := by omega
      subst hil
      have dl : decide (l.length < l.length) = false := decide_eq_false hlt
      rw [List.take_length] at HA
      go_wp2
      go_ret
      exact ⟨_, rfl, by rw [HA.out]; rfl, HB.out⟩

theorem ContainsK_calls (y : ByteArray) (B : Nat) (A : Option Addr) (c : Nat) (l : L58) (w : World) (hB : B < w.heap.size) (hy : w.cell? ⟨B, 0, none⟩ = some (.string y)) (hr : Kd.C k58 w A l.length l) (hc : l.length ≤ c) (hl : l.length ≤ 1000000) :
    Calls Try.prog 31 #[.slice A l.length c, .func (.func 32) #[] #[.pointer (some ⟨B, 0, none⟩)]] w fun e w' => e = .returned (.bool (l.any (hasKy y))) ∧ Below w.heap.size w w' := by
  have HI := Aside0.mk (IndexK_calls y B A c l w hB hy hr hc hl)
  clear hr hy
  go_enter Try.func31, Try.ntmps31
  go_wp2_with (go_at_call 47; refine HI.out.mono ?_; rintro e w1 ⟨r, rfl, hd, hb⟩)
  go_ret
  exact ⟨by rw [← hd]; rfl, hb⟩
end Go.Proofs.Ytgpkpeefbkcjeaa.H
