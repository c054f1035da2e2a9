/- series.find by slices.BinarySearchFunc. -/
import Derived.Test.YtjgkcgfbkcbjfaaGCmpInt
import Derived.Test.YtjgkcgfbkcbjfaaSPure
import Derived.BigQuiet
namespace Go.Proofs.Ytjgkcgfbkcbjfaa.H
open Go Go.RowKit Go.Proofs.YtjgkcgfbkcbjfaaW.PrintWords Go.Proofs.YtjgkcgfbkcbjfaaW.PrintLast Go.Proofs.YtjgkcgfbkcbjfaaW.PrintMore Go.Proofs.Ytjgkcgfbkcbjfaa.PAll
set_option linter.unusedVariables false
set_option linter.unusedSimpArgs false

set_option maxHeartbeats 1000000 in
theorem find1_calls (x : S29) (t : Int) (w : World) : Calls Try.prog 53 #[.agg #[Value.int .i64 x.f0, Value.int .i64 x.f1], .int .i64 t] w fun e w' => e = .returned (.int .i64 (cmpI x.f0 t)) ∧ w' = w.alloc (.cells #[Value.int .i64 x.f0, Value.int .i64 x.f1] 29) := by
  have hc := cell_of_heap (heap_alloc_new w (.cells #[Value.int .i64 x.f0, Value.int .i64 x.f1] 29)) 0 _ rfl
  have hu := Try.underlying29
  go_enter Try.func53, Try.ntmps53
  go_wp2_with (go_at_call 46; refine (CmpInt_calls _ _ _).mono ?_; rintro e w' ⟨rfl, rfl⟩)
  go_ret
  exact ⟨rfl, rfl⟩

/-- The index of the first sample that is not before a time. -/
def plc (l : L29) (t : Int) : Nat := (l.takeWhile fun x => decide (x.f0 < t)).length
theorem plc_le (l : L29) (t : Int) : plc l t ≤ l.length := (List.takeWhile_sublist _).length_le
theorem plc_eq (t : Int) : ∀ (l : L29) (i : Nat), i ≤ l.length → (∀ k (h : k < l.length), k < i → l[k].f0 < t) → (∀ (h : i < l.length), ¬ l[i].f0 < t) → plc l t = i
  | [], i, hi, _, _ => by simp at hi; subst hi; rfl
  | x :: l, 0, _, _, h2 => by
    have := h2 (by simp)
    simp only [List.getElem_cons_zero] at this
    simp [plc, List.takeWhile_cons, this]
  | x :: l, i + 1, hi, h1, h2 => by
    have h0 := h1 0 (by simp) (by omega)
    simp only [List.getElem_cons_zero] at h0
    have ih := plc_eq t l i (by simpa using hi) (fun k h hk => by have := h1 (k + 1) (by simpa using h) (by omega); simpa using this) (fun h => by have := h2 (by simpa using h); simpa using this)
    have e : plc (x :: l) t = plc l t + 1 := by simp [plc, List.takeWhile_cons, h0]
    rw [e, ih]
/-- Is there one at the time? -/
def hasT (l : L29) (t : Int) : Bool := match l[plc l t]? with
  | some x => x.f0 == t
  | none => false

def Asc (l : L29) : Prop := l.Pairwise (fun x y => x.f0 < y.f0)
theorem Asc.lt {l : L29} (h : Asc l) {i j : Nat} (hi : i < l.length) (hj : j < l.length) (hij : i < j) : l[i].f0 < l[j].f0 := List.pairwise_iff_getElem.1 h i j hi hj hij

set_option maxRecDepth 100000 in
set_option maxHeartbeats 4000000 in
theorem BSearch_calls (A : Option Addr) (c : Nat) (l : L29) (t : Int) (w : World) (hr : Kd.C k29 w A l.length l) (hc : l.length ≤ c) (hl : l.length ≤ 1000000) (ha : Asc l) :
    Calls Try.prog 52 #[.slice A l.length c, .int .i64 t, .func (.func 53) #[] #[]] w fun e w' => e = .returned (.tuple #[.int .i64 (plc l t), .bool (hasT l t)]) ∧ Below w.heap.size w w' := by
  have HR := Aside0.mk hr
  have HAS := Aside0.mk ha
  clear hr ha
  have hu := Try.underlying29
  go_enter Try.func52, Try.ntmps52
  go_wp2_with fail
  go_loopg [9, 10] (l.length) (fun kq v9 v10 w' => ∃ i j : Nat, v9 = .int .i64 i ∧ v10 = .int .i64 j ∧ i ≤ j ∧ j ≤ l.length ∧ Aside0 (kq = j - i) ∧ Aside0 (Below w.heap.size w w') ∧ Aside0 (∀ k (h : k < l.length), k < i → l[k].f0 < t) ∧ Aside0 (∀ k (h : k < l.length), j ≤ k → ¬ l[k].f0 < t))
  case atStart => exact ⟨0, l.length, rfl, rfl, by omega, by omega, ⟨by omega⟩, ⟨Below.refl _ _⟩, ⟨fun k h hk => by omega⟩, ⟨fun k h hk => by omega⟩⟩
  case round =>
    obtain ⟨i, j, rfl, rfl, hij, hj, HK, HB, HL, HU⟩ := hrel
    by_cases hlt : i < j
    · obtain ⟨m, hm⟩ : ∃ m : Nat, (i + j) / 2 = m := ⟨_, rfl⟩
      have him : i ≤ m := by omega
      have hmj : m < j := by omega
      have hmd : ((i : Int) + (j : Int)) / 2 = (m : Int) := by omega
      have hml : m < l.length := by omega
      obtain ⟨ad, e1, hc0, hc1⟩ := at_T29 (Kd.C_below HR.out HB.out) (m : Int) (by omega) (by omega)
      cases e1
      rw [rdT_get l m hml] at hc0 hc1
      simp only [Int.toNat_natCast] at hc0 hc1
      have pl : (0 ≤ (m : Int)) = True := eq_true (by omega)
      clear hm
      have HM := Aside0.mk (show ∀ k (h : k < l.length), k ≤ m → l[k].f0 ≤ l[m].f0 from fun k h hk => by
        by_cases e : k = m
        · subst e; exact Int.le_refl _
        · exact Int.le_of_lt (HAS.out.lt h hml (by omega)))
      have HM2 := Aside0.mk (show ∀ k (h : k < l.length), m ≤ k → l[m].f0 ≤ l[k].f0 from fun k h hk => by
        by_cases e : m = k
        · subst e; exact Int.le_refl _
        · exact Int.le_of_lt (HAS.out.lt hml h (by omega)))
      by_cases hx : l[m].f0 < t
      · have HF := Aside0.mk (find1_calls l[m] t wr)
        rw [show cmpI l[m].f0 t = -1 by unfold cmpI; rw [if_pos hx]] at HF
        have HX := Aside0.mk hx
        clear hx
        generalize l[m] = x at *
        go_wp2_with (go_at_call 53; refine HF.out.mono ?_; rintro e w1 ⟨rfl, rfl⟩)
        go_roundg (j - (m + 1))
        case measure => have := HK.out; omega
        case rel => exact ⟨m + 1, j, by simp, rfl, by omega, hj, ⟨rfl⟩, ⟨below_alloc HB.out _⟩, ⟨fun k h hk => Int.lt_of_le_of_lt (HM.out k h (by omega)) HX.out⟩, HU⟩
      · have HF := Aside0.mk (find1_calls l[m] t wr)
        obtain ⟨cv, hcv⟩ : ∃ cv, cmpI l[m].f0 t = cv := ⟨_, rfl⟩
        have hcv0 : 0 ≤ cv := by rw [← hcv]; unfold cmpI; rw [if_neg hx]; split <;> omega
        rw [hcv] at HF
        have HX := Aside0.mk hx
        clear hx hcv
        have dcv : decide (cv < 0) = false := decide_eq_false (by omega)
        generalize l[m] = x at *
        go_wp2_with (go_at_call 53; refine HF.out.mono ?_; rintro e w1 ⟨rfl, rfl⟩)
        go_roundg (m - i)
        case measure => have := HK.out; omega
        case rel => exact ⟨i, m, rfl, rfl, him, by omega, ⟨rfl⟩, ⟨below_alloc HB.out _⟩, HL, ⟨fun k h hk => by have h1 := HX.out; have h2 := HM2.out k h hk; omega⟩⟩
    · have hij' : i = j := by omega
      subst hij'
      have HP := Aside0.mk (plc_eq t l i hj HL.out (fun h => HU.out i h (Nat.le_refl _)))
      by_cases hlen : i < l.length
      · obtain ⟨ad, e1, hc0, hc1⟩ := at_T29 (Kd.C_below HR.out HB.out) (i : Int) (by omega) (by omega)
        cases e1
        rw [rdT_get l i hlen] at hc0 hc1
        simp only [Int.toNat_natCast] at hc0 hc1
        have pl : (0 ≤ (i : Int)) = True := eq_true (by omega)
        have dl : decide (i < l.length) = true := decide_eq_true hlen
        have HH := Aside0.mk (show hasT l t = (cmpI l[i].f0 t == 0) by
          unfold hasT
          rw [HP.out, List.getElem?_eq_getElem hlen]
          have := HU.out i hlen (Nat.le_refl _)
          show (l[i].f0 == t) = _
          rw [Bool.eq_iff_iff]
          simp only [beq_iff_eq]
          unfold cmpI
          constructor
          · intro e; rw [if_neg (by omega), if_neg (by omega)]
          · intro e; rw [if_neg this] at e; split at e <;> omega)
        have HF := Aside0.mk (find1_calls l[i] t wr)
        generalize l[i] = x at *
        generalize cmpI x.f0 t = cv at *
        go_wp2_with (go_at_call 53; refine HF.out.mono ?_; rintro e w1 ⟨rfl, rfl⟩)
        go_ret2
        exact ⟨by rw [HH.out, HP.out]; rfl, below_alloc HB.out _⟩
      · have dl : decide (i < l.length) = false := decide_eq_false hlen
        have HH := Aside0.mk (show hasT l t = false by
          unfold hasT
          rw [HP.out, List.getElem?_eq_none (by omega)])
        go_wp2
        go_ret2
        exact ⟨by rw [HH.out, HP.out]; rfl, HB.out⟩

set_option maxHeartbeats 1000000 in
theorem find_calls (A : Option Addr) (c : Nat) (l : L29) (t : Int) (w : World) (hr : Kd.C k29 w A l.length l) (hc : l.length ≤ c) (hl : l.length ≤ 1000000) (ha : Asc l) :
    Calls Try.prog 39 #[.slice A l.length c, .int .i64 t] w fun e w' => e = .returned (.tuple #[.int .i64 (plc l t), .bool (hasT l t)]) ∧ Below w.heap.size w w' := by
  have H := Aside0.mk (BSearch_calls A c l t w hr hc hl ha)
  clear hr ha
  generalize plc l t = p at *
  generalize hasT l t = b at *
  go_enter Try.func39, Try.ntmps39
  go_wp2_with (go_at_call 52; refine H.out.mono ?_; rintro e w1 ⟨rfl, hb⟩)
  go_ret2
  exact ⟨rfl, hb⟩
end Go.Proofs.Ytjgkcgfbkcbjfaa.H
