/- What the reference's Check, Bounds and Above come to; the opening of summaries. -/
import Derived.Test.YtgpkpeefbkcjeaaKAwake
import Derived.Test.YtgpkpeefbkcjeaaPF2
import Derived.Test.YtgpkpeefbkcjeaaHOpn
import Derived.Test.YtgpkpeefbkcjeaaGOpn2
namespace Go.Proofs.Ytgpkpeefbkcjeaa.H
open Go Go.RowKit Go.Proofs.YtgpkpeefbkcjeaaW.PrintWords Go.Proofs.YtgpkpeefbkcjeaaW.PrintLast Go.Proofs.YtgpkpeefbkcjeaaW.PrintMore Go.Proofs.Ytgpkpeefbkcjeaa.PAll
set_option linter.unusedVariables false
set_option linter.unusedSimpArgs false

theorem rsum_l0 (l : L58) (hl : l.length ≤ LB) (hb : ∀ y ∈ l, 0 ≤ y.f1 ∧ y.f1 ≤ 1099511627776) : ∀ (d k j : Nat) (s : Int), l.length - j = d → d < k → j ≤ l.length → 0 ≤ s → s ≤ j * 1099511627776 → lookoutref32_sum.l0 k l s (j : Int) = some (s + sumI (l.drop j)) := by
  intro d
  induction d with
  | zero =>
    intro k j s hn hk hj h0 h1
    obtain ⟨k, rfl⟩ : ∃ m, k = m + 1 := ⟨k - 1, by omega⟩
    simp only [lookoutref32_sum.l0]
    rw [if_neg (by omega), List.drop_eq_nil_of_le (by omega)]
    simp [sumI]
  | succ d ih =>
    intro k j s hn hk hj h0 h1
    obtain ⟨k, rfl⟩ : ∃ m, k = m + 1 := ⟨k - 1, by omega⟩
    have hlb : l.length ≤ 1000000 := hl
    have hlt : j < l.length := by omega
    have hx := hb l[j] (List.getElem_mem hlt)
    simp only [lookoutref32_sum.l0]
    rw [if_pos (by omega), if_pos (by omega), rdT_get l j hlt, wrap1 j (by omega), show wrap64 (s + l[j].f1) = s + l[j].f1 by unfold wrap64; omega, ih k (j + 1) _ (by omega) (by omega) (by omega) (by omega) (by omega), List.drop_eq_getElem_cons hlt, sumI_cons, Int.add_assoc]
theorem rsum_f (l : L58) (hl : l.length ≤ LB) (hb : ∀ y ∈ l, 0 ≤ y.f1 ∧ y.f1 ≤ 1099511627776) (k : Nat) (hk : l.length < k) : lookoutref32_sum.f k l = some (sumI l) := by
  have := rsum_l0 l hl hb l.length k 0 0 (by omega) (by omega) (by omega) (by omega) (by omega)
  simpa [lookoutref32_sum.f] using this
theorem sumI_ub (l : L58) (hb : ∀ y ∈ l, 0 ≤ y.f1 ∧ y.f1 ≤ 1099511627776) : 0 ≤ sumI l ∧ sumI l ≤ l.length * 1099511627776 := by
  induction l with
  | nil => simp [sumI]
  | cons x l ih =>
    have h0 := hb x (by simp)
    have h1 := ih (fun y hy => hb y (by simp [hy]))
    rw [sumI_cons]
    simp only [List.length_cons]
    omega
def fin2 (a z : Int) : Int := if a ≠ 0 then a else z
theorem fin2_zero (z : Int) : fin2 0 z = z := by simp [fin2]
theorem chkI_cons (p : Option ByteArray) (x : S58) (l : L58) : chkI p (x :: l) = if 200 < x.f0.size then 4 else if bdK p x.f0 = true then 9 else if x.f1 < 1 ∨ 1099511627776 < x.f1 then 2 else chkI (some x.f0) l := rfl
theorem rCheck_l0 (K T L : Int) (l : L58) (hl : l.length ≤ 1000) (hKL : 0 ≤ K * L ∧ K * L ≤ 219902325555200) : ∀ (n k j : Nat), l.length - j = n → 2 * n + l.length + 3 < k → j ≤ l.length → (∀ i (h : i < l.length), i < j → 1 ≤ l[i].f1 ∧ l[i].f1 ≤ 1099511627776) →
    lookoutref32_Check.l0 k (j : Int) K T L l = some (fin2 (chkI (prevK l j) (l.drop j)) (if T < K * L + sumI l then 10 else 0)) := by
  intro n
  induction n with
  | zero =>
    intro k j hn hk hj hp
    obtain ⟨k, rfl⟩ : ∃ m, k = m + 1 := ⟨k - 1, by omega⟩
    have hb : ∀ y ∈ l, 0 ≤ y.f1 ∧ y.f1 ≤ 1099511627776 := fun y hy => by
      obtain ⟨i, hi, rfl⟩ := List.getElem_of_mem hy
      have := hp i hi (by omega)
      omega
    have hu := sumI_ub l hb
    simp only [lookoutref32_Check.l0]
    rw [if_neg (by omega), rsum_f l (by simp only [LB]; omega) hb k (by omega), List.drop_eq_nil_of_le (by omega)]
    have e0 : chkI (prevK l j) [] = 0 := by cases prevK l j <;> rfl
    simp only [Option.bind_some]
    rw [e0, fin2_zero, show wrap64 (K * L) = K * L by unfold wrap64; omega, show wrap64 (sumI l + K * L) = K * L + sumI l by unfold wrap64; omega]
    by_cases h : T < K * L + sumI l
    · rw [if_pos h, if_pos (by omega)]
    · rw [if_neg h, if_neg (by omega)]
  | succ n ih =>
    intro k j hn hk hj hp
    obtain ⟨k, rfl⟩ : ∃ m, k = m + 2 := ⟨k - 2, by omega⟩
    have hlt : j < l.length := by omega
    have key : ∀ b : Bool, b = bdK (prevK l j) l[j].f0 → ¬ 200 < l[j].f0.size → lookoutref32_Check.j2 (k + 1) (j : Int) b K T L l = some (fin2 (chkI (prevK l j) (l.drop j)) (if T < K * L + sumI l then 10 else 0)) := by
      intro b hb hs
      simp only [lookoutref32_Check.j2]
      rw [List.drop_eq_getElem_cons hlt, hb, chkI_cons, if_neg hs]
      by_cases h2 : bdK (prevK l j) l[j].f0 = true
      · rw [if_pos h2, if_pos h2]; simp [fin2]
      · rw [if_neg h2, if_neg h2, if_pos (by omega), if_pos (by omega), rdT_get l j hlt]
        by_cases h3 : l[j].f1 < 1
        · rw [if_pos h3, if_pos (.inl h3)]; simp [fin2]
        · rw [if_neg h3]
          by_cases h4 : l[j].f1 > 1099511627776
          · rw [if_pos h4, if_pos (.inr h4)]; simp [fin2]
          · rw [if_neg h4, if_neg (by omega), wrap1 j (by omega), ih k (j + 1) (by omega) (by omega) (by omega) (fun i h hij => by
              by_cases e : i = j
              · subst e; omega
              · exact hp i h (by omega)), prevK_succ l j hlt]
    simp only [lookoutref32_Check.l0]
    rw [if_pos (by omega), if_pos (by omega), rdT_get l j hlt]
    by_cases hs : (l[j].f0.size : Int) > 200
    · rw [if_pos hs, List.drop_eq_getElem_cons hlt, chkI_cons, if_pos (by omega)]; simp [fin2]
    · rw [if_neg hs]
      by_cases hj0 : j = 0
      · subst hj0
        rw [if_neg (by simp)]
        exact key false (by rw [prevK_zero]; rfl) (by omega)
      · rw [if_pos (by omega), wrapm1 j (by omega) (by omega), if_pos (by omega), if_pos (by omega), rdT_get l (j - 1) (by omega)]
        refine key _ ?_ (by omega)
        obtain ⟨m, rfl⟩ : ∃ m, j = m + 1 := ⟨j - 1, by omega⟩
        rw [prevK_succ l m (by omega), toList_ab, toList_ab]
        rfl
theorem rCheck_f (x : HV) (k : Nat) (hl : x.f3.length ≤ 1000) (hk : 3 * x.f3.length + 9 < k) : lookoutref32_Check.f k x.f0 x.f1 x.f2 x.f3 = some (chkH x) := by
  obtain ⟨K, T, L, l⟩ := x
  simp only at *
  obtain ⟨k, rfl⟩ : ∃ m, k = m + 1 := ⟨k - 1, by omega⟩
  unfold chkH
  simp only
  have hj0 : ∀ b : Bool, b = decide (K < 2 ∨ 100 < K ∨ T < 0 ∨ 1099511627776 < T ∨ L < 0 ∨ 1099511627776 < L) → lookoutref32_Check.j0 (k + 1) b K T L l = some (if K < 2 ∨ 100 < K then 2 else if T < 0 ∨ 1099511627776 < T ∨ L < 0 ∨ 1099511627776 < L then 2 else if K - 1 < l.length then 4 else if chkI none l ≠ 0 then chkI none l else if T < K * L + sumI l then 10 else 0) := by
    intro b hb
    simp only [lookoutref32_Check.j0]
    by_cases h1 : K < 2 ∨ 100 < K
    · rw [if_pos h1, hb, if_pos (by simp only [decide_eq_true_eq]; omega)]
    · rw [if_neg h1]
      by_cases h2 : T < 0 ∨ 1099511627776 < T ∨ L < 0 ∨ 1099511627776 < L
      · rw [if_pos h2, hb, if_pos (by simp only [decide_eq_true_eq]; omega)]
      · rw [if_neg h2, hb, if_neg (by simp only [decide_eq_true_eq]; omega), show wrap64 (K - 1) = K - 1 by unfold wrap64; omega]
        by_cases h3 : (l.length : Int) > K - 1
        · rw [if_pos h3, if_pos (by omega)]
        · have h4 : 0 ≤ K * L := Int.mul_nonneg (by omega) (by omega)
          have h5 : K * L ≤ 100 * 1099511627776 := by
            have := Int.mul_le_mul_of_nonneg_right (show K ≤ 100 by omega) (show 0 ≤ L by omega)
            omega
          rw [if_neg h3, if_neg (by omega)]
          have := rCheck_l0 K T L l hl ⟨h4, by omega⟩ l.length k 0 (by omega) (by omega) (by omega) (fun i h hi => by omega)
          rw [prevK_zero, List.drop_zero] at this
          exact this
  unfold lookoutref32_Check.f
  by_cases a0 : K < 2
  · rw [if_pos a0]; exact hj0 true (by simp [a0])
  rw [if_neg a0]
  by_cases a1 : K > 100
  · rw [if_pos a1]; exact hj0 true (by simp [show 100 < K from a1])
  rw [if_neg a1]
  by_cases a2 : T < 0
  · rw [if_pos a2]; exact hj0 true (by simp [a2])
  rw [if_neg a2]
  by_cases a3 : T > 1099511627776
  · rw [if_pos a3]; exact hj0 true (by simp [show 1099511627776 < T from a3])
  rw [if_neg a3]
  by_cases a4 : L < 0
  · rw [if_pos a4]; exact hj0 true (by simp [a4])
  rw [if_neg a4]
  refine hj0 _ ?_
  have b1 : ¬ 100 < K := by omega
  have b3 : ¬ 1099511627776 < T := by omega
  simp only [a0, b1, a2, b3, a4, false_or]
theorem rCheck_calls (x : HV) (A : Option Addr) (c : Nat) (w : World) (hr : Kd.C k58 w A x.f3.length x.f3) (hc : x.f3.length ≤ c) (hl : x.f3.length ≤ 1000) :
    Calls Try.prog 17 #[.agg #[.int .i64 x.f0, .int .i64 x.f1, .int .i64 x.f2, .slice A x.f3.length c]] w fun e w' => e = .returned (.int .i64 (chkH x)) ∧ Below w.heap.size w w' :=
  lookoutref32_Check.calls (3 * x.f3.length + 10) _ _ _ A c _ _ w hr hc (rCheck_f x _ hl (by omega))

def kH : Kd HV := Kd.iso (Kd.pair (Kd.int .i64) (Kd.pair (Kd.int .i64) (Kd.pair (Kd.int .i64) (Kd.slice 58 k58)))) (fun x => (x.f0, x.f1, x.f2, x.f3))
theorem kH_open {w : World} {x : HV} {cs : List Value} (h : kH.K w x cs) : ∃ A c, cs = [.int .i64 x.f0, .int .i64 x.f1, .int .i64 x.f2, .slice A x.f3.length c] ∧ x.f3.length ≤ c ∧ Kd.C k58 w A x.f3.length x.f3 := by
  obtain ⟨c0, c1, rfl, h0, c2, c3, rfl, h1, c4, c5, rfl, h2, A, c, rfl, hl, hC⟩ := h
  cases h0; cases h1; cases h2
  exact ⟨A, c, rfl, hl, hC⟩
theorem opn_Item : Opn 58 k58 (fun x => x.f0.size ≤ maxLen ∧ (Lit.int .i64 x.f1).wf = true) :=
  opn_struct (fun x : S58 => (x.f0, x.f1)) (fun p => ⟨p.1, p.2⟩) (fun _ => rfl) Try.underlying58 (by kernel_rfl)
    (opnF_cons (opn_str Try.underlying9 (by kernel_rfl)) (opnF_one (opn_int Try.underlying3 (by kernel_rfl))))
theorem opn_Items : Opn 22 (Kd.slice 58 k58) (fun l => ∀ x ∈ l, x.f0.size ≤ maxLen ∧ (Lit.int .i64 x.f1).wf = true) := opn_slice 58 Try.underlying22 (by kernel_rfl) opn_Item
theorem opn_Heavy : Opn 24 kH (fun x => (Lit.int .i64 x.f0).wf = true ∧ (Lit.int .i64 x.f1).wf = true ∧ (Lit.int .i64 x.f2).wf = true ∧ ∀ y ∈ x.f3, y.f0.size ≤ maxLen ∧ (Lit.int .i64 y.f1).wf = true) :=
  opn_struct (fun x : HV => (x.f0, x.f1, x.f2, x.f3)) (fun p => ⟨p.1, p.2.1, p.2.2.1, p.2.2.2⟩) (fun _ => rfl) Try.underlying24 (by kernel_rfl)
    (opnF_cons (opn_int Try.underlying3 (by kernel_rfl)) (opnF_cons (opn_int Try.underlying3 (by kernel_rfl)) (opnF_cons (opn_int Try.underlying3 (by kernel_rfl)) (opnF_one opn_Items))))
theorem opn_Many : Opn 49 k49 (fun x => x.f0.size ≤ maxLen ∧ (Lit.int .i64 x.f1).wf = true) :=
  opn_struct (fun x : S49 => (x.f0, x.f1)) (fun p => ⟨p.1, p.2⟩) (fun _ => rfl) Try.underlying49 (by kernel_rfl)
    (opnF_cons (opn_str Try.underlying9 (by kernel_rfl)) (opnF_one (opn_int Try.underlying3 (by kernel_rfl))))
theorem opn_Manys : Opn 45 (Kd.slice 49 k49) (fun l => ∀ x ∈ l, x.f0.size ≤ maxLen ∧ (Lit.int .i64 x.f1).wf = true) := opn_slice 49 Try.underlying45 (by kernel_rfl) opn_Many
theorem opn_ManysL : Opn 43 (Kd.slice 45 (Kd.slice 49 k49)) (fun ls => ∀ l ∈ ls, ∀ x ∈ l, x.f0.size ≤ maxLen ∧ (Lit.int .i64 x.f1).wf = true) := opn_slice 45 Try.underlying43 (by kernel_rfl) opn_Manys
end Go.Proofs.Ytgpkpeefbkcjeaa.H
