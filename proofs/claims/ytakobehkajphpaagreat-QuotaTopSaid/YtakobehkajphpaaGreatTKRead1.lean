/- What Check, New, Above, Same and the law's own truth come to. -/
import Derived.Test.YtakobehkajphpaaGreatTKCmp
import Derived.Test.YtakobehkajphpaaGreatTPF4
namespace Go.Proofs.YtakobehkajphpaaGreat.K
open Go Go.RowKit Go.Proofs.YtakobehkajphpaaGreatW.PrintWords Go.Proofs.YtakobehkajphpaaGreatW.PrintLast Go.Proofs.YtakobehkajphpaaGreatW.PrintMore Go.Proofs.YtakobehkajphpaaGreat.PAll
set_option linter.unusedVariables false
set_option linter.unusedSimpArgs false

/-- Below the limit for lengths. -/
abbrev LB : Nat := 1000000
/-- The check of the items, and of the sum behind it. -/
def finC (T acc : Int) (p : Option ByteArray) (l : L64) : Int := if chkI p l ≠ 0 then chkI p l else if T < acc + sumI l then 10 else 0
theorem finC_nil (T acc : Int) (p : Option ByteArray) : finC T acc p [] = if T < acc then 10 else 0 := by
  have : chkI p [] = 0 := by cases p <;> rfl
  unfold finC; rw [this]; simp [sumI]
theorem finC_cons (T acc : Int) (p : Option ByteArray) (x : S64) (l : L64) : finC T acc p (x :: l) = if 200 < x.f0.size then 4 else if bdK p x.f0 = true then 9 else if x.f1 < 1 ∨ 1099511627776 < x.f1 then 2 else finC T (acc + x.f1) (some x.f0) l := by
  unfold finC
  rw [sumI_cons]
  simp only [chkI]
  by_cases h1 : 200 < x.f0.size
  · simp [h1]
  · by_cases h2 : bdK p x.f0 = true
    · simp [h1, h2]
    · by_cases h3 : x.f1 < 1 ∨ 1099511627776 < x.f1
      · simp [h1, h2, h3]
      · simp only [h1, h2, h3, if_false]
        rw [Int.add_assoc]
        rfl
def prevK (l : L64) (j : Nat) : Option ByteArray := (l.take j).getLast?.map (·.f0)
theorem prevK_zero (l : L64) : prevK l 0 = none := by simp [prevK]
theorem prevK_succ (l : L64) (j : Nat) (h : j < l.length) : prevK l (j + 1) = some l[j].f0 := by
  unfold prevK
  rw [List.take_succ_eq_append_getElem h, List.getLast?_concat]
  rfl
theorem Check_l0 (K T L : Int) (l : L64) (hl : l.length ≤ LB) : ∀ (n k j : Nat) (acc : Int), l.length - j = n → 2 * n + 1 < k → j ≤ l.length → 0 ≤ acc → acc ≤ 219902325555200 + j * 1099511627776 →
    heavyhitters_Check.l0 k acc l (l.length : Int) (j : Int) K T L l = some (finC T acc (prevK l j) (l.drop j)) := by
  intro n
  induction n with
  | zero =>
    intro k j acc hn hk hj h0 h1
    obtain ⟨k, rfl⟩ : ∃ m, k = m + 1 := ⟨k - 1, by omega⟩
    simp only [heavyhitters_Check.l0]
    rw [if_neg (by omega), List.drop_eq_nil_of_le (by omega), finC_nil]
    split <;> simp_all
  | succ n ih =>
    intro k j acc hn hk hj h0 h1
    obtain ⟨k, rfl⟩ : ∃ m, k = m + 2 := ⟨k - 2, by omega⟩
    have hlt : j < l.length := by omega
    have hlb : l.length ≤ 1000000 := hl
    have key : ∀ b : Bool, b = bdK (prevK l j) l[j].f0 → ¬ 200 < l[j].f0.size → heavyhitters_Check.j3 (k + 1) acc l (l.length : Int) (j : Int) b K T L l l[j].f0 l[j].f1 = some (finC T acc (prevK l j) (l.drop j)) := by
      intro b hb hs
      simp only [heavyhitters_Check.j3]
      rw [List.drop_eq_getElem_cons hlt, finC_cons, if_neg hs, hb]
      by_cases h2 : bdK (prevK l j) l[j].f0 = true
      · rw [if_pos h2, if_pos h2]
      · rw [if_neg h2, if_neg h2]
        by_cases h3 : l[j].f1 < 1
        · rw [if_pos h3, if_pos (.inl h3)]
        · rw [if_neg h3]
          by_cases h4 : l[j].f1 > 1099511627776
          · rw [if_pos h4, if_pos (.inr h4)]
          · rw [if_neg h4, if_neg (by omega), wrap1 j (by omega), show wrap64 (acc + l[j].f1) = acc + l[j].f1 by unfold wrap64; omega, ih k (j + 1) _ (by omega) (by omega) (by omega) (by omega) (by omega), prevK_succ l j hlt]
    simp only [heavyhitters_Check.l0]
    rw [if_pos (by omega), if_pos (by omega), if_pos (by omega), rdT_get l j hlt]
    by_cases hs : (l[j].f0.size : Int) > 200
    · rw [if_pos hs, List.drop_eq_getElem_cons hlt, finC_cons, if_pos (by omega)]
    · rw [if_neg hs]
      by_cases hj0 : j = 0
      · subst hj0
        rw [if_neg (by simp)]
        exact key false (by rw [prevK_zero]; rfl) (by omega)
      · rw [if_pos (by omega), wrapm1 j (by omega) (by omega), if_pos (by omega), if_pos (by omega), rdT_get l (j - 1) (by omega)]
        refine key _ ?_ (by omega)
        obtain ⟨m, rfl⟩ : ∃ m, j = m + 1 := ⟨j - 1, by omega⟩
        rw [prevK_succ l m (by omega), toList_ab, toList_ab]
        rfl
theorem Check_f (x : HV) (k : Nat) (hl : x.f3.length ≤ LB) (hk : 2 * x.f3.length + 9 < k) : heavyhitters_Check.f k x.f0 x.f1 x.f2 x.f3 = some (chkH x) := by
  obtain ⟨K, T, L, l⟩ := x
  simp only at *
  obtain ⟨k, rfl⟩ : ∃ m, k = m + 4 := ⟨k - 4, by omega⟩
  have hlb : l.length ≤ 1000000 := hl
  unfold chkH
  simp only
  have hj1 : ∀ b : Bool, b = decide (T < 0 ∨ 1099511627776 < T ∨ L < 0 ∨ 1099511627776 < L) → 2 ≤ K → K ≤ 100 → heavyhitters_Check.j1 (k + 3) b K T L l = some (if T < 0 ∨ 1099511627776 < T ∨ L < 0 ∨ 1099511627776 < L then 2 else if K - 1 < l.length then 4 else if chkI none l ≠ 0 then chkI none l else if T < K * L + sumI l then 10 else 0) := by
    intro b hb hK hK1
    simp only [heavyhitters_Check.j1]
    by_cases h2 : T < 0 ∨ 1099511627776 < T ∨ L < 0 ∨ 1099511627776 < L
    · rw [if_pos h2, hb, if_pos (by simpa using h2)]
    · rw [if_neg h2, hb, if_neg (by simpa using h2), show wrap64 (K - 1) = K - 1 by unfold wrap64; omega]
      by_cases h3 : (l.length : Int) > K - 1
      · rw [if_pos h3, if_pos (by omega)]
      · have h4 : 0 ≤ K * L := Int.mul_nonneg (by omega) (by omega)
        have h5 : K * L ≤ 100 * 1099511627776 := by
          have := Int.mul_le_mul_of_nonneg_right hK1 (show 0 ≤ L by omega)
          omega
        rw [if_neg h3, if_neg (by omega), show wrap64 (K * L) = K * L by unfold wrap64; omega]
        have := Check_l0 K T L l hl l.length (k + 2) 0 (K * L) (by omega) (by omega) (by omega) h4 (by omega)
        rw [prevK_zero, List.drop_zero] at this
        simpa [finC] using this
  have hj0 : ∀ b : Bool, b = decide (K < 2 ∨ 100 < K) → heavyhitters_Check.j0 (k + 4) b K T L l = some (if K < 2 ∨ 100 < K then 2 else if T < 0 ∨ 1099511627776 < T ∨ L < 0 ∨ 1099511627776 < L then 2 else if K - 1 < l.length then 4 else if chkI none l ≠ 0 then chkI none l else if T < K * L + sumI l then 10 else 0) := by
    intro b hb
    simp only [heavyhitters_Check.j0]
    by_cases h1 : K < 2 ∨ 100 < K
    · rw [if_pos h1, hb, if_pos (by simpa using h1)]
    · rw [if_neg h1, hb, if_neg (by simpa using h1)]
      by_cases a1 : T < 0
      · rw [if_pos a1, hj1 _ (by simp [a1]) (by omega) (by omega)]
      · rw [if_neg a1]
        by_cases a2 : T > 1099511627776
        · rw [if_pos a2, hj1 _ (by simp [show 1099511627776 < T from a2]) (by omega) (by omega)]
        · rw [if_neg a2]
          by_cases a3 : L < 0
          · rw [if_pos a3, hj1 _ (by simp [a3]) (by omega) (by omega)]
          · rw [if_neg a3, hj1 _ (by
              have b1 : ¬ T < 0 := a1
              have b2 : ¬ 1099511627776 < T := by omega
              simp only [b1, b2, a3, false_or]) (by omega) (by omega)]
  unfold heavyhitters_Check.f
  by_cases h1 : K < 2
  · rw [if_pos h1]; exact hj0 true (by simp [h1])
  · rw [if_neg h1]; exact hj0 _ (by simp only [h1, false_or])

theorem Check_calls (x : HV) (A : Option Addr) (c : Nat) (w : World) (hr : Kd.C k64 w A x.f3.length x.f3) (hc : x.f3.length ≤ c) (hl : x.f3.length ≤ LB) :
    Calls Tryz.prog 59 #[.agg #[.int .i64 x.f0, .int .i64 x.f1, .int .i64 x.f2, .slice A x.f3.length c]] w fun e w' => e = .returned (.int .i64 (chkH x)) ∧ Below w.heap.size w w' :=
  heavyhitters_Check.calls (2 * x.f3.length + 10) _ _ _ A c _ _ w hr hc (Check_f x _ hl (by omega))
/-- A slice that reads as a list. -/
def CH (w : World) (v : Value) (l : L64) : Prop := ∃ A c, v = .slice A l.length c ∧ l.length ≤ c ∧ Kd.C k64 w A l.length l
theorem CH.below {w w' : World} {v : Value} {l : L64} (h : CH w v l) (hb : Below w.heap.size w w') : CH w' v l := by
  obtain ⟨A, c, e, hc, hC⟩ := h
  exact ⟨A, c, e, hc, Kd.C_below hC hb⟩
theorem CH.of_R {w : World} {base : Nat} {ok : Nat → Prop} {v : Value} {l : L64} (h : Kd.R k64 64 w base ok v l) : CH w v l := Kd.R_reads h
theorem CH.nil (w : World) : CH w (.slice none 0 0) [] := ⟨none, 0, rfl, Nat.le_refl _, rfl, by simp, fun h => absurd h (by simp)⟩
theorem CH.own {w : World} {base : Nat} {v : Value} {l : L64} (h : w.ownsRow base 64 2 v l.length (lcells l)) : CH w v l := CH.of_R (R_of_lcells h)
/-- A summary as a value. -/
def hv (x : HV) (v : Value) : Value := .agg #[.int .i64 x.f0, .int .i64 x.f1, .int .i64 x.f2, v]
/-- What a function that hands back a summary and an error leaves. -/
def RH (W : World) (r : HV × Int) (e : Ending) (w' : World) : Prop := ∃ v, e = .returned (.tuple #[.agg #[.int .i64 r.1.f0, .int .i64 r.1.f1, .int .i64 r.1.f2, v], .int .i64 r.2]) ∧ Kd.R k64 64 w' W.heap.size (fun _ => True) v r.1.f3 ∧ Below W.heap.size W w'

def newF (K : Int) : HV × Int := if K < 2 ∨ 100 < K then (zH, 2) else (⟨K, 0, 0, []⟩, 0)
theorem New_calls (K : Int) (w : World) : Calls Tryz.prog 34 #[.int .i64 K] w (RH w (newF K)) := by
  refine (heavyhitters_New.calls K (newF K).1.f0 (newF K).1.f1 (newF K).1.f2 (newF K).1.f3 (newF K).2 w ?_).mono ?_
  · unfold heavyhitters_New.f newF
    by_cases h1 : K < 2
    · rw [if_pos h1, if_pos (.inl h1)]; rfl
    · rw [if_neg h1]
      by_cases h2 : K > 100
      · rw [if_pos h2, if_pos (.inr h2)]; rfl
      · rw [if_neg h2, if_neg (by omega)]
  · rintro e w' ⟨v, rfl, hR, hb⟩
    exact ⟨v, rfl, hR, hb⟩

/-- A slice of strings that reads as a list. -/
def CS (w : World) (v : Value) (l : List ByteArray) : Prop := ∃ A c, v = .slice A l.length c ∧ l.length ≤ c ∧ Kd.C Kd.string w A l.length l
theorem CS.below {w w' : World} {v : Value} {l : List ByteArray} (h : CS w v l) (hb : Below w.heap.size w w') : CS w' v l := by
  obtain ⟨A, c, e, hc, hC⟩ := h
  exact ⟨A, c, e, hc, Kd.C_below hC hb⟩
end Go.Proofs.YtakobehkajphpaaGreat.K
