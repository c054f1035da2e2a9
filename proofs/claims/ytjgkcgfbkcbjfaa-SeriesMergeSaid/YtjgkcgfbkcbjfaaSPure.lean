/- What Check, Increase, Resets, Slice and the reference's parts come to, in lists alone. -/
import Derived.Test.YtjgkcgfbkcbjfaaGRow
import Derived.Test.YtjgkcgfbkcbjfaaPF1
namespace Go.Proofs.Ytjgkcgfbkcbjfaa.H
open Go Go.RowKit Go.Proofs.YtjgkcgfbkcbjfaaW.PrintWords Go.Proofs.YtjgkcgfbkcbjfaaW.PrintLast Go.Proofs.YtjgkcgfbkcbjfaaW.PrintMore Go.Proofs.Ytjgkcgfbkcbjfaa.PAll
set_option linter.unusedVariables false
set_option linter.unusedSimpArgs false

theorem rdT_get (l : L29) (j : Nat) (h : j < l.length) : rd_T29 l (j : Int) = l[j] := by simp [rd_T29, List.getD_eq_getElem?_getD, List.getElem?_eq_getElem h]
theorem wrap1 (j : Nat) (h : j ≤ 4611686018427387904) : wrap64 ((j : Int) + 1) = ((j + 1 : Nat) : Int) := by unfold wrap64; omega
theorem wrapm1 (j : Nat) (h0 : 0 < j) (h : j ≤ 4611686018427387904) : wrap64 ((j : Int) - 1) = ((j - 1 : Nat) : Int) := by unfold wrap64; omega

/-- A valid sample of a kind. -/
def okX (x : S29) : Bool := decide (1 ≤ x.f0 ∧ x.f0 ≤ 1099511627776 ∧ -1099511627776 ≤ x.f1 ∧ x.f1 ≤ 1099511627776)
def okS (kind : Int) (x : S29) : Bool := okX x && !(decide (kind = 2 ∧ x.f1 < 0))
def chkL (kind : Int) : Option Int → L29 → Int
  | _, [] => 0
  | p, x :: l => if okS kind x = true then (if p.any (fun t => decide (x.f0 ≤ t)) = true then 9 else chkL kind (some x.f0) l) else 2
def chkK (kind : Int) (l : L29) : Int := if kind = 1 ∨ kind = 2 then (if 2000 < l.length then 4 else chkL kind none l) else 8

theorem rsample_f (x : S29) : lookoutref11_sample.f x.f0 x.f1 = some (okX x) := by
  unfold lookoutref11_sample.f okX
  by_cases a : 1 ≤ x.f0 <;> by_cases b : x.f0 ≤ 1099511627776 <;> by_cases c : -1099511627776 ≤ x.f1 <;> by_cases d : x.f1 ≤ 1099511627776 <;> simp [a, b, c, d]
theorem isSample_f (x : S29) : series_isSample.f x.f0 x.f1 = some (okX x) := by
  unfold series_isSample.f okX
  by_cases a : 1 ≤ x.f0 <;> by_cases b : x.f0 ≤ 1099511627776 <;> by_cases c : -1099511627776 ≤ x.f1 <;> by_cases d : x.f1 ≤ 1099511627776 <;> simp [a, b, c, d]

/-- The time of the sample ahead of place j. -/
def prevT (l : L29) (j : Nat) : Option Int := (l.take j).getLast?.map (·.f0)
theorem prevT_zero (l : L29) : prevT l 0 = none := by simp [prevT]
theorem prevT_succ (l : L29) (j : Nat) (h : j < l.length) : prevT l (j + 1) = some l[j].f0 := by
  unfold prevT
  rw [List.take_succ_eq_append_getElem h, List.getLast?_concat]
  rfl

theorem sCheck_l0 (kind : Int) (l : L29) (hl : l.length ≤ 4611686018427387904) : ∀ (n k j : Nat), l.length - j = n → 2 * n + 1 < k → j ≤ l.length →
    series_Check.l0 k kind l l (l.length : Int) (j : Int) = some (chkL kind (prevT l j) (l.drop j)) := by
  intro n
  induction n with
  | zero =>
    intro k j hn hk hj
    obtain ⟨k, rfl⟩ : ∃ m, k = m + 1 := ⟨k - 1, by omega⟩
    simp only [series_Check.l0]
    rw [if_neg (by omega), List.drop_eq_nil_of_le (by omega)]
    rfl
  | succ n ih =>
    intro k j hn hk hj
    obtain ⟨k, rfl⟩ : ∃ m, k = m + 2 := ⟨k - 2, by omega⟩
    have hlt : j < l.length := by omega
    have hih := ih k (j + 1) (by omega) (by omega) (by omega)
    have key : ∀ b : Bool, b = !(okS kind l[j]) → series_Check.j2 (k + 1) kind l (j : Int) l (l.length : Int) (j : Int) b l[j].f0 l[j].f1 = some (chkL kind (prevT l j) (l.drop j)) := by
      intro b hb
      simp only [series_Check.j2]
      rw [List.drop_eq_getElem_cons hlt]
      simp only [chkL]
      by_cases ho : okS kind l[j] = true
      · rw [ho] at hb
        subst hb
        rw [if_neg (by simp), if_pos ho, wrap1 j (by omega), hih, prevT_succ l j hlt]
        by_cases h0 : j = 0
        · subst h0
          rw [if_neg (by omega), prevT_zero]
          simp
        · obtain ⟨i, rfl⟩ : ∃ i, j = i + 1 := ⟨j - 1, by omega⟩
          rw [if_pos (by omega), wrapm1 (i + 1) (by omega) (by omega), Nat.add_sub_cancel, if_pos (by omega), if_pos (by omega), rdT_get l i (by omega), prevT_succ l i (by omega)]
          simp only [Option.any_some, decide_eq_true_eq]
          split <;> rfl
      · have hb' : b = true := by rw [hb]; simpa using ho
        rw [if_pos hb', if_neg ho]
    simp only [series_Check.l0]
    rw [if_pos (by omega), if_pos (by omega), if_pos (by omega), rdT_get l j hlt, isSample_f]
    simp only [Option.bind_some]
    by_cases hx : okX l[j] = true
    · rw [if_pos hx]
      by_cases h2 : kind = 2
      · rw [if_pos h2]
        exact key _ (by simp [okS, hx, h2])
      · rw [if_neg h2]
        exact key _ (by simp [okS, hx, h2])
    · rw [if_neg hx]
      exact key _ (by simp [okS, hx])
theorem sCheck_f (kind : Int) (l : L29) (k : Nat) (hl : l.length ≤ 4611686018427387904) (hk : 2 * l.length + 2 < k) : series_Check.f k kind l = some (chkK kind l) := by
  obtain ⟨k, rfl⟩ : ∃ m, k = m + 1 := ⟨k - 1, by omega⟩
  have h := sCheck_l0 kind l hl l.length k 0 (by omega) (by omega) (by omega)
  have h' : series_Check.l0 k kind l l (l.length : Int) 0 = some (chkL kind none l) := by simpa [prevT] using h
  unfold series_Check.f chkK
  simp only [series_Check.j0]
  by_cases h1 : kind = 1
  · rw [if_pos h1, if_neg (by simp), if_pos (show kind = 1 ∨ kind = 2 from .inl h1), h']
    by_cases h3 : 2000 < l.length
    · rw [if_pos (by omega), if_pos h3]
    · rw [if_neg (by omega), if_neg h3]
  · rw [if_neg h1]
    by_cases h2 : kind = 2
    · rw [if_neg (by simp [h2]), if_pos (show kind = 1 ∨ kind = 2 from .inr h2), h']
      by_cases h3 : 2000 < l.length
      · rw [if_pos (by omega), if_pos h3]
      · rw [if_neg (by omega), if_neg h3]
    · rw [if_pos (by simpa using h2), if_neg (by simp [h1, h2])]

theorem rCheck_l0 (kind : Int) (l : L29) (hl : l.length ≤ 4611686018427387904) : ∀ (n k j : Nat), l.length - j = n → 2 * n + 1 < k → j ≤ l.length →
    lookoutref11_Check.l0 k kind l (j : Int) = some (chkL kind (prevT l j) (l.drop j)) := by
  intro n
  induction n with
  | zero =>
    intro k j hn hk hj
    obtain ⟨k, rfl⟩ : ∃ m, k = m + 1 := ⟨k - 1, by omega⟩
    simp only [lookoutref11_Check.l0]
    rw [if_neg (by omega), List.drop_eq_nil_of_le (by omega)]
    rfl
  | succ n ih =>
    intro k j hn hk hj
    obtain ⟨k, rfl⟩ : ∃ m, k = m + 2 := ⟨k - 2, by omega⟩
    have hlt : j < l.length := by omega
    have hih := ih k (j + 1) (by omega) (by omega) (by omega)
    have key : ∀ b : Bool, b = !(okS kind l[j]) → lookoutref11_Check.j2 (k + 1) kind l (j : Int) b = some (chkL kind (prevT l j) (l.drop j)) := by
      intro b hb
      simp only [lookoutref11_Check.j2]
      rw [List.drop_eq_getElem_cons hlt]
      simp only [chkL]
      by_cases ho : okS kind l[j] = true
      · rw [ho] at hb
        subst hb
        rw [if_neg (by simp), if_pos ho, wrap1 j (by omega), hih, prevT_succ l j hlt]
        by_cases h0 : j = 0
        · subst h0
          rw [if_neg (by omega), prevT_zero]
          simp
        · obtain ⟨i, rfl⟩ : ∃ i, j = i + 1 := ⟨j - 1, by omega⟩
          rw [if_pos (by omega), wrapm1 (i + 1) (by omega) (by omega), Nat.add_sub_cancel, if_pos (by omega), if_pos (by omega), if_pos (by omega), if_pos (by omega), rdT_get l i (by omega), rdT_get l (i + 1) hlt, prevT_succ l i (by omega)]
          simp only [Option.any_some, decide_eq_true_eq, ge_iff_le]
          split <;> rfl
      · have hb' : b = true := by rw [hb]; simpa using ho
        rw [if_pos hb', if_neg ho]
    simp only [lookoutref11_Check.l0]
    rw [if_pos (by omega), if_pos (by omega), rdT_get l j hlt, rsample_f]
    simp only [Option.bind_some]
    by_cases hx : okX l[j] = true
    · rw [if_pos hx]
      by_cases h2 : kind = 2
      · rw [if_pos h2]
        exact key _ (by simp [okS, hx, h2])
      · rw [if_neg h2]
        exact key _ (by simp [okS, hx, h2])
    · rw [if_neg hx]
      exact key _ (by simp [okS, hx])
theorem rCheck_f (kind : Int) (l : L29) (k : Nat) (hl : l.length ≤ 4611686018427387904) (hk : 2 * l.length + 2 < k) : lookoutref11_Check.f k kind l = some (chkK kind l) := by
  obtain ⟨k, rfl⟩ : ∃ m, k = m + 1 := ⟨k - 1, by omega⟩
  have h := rCheck_l0 kind l hl l.length k 0 (by omega) (by omega) (by omega)
  have h' : lookoutref11_Check.l0 k kind l 0 = some (chkL kind none l) := by simpa [prevT] using h
  unfold lookoutref11_Check.f chkK
  simp only [lookoutref11_Check.j0]
  by_cases h1 : kind = 1
  · rw [if_pos h1, if_neg (by simp), if_pos (show kind = 1 ∨ kind = 2 from .inl h1), h']
    by_cases h3 : 2000 < l.length
    · rw [if_pos (by omega), if_pos h3]
    · rw [if_neg (by omega), if_neg h3]
  · rw [if_neg h1]
    by_cases h2 : kind = 2
    · rw [if_neg (by simp [h2]), if_pos (show kind = 1 ∨ kind = 2 from .inr h2), h']
      by_cases h3 : 2000 < l.length
      · rw [if_pos (by omega), if_pos h3]
      · rw [if_neg (by omega), if_neg h3]
    · rw [if_pos (by simpa using h2), if_neg (by simp [h1, h2])]

/-- What Check's OK says. -/
theorem chkL_iff (kind : Int) : ∀ (l : L29) (p : Option Int), chkL kind p l = 0 ↔ (∀ x ∈ l, okS kind x = true ∧ ∀ t ∈ p, t < x.f0) ∧ l.Pairwise (fun x y => x.f0 < y.f0)
  | [], p => by simp [chkL]
  | x :: l, p => by
    have ih := chkL_iff kind l (some x.f0)
    simp only [chkL]
    by_cases ho : okS kind x = true
    · rw [if_pos ho]
      by_cases hp : p.any (fun t => decide (x.f0 ≤ t)) = true
      · rw [if_pos hp]
        cases p with
        | none => simp at hp
        | some t =>
          simp at hp
          refine ⟨(fun h => by cases h), fun h => ?_⟩
          have := (h.1 x (by simp)).2 t rfl
          omega
      · rw [if_neg hp, ih, List.pairwise_cons]
        have hp' : ∀ t ∈ p, t < x.f0 := by
          intro t ht
          cases ht
          simpa using hp
        constructor
        · rintro ⟨h1, h2⟩
          refine ⟨fun y hy => ?_, fun y hy => (h1 y hy).2 _ rfl, h2⟩
          rcases List.mem_cons.1 hy with rfl | hy
          · exact ⟨ho, hp'⟩
          · exact ⟨(h1 y hy).1, fun t ht => Int.lt_trans (hp' t ht) ((h1 y hy).2 _ rfl)⟩
        · rintro ⟨h1, h2, h3⟩
          exact ⟨fun y hy => ⟨(h1 y (by simp [hy])).1, fun t ht => by cases ht; exact h2 y hy⟩, h3⟩
    · rw [if_neg ho]
      exact ⟨(fun h => by cases h), fun h => absurd (h.1 x (by simp)).1 ho⟩
theorem chkK_iff (kind : Int) (l : L29) : chkK kind l = 0 ↔ (kind = 1 ∨ kind = 2) ∧ l.length ≤ 2000 ∧ (∀ x ∈ l, okS kind x = true) ∧ l.Pairwise (fun x y => x.f0 < y.f0) := by
  unfold chkK
  by_cases h : kind = 1 ∨ kind = 2
  · rw [if_pos h]
    by_cases h2 : 2000 < l.length
    · rw [if_pos h2]
      exact ⟨(fun h => by cases h), fun h3 => by omega⟩
    · rw [if_neg h2, chkL_iff]
      constructor
      · rintro ⟨h3, h4⟩
        exact ⟨h, by omega, fun x hx => (h3 x hx).1, h4⟩
      · rintro ⟨_, _, h3, h4⟩
        exact ⟨fun x hx => ⟨h3 x hx, fun t ht => by cases ht⟩, h4⟩
  · rw [if_neg h]
    exact ⟨(fun h => by cases h), fun h2 => absurd h2.1 h⟩

/-- The increase and the resets. -/
def stp (a b : Int) : Int := if b < a then b else b - a
def incL : L29 → Int
  | x :: y :: l => stp x.f1 y.f1 + incL (y :: l)
  | _ => 0
def rstL : L29 → Int
  | x :: y :: l => (if y.f1 < x.f1 then 1 else 0) + rstL (y :: l)
  | _ => 0
def inc (l : L29) : Int := if chkK 2 l = 0 then incL l else 0
def rst (l : L29) : Int := if chkK 2 l = 0 then rstL l else 0
/-- The values of a counter. -/
def Cnt (l : L29) : Prop := ∀ x ∈ l, 0 ≤ x.f1 ∧ x.f1 ≤ 1099511627776
theorem Cnt.tail {x : S29} {l : L29} (h : Cnt (x :: l)) : Cnt l := fun y hy => h y (by simp [hy])
theorem Cnt_of {l : L29} (h : chkK 2 l = 0) : Cnt l ∧ l.length ≤ 2000 := by
  rw [chkK_iff] at h
  refine ⟨fun x hx => ?_, h.2.1⟩
  have := h.2.2.1 x hx
  simp [okS, okX] at this
  omega
theorem stp_bd {a b : Int} (ha : 0 ≤ a ∧ a ≤ 1099511627776) (hb : 0 ≤ b ∧ b ≤ 1099511627776) : 0 ≤ stp a b ∧ stp a b ≤ 1099511627776 := by unfold stp; split <;> omega
theorem incL_bd : ∀ l : L29, Cnt l → 0 ≤ incL l ∧ incL l ≤ l.length * 1099511627776
  | [], _ => by simp [incL]
  | [x], _ => by simp [incL]
  | x :: y :: l, h => by
    have ih := incL_bd (y :: l) h.tail
    have h1 := h x (by simp)
    have h2 := h y (by simp)
    have h3 := stp_bd h1 h2
    simp only [incL, List.length_cons] at *
    omega
theorem rstL_bd : ∀ l : L29, 0 ≤ rstL l ∧ rstL l ≤ l.length
  | [] => by simp [rstL]
  | [x] => by simp [rstL]
  | x :: y :: l => by
    have ih := rstL_bd (y :: l)
    simp only [rstL, List.length_cons] at *
    split <;> omega

theorem rIncrease_l0 (l : L29) (hc : Cnt l) (hl : l.length ≤ 2000) : ∀ (n k j : Nat) (s : Int), l.length - (j + 1) = n → n < k → 0 ≤ s → s ≤ j * 1099511627776 →
    lookoutref11_Increase.l0 k l s ((j : Int) + 1) = some (s + incL (l.drop j)) := by
  intro n
  induction n with
  | zero =>
    intro k j s hn hk h0 hs
    obtain ⟨k, rfl⟩ : ∃ m, k = m + 1 := ⟨k - 1, by omega⟩
    simp only [lookoutref11_Increase.l0]
    rw [if_neg (by omega)]
    have : incL (l.drop j) = 0 := by
      have h1 : (l.drop j).length ≤ 1 := by rw [List.length_drop]; omega
      match l.drop j, h1 with
      | [], _ => rfl
      | [x], _ => rfl
      | x :: y :: t, h => simp at h
    rw [this]; simp
  | succ n ih =>
    intro k j s hn hk h0 hs
    obtain ⟨k, rfl⟩ : ∃ m, k = m + 1 := ⟨k - 1, by omega⟩
    have h1 : j < l.length := by omega
    have h2 : j + 1 < l.length := by omega
    simp only [lookoutref11_Increase.l0]
    have e1 : wrap64 ((j : Int) + 1 - 1) = (j : Int) := by unfold wrap64; omega
    have e2 : wrap64 ((j : Int) + 1 + 1) = ((j + 1 : Nat) : Int) + 1 := by unfold wrap64; omega
    rw [if_pos (by omega), e1, if_pos (by omega), if_pos (by omega), if_pos (by omega), rdT_get l j h1, show rd_T29 l ((j : Int) + 1) = l[j + 1] from rdT_get l (j + 1) h2]
    have b1 := hc _ (List.getElem_mem h1)
    have b2 := hc _ (List.getElem_mem h2)
    have hst : lookoutref11_Step.f l[j].f1 l[j + 1].f1 = some (stp l[j].f1 l[j + 1].f1) := by
      unfold lookoutref11_Step.f stp
      split
      · rfl
      · rw [show wrap64 (l[j + 1].f1 - l[j].f1) = l[j + 1].f1 - l[j].f1 by unfold wrap64; omega]
    rw [hst]
    simp only [Option.bind_some]
    have b3 := stp_bd b1 b2
    have e3 : wrap64 (s + stp l[j].f1 l[j + 1].f1) = s + stp l[j].f1 l[j + 1].f1 := by unfold wrap64; omega
    rw [e3, e2, ih k (j + 1) _ (by omega) (by omega) (by omega) (by omega)]
    conv => rhs; rw [List.drop_eq_getElem_cons h1, List.drop_eq_getElem_cons h2]
    rw [List.drop_eq_getElem_cons h2]
    simp only [incL]
    congr 1
    omega
theorem rIncrease_f (l : L29) (k : Nat) (hl : l.length ≤ 1000000) (hk : 2 * l.length + 2 < k) : lookoutref11_Increase.f k l = some (inc l) := by
  unfold lookoutref11_Increase.f inc
  rw [rCheck_f 2 l k (by omega) hk]
  simp only [Option.bind_some]
  split
  · rename_i h
    obtain ⟨h1, h2⟩ := Cnt_of h
    have := rIncrease_l0 l h1 h2 (l.length - 1) k 0 0 (by omega) (by omega) (by omega) (by omega)
    simpa using this
  · rfl
theorem rResets_l0 (l : L29) (hl : l.length ≤ 2000) : ∀ (n k j : Nat) (s : Int), l.length - (j + 1) = n → n < k → 0 ≤ s → s ≤ j →
    lookoutref11_Resets.l0 k l s ((j : Int) + 1) = some (s + rstL (l.drop j)) := by
  intro n
  induction n with
  | zero =>
    intro k j s hn hk h0 hs
    obtain ⟨k, rfl⟩ : ∃ m, k = m + 1 := ⟨k - 1, by omega⟩
    simp only [lookoutref11_Resets.l0]
    rw [if_neg (by omega)]
    have : rstL (l.drop j) = 0 := by
      have h1 : (l.drop j).length ≤ 1 := by rw [List.length_drop]; omega
      match l.drop j, h1 with
      | [], _ => rfl
      | [x], _ => rfl
      | x :: y :: t, h => simp at h
    rw [this]; simp
  | succ n ih =>
    intro k j s hn hk h0 hs
    obtain ⟨k, rfl⟩ : ∃ m, k = m + 1 := ⟨k - 1, by omega⟩
    have h1 : j < l.length := by omega
    have h2 : j + 1 < l.length := by omega
    simp only [lookoutref11_Resets.l0]
    have e1 : wrap64 ((j : Int) + 1 - 1) = (j : Int) := by unfold wrap64; omega
    have e2 : wrap64 ((j : Int) + 1 + 1) = ((j + 1 : Nat) : Int) + 1 := by unfold wrap64; omega
    have e3 : wrap64 (s + 1) = s + 1 := by unfold wrap64; omega
    rw [if_pos (by omega), if_pos (by omega), e1, if_pos (by omega), if_pos (by omega), rdT_get l j h1, show rd_T29 l ((j : Int) + 1) = l[j + 1] from rdT_get l (j + 1) h2, e2, e3]
    conv => rhs; rw [List.drop_eq_getElem_cons h1, List.drop_eq_getElem_cons h2]
    simp only [rstL]
    by_cases h : l[j + 1].f1 < l[j].f1
    · rw [if_pos h, if_pos h, ih k (j + 1) _ (by omega) (by omega) (by omega) (by omega), List.drop_eq_getElem_cons h2]
      congr 1
      omega
    · rw [if_neg h, if_neg h, ih k (j + 1) _ (by omega) (by omega) (by omega) (by omega), List.drop_eq_getElem_cons h2]
      congr 1
      omega
theorem rResets_f (l : L29) (k : Nat) (hl : l.length ≤ 1000000) (hk : 2 * l.length + 2 < k) : lookoutref11_Resets.f k l = some (rst l) := by
  unfold lookoutref11_Resets.f rst
  rw [rCheck_f 2 l k (by omega) hk]
  simp only [Option.bind_some]
  split
  · rename_i h
    obtain ⟨h1, h2⟩ := Cnt_of h
    have := rResets_l0 l h2 (l.length - 1) k 0 0 (by omega) (by omega) (by omega) (by omega)
    simpa using this
  · rfl

/-- Slice. -/
def slc (l : L29) (a b : Int) : L29 := l.filter fun x => decide (a < x.f0) && decide (x.f0 ≤ b)
theorem sSlice_l0 (l : L29) (a b : Int) (hl : l.length ≤ 1000000) : ∀ (n k j : Nat) (out : L29), l.length - j = n → n < k → out.length + n ≤ 2000000 →
    series_Slice.l0 k a b out l (l.length : Int) (j : Int) = some (out ++ slc (l.drop j) a b) := by
  intro n
  induction n with
  | zero =>
    intro k j out hn hk ho
    obtain ⟨k, rfl⟩ : ∃ m, k = m + 1 := ⟨k - 1, by omega⟩
    simp only [series_Slice.l0]
    rw [if_neg (by omega), List.drop_eq_nil_of_le (by omega)]
    simp [slc]
  | succ n ih =>
    intro k j out hn hk ho
    obtain ⟨k, rfl⟩ : ∃ m, k = m + 1 := ⟨k - 1, by omega⟩
    have hlt : j < l.length := by omega
    simp only [series_Slice.l0]
    rw [if_pos (by omega), if_pos (by omega), if_pos (by omega), rdT_get l j hlt, wrap1 j (by omega), List.drop_eq_getElem_cons hlt]
    have i1 := ih k (j + 1) (out ++ [⟨l[j].f0, l[j].f1⟩]) (by omega) (by omega) (by simp; omega)
    have i2 := ih k (j + 1) out (by omega) (by omega) (by omega)
    generalize l.drop (j + 1) = t at *
    generalize l[j] = y at *
    by_cases h1 : a < y.f0
    · rw [if_pos h1]
      by_cases h2 : y.f0 ≤ b
      · rw [if_pos h2, if_pos (by omega), i1]
        cases y
        simp at h1 h2
        simp [slc, h1, h2]
      · rw [if_neg h2, i2]
        simp [slc, h2]
    · rw [if_neg h1, i2]
      simp [slc, h1]
theorem sSlice_f (l : L29) (a b : Int) (k : Nat) (hl : l.length ≤ 1000000) (hk : l.length < k) : series_Slice.f k l a b = some (slc l a b) := by
  have := sSlice_l0 l a b hl l.length k 0 [] (by omega) hk (by simp; omega)
  simpa [series_Slice.f] using this
theorem rSlice_l0 (l : L29) (a b : Int) (hl : l.length ≤ 1000000) : ∀ (n k j : Nat) (out : L29), l.length - j = n → n < k → out.length + n ≤ 2000000 →
    lookoutref11_Slice.l0 k l a b out (j : Int) = some (out ++ slc (l.drop j) a b) := by
  intro n
  induction n with
  | zero =>
    intro k j out hn hk ho
    obtain ⟨k, rfl⟩ : ∃ m, k = m + 1 := ⟨k - 1, by omega⟩
    simp only [lookoutref11_Slice.l0]
    rw [if_neg (by omega), List.drop_eq_nil_of_le (by omega)]
    simp [slc]
  | succ n ih =>
    intro k j out hn hk ho
    obtain ⟨k, rfl⟩ : ∃ m, k = m + 1 := ⟨k - 1, by omega⟩
    have hlt : j < l.length := by omega
    simp only [lookoutref11_Slice.l0]
    rw [if_pos (by omega), if_pos (by omega), rdT_get l j hlt, wrap1 j (by omega), List.drop_eq_getElem_cons hlt]
    have i1 := ih k (j + 1) (out ++ [⟨l[j].f0, l[j].f1⟩]) (by omega) (by omega) (by simp; omega)
    have i2 := ih k (j + 1) out (by omega) (by omega) (by omega)
    generalize l.drop (j + 1) = t at *
    generalize l[j] = y at *
    by_cases h1 : a < y.f0
    · rw [if_pos (by omega)]
      by_cases h2 : y.f0 ≤ b
      · rw [if_pos h2, if_pos (by omega), i1]
        cases y
        simp at h1 h2
        simp [slc, h1, h2]
      · rw [if_neg h2, i2]
        simp [slc, h2]
    · rw [if_neg (by omega), i2]
      simp [slc, h1]
theorem rSlice_f (l : L29) (a b : Int) (k : Nat) (hl : l.length ≤ 1000000) (hk : l.length < k) : lookoutref11_Slice.f k l a b = some (slc l a b) := by
  have := rSlice_l0 l a b hl l.length k 0 [] (by omega) hk (by simp; omega)
  simpa [lookoutref11_Slice.f] using this

/-- Same. -/
theorem S_ext {x y : S29} (h0 : x.f0 = y.f0) (h1 : x.f1 = y.f1) : x = y := by cases x; cases y; simp_all
noncomputable def sameB (l m : L29) : Bool := @decide (l = m) (Classical.propDecidable _)
theorem sameB_iff (l m : L29) : sameB l m = true ↔ l = m := by unfold sameB; exact @decide_eq_true_iff _ (Classical.propDecidable _)
theorem sameB_refl (l : L29) : sameB l l = true := (sameB_iff l l).2 rfl
theorem sameB_false {l m : L29} (h : l ≠ m) : sameB l m = false := by
  cases hh : sameB l m with
  | true => exact absurd ((sameB_iff l m).1 hh) h
  | false => rfl
theorem rSame_l0 (l m : L29) (hlm : l.length = m.length) (hl : l.length ≤ 4611686018427387904) : ∀ (n k j : Nat), l.length - j = n → n < k →
    lookoutref11_Same.l0 k l m (j : Int) = some (sameB (l.drop j) (m.drop j)) := by
  intro n
  induction n with
  | zero =>
    intro k j hn hk
    obtain ⟨k, rfl⟩ : ∃ m, k = m + 1 := ⟨k - 1, by omega⟩
    simp only [lookoutref11_Same.l0]
    rw [if_neg (by omega), List.drop_eq_nil_of_le (by omega), List.drop_eq_nil_of_le (by omega), sameB_refl]
  | succ n ih =>
    intro k j hn hk
    obtain ⟨k, rfl⟩ : ∃ m, k = m + 1 := ⟨k - 1, by omega⟩
    have h1 : j < l.length := by omega
    have h2 : j < m.length := by omega
    simp only [lookoutref11_Same.l0]
    rw [if_pos (by omega), if_pos (by omega), if_pos (by omega), rdT_get l j h1, rdT_get m j h2, wrap1 j (by omega), ih k (j + 1) (by omega) (by omega), List.drop_eq_getElem_cons h1, List.drop_eq_getElem_cons h2]
    generalize l.drop (j + 1) = t1
    generalize m.drop (j + 1) = t2
    generalize l[j] = x
    generalize m[j] = y
    by_cases h : x = y
    · subst h
      rw [if_neg (by simp)]
      congr 1
      rw [Bool.eq_iff_iff, sameB_iff, sameB_iff]
      simp
    · have h3 : ¬ (x.f0 = y.f0 ∧ x.f1 = y.f1) := fun h3 => h (S_ext h3.1 h3.2)
      rw [if_pos (by
        by_cases h4 : x.f0 = y.f0
        · have h5 : ¬ x.f1 = y.f1 := fun h5 => h3 ⟨h4, h5⟩
          simp [h4, h5]
        · simp [h4]), sameB_false (fun e => h (List.head_eq_of_cons_eq e))]
theorem rSame_f (l m : L29) (k : Nat) (hl : l.length ≤ 4611686018427387904) (hk : l.length < k) : lookoutref11_Same.f k l m = some (sameB l m) := by
  unfold lookoutref11_Same.f
  by_cases h : l.length = m.length
  · rw [if_pos (by omega)]
    have := rSame_l0 l m h hl l.length k 0 (by omega) hk
    simpa using this
  · rw [if_neg (by omega), sameB_false (fun e => h (by rw [e]))]
end Go.Proofs.Ytjgkcgfbkcbjfaa.H
