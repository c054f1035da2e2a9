/- The plain law of parsing the text of a label set: the program's way and the reference's come to one function. -/
import Derived.Test.YtiooenmbondflaaHPure2
namespace Go.Proofs.Ytiooenmbondflaa.H
open Go Go.RowKit Go.Proofs.YtiooenmbondflaaW.PrintWords Go.Proofs.YtiooenmbondflaaW.PrintLast Go.Proofs.YtiooenmbondflaaW.PrintMore Go.Proofs.Ytiooenmbondflaa.PAll
set_option linter.unusedVariables false
set_option linter.unusedSimpArgs false

/-- A quoted value behind its first mark: its bytes, and how many were read with the mark that ends it. -/
def unq : List UInt8 → Option (List UInt8 × Nat)
  | [] => none
  | c :: r => if c.toNat = 34 then some ([], 1) else if c.toNat = 10 then none else
    if c.toNat = 92 then
      match r with
      | [] => none
      | d :: r' => if d.toNat = 92 ∨ d.toNat = 34 then (unq r').map fun y => (d :: y.1, y.2 + 2) else if d.toNat = 110 then (unq r').map fun y => (10 :: y.1, y.2 + 2) else none
    else (unq r).map fun y => (c :: y.1, y.2 + 1)

theorem unq_cons (c : UInt8) (r : List UInt8) : unq (c :: r) = if c.toNat = 34 then some ([], 1) else if c.toNat = 10 then none else
    if c.toNat = 92 then
      match r with
      | [] => none
      | d :: r' => if d.toNat = 92 ∨ d.toNat = 34 then (unq r').map fun y => (d :: y.1, y.2 + 2) else if d.toNat = 110 then (unq r').map fun y => (10 :: y.1, y.2 + 2) else none
    else (unq r).map fun y => (c :: y.1, y.2 + 1) := by
  cases r with
  | nil => simp [unq]
  | cons d r => rw [unq]

theorem unq_le : ∀ (l : List UInt8) (v : List UInt8) (n : Nat), unq l = some (v, n) → v.length < n ∧ n ≤ l.length
  | [], v, n, h => by simp [unq] at h
  | [c], v, n, h => by
    simp only [unq] at h
    split at h
    · simp at h; obtain ⟨rfl, rfl⟩ := h; simp
    · split at h
      · simp at h
      · split at h <;> simp at h
  | c :: d :: r, v, n, h => by
    rw [unq] at h
    split at h
    · simp at h; obtain ⟨rfl, rfl⟩ := h; simp
    · split at h
      · simp at h
      · split at h
        · split at h
          · obtain ⟨⟨v', n'⟩, h1, h2⟩ := Option.map_eq_some_iff.1 h
            have := unq_le r v' n' h1
            simp at h2; obtain ⟨rfl, rfl⟩ := h2
            simp; omega
          · split at h
            · obtain ⟨⟨v', n'⟩, h1, h2⟩ := Option.map_eq_some_iff.1 h
              have := unq_le r v' n' h1
              simp at h2; obtain ⟨rfl, rfl⟩ := h2
              simp; omega
            · simp at h
        · obtain ⟨⟨v', n'⟩, h1, h2⟩ := Option.map_eq_some_iff.1 h
          have := unq_le (d :: r) v' n' h1
          simp at h2; obtain ⟨rfl, rfl⟩ := h2
          simp at this ⊢; omega

theorem unq_34 (c : UInt8) (r : List UInt8) (h : c.toNat = 34) : unq (c :: r) = some ([], 1) := by rw [unq_cons, if_pos h]
theorem unq_10 (c : UInt8) (r : List UInt8) (h : c.toNat = 10) : unq (c :: r) = none := by rw [unq_cons, if_neg (by omega), if_pos h]
theorem unq_92 (c : UInt8) (r : List UInt8) (h : c.toNat = 92) : unq (c :: r) = match r with
      | [] => none
      | d :: r' => if d.toNat = 92 ∨ d.toNat = 34 then (unq r').map fun y => (d :: y.1, y.2 + 2) else if d.toNat = 110 then (unq r').map fun y => (10 :: y.1, y.2 + 2) else none := by rw [unq_cons, if_neg (by omega), if_neg (by omega), if_pos h]
theorem unq_92a (c d : UInt8) (r : List UInt8) (h : c.toNat = 92) (h' : d.toNat = 92 ∨ d.toNat = 34) : unq (c :: d :: r) = (unq r).map fun y => (d :: y.1, y.2 + 2) := by rw [unq_92 c _ h]; exact if_pos h'
theorem unq_92b (c d : UInt8) (r : List UInt8) (h : c.toNat = 92) (h' : d.toNat = 110) : unq (c :: d :: r) = (unq r).map fun y => (10 :: y.1, y.2 + 2) := by rw [unq_92 c _ h]; exact (if_neg (by omega)).trans (if_pos h')
theorem unq_92c (c d : UInt8) (r : List UInt8) (h : c.toNat = 92) (h1 : ¬ (d.toNat = 92 ∨ d.toNat = 34)) (h2 : ¬ d.toNat = 110) : unq (c :: d :: r) = none := by rw [unq_92 c _ h]; exact (if_neg h1).trans (if_neg h2)
theorem unq_92n (c : UInt8) (h : c.toNat = 92) : unq [c] = none := by rw [unq_92 c _ h]
theorem unq_else (c : UInt8) (r : List UInt8) (h1 : ¬ c.toNat = 34) (h2 : ¬ c.toNat = 10) (h3 : ¬ c.toNat = 92) : unq (c :: r) = (unq r).map fun y => (c :: y.1, y.2 + 1) := by rw [unq_cons, if_neg h1, if_neg h2, if_neg h3]

def resU (i : Nat) (xs : List Int) : Option (List UInt8 × Nat) → ByteArray × Int × Bool
  | none => (⟨#[]⟩, 0, false)
  | some (v, n) => (strOfNums (xs ++ ints v), ((i + n : Nat) : Int), true)

theorem resU_map (i : Nat) (xs : List Int) (c : UInt8) (m : Nat) (o : Option (List UInt8 × Nat)) : resU i xs (o.map fun y => (c :: y.1, y.2 + m)) = resU (i + m) (xs ++ [(c.toNat : Int)]) o := by
  cases o with
  | none => rfl
  | some y => simp [resU, ints]; omega

theorem unescaped_f (c : UInt8) (k : Nat) (hk : 0 < k) : labels_unescaped.f k (c.toNat : Int) = some (if c.toNat = 92 ∨ c.toNat = 34 then ((c.toNat : Int), true) else if c.toNat = 110 then (10, true) else (0, false)) := by
  obtain ⟨k, rfl⟩ : ∃ m, k = m + 1 := ⟨k - 1, by omega⟩
  unfold labels_unescaped.f
  by_cases h1 : (c.toNat : Int) = 92
  · have hb : ((c.toNat : Int) == 92) = true := by simpa using h1
    rw [if_pos h1, if_pos (.inl (by omega)), hb]
    rfl
  · rw [if_neg h1]
    by_cases h2 : (c.toNat : Int) = 34
    · have hb : ((c.toNat : Int) == 34) = true := by simpa using h2
      rw [if_pos (.inr (by omega)), hb]
      rfl
    · have hb : ((c.toNat : Int) == 34) = false := by simpa using h2
      rw [if_neg (by omega), hb]
      simp only [labels_unescaped.j0, Bool.false_eq_true, if_false]
      by_cases h3 : (c.toNat : Int) = 110
      · rw [if_pos h3, if_pos (by omega)]
      · rw [if_neg h3, if_neg (by omega)]

theorem wrapN (i j : Nat) (h : j = i + 1) (hi : i ≤ 4611686018427387904) : wrap64 ((i : Int) + 1) = (j : Int) := by subst h; exact wrap1 i hi

theorem unquoted_l0 (s : ByteArray) (hs : s.size ≤ 1000000) : ∀ (n k j : Nat) (xs : List Int), (ab s).length - j ≤ n → n + 2 < k → xs.length + n ≤ 2000000 → j ≤ (ab s).length →
    labels_unquoted.l0 k s xs (j : Int) = some (resU j xs (unq ((ab s).drop j))) := by
  intro n
  have hl := ab_length s
  induction n using Nat.strongRecOn with
  | _ n ih =>
    intro k j xs hn hk hb hjl
    obtain ⟨k, rfl⟩ : ∃ m, k = m + 1 := ⟨k - 1, by omega⟩
    simp only [labels_unquoted.l0]
    by_cases hj : j < (ab s).length
    · rw [if_pos (by omega), if_pos (by omega), bt_ab s j hj, List.drop_eq_getElem_cons hj]
      generalize hc : (ab s)[j] = c
      have hcl := c.toNat_lt
      by_cases h1 : (c.toNat : Int) = 34
      · rw [if_pos h1, wrap1 j (by omega)]
        rw [unq_34 c _ (by omega)]
        simp [resU, ints]
      · rw [if_neg h1]
        by_cases h2 : (c.toNat : Int) = 10
        · rw [if_pos h2, unq_10 c _ (by omega)]
          rfl
        · rw [if_neg h2]
          by_cases h3 : (c.toNat : Int) = 92
          · have h3' : c.toNat = 92 := by omega
            rw [if_pos h3, wrap1 j (by omega)]
            by_cases h4 : ((j + 1 : Nat) : Int) = (s.size : Int)
            · rw [if_pos h4, List.drop_eq_nil_of_le (by omega), unq_92n c h3']
              rfl
            · have hj1 : j + 1 < (ab s).length := by omega
              rw [if_neg h4, if_pos (by omega), if_pos (by omega), bt_ab s (j + 1) hj1, List.drop_eq_getElem_cons hj1]
              generalize hd : (ab s)[j + 1] = d
              rw [unescaped_f d k (by omega)]
              simp only [Option.bind_some]
              by_cases h5 : d.toNat = 92 ∨ d.toNat = 34
              · rw [if_pos h5, unq_92a c d _ h3' h5]
                simp only [if_true]
                rw [if_pos (by omega), wrap1 (j + 1) (by omega), ih (n - 2) (by omega) k (j + 2) _ (by omega) (by omega) (by simp; omega) (by omega), resU_map]
              · rw [if_neg h5]
                by_cases h6 : d.toNat = 110
                · rw [if_pos h6, unq_92b c d _ h3' h6]
                  simp only [if_true]
                  rw [if_pos (by omega), wrap1 (j + 1) (by omega), ih (n - 2) (by omega) k (j + 2) _ (by omega) (by omega) (by simp; omega) (by omega), resU_map]
                  rfl
                · rw [if_neg h6, unq_92c c d _ h3' h5 h6]
                  simp only [Bool.false_eq_true, if_false]
                  rfl
          · rw [if_neg h3, if_pos (by omega), wrap1 j (by omega), unq_else c _ (by omega) (by omega) (by omega), ih (n - 1) (by omega) k (j + 1) _ (by omega) (by omega) (by simp; omega) (by omega), resU_map]
    · rw [if_neg (by omega), List.drop_eq_nil_of_le (by omega)]
      rfl

theorem unquoted_f (s : ByteArray) (k : Nat) (hs : s.size ≤ 1000000) (hk : s.size + 2 < k) : labels_unquoted.f k s = some (resU 0 [] (unq (ab s))) := by
  have hl := ab_length s
  have := unquoted_l0 s hs (ab s).length k 0 [] (by omega) (by omega) (by simp; omega) (by omega)
  unfold labels_unquoted.f
  simpa using this

theorem value_l0 (s : ByteArray) (hs : s.size ≤ 1000000) : ∀ (n k j : Nat) (xs : List Int), (ab s).length - j ≤ n → 2 * n + 2 < k → xs.length + n ≤ 2000000 → j ≤ (ab s).length →
    lookoutref05_value.l0 k s (j : Int) xs = some (resU j xs (unq ((ab s).drop j))) := by
  intro n
  have hl := ab_length s
  induction n using Nat.strongRecOn with
  | _ n ih =>
    intro k j xs hn hk hb hjl
    obtain ⟨k, rfl⟩ : ∃ m, k = m + 1 := ⟨k - 1, by omega⟩
    simp only [lookoutref05_value.l0]
    by_cases hj : j < (ab s).length
    · rw [if_pos (by omega), if_pos (by omega), bt_ab s j hj, List.drop_eq_getElem_cons hj]
      generalize hc : (ab s)[j] = c
      have hcl := c.toNat_lt
      by_cases h1 : (c.toNat : Int) = 34
      · rw [if_pos h1, wrap1 j (by omega)]
        rw [unq_34 c _ (by omega)]
        simp [resU, ints]
      · rw [if_neg h1]
        by_cases h2 : (c.toNat : Int) = 10
        · rw [if_pos h2, unq_10 c _ (by omega)]
          rfl
        · rw [if_neg h2]
          by_cases h3 : (c.toNat : Int) = 92
          · have h3' : c.toNat = 92 := by omega
            rw [if_pos h3, wrap1 j (by omega)]
            obtain ⟨k, rfl⟩ : ∃ m, k = m + 1 := ⟨k - 1, by omega⟩
            by_cases h4 : ((j + 1 : Nat) : Int) ≥ (s.size : Int)
            · rw [if_pos h4, List.drop_eq_nil_of_le (by omega), unq_92n c h3']
              simp [lookoutref05_value.j1, resU]
            · have hj1 : j + 1 < (ab s).length := by omega
              rw [if_neg h4, if_pos (by omega), if_pos (by omega), bt_ab s (j + 1) hj1, List.drop_eq_getElem_cons hj1]
              generalize hd : (ab s)[j + 1] = d
              have j1f : lookoutref05_value.j1 (k + 1) s ((j + 1 : Nat) : Int) xs false = some (if d.toNat = 110 then resU (j + 2) (xs ++ [10]) (unq ((ab s).drop (j + 2))) else resU (j + 2) (xs ++ [(d.toNat : Int)]) (unq ((ab s).drop (j + 2)))) := by
                simp only [lookoutref05_value.j1, Bool.false_eq_true, if_false]
                rw [if_pos (by omega), if_pos (by omega), bt_ab s (j + 1) hj1, hd]
                by_cases h6 : (d.toNat : Int) = 110
                · rw [if_pos h6, if_pos (by omega), if_pos (by omega), wrap1 (j + 1) (by omega), ih (n - 2) (by omega) k (j + 2) _ (by omega) (by omega) (by simp; omega) (by omega)]
                · rw [if_neg h6, if_pos (by omega), if_neg (by omega), wrap1 (j + 1) (by omega), ih (n - 2) (by omega) k (j + 2) _ (by omega) (by omega) (by simp; omega) (by omega)]
              by_cases h5 : (d.toNat : Int) = 92
              · have h5' : d.toNat = 92 ∨ d.toNat = 34 := .inl (by omega)
                rw [if_pos h5, j1f, if_neg (by omega), unq_92a c d _ h3' h5', resU_map]
              · rw [if_neg h5]
                by_cases h7 : (d.toNat : Int) = 34
                · have h5' : d.toNat = 92 ∨ d.toNat = 34 := .inr (by omega)
                  rw [if_pos h7, j1f, if_neg (by omega), unq_92a c d _ h3' h5', resU_map]
                · have h5' : ¬ (d.toNat = 92 ∨ d.toNat = 34) := by omega
                  rw [if_neg h7]
                  by_cases h6 : (d.toNat : Int) = 110
                  · have hb6 : ((d.toNat : Int) != 110) = false := by simpa using h6
                    have h6' : d.toNat = 110 := by omega
                    rw [hb6, j1f, if_pos h6', unq_92b c d _ h3' h6', resU_map]
                    rfl
                  · have hb6 : ((d.toNat : Int) != 110) = true := by simpa using h6
                    have h6' : ¬ d.toNat = 110 := by omega
                    rw [hb6, unq_92c c d _ h3' h5' h6']
                    simp only [lookoutref05_value.j1, if_true]
                    rfl
          · rw [if_neg h3, if_pos (by omega), wrap1 j (by omega), unq_else c _ (by omega) (by omega) (by omega), ih (n - 1) (by omega) k (j + 1) _ (by omega) (by omega) (by simp; omega) (by omega), resU_map]
    · rw [if_neg (by omega), List.drop_eq_nil_of_le (by omega)]
      rfl

theorem value_f (s : ByteArray) (k j : Nat) (hs : s.size ≤ 1000000) (hk : 2 * s.size + 2 < k) (hj : j ≤ s.size) : lookoutref05_value.f k s (j : Int) = some (resU j [] (unq ((ab s).drop j))) := by
  have hl := ab_length s
  exact value_l0 s hs (ab s).length k j [] (by omega) (by omega) (by simp; omega) (by omega)
end Go.Proofs.Ytiooenmbondflaa.H
