/- The plain law of text and label sets: parsing the text of one yields it, and what can be parsed is the text of the result. -/
import Derived.Test.YtiooenmbondflaaHParse3
namespace Go.Proofs.Ytiooenmbondflaa.H
open Go Go.RowKit Go.Proofs.YtiooenmbondflaaW.PrintWords Go.Proofs.YtiooenmbondflaaW.PrintLast Go.Proofs.YtiooenmbondflaaW.PrintMore Go.Proofs.Ytiooenmbondflaa.PAll
set_option linter.unusedVariables false
set_option linter.unusedSimpArgs false

theorem u8_eq {c d : UInt8} (h : c.toNat = d.toNat) : c = d := UInt8.toNat_inj.1 h

theorem quote_cons (c : UInt8) (v : List UInt8) : quote (c :: v) = qb c ++ quote v := by simp [quote]

theorem unq_quote : ∀ (v r : List UInt8), unq (quote v ++ 34 :: r) = some (v, (quote v).length + 1)
  | [], r => by simp [quote, unq_34]
  | c :: v, r => by
    have ih := unq_quote v r
    rw [quote_cons]
    by_cases h1 : c.toNat = 92 ∨ c.toNat = 34
    · have e : qb c = [92, c] := by simp [qb, h1]
      rw [e]
      show unq (92 :: c :: (quote v ++ 34 :: r)) = _
      rw [unq_92a 92 c _ rfl h1, ih]
      simp
    · by_cases h2 : c.toNat = 10
      · have e : qb c = [92, 110] := by simp [qb, h1, h2]
        have hc : c = 10 := u8_eq h2
        rw [e]
        show unq (92 :: 110 :: (quote v ++ 34 :: r)) = _
        rw [unq_92b 92 110 _ rfl rfl, ih, hc]
        simp
      · have e : qb c = [c] := by simp [qb, h1, h2]
        rw [e]
        show unq (c :: (quote v ++ 34 :: r)) = _
        rw [unq_else c _ (fun h => h1 (.inr h)) h2 (fun h => h1 (.inl h)), ih]
        simp

theorem quote_unq : ∀ (l v : List UInt8) (n : Nat), unq l = some (v, n) → l = quote v ++ 34 :: l.drop n
  | [], v, n, h => by simp [unq] at h
  | c :: r, v, n, h => by
    by_cases h1 : c.toNat = 34
    · rw [unq_34 c r h1] at h
      simp at h; obtain ⟨rfl, rfl⟩ := h
      rw [show c = 34 from u8_eq h1]
      simp [quote]
    · by_cases h2 : c.toNat = 10
      · rw [unq_10 c r h2] at h; cases h
      · by_cases h3 : c.toNat = 92
        · cases r with
          | nil => rw [unq_92n c h3] at h; cases h
          | cons d r =>
            by_cases h4 : d.toNat = 92 ∨ d.toNat = 34
            · rw [unq_92a c d r h3 h4] at h
              obtain ⟨⟨v', n'⟩, h5, h6⟩ := Option.map_eq_some_iff.1 h
              have ih := quote_unq r v' n' h5
              simp at h6; obtain ⟨rfl, rfl⟩ := h6
              have e : qb d = [92, d] := by simp [qb, h4]
              rw [quote_cons, e, show c = 92 from u8_eq h3]
              show 92 :: d :: r = 92 :: d :: (quote v' ++ 34 :: r.drop n')
              rw [← ih]
            · by_cases h7 : d.toNat = 110
              · rw [unq_92b c d r h3 h7] at h
                obtain ⟨⟨v', n'⟩, h5, h6⟩ := Option.map_eq_some_iff.1 h
                have ih := quote_unq r v' n' h5
                simp at h6; obtain ⟨rfl, rfl⟩ := h6
                have e : qb 10 = [92, 110] := by decide
                rw [quote_cons, e, show c = 92 from u8_eq h3, show d = 110 from u8_eq h7]
                show 92 :: 110 :: r = 92 :: 110 :: (quote v' ++ 34 :: r.drop n')
                rw [← ih]
              · rw [unq_92c c d r h3 h4 h7] at h; cases h
        · rw [unq_else c r h1 h2 h3] at h
          obtain ⟨⟨v', n'⟩, h5, h6⟩ := Option.map_eq_some_iff.1 h
          have ih := quote_unq r v' n' h5
          simp at h6; obtain ⟨rfl, rfl⟩ := h6
          have e : qb c = [c] := by
            unfold qb
            rw [if_neg (by omega), if_neg h2]
          rw [quote_cons, e]
          show c :: r = c :: (quote v' ++ 34 :: r.drop n')
          rw [← ih]
  termination_by l => l.length

theorem tw_nb (a t : List UInt8) (h : a.all nb = true) : (a ++ 61 :: t).takeWhile nb = a ∧ (a ++ 61 :: t).dropWhile nb = 61 :: t := by
  have hp : ∀ x ∈ a, nb x = true := by simpa using h
  have h6 : nb 61 = false := by decide
  constructor
  · rw [List.takeWhile_append_of_pos hp]; simp [h6]
  · rw [List.dropWhile_append_of_pos hp]; simp [h6]

theorem lblP_lab (x : S32) (r : List UInt8) (h0 : ab x.f0 ≠ []) (h : (ab x.f0).all nb = true) : lblP (lab x ++ r) = some (x, r) := by
  have e : lab x ++ r = ab x.f0 ++ 61 :: (34 :: (quote (ab x.f1) ++ 34 :: r)) := by simp [lab]
  obtain ⟨h1, h2⟩ := tw_nb (ab x.f0) (34 :: (quote (ab x.f1) ++ 34 :: r)) h
  unfold lblP
  rw [e, h1, h2, if_neg h0]
  show (if _ then _ else _) = _
  rw [if_pos ⟨rfl, rfl⟩, unq_quote]
  simp [ofB_ab]

theorem lab_lblP {l r : List UInt8} {x : S32} (h : lblP l = some (x, r)) : l = lab x ++ r := by
  have e := tw_dw l
  unfold lblP at h
  split at h
  · cases h
  · split at h
    · rename_i c d t hd
      rw [hd] at e
      split at h
      · rename_i hcd
        obtain ⟨⟨v, n⟩, h1, h2⟩ := Option.map_eq_some_iff.1 h
        have hq := quote_unq t v n h1
        simp at h2; obtain ⟨rfl, rfl⟩ := h2
        refine e.symm.trans ?_
        rw [show c = 61 from u8_eq hcd.1, show d = 34 from u8_eq hcd.2]
        simp only [lab, ab_ofB]
        have hq2 : (61 :: 34 :: t : List UInt8) = [61, 34] ++ quote v ++ [34] ++ t.drop n := by
          rw [List.append_assoc, List.append_assoc]
          show _ = 61 :: 34 :: (quote v ++ (34 :: t.drop n))
          rw [← hq]
        rw [hq2]
        simp only [List.append_assoc]
      · cases h
    · cases h

theorem items_body : ∀ (l : L32) (x : S32) (f : Nat), l.length < f → (∀ y ∈ x :: l, ab y.f0 ≠ [] ∧ (ab y.f0).all nb = true) → items f (lab x ++ (bodyT false l ++ [125])) = some (x :: l)
  | [], x, f, hf, h => by
    obtain ⟨f, rfl⟩ : ∃ m, f = m + 1 := ⟨f - 1, by simp at hf; omega⟩
    simp only [items]
    rw [lblP_lab x _ (h x (by simp)).1 (h x (by simp)).2]
    simp [bodyT]
  | y :: l, x, f, hf, h => by
    obtain ⟨f, rfl⟩ : ∃ m, f = m + 1 := ⟨f - 1, by simp at hf; omega⟩
    have ih := items_body l y f (by simp at hf; omega) (fun z hz => h z (List.mem_cons_of_mem _ hz))
    simp only [items]
    rw [lblP_lab x _ (h x (by simp)).1 (h x (by simp)).2]
    have e : bodyT false (y :: l) ++ [125] = 44 :: (lab y ++ (bodyT false l ++ [125])) := by simp [bodyT]
    rw [e]
    show (if _ then _ else _) = _
    rw [if_pos (by decide), ih]
    rfl

theorem body_items : ∀ (f : Nat) (t : List UInt8) (l : L32), items f t = some l → l ≠ [] ∧ t = bodyT true l ++ [125]
  | 0, _, _, h => by simp [items] at h
  | f + 1, t, l, h => by
    simp only [items] at h
    cases hL : lblP t with
    | none => rw [hL] at h; cases h
    | some y =>
      obtain ⟨x, r⟩ := y
      have e := lab_lblP hL
      rw [hL] at h
      cases r with
      | nil => cases h
      | cons c r' =>
        replace h : (if c.toNat = 44 then (items f r').map (x :: ·) else if c.toNat = 125 ∧ r' = [] then some [x] else none) = some l := h
        split at h
        · rename_i hc
          obtain ⟨l', h1, h2⟩ := Option.map_eq_some_iff.1 h
          obtain ⟨hn, ih⟩ := body_items f r' l' h1
          subst h2
          refine ⟨by simp, ?_⟩
          rw [e, ih, show c = 44 from u8_eq hc]
          cases l' with
          | nil => exact absurd rfl hn
          | cons y l' => simp [bodyT]
        · split at h
          · rename_i hc
            cases h
            refine ⟨by simp, ?_⟩
            rw [e, hc.2, show c = 125 from u8_eq hc.1]
            simp [bodyT]
          · cases h

theorem chkL_names : ∀ (l : L32) (p : Option S32), chkL p l = 0 → ∀ y ∈ l, ab y.f0 ≠ [] ∧ (ab y.f0).all nb = true
  | [], _, _, y, hy => by cases hy
  | x :: l, p, h, y, hy => by
    simp only [chkL] at h
    split at h
    · cases h
    · rename_i h1
      have hx : ab x.f0 ≠ [] ∧ (ab x.f0).all nb = true := by
        have h2 : isNm (ab x.f0) = true := by cases hh : isNm (ab x.f0) <;> simp_all
        unfold isNm at h2
        simp only [Bool.and_eq_true, decide_eq_true_eq] at h2
        refine ⟨fun e => ?_, h2.2⟩
        rw [e] at h2; simp at h2
      split at h
      · cases h
      · split at h
        · cases h
        · have hr : chkL (some x) l = 0 := by
            cases p with
            | none => exact h
            | some q =>
              replace h : (if ltN q.f0 x.f0 then chkL (some x) l else 9) = 0 := h
              split at h
              · exact h
              · cases h
          rcases List.mem_cons.1 hy with rfl | hy
          · exact hx
          · exact chkL_names l _ hr y hy

theorem parse_fmt (l : L32) (h : chk l = 0) : parseT (fmtL l) = some l := by
  unfold chk at h
  split at h
  · cases h
  · have hn := chkL_names l none h
    unfold parseT fmtL
    cases l with
    | nil => simp [bodyT]
    | cons x l =>
      have e : (123 :: bodyT true (x :: l) ++ [125] : List UInt8) = 123 :: (lab x ++ (bodyT false l ++ [125])) := by simp [bodyT]
      rw [e, if_neg (by
        intro hh
        have hlen := congrArg List.length hh
        simp [lab] at hlen
        omega)]
      show (if _ then _ else _) = _
      rw [if_pos (by decide)]
      have hlen : ∀ (l : L32), l.length ≤ (bodyT false l).length := by
        intro l
        induction l with
        | nil => simp
        | cons y l ih => simp [bodyT]; omega
      exact items_body l x _ (by have := hlen l; simp; omega) hn

theorem fmt_parse (s : List UInt8) (l : L32) (h : parseT s = some l) : fmtL l = s := by
  unfold parseT at h
  split at h
  · rename_i e; cases h; rw [e]; rfl
  · cases s with
    | nil => cases h
    | cons c r =>
      replace h : (if c.toNat = 123 then items (r.length + 2) r else none) = some l := h
      split at h
      · rename_i hc
        obtain ⟨_, e⟩ := body_items _ r l h
        rw [show c = 123 from u8_eq hc, e]
        rfl
      · cases h

theorem back1 (l : L32) (h : chk l = 0) : prsL (fmtL l) = l ∧ prsE (fmtL l) = 0 := by
  unfold prsL prsE
  rw [parse_fmt l h]
  exact ⟨if_pos h, h⟩
theorem back2 (s : List UInt8) (h : prsE s = 0) : fmtL (prsL s) = s ∧ chk (prsL s) = 0 := by
  unfold prsL prsE at *
  cases hp : parseT s with
  | none => rw [hp] at h; cases h
  | some l =>
    rw [hp] at h
    replace h : chk l = 0 := h
    show fmtL (if _ then _ else _) = _ ∧ chk (if _ then _ else _) = _
    rw [if_pos h]
    exact ⟨fmt_parse s l hp, h⟩
end Go.Proofs.Ytiooenmbondflaa.H
