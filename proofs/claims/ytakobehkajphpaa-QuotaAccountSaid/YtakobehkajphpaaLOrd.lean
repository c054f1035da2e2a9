/- The order of bytes: strict, transitive, total; and Check as a word about every label and every pair. -/
import Derived.Test.YtakobehkajphpaaLPure
namespace Go.Proofs.Ytakobehkajphpaa.H
open Go Go.RowKit Go.Proofs.YtakobehkajphpaaW.PrintWords Go.Proofs.YtakobehkajphpaaW.PrintLast Go.Proofs.YtakobehkajphpaaW.PrintMore Go.Proofs.Ytakobehkajphpaa.PAll
set_option linter.unusedVariables false
set_option linter.unusedSimpArgs false

theorem bl_nil (l : List UInt8) : Op.bytesLess l [] = false := by cases l <;> rfl
theorem bl_cons (a b : UInt8) (x y : List UInt8) : Op.bytesLess (a :: x) (b :: y) = true ↔ a.toNat < b.toNat ∨ a.toNat = b.toNat ∧ Op.bytesLess x y = true := by
  have e1 : (a == b) = decide (a.toNat = b.toNat) := by
    by_cases h : a = b
    · subst h; simp
    · have : ¬ a.toNat = b.toNat := fun e => h (UInt8.toNat_inj.1 e)
      simp [h, this]
  have e2 : (decide (a < b)) = decide (a.toNat < b.toNat) := rfl
  simp only [Op.bytesLess, e1, e2, Bool.or_eq_true, Bool.and_eq_true, decide_eq_true_eq]
theorem bl_trans : ∀ (a b c : List UInt8), Op.bytesLess a b = true → Op.bytesLess b c = true → Op.bytesLess a c = true
  | _, [], _, h, _ => by rw [bl_nil] at h; cases h
  | _, _ :: _, [], _, h => by rw [bl_nil] at h; cases h
  | [], _ :: _, _ :: _, _, _ => rfl
  | a :: x, b :: y, c :: z, h1, h2 => by
    rw [bl_cons] at *
    rcases h1 with h1 | ⟨h1, h1'⟩
    · rcases h2 with h2 | ⟨h2, _⟩
      · exact .inl (by omega)
      · exact .inl (by omega)
    · rcases h2 with h2 | ⟨h2, h2'⟩
      · exact .inl (by omega)
      · exact .inr ⟨by omega, bl_trans x y z h1' h2'⟩
theorem bl_irr : ∀ (a : List UInt8), Op.bytesLess a a = false
  | [] => rfl
  | a :: x => by
    cases h : Op.bytesLess (a :: x) (a :: x)
    · rfl
    · rw [bl_cons] at h
      rcases h with h | ⟨_, h⟩
      · omega
      · rw [bl_irr x] at h; cases h
theorem bl_asym (a b : List UInt8) (h : Op.bytesLess a b = true) : Op.bytesLess b a = false := by
  cases h2 : Op.bytesLess b a
  · rfl
  · have := bl_trans a b a h h2; rw [bl_irr] at this; cases this
theorem bl_total : ∀ (a b : List UInt8), Op.bytesLess a b = false → Op.bytesLess b a = false → a = b
  | [], [], _, _ => rfl
  | [], _ :: _, h, _ => by cases h
  | _ :: _, [], _, h => by cases h
  | a :: x, b :: y, h1, h2 => by
    have h1' : ¬ Op.bytesLess (a :: x) (b :: y) = true := by rw [h1]; decide
    have h2' : ¬ Op.bytesLess (b :: y) (a :: x) = true := by rw [h2]; decide
    rw [bl_cons] at h1' h2'
    have e : a.toNat = b.toNat := by omega
    have e1 : Op.bytesLess x y = false := by
      cases hh : Op.bytesLess x y
      · rfl
      · exact absurd (.inr ⟨e, hh⟩) h1'
    have e2 : Op.bytesLess y x = false := by
      cases hh : Op.bytesLess y x
      · rfl
      · exact absurd (.inr ⟨e.symm, hh⟩) h2'
    rw [UInt8.toNat_inj.1 e, bl_total x y e1 e2]

/-- What Check asks of one label. -/
def okx (x : S72) : Prop := isNm (ab x.f0) = true ∧ ab x.f1 ≠ [] ∧ x.f1.size ≤ 200
def lt1 (x y : S72) : Prop := ltN x.f0 y.f0 = true
theorem lt1_trans {x y z : S72} (h1 : lt1 x y) (h2 : lt1 y z) : lt1 x z := bl_trans _ _ _ h1 h2
theorem chkL_some : ∀ (l : L72) (q : S72), chkL (some q) l = 0 ↔ (∀ x ∈ l, okx x) ∧ (q :: l).Pairwise lt1
  | [], q => by simp [chkL]
  | x :: l, q => by
    have ih := chkL_some l x
    simp only [chkL]
    by_cases h1 : isNm (ab x.f0) = false
    · rw [if_pos h1]
      refine ⟨fun h => (by cases h), fun h => ?_⟩
      have := (h.1 x (by simp)).1
      rw [h1] at this; cases this
    · rw [if_neg h1]
      by_cases h2 : ab x.f1 = []
      · rw [if_pos h2]
        exact ⟨fun h => (by cases h), fun h => absurd h2 (h.1 x (by simp)).2.1⟩
      · rw [if_neg h2]
        by_cases h3 : 200 < x.f1.size
        · rw [if_pos h3]
          exact ⟨fun h => (by cases h), fun h => by have := (h.1 x (by simp)).2.2; omega⟩
        · rw [if_neg h3]
          by_cases h4 : ltN q.f0 x.f0 = true
          · rw [if_pos h4, ih]
            refine ⟨fun ⟨ha, hb⟩ => ⟨fun y hy => ?_, ?_⟩, fun ⟨ha, hb⟩ => ⟨fun y hy => ha y (by simp [hy]), (List.pairwise_cons.1 hb).2⟩⟩
            · rcases List.mem_cons.1 hy with rfl | hy
              · exact ⟨by cases hh : isNm (ab y.f0) <;> simp_all, h2, by omega⟩
              · exact ha y hy
            · refine List.pairwise_cons.2 ⟨fun y hy => ?_, hb⟩
              rcases List.mem_cons.1 hy with rfl | hy
              · exact h4
              · exact lt1_trans h4 ((List.pairwise_cons.1 hb).1 y hy)
          · rw [if_neg h4]
            exact ⟨fun h => (by cases h), fun ⟨_, hb⟩ => absurd ((List.pairwise_cons.1 hb).1 x (by simp)) h4⟩
theorem chkL_none (l : L72) : chkL none l = 0 ↔ (∀ x ∈ l, okx x) ∧ l.Pairwise lt1 := by
  cases l with
  | nil => simp [chkL]
  | cons x l =>
    have ih := chkL_some l x
    simp only [chkL]
    by_cases h1 : isNm (ab x.f0) = false
    · rw [if_pos h1]
      refine ⟨fun h => (by cases h), fun h => ?_⟩
      have := (h.1 x (by simp)).1
      rw [h1] at this; cases this
    · rw [if_neg h1]
      by_cases h2 : ab x.f1 = []
      · rw [if_pos h2]
        exact ⟨fun h => (by cases h), fun h => absurd h2 (h.1 x (by simp)).2.1⟩
      · rw [if_neg h2]
        by_cases h3 : 200 < x.f1.size
        · rw [if_pos h3]
          exact ⟨fun h => (by cases h), fun h => by have := (h.1 x (by simp)).2.2; omega⟩
        · rw [if_neg h3, ih]
          refine ⟨fun ⟨ha, hb⟩ => ⟨fun y hy => ?_, hb⟩, fun ⟨ha, hb⟩ => ⟨fun y hy => ha y (by simp [hy]), hb⟩⟩
          rcases List.mem_cons.1 hy with rfl | hy
          · exact ⟨by cases hh : isNm (ab y.f0) <;> simp_all, h2, by omega⟩
          · exact ha y hy
theorem chk_iff (l : L72) : chk l = 0 ↔ l.length ≤ 16 ∧ (∀ x ∈ l, okx x) ∧ l.Pairwise lt1 := by
  unfold chk
  by_cases h : 16 < l.length
  · rw [if_pos h]
    exact ⟨fun h => (by cases h), fun h2 => by omega⟩
  · rw [if_neg h, chkL_none]
    exact ⟨fun h2 => ⟨by omega, h2⟩, fun h2 => h2.2⟩
theorem chk_filter (l : L72) (p : S72 → Bool) (h : chk l = 0) : chk (l.filter p) = 0 := by
  rw [chk_iff] at *
  exact ⟨Nat.le_trans (List.length_filter_le p l) h.1, fun x hx => h.2.1 x (List.mem_filter.1 hx).1, h.2.2.filter p⟩
end Go.Proofs.Ytakobehkajphpaa.H
