/- The order of bytes: strict, transitive, total; and Check as a word about every label and every pair. -/
import Derived.Test.YtakobehkajphpaaGreatTLPure
namespace Go.Proofs.YtakobehkajphpaaGreat.H
open Go Go.RowKit Go.Proofs.YtakobehkajphpaaGreatW.PrintWords Go.Proofs.YtakobehkajphpaaGreatW.PrintLast Go.Proofs.YtakobehkajphpaaGreatW.PrintMore Go.Proofs.YtakobehkajphpaaGreat.PAll
set_option linter.unusedVariables false
set_option linter.unusedSimpArgs false

theorem bl_nil (l : List UInt8) : Op.bytesLess l [] = false := by cases l <;> rfl
theorem bl_cons (a b : UInt8) (x y : List UInt8) : Op.bytesLess (a :: x) (b :: y) = true ↔ a.toNat < b.toNat ∨ a.toNat = b.toNat ∧ Op.bytesLess x y = true := by
  have e1 : (a == b) = decide (a.toNat = b.toNat) := by
    by_cases h : a = b
    · subst h; simp
    · have : ¬ a.toNat = b.toNat := fun e => h (UInt8.toNat_inj.1 e)
      simp [h, this]
  have e2 : (decide (a < b)) = decide (a.toNat < b.toNat) := rfl
  simp only [Op.bytesLess, e1, e2, Bool.or_eq_true, Bool.and_eq_true, decide_eq_true_eq]
theorem bl_trans : ∀ (a b c : List UInt8), Op.bytesLess a b = true → Op.bytesLess b c = true → Op.bytesLess a c = true
  | _, [], _, h, _ => by rw [bl_nil] at h; cases h
  | _, _ :: _, [], _, h => by rw [bl_nil] at h; cases h
  | [], _ :: _, _ :: _, _, _ => rfl
  | a :: x, b :: y, c :: z, h1, h2 => by
    rw [bl_cons] at *
    rcases h1 with h1 | ⟨h1, h1'⟩
    · rcases h2 with h2 | ⟨h2, _⟩
      · exact .inl (by omega)
      · exact .inl (by omega)
    · rcases h2 with h2 | ⟨h2, h2'⟩
      · exact .inl (by omega)
      · exact .inr ⟨by omega, bl_trans x y z h1' h2'⟩
theorem bl_irr : ∀ (a : List UInt8), Op.bytesLess a a = false
  | [] => rfl
  | a :: x => by
    cases h : Op.bytesLess (a :: x) (a :: x)
    · rfl
    · rw [bl_cons] at h
      rcases h with h | ⟨_, h⟩
      · omega
      · rw [bl_irr x] at h; cases h
theorem bl_asym (a b : List UInt8) (h : Op.bytesLess a b = true) : Op.bytesLess b a = false := by
  cases h2 : Op.bytesLess b a
  · rfl
  · have := bl_trans a b a h h2; rw [bl_irr] at this; cases this
theorem bl_total : ∀ (a b : List UInt8), Op.bytesLess a b = false → Op.bytesLess b a = false → a = b
  | [], [], _, _ => rfl
  | [], _ :: _, h, _ => by cases h
  | _ :: _, [], _, h => by cases h
  | a :: x, b :: y, h1, h2 => by
    have h1' : ¬ Op.bytesLess (a :: x) (b :: y) = true := by rw [h1]; decide
    have h2' : ¬ Op.bytesLess (b :: y) (a :: x) = true := by rw [h2]; decide
    rw [bl_cons] at h1' h2'
    have e : a.toNat = b.toNat := by omega
    have e1 : Op.bytesLess x y = false := by
      cases hh : Op.bytesLess x y
      · rfl
      · exact absurd (.inr ⟨e, hh⟩) h1'
    have e2 : Op.bytesLess y x = false := by
      cases hh : Op.bytesLess y x
      · rfl
      · exact absurd (.inr ⟨e.symm, hh⟩) h2'
    rw [UInt8.toNat_inj.1 e, bl_total x y e1 e2]

def lt1 (x y : S94) : Prop := ltN x.f0 y.f0 = true
end Go.Proofs.YtakobehkajphpaaGreat.H
