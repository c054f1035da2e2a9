/- The order of strings (byte by byte) is a strict linear order; the walk's rules for >, <= and >= in its words. -/
import Derived.Tactics
import Derived.Laws.Strings
namespace Go.Proofs.YtakobehkajphpaaGreat.HS
open Go

theorem lt_irrefl : ∀ a : List UInt8, Op.bytesLess a a = false
  | [] => rfl
  | x :: a => by
    have h := lt_irrefl a
    have hx : ¬ x < x := by simp
    simp [Op.bytesLess, h]

theorem lt_asymm : ∀ a b : List UInt8, Op.bytesLess a b = true → Op.bytesLess b a = false
  | [], [], h => by simp [Op.bytesLess] at h
  | [], _ :: _, _ => rfl
  | _ :: _, [], h => by simp [Op.bytesLess] at h
  | x :: a, y :: b, h => by
    simp only [Op.bytesLess, Bool.or_eq_true, decide_eq_true_eq, Bool.and_eq_true, beq_iff_eq] at h
    simp only [Op.bytesLess, Bool.or_eq_false_iff, decide_eq_false_iff_not, Bool.and_eq_false_iff, beq_eq_false_iff_ne]
    rcases h with h | ⟨rfl, h⟩
    · have h' : x.toNat < y.toNat := h
      refine ⟨fun (k : y.toNat < x.toNat) => by omega, .inl fun e => by subst e; omega⟩
    · exact ⟨by simp, .inr (lt_asymm a b h)⟩

theorem lt_trichotomy : ∀ a b : List UInt8, Op.bytesLess a b = false → Op.bytesLess b a = false → a = b
  | [], [], _, _ => rfl
  | [], _ :: _, h, _ => by simp [Op.bytesLess] at h
  | _ :: _, [], _, h => by simp [Op.bytesLess] at h
  | x :: a, y :: b, h, k => by
    simp only [Op.bytesLess, Bool.or_eq_false_iff, decide_eq_false_iff_not, Bool.and_eq_false_iff, beq_eq_false_iff_ne] at h k
    have e : x = y := by
      have h1 : ¬ x.toNat < y.toNat := h.1
      have k1 : ¬ y.toNat < x.toNat := k.1
      exact UInt8.toNat_inj.1 (by omega)
    subst e
    rw [lt_trichotomy a b (h.2.resolve_left (by simp)) (k.2.resolve_left (by simp))]

theorem gt_iff (a b : List UInt8) : (!(Op.bytesLess a b || a == b)) = Op.bytesLess b a := by
  cases h : Op.bytesLess a b
  · cases k : Op.bytesLess b a
    · have := lt_trichotomy a b h k; subst this; simp
    · have : a ≠ b := by rintro rfl; rw [lt_irrefl] at k; cases k
      simp [this]
  · rw [lt_asymm a b h]; rfl

theorem le_iff (a b : List UInt8) : (Op.bytesLess a b || a == b) = !Op.bytesLess b a := by rw [← gt_iff a b, Bool.not_not]

theorem run_gtr (t : TypeId) (a b : ByteArray) : binOp .gtr t (.string a) (.string b) = pure (.bool (Op.bytesLess b.toList a.toList)) := by rw [← gt_iff]; simp [binOp, Op.stringOp]
theorem run_leq (t : TypeId) (a b : ByteArray) : binOp .leq t (.string a) (.string b) = pure (.bool (!Op.bytesLess b.toList a.toList)) := by rw [← le_iff]; simp [binOp, Op.stringOp]
theorem run_geq (t : TypeId) (a b : ByteArray) : binOp .geq t (.string a) (.string b) = pure (.bool (!Op.bytesLess a.toList b.toList)) := by simp [binOp, Op.stringOp]
end Go.Proofs.YtakobehkajphpaaGreat.HS
