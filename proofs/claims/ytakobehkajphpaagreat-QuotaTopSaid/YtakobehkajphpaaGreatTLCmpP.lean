/- Orders that Compare stands on: what a comparison is, pairs and lists compared from the front. -/
import Derived.Test.YtakobehkajphpaaGreatTLOrd
namespace Go.Proofs.YtakobehkajphpaaGreat.H
open Go Go.RowKit Go.Proofs.YtakobehkajphpaaGreatW.PrintWords Go.Proofs.YtakobehkajphpaaGreatW.PrintLast Go.Proofs.YtakobehkajphpaaGreatW.PrintMore Go.Proofs.YtakobehkajphpaaGreat.PAll
set_option linter.unusedVariables false
set_option linter.unusedSimpArgs false

/-- A comparison by -1, 0, 1. -/
structure Cm {α : Type} (c : α → α → Int) : Prop where
  one : ∀ a b, c a b = -1 ∨ c a b = 0 ∨ c a b = 1
  zero : ∀ a b, c a b = 0 ↔ a = b
  anti : ∀ a b, c b a = - c a b
  trans : ∀ a b d, c a b ≤ 0 → c b d ≤ 0 → c a d ≤ 0
theorem Cm.law {α : Type} {c : α → α → Int} (h : Cm c) (a b d : α) : 0 < c a b ∨ 0 < c b d ∨ c a d ≤ 0 ∧ (c a d < 0 ↔ c a b < 0 ∨ c b d < 0) := by
  by_cases h1 : 0 < c a b
  · exact .inl h1
  · by_cases h2 : 0 < c b d
    · exact .inr (.inl h2)
    · have h3 := h.trans a b d (by omega) (by omega)
      refine .inr (.inr ⟨h3, ?_⟩)
      by_cases h4 : c a d = 0
      · have e := (h.zero a d).1 h4
        subst e
        have := h.anti a b
        omega
      · have : ¬ (c a b = 0 ∧ c b d = 0) := fun ⟨e1, e2⟩ => h4 ((h.zero a d).2 (((h.zero a b).1 e1).trans ((h.zero b d).1 e2)))
        omega

def cmpB (a b : List UInt8) : Int := if Op.bytesLess a b = true then -1 else if Op.bytesLess b a = true then 1 else 0
theorem cmpB_cm : Cm cmpB where
  one a b := by unfold cmpB; split <;> (try split) <;> simp
  zero a b := by
    unfold cmpB
    constructor
    · intro h
      split at h
      · cases h
      · split at h
        · cases h
        · exact bl_total a b (by simp_all) (by simp_all)
    · rintro rfl
      rw [bl_irr]; simp
  anti a b := by
    unfold cmpB
    cases h1 : Op.bytesLess a b <;> cases h2 : Op.bytesLess b a <;> simp
    · rw [bl_asym a b h1] at h2; cases h2
  trans a b d h1 h2 := by
    unfold cmpB at *
    cases ha : Op.bytesLess d a
    · split <;> simp
    · exfalso
      cases h3 : Op.bytesLess b a
      · cases h4 : Op.bytesLess d b
        · -- b ≤ a? no: a ≤ b ≤ d and d < a
          cases h5 : Op.bytesLess a b
          · have := bl_total a b h5 h3; subst this; rw [h4] at ha; cases ha
          · have := bl_trans d a b ha h5; rw [h4] at this; cases this
        · rw [h4, bl_asym d b h4] at h2; simp at h2
      · rw [h3, bl_asym b a h3] at h1; simp at h1

/-- Compared by the first, then by the second. -/
def lex {α β : Type} (c1 : α → α → Int) (c2 : β → β → Int) (x y : α × β) : Int := if c1 x.1 y.1 = 0 then c2 x.2 y.2 else c1 x.1 y.1
theorem lex_cm {α β : Type} {c1 : α → α → Int} {c2 : β → β → Int} (h1 : Cm c1) (h2 : Cm c2) : Cm (lex c1 c2) where
  one a b := by unfold lex; split; exact h2.one _ _; exact h1.one _ _
  zero a b := by
    obtain ⟨a1, a2⟩ := a
    obtain ⟨b1, b2⟩ := b
    unfold lex
    rw [Prod.mk.injEq]
    by_cases h : c1 a1 b1 = 0
    · simp only [h, if_true]
      rw [h2.zero]
      exact ⟨fun e => ⟨(h1.zero _ _).1 h, e⟩, fun e => e.2⟩
    · simp only [h, if_false, false_iff]
      exact fun e => h ((h1.zero _ _).2 e.1)
  anti a b := by
    unfold lex
    have e1 := h1.anti a.1 b.1
    have e2 := h2.anti a.2 b.2
    by_cases h : c1 a.1 b.1 = 0
    · rw [if_pos h, if_pos (by omega), e2]
    · rw [if_neg h, if_neg (by omega), e1]
  trans a b d i1 i2 := by
    unfold lex at *
    have t := h1.trans a.1 b.1 d.1
    have l := h1.law a.1 b.1 d.1
    by_cases g1 : c1 a.1 b.1 = 0 <;> by_cases g2 : c1 b.1 d.1 = 0
    · simp only [g1, g2, if_true] at i1 i2
      have e : c1 a.1 d.1 = 0 := by omega
      rw [if_pos e]
      exact h2.trans _ _ _ i1 i2
    · simp only [g1, g2, if_true, if_false] at i1 i2
      rw [if_neg (by omega)]; omega
    · simp only [g1, g2, if_true, if_false] at i1 i2
      rw [if_neg (by omega)]; omega
    · simp only [g1, g2, if_false] at i1 i2
      rw [if_neg (by omega)]; omega

/-- Lists compared from the front; a list that ends is less. -/
def cmpL {α : Type} (c : α → α → Int) : List α → List α → Int
  | [], [] => 0
  | [], _ :: _ => -1
  | _ :: _, [] => 1
  | x :: l, y :: m => if c x y = 0 then cmpL c l m else c x y
theorem cmpL_cm {α : Type} {c : α → α → Int} (h : Cm c) : Cm (cmpL c) where
  one := by
    intro a
    induction a with
    | nil => intro b; cases b <;> simp [cmpL]
    | cons x a ih =>
      intro b
      cases b with
      | nil => simp [cmpL]
      | cons y b =>
        simp only [cmpL]
        split
        · exact ih b
        · exact h.one x y
  zero := by
    intro a
    induction a with
    | nil => intro b; cases b <;> simp [cmpL]
    | cons x a ih =>
      intro b
      cases b with
      | nil => simp [cmpL]
      | cons y b =>
        simp only [cmpL, List.cons.injEq]
        by_cases g : c x y = 0
        · rw [if_pos g, ih b]
          exact ⟨fun e => ⟨(h.zero _ _).1 g, e⟩, fun e => e.2⟩
        · rw [if_neg g]
          exact ⟨fun e => absurd e g, fun e => (h.zero _ _).2 e.1⟩
  anti := by
    intro a
    induction a with
    | nil => intro b; cases b <;> simp [cmpL]
    | cons x a ih =>
      intro b
      cases b with
      | nil => simp [cmpL]
      | cons y b =>
        simp only [cmpL]
        have e := h.anti x y
        by_cases g : c x y = 0
        · rw [if_pos g, if_pos (by omega), ih b]
        · rw [if_neg g, if_neg (by omega), e]
  trans := by
    intro a
    induction a with
    | nil => intro b d _ _; cases d <;> simp [cmpL]
    | cons x a ih =>
      intro b d i1 i2
      cases b with
      | nil => simp [cmpL] at i1
      | cons y b =>
        cases d with
        | nil => simp [cmpL] at i2
        | cons z d =>
          simp only [cmpL] at *
          have l := h.law x y z
          by_cases g1 : c x y = 0 <;> by_cases g2 : c y z = 0
          · simp only [g1, g2, if_true] at i1 i2
            rw [if_pos (by omega)]
            exact ih b d i1 i2
          · simp only [g1, g2, if_true, if_false] at i1 i2
            rw [if_neg (by omega)]; omega
          · simp only [g1, g2, if_true, if_false] at i1 i2
            rw [if_neg (by omega)]; omega
          · simp only [g1, g2, if_false] at i1 i2
            rw [if_neg (by omega)]; omega

/-- Two labels compared. -/
def cmp1 (x y : S94) : Int := lex cmpB cmpB (ab x.f0, ab x.f1) (ab y.f0, ab y.f1)
theorem cmp1_cm : Cm cmp1 :=
  have h := lex_cm cmpB_cm cmpB_cm
  ⟨fun a b => h.one _ _, fun a b => by
    unfold cmp1
    rw [h.zero, Prod.mk.injEq, ab_iff, ab_iff]
    cases a; cases b; simp, fun a b => h.anti _ _, fun a b d => h.trans _ _ _⟩
def cmpLL : L94 → L94 → Int := cmpL cmp1
theorem cmpLL_cm : Cm cmpLL := cmpL_cm cmp1_cm
end Go.Proofs.YtakobehkajphpaaGreat.H
