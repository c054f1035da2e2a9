/- slices.Equal over labels; a literal list of labels. -/
import Derived.Test.YtakobehkajphpaaGreatTLCmp
namespace Go.Proofs.YtakobehkajphpaaGreat.H
open Go Go.RowKit Go.Proofs.YtakobehkajphpaaGreatW.PrintWords Go.Proofs.YtakobehkajphpaaGreatW.PrintLast Go.Proofs.YtakobehkajphpaaGreatW.PrintMore Go.Proofs.YtakobehkajphpaaGreat.PAll
set_option linter.unusedVariables false
set_option linter.unusedSimpArgs false

def eq1 (x y : S94) : Bool := ab x.f0 == ab y.f0 && ab x.f1 == ab y.f1
theorem eq1_iff (x y : S94) : eq1 x y = true ↔ x = y := by
  cases x; cases y
  simp [eq1, ab_iff]
/-- Are two lists of labels one? -/
def eqLB : L94 → L94 → Bool
  | [], [] => true
  | x :: l, y :: m => eq1 x y && eqLB l m
  | _, _ => false
theorem eqLB_iff : ∀ l m : L94, eqLB l m = true ↔ l = m
  | [], [] => by simp [eqLB]
  | [], _ :: _ => by simp [eqLB]
  | _ :: _, [] => by simp [eqLB]
  | x :: l, y :: m => by simp [eqLB, eq1_iff, eqLB_iff l m]
theorem Equal_l0 (l m : L94) (hlm : l.length = m.length) (hl : l.length ≤ 4611686018427387904) : ∀ (n k j : Nat), l.length - j = n → n < k →
    api_Label_125.l0 k l m (l.length : Int) (j : Int) = some (eqLB (l.drop j) (m.drop j)) := by
  intro n
  induction n with
  | zero =>
    intro k j hn hk
    obtain ⟨k, rfl⟩ : ∃ m, k = m + 1 := ⟨k - 1, by omega⟩
    simp only [api_Label_125.l0]
    rw [if_neg (by omega), List.drop_eq_nil_of_le (by omega), List.drop_eq_nil_of_le (by omega)]
    rfl
  | succ n ih =>
    intro k j hn hk
    obtain ⟨k, rfl⟩ : ∃ m, k = m + 1 := ⟨k - 1, by omega⟩
    have hj : j < l.length := by omega
    have hj' : j < m.length := by omega
    simp only [api_Label_125.l0]
    rw [if_pos (by omega), if_pos (by omega), if_pos (by omega), if_pos (by omega), rdT_get l j hj, rdT_get m j hj', List.drop_eq_getElem_cons hj, List.drop_eq_getElem_cons hj', wrap1 j (by omega), ih k (j + 1) (by omega) (by omega)]
    simp only [toList_ab, eqLB, eq1]
    cases h1 : ab l[j].f0 == ab m[j].f0 <;> cases h2 : ab l[j].f1 == ab m[j].f1 <;> simp

theorem Equal_f (l m : L94) (k : Nat) (hl : l.length ≤ 4611686018427387904) (hk : l.length < k) : api_Label_125.f k l m = some (eqLB l m) := by
  unfold api_Label_125.f
  by_cases h : l.length = m.length
  · rw [if_pos (by omega)]
    have := Equal_l0 l m h hl l.length k 0 (by omega) hk
    simpa using this
  · rw [if_neg (by omega)]
    have : eqLB l m = false := by
      cases hb : eqLB l m
      · rfl
      · exact absurd (congrArg List.length ((eqLB_iff l m).1 hb)) h
    rw [this]

theorem Equal_calls (A0 A1 : Option Addr) (c0 c1 : Nat) (l m : L94) (w : World) (hr0 : Kd.C k94 w A0 l.length l) (hc0 : l.length ≤ c0) (hr1 : Kd.C k94 w A1 m.length m) (hc1 : m.length ≤ c1) (hl : l.length ≤ 4611686018427387904) :
    Calls Tryz.prog 125 #[.slice A0 l.length c0, .slice A1 m.length c1] w fun e w' => e = .returned (.bool (eqLB l m)) ∧ Drawn0 w w' :=
  api_Label_125.calls (l.length + 1) A0 c0 l A1 c1 m (eqLB l m) w hr0 hc0 hr1 hc1 (Equal_f l m _ hl (by omega))

/-- A literal list of labels reads as it stands. -/
theorem C_lit (W : World) (n : Nat) (hn : n = W.heap.size) (l : L94) (hl : l.length ≤ 1000000) : Kd.C k94 (W.alloc (.cells (lcells l).toArray 94)) (some ⟨n, 0, none⟩) l.length l := by
  subst hn
  have h : (W.alloc (.cells (lcells l).toArray 94)).ownsRow 0 94 2 (.slice (some ⟨W.heap.size, 0, none⟩) l.length l.length) l.length (lcells l) :=
    ⟨lcells_length l, .inr ⟨W.heap.size, l.length, _, rfl, Nat.zero_le _, heap_alloc_new W _, Nat.le_refl _, by unfold maxLen; omega, by simp [lcells_length], by rw [List.take_of_length_le (by rw [lcells_length]; omega)]⟩⟩
  exact (Kd.R_reads' (R_of_lcells h)).2.2
end Go.Proofs.YtakobehkajphpaaGreat.H
