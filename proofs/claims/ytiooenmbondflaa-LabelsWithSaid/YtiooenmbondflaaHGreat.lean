/- What the laws ask of their lists first: great of a literal row of lists. -/
import Derived.Test.YtiooenmbondflaaH1
import Derived.Test.YtiooenmbondflaaHAwake
import Derived.Test.YtiooenmbondflaaHOpn
namespace Go.Proofs.Ytiooenmbondflaa.H
open Go Go.RowKit Go.Proofs.YtiooenmbondflaaW.PrintWords Go.Proofs.YtiooenmbondflaaW.PrintLast Go.Proofs.YtiooenmbondflaaW.PrintMore Go.Proofs.Ytiooenmbondflaa.PAll
set_option linter.unusedVariables false
set_option linter.unusedSimpArgs false

/-- A literal row of slices reads as it stands. -/
theorem C_slices {α : Type} {d : Kd α} (E e : Nat) (W : World) (n : Nat) (hn : n = W.heap.size) (hd : Array Value) (ls : List (List α)) (hlen : ls.length ≤ 1000)
    (h : ∀ (j : Nat) (l : List α), ls[j]? = some l → ∃ A c, hd[j]? = some (.slice A l.length c) ∧ l.length ≤ c ∧ Kd.C d W A l.length l) :
    Kd.C (Kd.slice E d) (W.alloc (.cells hd e)) (some ⟨n, 0, none⟩) ls.length ls := by
  subst hn
  refine ⟨rfl, by omega, fun _ => ⟨_, rfl, fun j p hj => ?_⟩⟩
  obtain ⟨A, c, h1, h2, h3⟩ := h j p hj
  refine ⟨[.slice A p.length c], rfl, ⟨A, c, rfl, h2, Kd.C_below h3 ((Below.refl _ W).alloc (Nat.le_refl _) _)⟩, fun i u hu => ?_⟩
  rcases i with _ | i
  · simp at hu; subst hu
    rw [add_plain]
    exact cell_of_heap (heap_alloc_new W _) _ _ (by simpa [Kd.slice] using h1)
  · simp at hu

theorem great1 (W : World) (n : Nat) (hn : n = W.heap.size) (A0 : Option Addr) (c0 : Nat) (l : L32) (hr0 : Kd.C k32 W A0 l.length l) (hc0 : l.length ≤ c0) :
    Calls Try.prog 10 #[.slice (some ⟨n, 0, none⟩) 1 1] (W.alloc (.cells #[.slice A0 l.length c0] 22)) fun e w' => e = .returned (.bool (greatB l)) ∧ Drawn0 (W.alloc (.cells #[.slice A0 l.length c0] 22)) w' := by
  have h := great_calls (some ⟨n, 0, none⟩) 1 [l] (W.alloc (.cells #[.slice A0 l.length c0] 22)) (C_slices 32 22 W n hn #[.slice A0 l.length c0] [l] (by simp) (fun j x hj => by
    rcases j with _ | j
    · simp at hj; subst hj; exact ⟨A0, c0, rfl, hc0, hr0⟩
    · simp at hj)) (by simp) (fun x hx => by simp at hx; subst hx; exact Kd.C_max hr0)
  simpa using h

theorem great3 (W : World) (n : Nat) (hn : n = W.heap.size) (A0 A1 A2 : Option Addr) (c0 c1 c2 : Nat) (l0 l1 l2 : L32) (hr0 : Kd.C k32 W A0 l0.length l0) (hc0 : l0.length ≤ c0) (hr1 : Kd.C k32 W A1 l1.length l1) (hc1 : l1.length ≤ c1) (hr2 : Kd.C k32 W A2 l2.length l2) (hc2 : l2.length ≤ c2) :
    Calls Try.prog 10 #[.slice (some ⟨n, 0, none⟩) 3 3] (W.alloc (.cells #[.slice A0 l0.length c0, .slice A1 l1.length c1, .slice A2 l2.length c2] 22)) fun e w' => e = .returned (.bool (greatB l0 || greatB l1 || greatB l2)) ∧ Drawn0 (W.alloc (.cells #[.slice A0 l0.length c0, .slice A1 l1.length c1, .slice A2 l2.length c2] 22)) w' := by
  have h := great_calls (some ⟨n, 0, none⟩) 3 [l0, l1, l2] (W.alloc (.cells #[.slice A0 l0.length c0, .slice A1 l1.length c1, .slice A2 l2.length c2] 22)) (C_slices 32 22 W n hn #[.slice A0 l0.length c0, .slice A1 l1.length c1, .slice A2 l2.length c2] [l0, l1, l2] (by simp) (fun j x hj => by
    rcases j with _ | _ | _ | j
    · simp at hj; subst hj; exact ⟨A0, c0, rfl, hc0, hr0⟩
    · simp at hj; subst hj; exact ⟨A1, c1, rfl, hc1, hr1⟩
    · simp at hj; subst hj; exact ⟨A2, c2, rfl, hc2, hr2⟩
    · simp at hj)) (by simp) (fun x hx => by simp at hx; rcases hx with rfl | rfl | rfl <;> first | exact Kd.C_max hr0 | exact Kd.C_max hr1 | exact Kd.C_max hr2)
  simpa [Bool.or_assoc] using h

/-- What is not great is small. -/
theorem small_of {l : L32} (h : greatB l = false) : l.length ≤ 17 ∧ (∀ x ∈ l, x.f0.size ≤ 61 ∧ x.f1.size ≤ 201) ∧ Sz 1000 l := by
  unfold greatB at h
  simp only [Bool.or_eq_false_iff, decide_eq_false_iff_not, List.any_eq_false] at h
  have h2 : ∀ x ∈ l, x.f0.size ≤ 61 ∧ x.f1.size ≤ 201 := fun x hx => by
    have := h.1 x hx
    simp [big] at this
    omega
  exact ⟨by omega, h2, fun x hx => by have := h2 x hx; exact ⟨by omega, by omega⟩⟩

/-- The list of labels as an argument. -/
def goodL (l : L32) : Prop := True
theorem opn_Label : Opn 32 k32 (fun x => x.f0.size ≤ maxLen ∧ x.f1.size ≤ maxLen) :=
  opn_struct (fun x : S32 => (x.f0, x.f1)) (fun p => ⟨p.1, p.2⟩) (fun _ => rfl) Try.underlying32 (by kernel_rfl)
    (opnF_cons (opn_str Try.underlying9 (by kernel_rfl)) (opnF_one (opn_str Try.underlying9 (by kernel_rfl))))
theorem opn_Labels : Opn 22 (Kd.slice 32 k32) (fun l => ∀ x ∈ l, x.f0.size ≤ maxLen ∧ x.f1.size ≤ maxLen) := opn_slice 32 Try.underlying22 (by kernel_rfl) opn_Label
theorem opn_strs : Opn 36 (Kd.slice 9 Kd.string) (fun l => ∀ x ∈ l, x.size ≤ maxLen) := opn_slice 9 Try.underlying36 (by kernel_rfl) (opn_str Try.underlying9 (by kernel_rfl))
end Go.Proofs.Ytiooenmbondflaa.H
