/- Rows of structs of one type that a call owns. -/
import Derived.Test.YtakobehkajphpaaLPure
import Derived.Laws.CopyOwn
import Derived.WalkLawsBesides
namespace Go.Proofs.Ytakobehkajphpaa.H
open Go Go.RowKit Go.Proofs.YtakobehkajphpaaW.PrintWords Go.Proofs.YtakobehkajphpaaW.PrintLast Go.Proofs.YtakobehkajphpaaW.PrintMore Go.Proofs.Ytakobehkajphpaa.PAll
set_option linter.unusedVariables false
set_option linter.unusedSimpArgs false

theorem heap_lt {W : World} {g : Nat} {o : Obj} (h : W.heap[g]? = some o) : g < W.heap.size := (Array.getElem?_eq_some_iff.1 h).1

theorem cell_of_heap {W : World} {g : Nat} {cs : Array Value} {e : Nat} {fz : Nat × Nat} (h : W.heap[g]? = some (.cells cs e fz)) (j : Nat) (u : Value) (hu : cs[j]? = some u) : W.cell? ⟨g, j, none⟩ = some u := by
  simp [World.cell?, h, hu]

theorem heap_alloc_keep {W : World} {g : Nat} {o x : Obj} (h : W.heap[g]? = some x) : (W.alloc o).heap[g]? = some x := (heap_alloc_old W o (heap_lt h)).trans h

/-- The cells of some labels. -/
def lcells (l : L72) : List Value := l.flatMap fun x => [Value.string x.f0, Value.string x.f1]
theorem lcells_length (l : L72) : (lcells l).length = l.length * 2 := by
  induction l with
  | nil => rfl
  | cons x l ih => simp only [lcells, List.flatMap_cons, List.length_append, List.length_cons, List.length_nil] at *; omega
theorem lcells_append (a b : L72) : lcells (a ++ b) = lcells a ++ lcells b := by simp [lcells]
theorem reps_aux (W : World) (base : Nat) (ok : Nat → Prop) : ∀ (l pre : L72), Reps (k72.M W base ok) k72.sz pre (lcells pre) → Reps (k72.M W base ok) k72.sz (pre ++ l) (lcells (pre ++ l))
  | [], pre, h => by simpa using h
  | x :: l, pre, h => by
    have := reps_aux W base ok l (pre ++ [x]) (by rw [lcells_append]; exact h.snoc (k72_mkM W base ok x) rfl)
    simpa using this
theorem reps_lcells (W : World) (base : Nat) (ok : Nat → Prop) (l : L72) : Reps (k72.M W base ok) k72.sz l (lcells l) := by
  have := reps_aux W base ok l [] (Reps.none _ _)
  simpa using this
theorem R_of_lcells {W : World} {base : Nat} {v : Value} {l : L72} (h : W.ownsRow base 72 2 v l.length (lcells l)) : Kd.R k72 72 W base (fun _ => True) v l :=
  ⟨fun _ _ => trivial, lcells l, h, reps_lcells W base _ l⟩

theorem infoL : (Try.prog.info? 72).map (fun i => (i.zero, i.size, i.bytes)) = some (some (.agg #[Value.string ⟨#[]⟩, Value.string ⟨#[]⟩]), 2, 32) := by kernel_rfl

theorem reps_eq : ∀ (l : L72) (cs : List Value) {R : S72 → List Value → Prop}, (∀ x c, R x c → c = [Value.string x.f0, Value.string x.f1]) → Reps R 2 l cs → cs = lcells l
  | [], cs, R, hR, h => by
    have := h.1
    simp at this
    rw [this]; rfl
  | x :: l, cs, R, hR, h => by
    have h0 := hR _ _ (h.2 0 x rfl)
    have hr : Reps R 2 l (cs.drop 2) := ⟨by rw [List.length_drop, h.1]; simp; omega, fun j p hj => by
      have := h.2 (j + 1) p (by simpa using hj)
      rwa [show (j + 1) * 2 = 2 + j * 2 by omega, ← List.drop_drop] at this⟩
    have ih := reps_eq l (cs.drop 2) hR hr
    have e : cs = cs.take 2 ++ cs.drop 2 := (List.take_append_drop 2 cs).symm
    rw [e, ih]
    have h1 : cs.take 2 = [Value.string x.f0, Value.string x.f1] := by simpa using h0
    rw [h1]
    simp [lcells]
theorem own_of_RL {W : World} {base : Nat} {ok : Nat → Prop} {v : Value} {l : L72} (h : Kd.R k72 72 W base ok v l) : W.ownsRow base 72 2 v l.length (lcells l) := by
  obtain ⟨_, inner, ho, hr⟩ := h
  have e := reps_eq l inner (fun x c h => k72_openM h) hr
  rw [← e]; exact ho

end Go.Proofs.Ytakobehkajphpaa.H
