/- Rows of structs of one type that a call owns. -/
import Derived.Test.YtakobehkajphpaaGreatTPF0
import Derived.Laws.CopyOwn
import Derived.WalkLawsBesides
namespace Go.Proofs.YtakobehkajphpaaGreat.K
open Go Go.RowKit Go.Proofs.YtakobehkajphpaaGreatW.PrintWords Go.Proofs.YtakobehkajphpaaGreatW.PrintLast Go.Proofs.YtakobehkajphpaaGreatW.PrintMore Go.Proofs.YtakobehkajphpaaGreat.PAll
set_option linter.unusedVariables false
set_option linter.unusedSimpArgs false

abbrev L64 := List S64
theorem heap_lt {W : World} {g : Nat} {o : Obj} (h : W.heap[g]? = some o) : g < W.heap.size := (Array.getElem?_eq_some_iff.1 h).1

theorem cell_of_heap {W : World} {g : Nat} {cs : Array Value} {e : Nat} {fz : Nat × Nat} (h : W.heap[g]? = some (.cells cs e fz)) (j : Nat) (u : Value) (hu : cs[j]? = some u) : W.cell? ⟨g, j, none⟩ = some u := by
  simp [World.cell?, h, hu]

theorem heap_alloc_keep {W : World} {g : Nat} {o x : Obj} (h : W.heap[g]? = some x) : (W.alloc o).heap[g]? = some x := (heap_alloc_old W o (heap_lt h)).trans h

/-- The cells of some labels. -/
def lcells (l : L64) : List Value := l.flatMap fun x => [Value.string x.f0, Value.int .i64 x.f1]
theorem lcells_length (l : L64) : (lcells l).length = l.length * 2 := by
  induction l with
  | nil => rfl
  | cons x l ih => simp only [lcells, List.flatMap_cons, List.length_append, List.length_cons, List.length_nil] at *; omega
theorem lcells_append (a b : L64) : lcells (a ++ b) = lcells a ++ lcells b := by simp [lcells]
theorem reps_aux (W : World) (base : Nat) (ok : Nat → Prop) : ∀ (l pre : L64), Reps (k64.M W base ok) k64.sz pre (lcells pre) → Reps (k64.M W base ok) k64.sz (pre ++ l) (lcells (pre ++ l))
  | [], pre, h => by simpa using h
  | x :: l, pre, h => by
    have := reps_aux W base ok l (pre ++ [x]) (by rw [lcells_append]; exact h.snoc (k64_mkM W base ok x) rfl)
    simpa using this
theorem reps_lcells (W : World) (base : Nat) (ok : Nat → Prop) (l : L64) : Reps (k64.M W base ok) k64.sz l (lcells l) := by
  have := reps_aux W base ok l [] (Reps.none _ _)
  simpa using this
theorem R_of_lcells {W : World} {base : Nat} {v : Value} {l : L64} (h : W.ownsRow base 64 2 v l.length (lcells l)) : Kd.R k64 64 W base (fun _ => True) v l :=
  ⟨fun _ _ => trivial, lcells l, h, reps_lcells W base _ l⟩

theorem infoL : (Tryz.prog.info? 64).map (fun i => (i.zero, i.size, i.bytes)) = some (some (.agg #[Value.string ⟨#[]⟩, Value.int .i64 0]), 2, 24) := by kernel_rfl

end Go.Proofs.YtakobehkajphpaaGreat.K
