/- Rows of keys that are added some times; appending a row. -/
import Derived.Test.YtgpkpeefbkcjeaaKFits
import Derived.Laws.AppendOwn
import Derived.Laws.AppendOwnNone
import Derived.Deep.RegionLaw
namespace Go.Proofs.Ytgpkpeefbkcjeaa.H
open Go Go.RowKit Go.Proofs.YtgpkpeefbkcjeaaW.PrintWords Go.Proofs.YtgpkpeefbkcjeaaW.PrintLast Go.Proofs.YtgpkpeefbkcjeaaW.PrintMore Go.Proofs.Ytgpkpeefbkcjeaa.PAll
set_option linter.unusedVariables false
set_option linter.unusedSimpArgs false

abbrev L49 := List S49
/-- The cells of some keys. -/
def mlcells (l : L49) : List Value := l.flatMap fun x => [Value.string x.f0, Value.int .i64 x.f1]
theorem mlcells_length (l : L49) : (mlcells l).length = l.length * 2 := by
  induction l with
  | nil => rfl
  | cons x l ih => simp only [mlcells, List.flatMap_cons, List.length_append, List.length_cons, List.length_nil] at *; omega
theorem mlcells_append (a b : L49) : mlcells (a ++ b) = mlcells a ++ mlcells b := by simp [mlcells]
theorem mreps_aux (W : World) (base : Nat) (ok : Nat → Prop) : ∀ (l pre : L49), Reps (k49.M W base ok) k49.sz pre (mlcells pre) → Reps (k49.M W base ok) k49.sz (pre ++ l) (mlcells (pre ++ l))
  | [], pre, h => by simpa using h
  | x :: l, pre, h => by
    have := mreps_aux W base ok l (pre ++ [x]) (by rw [mlcells_append]; exact h.snoc (k49_mkM W base ok x) rfl)
    simpa using this
theorem mreps_lcells (W : World) (base : Nat) (ok : Nat → Prop) (l : L49) : Reps (k49.M W base ok) k49.sz l (mlcells l) := by
  have := mreps_aux W base ok l [] (Reps.none _ _)
  simpa using this
theorem mR_of_lcells {W : World} {base : Nat} {v : Value} {l : L49} (h : W.ownsRow base 49 2 v l.length (mlcells l)) : Kd.R k49 49 W base (fun _ => True) v l :=
  ⟨fun _ _ => trivial, mlcells l, h, mreps_lcells W base _ l⟩

theorem minfoL : (Try.prog.info? 49).map (fun i => (i.zero, i.size, i.bytes)) = some (some (.agg #[Value.string ⟨#[]⟩, Value.int .i64 0]), 2, 24) := by kernel_rfl

theorem mlcells_take : ∀ (l : L49) (i : Nat), (mlcells l).take (i * 2) = mlcells (l.take i)
  | [], i => by simp [mlcells]
  | x :: l, 0 => by simp [mlcells]
  | x :: l, i + 1 => by
    have ih := mlcells_take l i
    simp only [mlcells, List.flatMap_cons, List.take_succ_cons] at *
    rw [show (i + 1) * 2 = i * 2 + 2 by omega]
    simp [ih]
theorem mlcells_drop : ∀ (l : L49) (i : Nat), (mlcells l).drop (i * 2) = mlcells (l.drop i)
  | [], i => by simp [mlcells]
  | x :: l, 0 => by simp [mlcells]
  | x :: l, i + 1 => by
    have ih := mlcells_drop l i
    simp only [mlcells, List.flatMap_cons, List.drop_succ_cons] at *
    rw [show (i + 1) * 2 = i * 2 + 2 by omega]
    simp [ih]
theorem mlcells_at (xs : L49) (i r : Nat) (hi : i < xs.length) (hr : r < 2) : (mlcells xs)[i * 2 + r]? = [Value.string xs[i].f0, Value.int .i64 xs[i].f1][r]? := by
  rw [← List.getElem?_drop, mlcells_drop, List.drop_eq_getElem_cons hi]
  show ([Value.string xs[i].f0, Value.int .i64 xs[i].f1] ++ mlcells (xs.drop (i + 1)))[r]? = _
  rw [List.getElem?_append_left (by simpa using hr)]
theorem mC_cells {w : World} {ad : Addr} {xs : L49} (h : Kd.C k49 w (some ad) xs.length xs) : ∀ j u, (mlcells xs)[j]? = some u → w.cell? (ad.add j) = some u := by
  intro j u hj
  have hlt : j < xs.length * 2 := by
    have := (List.getElem?_eq_some_iff.1 hj).1
    rwa [mlcells_length] at this
  have hi : j / 2 < xs.length := by omega
  have e : j = j / 2 * 2 + j % 2 := by omega
  rw [e, mlcells_at xs _ _ hi (by omega)] at hj
  obtain ⟨ad', c, e1, _, hK, hc⟩ := Kd.C_get h z49 ((j / 2 : Nat) : Int) (by omega) (by omega)
  cases e1
  have hg : xs.getD (((j / 2 : Nat) : Int)).toNat z49 = xs[j / 2] := by rw [Int.toNat_natCast]; simp [List.getD_eq_getElem?_getD, List.getElem?_eq_getElem hi]
  rw [hg] at hK
  obtain rfl := k49_open hK
  have h3 := hc (j % 2) u hj
  rw [Int.toNat_natCast] at h3
  rw [e]
  exact h3
theorem mlcells_one (l : L49) : ∀ v ∈ mlcells l, v.oneCell' = true := fun v hv => by
  simp only [mlcells, List.mem_flatMap] at hv
  obtain ⟨y, _, hv⟩ := hv
  simp at hv
  rcases hv with rfl | rfl <;> rfl


theorem run_appendM_none {w : World} {base : Nat} (ty : TypeId) (v : Value) (n c : Nat) (xs : List Value) (hown : w.ownsRow base 49 2 v n xs) :
    (Builtin.append_ #[45, 45] ty #[v, .slice none 0 c]).run Try.prog w = .ok v w := by
  obtain ⟨i0, hi, hz0, hz1, hz2⟩ := info_parts minfoL
  rcases hown.2 with ⟨rfl, rfl⟩ | ⟨g, cap, cur, rfl, _, _, hnc, _⟩
  · simp [Builtin.append_, run_underlying Try.underlying45, sizeOf, typeInfo, hi, Builtin.lenOf, Builtin.firstCells]
  · simp [Builtin.append_, run_underlying Try.underlying45, sizeOf, typeInfo, hi, Builtin.lenOf, Builtin.firstCells, hnc, storeCells]
theorem C_noneM {w : World} {n : Nat} {l : L49} (hr : Kd.C k49 w none l.length l) : l = [] := by
  rcases Nat.eq_zero_or_pos l.length with h | h
  · exact List.eq_nil_of_length_eq_zero h
  · obtain ⟨ad, e1, _⟩ := at_T49 hr 0 (by omega) (by omega)
    cases e1
/-- append(v, l...), v the call's own. -/
theorem wpM_append {w : World} {ops : Array Oper} {rest : List Oper} {o : Oper} {a : Act} {Q : Exit → Act → World → Prop} (hgd : o.guard = none) (s x : Operand)
    (ho : o.op = .call { callee := .builtin .append, args := #[s, x], argTypes := #[45, 45] })
    (base : Nat) (v : Value) (ms : L49) (hs : a.eval s = v) (hown : w.ownsRow base 49 2 v ms.length (mlcells ms))
    (A : Option Addr) (c : Nat) (l : L49) (hx : a.eval x = .slice A l.length c) (hC : Kd.C k49 w A l.length l) (hm : ms.length + l.length ≤ 100000) (hbase : base ≤ w.heap.size)
    (h : ∀ v' w', w'.ownsRow base 49 2 v' (ms ++ l).length (mlcells (ms ++ l)) → w.grownBy w' v.ownBlock → wpList Try.prog ops Q rest (a.put o.dst v') w') : wpList Try.prog ops Q (o :: rest) a w := by
  obtain ⟨i0, hi, hz0, hz1, hz2⟩ := info_parts minfoL
  cases A with
  | none =>
    have hl := C_noneM (n := 0) hC
    subst hl
    refine wpList_plain hgd fun K hK => ?_
    have hrun := run_appendM_none o.type v ms.length c (mlcells ms) hown
    simp only [List.length_nil] at hx
    unfold Oper.wp
    simp [execOp, ho, resolve, invoke, builtin, hs, hx, hrun, Result.andThen]
    exact hK _ _ (h v w (by simpa using hown) (World.grownBy.refl _ _))
  | some ad =>
    refine wpList_append_own _ hgd s x 45 ho base 49 i0 (.agg #[Value.string ⟨#[]⟩, Value.int .i64 0]) 2 24 Try.underlying45 hi hz0 hz1 hz2 rfl (by decide) v ms.length (mlcells ms) hs hown ad l.length c (mlcells l) hx (mlcells_length l) (mC_cells hC) (mlcells_one l) (by unfold maxLen; omega) (by omega) hbase ?_
    intro v' w' h1 h2 _
    exact h v' w' (by rw [List.length_append, mlcells_append]; exact h1) h2

/-- The same as a step of a region that draws. -/
theorem stepM_append {w : World} {ops : Array Oper} {o : Oper} {a : Act} {K : Act → World → Prop} {Q : Exit → Act → World → Prop} {E : Prop} (hgd : o.guard = none) (s x : Operand)
    (ho : o.op = .call { callee := .builtin .append, args := #[s, x], argTypes := #[45, 45] })
    (base : Nat) (v : Value) (ms : L49) (hs : a.eval s = v) (hown : w.ownsRow base 49 2 v ms.length (mlcells ms))
    (A : Option Addr) (c : Nat) (l : L49) (hx : a.eval x = .slice A l.length c) (hC : Kd.C k49 w A l.length l) (hm : ms.length + l.length ≤ 100000) (hbase : base ≤ w.heap.size)
    (h : ∀ v' w', w'.ownsRow base 49 2 v' (ms ++ l).length (mlcells (ms ++ l)) → w.grownBy w' v.ownBlock → K (a.put o.dst v') w') : if Region.wanted o (yielded ops a.tmps) = true then Oper.wp Try.prog o a w K Q else E := by
  have hw : Region.wanted o (yielded ops a.tmps) = true := by simp [Region.wanted, hgd]
  rw [if_pos hw]
  obtain ⟨i0, hi, hz0, hz1, hz2⟩ := info_parts minfoL
  cases A with
  | none =>
    have hl := C_noneM (n := 0) hC
    subst hl
    have hrun := run_appendM_none o.type v ms.length c (mlcells ms) hown
    simp only [List.length_nil] at hx
    unfold Oper.wp
    simp [execOp, ho, resolve, invoke, builtin, hs, hx, hrun, Result.andThen]
    exact h v w (by simpa using hown) (World.grownBy.refl _ _)
  | some ad =>
    refine wp_append_own w s x 45 ho base 49 i0 (.agg #[Value.string ⟨#[]⟩, Value.int .i64 0]) 2 24 Try.underlying45 hi hz0 hz1 hz2 rfl (by decide) v ms.length (mlcells ms) hs hown ad l.length c (mlcells l) hx (mlcells_length l) (mC_cells hC) (mlcells_one l) (by unfold maxLen; omega) (by omega) hbase ?_
    intro v' w' h1 h2 _
    exact h v' w' (by rw [List.length_append, mlcells_append]; exact h1) h2

end Go.Proofs.Ytgpkpeefbkcjeaa.H
