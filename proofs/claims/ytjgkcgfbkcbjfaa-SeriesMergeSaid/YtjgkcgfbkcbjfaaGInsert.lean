/- slices.Insert of one label into a row of the call's own. -/
import Derived.Test.YtjgkcgfbkcbjfaaGCopy
import Derived.Lib.Overlaps
import Derived.Lib.AppendZerosOnto
import Derived.Shelf.RegionOpenPlain
namespace Go.Proofs.Ytjgkcgfbkcbjfaa.H
open Go Go.RowKit Go.Proofs.YtjgkcgfbkcbjfaaW.PrintWords Go.Proofs.YtjgkcgfbkcbjfaaW.PrintLast Go.Proofs.YtjgkcgfbkcbjfaaW.PrintMore Go.Proofs.Ytjgkcgfbkcbjfaa.PAll
set_option linter.unusedVariables false
set_option linter.unusedSimpArgs false

theorem lcells_take : ∀ (l : L29) (i : Nat), (lcells l).take (i * 2) = lcells (l.take i)
  | [], i => by simp [lcells]
  | x :: l, 0 => by simp [lcells]
  | x :: l, i + 1 => by
    have ih := lcells_take l i
    simp only [lcells, List.flatMap_cons, List.take_succ_cons] at *
    rw [show (i + 1) * 2 = i * 2 + 2 by omega]
    simp [ih]
theorem lcells_drop : ∀ (l : L29) (i : Nat), (lcells l).drop (i * 2) = lcells (l.drop i)
  | [], i => by simp [lcells]
  | x :: l, 0 => by simp [lcells]
  | x :: l, i + 1 => by
    have ih := lcells_drop l i
    simp only [lcells, List.flatMap_cons, List.drop_succ_cons] at *
    rw [show (i + 1) * 2 = i * 2 + 2 by omega]
    simp [ih]
/-- x laid in ahead of place i. -/
def insL (xs : L29) (i : Nat) (x : S29) : L29 := xs.take i ++ x :: xs.drop i
theorem insL_length (xs : L29) (i : Nat) (x : S29) : (insL xs i x).length = xs.length + 1 := by simp [insL]; omega

/-- Two copies lay x into the row. -/
theorem shift_cells (cur : List Value) (xs : L29) (x : S29) (i c : Nat) (hi : i < xs.length) (hroom : xs.length + 1 ≤ c) (hcl : cur.length = c * 2) (hcur : cur.take (xs.length * 2) = lcells xs) :
    (splice (splice cur ((i + 1) * 2) (lcells (xs.drop i))) (i * 2) [Value.int .i64 x.f0, Value.int .i64 x.f1]).length = c * 2 ∧ (splice (splice cur ((i + 1) * 2) (lcells (xs.drop i))) (i * 2) [Value.int .i64 x.f0, Value.int .i64 x.f1]).take ((xs.length + 1) * 2) = lcells (insL xs i x) := by
  have hd : (lcells (xs.drop i)).length = (xs.length - i) * 2 := by rw [lcells_length, List.length_drop]
  have h1 : (splice cur ((i + 1) * 2) (lcells (xs.drop i))).length = c * 2 := by rw [length_splice _ _ _ (by rw [hd]; omega), hcl]
  refine ⟨by rw [length_splice _ _ _ (by rw [h1]; simp; omega), h1], ?_⟩
  have ht : cur.take (i * 2) = lcells (xs.take i) := by
    rw [← lcells_take, ← hcur, List.take_take, Nat.min_eq_left (by omega)]
  have ha : (splice cur ((i + 1) * 2) (lcells (xs.drop i))).take (i * 2) = lcells (xs.take i) := by
    unfold splice
    rw [List.take_append_of_le_length (by rw [List.length_take]; omega), List.take_take, Nat.min_eq_left (by omega), ht]
  have hb : (splice cur ((i + 1) * 2) (lcells (xs.drop i))).drop (i * 2 + 2) = lcells (xs.drop i) ++ cur.drop ((i + 1) * 2 + (lcells (xs.drop i)).length) := by
    unfold splice
    rw [List.drop_append_of_le_length (by rw [List.length_take]; omega), List.drop_take, show (i + 1) * 2 - (i * 2 + 2) = 0 by omega]
    simp
  have he : splice (splice cur ((i + 1) * 2) (lcells (xs.drop i))) (i * 2) [Value.int .i64 x.f0, Value.int .i64 x.f1] = lcells (insL xs i x) ++ cur.drop ((i + 1) * 2 + (lcells (xs.drop i)).length) := by
    show List.take (i * 2) _ ++ ([Value.int .i64 x.f0, Value.int .i64 x.f1] ++ List.drop (i * 2 + 2) _) = _
    rw [ha, hb]
    simp [insL, lcells]
  rw [he, List.take_left' (by rw [lcells_length, insL_length])]

set_option maxRecDepth 100000 in
set_option maxHeartbeats 4000000 in
theorem Insert_shift (g vb c i : Nat) (xs : L29) (x : S29) (cur : List Value) (w : World) (hi : i < xs.length) (hroom : xs.length + 1 ≤ c) (hc63 : c ≤ 9223372036854775807) (hvb : vb ≠ g)
    (hg : w.heap[g]? = some (.cells cur.toArray 29 (0, 0))) (hcl : cur.length = c * 2) (hcur : cur.take (xs.length * 2) = lcells xs)
    (hv : w.heap[vb]? = some (.cells #[Value.int .i64 x.f0, Value.int .i64 x.f1] 29 (0, 0))) :
    Calls Try.prog 40 #[.slice (some ⟨g, 0, none⟩) xs.length c, .int .i64 i, .slice (some ⟨vb, 0, none⟩) 1 1] w fun e w' =>
      e = .returned (.slice (some ⟨g, 0, none⟩) (xs.length + 1) c) ∧ Below g w w' ∧ ∃ cur' : List Value, w'.heap[g]? = some (.cells cur'.toArray 29 (0, 0)) ∧ cur'.length = c * 2 ∧ cur'.take ((xs.length + 1) * 2) = lcells (insL xs i x) := by
  obtain ⟨i0, hi0, hz0, hz1, hz2⟩ := info_parts infoL
  have hz : ∀ w, (Go.sizeOf 29).run Try.prog w = .ok 2 w := fun w => by simp [sizeOf, typeInfo, hi0, hz1]
  have hov : ∀ a lb cb, (callFunc 54 #[.slice (some ⟨vb, 0, none⟩) 1 1, .slice (some ⟨g, a, none⟩) lb cb]).run Try.prog w = .ok (.value (.bool false)) w := fun a lb cb => by
    rw [run_callFunc_extern Try.func54 (by kernel_rfl) (by kernel_rfl) (by kernel_rfl) (e := Extern.SlicesOverlaps.overlaps #[22, 22] #[4]) (by kernel_rfl),
      Lib.run_overlaps_apart w 22 4 29 Try.underlying22 2 hz ⟨vb, 0, none⟩ ⟨g, a, none⟩ 1 1 lb cb hvb 29 29 2 cur.length (by simp [World.shape?, hv]) (by simp [World.shape?, hg]) (by omega) (by simp [World.frozen?, hv]) (by simp [World.frozen?, hv])]
    rfl
  have d0 : ((i : Int) == (xs.length : Int)) = false := by simp; omega
  have q1 : ((c : Int) < (xs.length : Int) + 1) = False := eq_false (by omega)
  have q2 : (i ≤ xs.length) = True := eq_true (by omega)
  have hu := Try.underlying29
  have hsz : (Try.prog.info? 29).map (·.size) = some 2 := by rw [hi0]; simp [hz1]
  have hw1 : IntKind.i64.wrap ((i : Int) + 1) = (i : Int) + 1 := by rw [IntKind.wrap_i64]; omega
  have hb1 : (0 : Int) ≤ (i : Int) + 1 := by omega
  have htn : ((i : Int) + 1).toNat = i + 1 := by omega
  have hb2 : ¬ (c = i + 1) := by omega
  have hb3 : (i : Int) ≤ (xs.length : Int) + 1 := by omega
  have hb3' : (i : Int) ≤ (xs.length : Int) := by omega
  have hb4 : ¬ (c = i) := by omega
  have hd : (lcells (xs.drop i)).length = (xs.length - i) * 2 := by rw [lcells_length, List.length_drop]
  have hone : ∀ l : L29, ∀ v ∈ lcells l, v.oneCell' = true := fun l v hv => by
    simp only [lcells, List.mem_flatMap] at hv
    obtain ⟨y, _, hv⟩ := hv
    simp at hv
    rcases hv with rfl | rfl <;> rfl
  have hcp1 : ∀ ty dc sc, (Builtin.copy_ #[22, 22] ty #[.slice (some ⟨g, (i + 1) * 2, none⟩) (xs.length - i) dc, .slice (some ⟨g, i * 2, none⟩) (xs.length + 1 - i) sc]).run Try.prog w.drew = .ok (goInt (Nat.min (xs.length + 1 - i) (xs.length - i))) (w.drew.setRow g (splice cur ((i + 1) * 2) (lcells (xs.drop i))).toArray) := fun ty dc sc =>
    run_copy_row_sz w.drew _ _ ty 29 2 g ((i + 1) * 2) (xs.length - i) dc ⟨g, i * 2, none⟩ (xs.length + 1 - i) sc cur 29 (lcells (xs.drop i)) Try.underlying22 hsz hg (by rw [hd]; simp only [Nat.min_def]; split <;> omega)
      (fun j v hj => by
        rw [Addr.add_lit]
        refine cell_of_heap (W := w.drew) hg _ _ ?_
        have hj' : (lcells xs)[i * 2 + j]? = some v := by rw [← lcells_drop, List.getElem?_drop] at hj; exact hj
        rw [← hcur, List.getElem?_take] at hj'
        split at hj'
        · simpa using hj'
        · cases hj')
      (by rw [hd]; omega) (hone _)
  obtain ⟨W1, hW1⟩ : ∃ W1, W1 = w.drew.setRow g (splice cur ((i + 1) * 2) (lcells (xs.drop i))).toArray := ⟨_, rfl⟩
  rw [← hW1] at hcp1
  have hg1 : W1.heap[g]? = some (.cells (splice cur ((i + 1) * 2) (lcells (xs.drop i))).toArray 29 (0, 0)) := by rw [hW1]; exact setRow_heap w.drew g _ _ 29 _ hg
  have hv1 : W1.heap[vb]? = some (.cells #[Value.int .i64 x.f0, Value.int .i64 x.f1] 29 (0, 0)) := by rw [hW1, setRow_other _ _ _ _ hvb]; exact hv
  have hB1 : Below g w W1 := by rw [hW1]; exact below_setRow (show Below g w w.drew by apply below_drew; exact Below.refl _ _) (Nat.le_refl _) _
  have hc2 := shift_cells cur xs x i c hi hroom hcl hcur
  have hl1 : (splice cur ((i + 1) * 2) (lcells (xs.drop i))).length = c * 2 := by rw [length_splice _ _ _ (by rw [hd]; omega), hcl]
  generalize splice cur ((i + 1) * 2) (lcells (xs.drop i)) = cur1 at *
  have hcp2 : ∀ ty dc, (Builtin.copy_ #[22, 22] ty #[.slice (some ⟨g, i * 2, none⟩) (xs.length + 1 - i) dc, .slice (some ⟨vb, 0, none⟩) 1 1]).run Try.prog W1 = .ok (goInt (Nat.min 1 (xs.length + 1 - i))) (W1.setRow g (splice cur1 (i * 2) [Value.int .i64 x.f0, Value.int .i64 x.f1]).toArray) := fun ty dc =>
    run_copy_row_sz W1 _ _ ty 29 2 g (i * 2) (xs.length + 1 - i) dc ⟨vb, 0, none⟩ 1 1 cur1 29 [Value.int .i64 x.f0, Value.int .i64 x.f1] Try.underlying22 hsz hg1 (by simp only [Nat.min_def, List.length_cons, List.length_nil]; split <;> omega)
      (fun j v hj => by rw [add_plain]; exact cell_of_heap hv1 _ _ (by simpa using hj))
      (by rw [hl1]; simp; omega) (fun v hv => by simp at hv; rcases hv with rfl | rfl <;> rfl)
  have HF := Aside0.mk (show Below g w (W1.setRow g (splice cur1 (i * 2) [Value.int .i64 x.f0, Value.int .i64 x.f1]).toArray) from below_setRow hB1 (Nat.le_refl _) _)
  have HG2 := Aside0.mk (setRow_heap W1 g _ (splice cur1 (i * 2) [Value.int .i64 x.f0, Value.int .i64 x.f1]).toArray 29 _ hg1)
  have HC2 := Aside0.mk hc2
  clear hc2 hcur hd hone hW1 hB1 hv1 hg1
  have mixed : Try.prog.follows .mixedOrders = true := by kernel_rfl
  go_enter Try.func40, Try.ntmps40
  go_wp2_with (simp only [hov])
  go_region_law_o (refine step_copy_run' rfl _ _ 22 22 rfl _ _ (by simp [Act.eval, Act.put]) (by simp [Act.eval, Act.put]) (hcp1 _ _ _) ?_)
  go_wp2_with (at_builtin; refine wpList_copy_run' _ rfl _ _ 22 22 rfl _ _ rfl rfl (hcp2 _ _) ?_)
  go_ret
  exact ⟨rfl, HF.out, _, HG2.out, HC2.out⟩
end Go.Proofs.Ytjgkcgfbkcbjfaa.H
