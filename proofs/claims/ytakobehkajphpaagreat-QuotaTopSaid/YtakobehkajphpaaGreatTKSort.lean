/- slices.SortFunc, by any comparison, of a row of the call's own. -/
import Derived.Test.YtakobehkajphpaaGreatTSortP
import Derived.Test.YtakobehkajphpaaGreatTKClone
import Derived.Shelf.SlSortCmp.NoneTotal
namespace Go.Proofs.YtakobehkajphpaaGreat.K
open Go Go.RowKit Go.Proofs.YtakobehkajphpaaGreatW.PrintWords Go.Proofs.YtakobehkajphpaaGreatW.PrintLast Go.Proofs.YtakobehkajphpaaGreatW.PrintMore Go.Proofs.YtakobehkajphpaaGreat.PAll
open Go.Sort (PermIn SortedIn SWO ahead grow alloc_eq_grow grow_grow flatK HoldsK get_flatK size_flatK putRowK putRow putCells mapBlock onCells)
set_option linter.unusedVariables false
set_option linter.unusedSimpArgs false

instance : Inhabited S64 := ⟨z64⟩
def encE (x : S64) : List Value := [Value.string x.f0, Value.int .i64 x.f1]
/-- A world with more blocks and draws. -/
def Grew (W w : World) : Prop := ∃ q os', w = grow (W.drewN q) os'
theorem Grew.refl (W : World) : Grew W W := ⟨0, #[], by simp [grow, World.drewN]⟩
theorem Grew.alloc {W w : World} (h : Grew W w) (o : Obj) : Grew W (w.alloc o) := by obtain ⟨q, os', rfl⟩ := h; exact ⟨q, _, by rw [alloc_eq_grow, grow_grow]⟩
theorem Grew.drewN {W w : World} (h : Grew W w) (n : Nat) : Grew W (w.drewN n) := by obtain ⟨q, os', rfl⟩ := h; exact ⟨q + n, os', by simp [grow, World.drewN, Nat.add_assoc]⟩
theorem Grew.drew {W w : World} (h : Grew W w) : Grew W w.drew := h.drewN 1
theorem flat_at (d : Array S64) (j : Nat) (h : j < d.size * 2) : (flatK encE 2 d)[j]! = (lcells d.toList)[j]'(by rw [lcells_length]; simpa using h) := by
  rw [get_flatK encE 2 d j h]
  have hi : j / 2 < d.toList.length := by simp; omega
  have h1 := lcells_at d.toList (j / 2) (j % 2) hi (by omega)
  rw [show j / 2 * 2 + j % 2 = j by omega] at h1
  have h2 : (lcells d.toList)[j]? = some ((lcells d.toList)[j]'(by rw [lcells_length]; simpa using h)) := List.getElem?_eq_getElem _
  rw [h2] at h1
  have h3 : d[j / 2]! = d.toList[j / 2] := by rw [getElem!_pos d (j / 2) (by simpa using hi)]; simp
  rw [h3]
  show ([Value.string d.toList[j / 2].f0, Value.int .i64 d.toList[j / 2].f1] : List Value)[j % 2]! = _
  rw [List.getElem!_eq_getElem?_getD, ← h1]
  rfl

/-- The sort, of a row. -/
theorem Sort_gen (f : Nat) (eg : ∀ args w, (callFunc f args).run Tryz.prog w = .ok (.enter f args) w) (cf : S64 → S64 → Int) (hswo : SWO (ltOf cf)) (hcf : ∀ x y W, Calls Tryz.prog f #[.agg #[Value.string x.f0, Value.int .i64 x.f1], .agg #[Value.string y.f0, Value.int .i64 y.f1]] W fun e w' => e = .returned (.int .i64 (cf x y)) ∧ Grew W w')
    (base : Nat) (v : Value) (xs : L64) (w : World) (hl : xs.length ≤ 1000000) (hown : w.ownsRow base 64 2 v xs.length (lcells xs)) :
    Calls Tryz.prog 145 #[v, .func (.func f) #[] #[]] w fun e w' => ∃ ys : L64, e = .returned (.tuple #[]) ∧ ys.Perm xs ∧ ys.Pairwise (fun x y => ltOf cf y x = false) ∧ Below base w w' ∧ w'.ownsRow base 64 2 v ys.length (lcells ys) := by
  rcases hown.2 with ⟨rfl, h0⟩ | ⟨g, cap, cur, rfl, hbg, hg, hle, hcm, hsz, htk⟩
  · have hx : xs = [] := List.eq_nil_of_length_eq_zero h0
    subst hx
    have h := AnyF.slices_SortFunc_none sortS none 0 (.func (.func f) #[] #[]) w
    refine Calls.mono (show Calls Tryz.prog 145 #[.slice none 0 0, .func (.func f) #[] #[]] w _ from h) ?_
    rintro e w' ⟨rfl, rfl⟩
    exact ⟨[], rfl, List.Perm.refl _, List.Pairwise.nil, Below.refl _ _, World.ownsRow_nil _ _ _ _⟩
  · have hH : HoldsK encE 2 w g 0 xs.toArray := by
      intro j hj
      rw [size_flatK] at hj
      rw [flat_at _ j hj, Nat.zero_add]
      have hj2 : j < xs.length * 2 := by simpa using hj
      constructor
      · refine cell_of_heap hg _ _ ?_
        have : (cur.toList.take (xs.length * 2))[j]? = (lcells xs)[j]? := by rw [htk]
        rw [List.getElem?_take, if_pos hj2] at this
        have h2 : (lcells xs)[j]? = some ((lcells xs)[j]'(by rw [lcells_length]; exact hj2)) := List.getElem?_eq_getElem _
        simpa using this.trans h2
      · simp [World.frozen?, hg]
    have h := AnyQ.slices_SortFunc sortS 2 Tryz.isAgg64 Tryz.sizeOf64 encE (fun _ => rfl) (fun x v hv => by simp [encE] at hv; rcases hv with rfl | rfl <;> rfl) cf hswo f #[] g 0 cap xs.toArray w eg (fun _ _ _ _ x y => hcf x y _) hH (heap_lt hg) (by simp; omega)
    refine Calls.mono (show Calls Tryz.prog 145 #[.slice (some ⟨g, 0, none⟩) xs.length cap, .func (.func f) #[] #[]] w (fun e w' => e = .returned (.tuple #[]) ∧ ∃ d' n os, PermIn 0 xs.toArray.size xs.toArray d' ∧ SortedIn (ltOf cf) 0 xs.toArray.size d' ∧ w' = sortWorldK encE 2 w g 0 n d' os) from h) ?_
    rintro e w' ⟨rfl, d', n, os, hp, hs, rfl⟩
    obtain ⟨hp1, _, hp3⟩ := hp
    have hsz' : d'.size = xs.length := by simpa using hp1
    have hperm : d'.toList.Perm xs := by
      have e1 : (d'.extract 0 xs.toArray.size).toList = d'.toList := by simp [← hsz']
      have e2 : (xs.toArray.extract 0 xs.toArray.size).toList = xs := by simp
      rw [e1, e2] at hp3
      exact hp3
    refine ⟨d'.toList, rfl, hperm, ?_, ?_, ?_⟩
    · rw [List.pairwise_iff_getElem]
      intro i j hi hj hij
      have := hs i j (Nat.zero_le _) hij (by simpa [hsz'] using hj)
      rw [getElem!_pos d' j (by simpa using hj), getElem!_pos d' i (by simpa using hi)] at this
      simpa using this
    · refine ⟨rfl, rfl, rfl, ?_, fun k hk => ?_⟩
      · show w.heap.size ≤ ((w.heap.modify g _) ++ os).size
        rw [Array.size_append, Array.size_modify]; omega
      · show ((w.heap.modify g _) ++ os)[k]? = _
        have hgl := heap_lt hg
        rw [Array.getElem?_append_left (by rw [Array.size_modify]; omega), Array.getElem?_modify, if_neg (by omega)]
    · refine ⟨lcells_length _, .inr ⟨g, cap, putCells id 0 (flatK encE 2 d') cur, by simp [hsz'], hbg, ?_, by simp [hsz']; exact hle, hcm, by simpa [putCells] using hsz, ?_⟩⟩
      · show ((w.heap.modify g _) ++ os)[g]? = _
        have hgl := heap_lt hg
        rw [Array.getElem?_append_left (by rw [Array.size_modify]; omega), Array.getElem?_modify, if_pos rfl, hg]
        rfl
      · apply List.ext_getElem?
        intro j
        rw [List.getElem?_take]
        have hdl : d'.toList.length = xs.length := by simpa using hsz'
        by_cases hj : j < d'.toList.length * 2
        · rw [if_pos hj]
          have hjd : j < d'.size * 2 := by simpa using hj
          have hjc : j < cur.size := by rw [hsz]; have := hle; omega
          have e1 : (putCells id 0 (flatK encE 2 d') cur).toList[j]? = some ((flatK encE 2 d')[j]!) := by
            simp only [putCells, Array.getElem?_toList, Array.getElem?_mapIdx, size_flatK]
            rw [Array.getElem?_eq_getElem hjc]
            simp only [Option.map_some, Nat.zero_le, Nat.zero_add, true_and, Nat.sub_zero, id]
            rw [if_pos hjd]
          rw [e1, flat_at d' j hjd, List.getElem?_eq_getElem]
        · rw [if_neg hj, List.getElem?_eq_none (by rw [lcells_length]; omega)]
end Go.Proofs.YtakobehkajphpaaGreat.K
