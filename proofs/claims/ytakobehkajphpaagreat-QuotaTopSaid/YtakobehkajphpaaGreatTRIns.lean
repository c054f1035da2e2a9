/- slices.Insert of one list into a row of lists of the call's own. -/
import Derived.Test.YtakobehkajphpaaGreatTLCopy
import Derived.Lib.Overlaps
import Derived.Lib.AppendZerosOnto
import Derived.Shelf.RegionOpenPlain
namespace Go.Proofs.YtakobehkajphpaaGreat.H.RS
open Go Go.RowKit Go.Proofs.YtakobehkajphpaaGreat.H Go.Proofs.YtakobehkajphpaaGreatW.PrintWords Go.Proofs.YtakobehkajphpaaGreatW.PrintLast Go.Proofs.YtakobehkajphpaaGreatW.PrintMore Go.Proofs.YtakobehkajphpaaGreat.PAll
set_option linter.unusedVariables false
set_option linter.unusedSimpArgs false

/-- A slice, told by what its header holds. -/
abbrev SL := Option Addr × Nat × Nat
abbrev svl (x : SL) : Value := .slice x.1 x.2.1 x.2.2
def lcells (l : List SL) : List Value := l.map svl
theorem lcells_length (l : List SL) : (lcells l).length = l.length := by simp [lcells]
theorem lcells_take (l : List SL) (i : Nat) : (lcells l).take i = lcells (l.take i) := by simp [lcells]
theorem lcells_drop (l : List SL) (i : Nat) : (lcells l).drop i = lcells (l.drop i) := by simp [lcells]
theorem infoL : (Tryz.prog.info? 25).map (fun i => (i.zero, i.size, i.bytes)) = some (some (.slice none 0 0), 1, 24) := by kernel_rfl
/-- x laid in ahead of place i. -/
def insL (xs : List SL) (i : Nat) (x : SL) : List SL := xs.take i ++ x :: xs.drop i
theorem insL_length (xs : List SL) (i : Nat) (x : SL) : (insL xs i x).length = xs.length + 1 := by simp [insL]; omega

/-- Two copies lay x into the row. -/
theorem shift_cells (cur : List Value) (xs : List SL) (x : SL) (i c : Nat) (hi : i < xs.length) (hroom : xs.length + 1 ≤ c) (hcl : cur.length = c) (hcur : cur.take (xs.length) = lcells xs) :
    (splice (splice cur (i + 1) (lcells (xs.drop i))) (i) [svl x]).length = c ∧ (splice (splice cur (i + 1) (lcells (xs.drop i))) (i) [svl x]).take (xs.length + 1) = lcells (insL xs i x) := by
  have hd : (lcells (xs.drop i)).length = xs.length - i := by rw [lcells_length, List.length_drop]
  have h1 : (splice cur (i + 1) (lcells (xs.drop i))).length = c := by rw [length_splice _ _ _ (by rw [hd]; omega), hcl]
  refine ⟨by rw [length_splice _ _ _ (by rw [h1]; simp; omega), h1], ?_⟩
  have ht : cur.take (i) = lcells (xs.take i) := by
    rw [← lcells_take, ← hcur, List.take_take, Nat.min_eq_left (by omega)]
  have ha : (splice cur (i + 1) (lcells (xs.drop i))).take (i) = lcells (xs.take i) := by
    unfold splice
    rw [List.take_append_of_le_length (by rw [List.length_take]; omega), List.take_take, Nat.min_eq_left (by omega), ht]
  have hb : (splice cur (i + 1) (lcells (xs.drop i))).drop (i + 1) = lcells (xs.drop i) ++ cur.drop ((i + 1) + (lcells (xs.drop i)).length) := by
    unfold splice
    rw [List.drop_append_of_le_length (by rw [List.length_take]; omega), List.drop_take, show (i + 1) - (i + 1) = 0 by omega]
    simp
  have he : splice (splice cur (i + 1) (lcells (xs.drop i))) (i) [svl x] = lcells (insL xs i x) ++ cur.drop ((i + 1) + (lcells (xs.drop i)).length) := by
    show List.take (i) _ ++ ([svl x] ++ List.drop (i + 1) _) = _
    rw [ha, hb]
    simp [insL, lcells]
  rw [he, List.take_left' (by rw [lcells_length, insL_length])]

set_option maxRecDepth 100000 in
set_option maxHeartbeats 4000000 in
theorem Insert_shift (g vb c i : Nat) (xs : List SL) (x : SL) (cur : List Value) (w : World) (hi : i < xs.length) (hroom : xs.length + 1 ≤ c) (hc63 : c ≤ 9223372036854775807) (hvb : vb ≠ g)
    (hg : w.heap[g]? = some (.cells cur.toArray 25 (0, 0))) (hcl : cur.length = c) (hcur : cur.take (xs.length) = lcells xs)
    (hv : w.heap[vb]? = some (.cells #[svl x] 25 (0, 0))) :
    Calls Tryz.prog 55 #[.slice (some ⟨g, 0, none⟩) xs.length c, .int .i64 i, .slice (some ⟨vb, 0, none⟩) 1 1] w fun e w' =>
      e = .returned (.slice (some ⟨g, 0, none⟩) (xs.length + 1) c) ∧ Below g w w' ∧ ∃ cur' : List Value, w'.heap[g]? = some (.cells cur'.toArray 25 (0, 0)) ∧ cur'.length = c ∧ cur'.take (xs.length + 1) = lcells (insL xs i x) := by
  obtain ⟨i0, hi0, hz0, hz1, hz2⟩ := info_parts infoL
  have hz : ∀ w, (Go.sizeOf 25).run Tryz.prog w =   .ok 1 w := fun w => by simp [sizeOf, typeInfo, hi0, hz1]
  have hov : ∀ a lb cb, (callFunc 90 #[.slice (some ⟨vb, 0, none⟩) 1 1, .slice (some ⟨g, a, none⟩) lb cb]).run Tryz.prog w = .ok (.value (.bool false)) w := fun a lb cb => by
    rw [run_callFunc_extern Tryz.func90 (by kernel_rfl) (by kernel_rfl) (by kernel_rfl) (e := Extern.SlicesOverlaps.overlaps #[22, 22] #[4]) (by kernel_rfl),
      Lib.run_overlaps_apart w 22 4 25 Tryz.underlying22 1 hz ⟨vb, 0, none⟩ ⟨g, a, none⟩ 1 1 lb cb hvb 25 25 1 cur.length (by simp [World.shape?, hv]) (by simp [World.shape?, hg]) (by omega) (by simp [World.frozen?, hv]) (by simp [World.frozen?, hv])]
    rfl
  have d0 : ((i : Int) == (xs.length : Int)) = false := by simp; omega
  have q1 : ((c : Int) < (xs.length : Int) + 1) = False := eq_false (by omega)
  have q2 : (i ≤ xs.length) = True := eq_true (by omega)
  have hu := Tryz.underlying25
  have hsz : (Tryz.prog.info? 25).map (·.size) = some 1 := by rw [hi0]; simp [hz1]
  have hw1 : IntKind.i64.wrap ((i : Int) + 1) = (i : Int) + 1 := by rw [IntKind.wrap_i64]; omega
  have hb1 : (0 : Int) ≤ (i : Int) + 1 := by omega
  have htn : ((i : Int) + 1).toNat = i + 1 := by omega
  have hb2 : ¬ (c = i + 1) := by omega
  have hb3 : (i : Int) ≤ (xs.length : Int) + 1 := by omega
  have hb3' : (i : Int) ≤ (xs.length : Int) := by omega
  have hb4 : ¬ (c = i) := by omega
  have hd : (lcells (xs.drop i)).length = xs.length - i := by rw [lcells_length, List.length_drop]
  have hone : ∀ l : List SL, ∀ v ∈ lcells l, v.oneCell' = true := fun l v hv => by
    simp only [lcells, List.mem_map] at hv
    obtain ⟨y, _, rfl⟩ := hv
    rfl
  have hcp1 : ∀ ty dc sc, (Builtin.copy_ #[22, 22] ty #[.slice (some ⟨g, (i + 1), none⟩) (xs.length - i) dc, .slice (some ⟨g, i, none⟩) (xs.length + 1 - i) sc]).run Tryz.prog w.drew = .ok (goInt (Nat.min (xs.length + 1 - i) (xs.length - i))) (w.drew.setRow g (splice cur (i + 1) (lcells (xs.drop i))).toArray) := fun ty dc sc =>
    run_copy_row_sz w.drew _ _ ty 25 1 g (i + 1) (xs.length - i) dc ⟨g, i, none⟩ (xs.length + 1 - i) sc cur 25 (lcells (xs.drop i)) Tryz.underlying22 hsz hg (by rw [hd]; simp only [Nat.min_def]; split <;> omega)
      (fun j v hj => by
        rw [Addr.add_lit]
        refine cell_of_heap (W := w.drew) hg _ _ ?_
        have hj' : (lcells xs)[i + j]? = some v := by rw [← lcells_drop, List.getElem?_drop] at hj; exact hj
        rw [← hcur, List.getElem?_take] at hj'
        split at hj'
        · simpa using hj'
        · cases hj')
      (by rw [hd]; omega) (hone _)
  obtain ⟨W1, hW1⟩ : ∃ W1, W1 = w.drew.setRow g (splice cur (i + 1) (lcells (xs.drop i))).toArray := ⟨_, rfl⟩
  rw [← hW1] at hcp1
  have hg1 : W1.heap[g]? = some (.cells (splice cur (i + 1) (lcells (xs.drop i))).toArray 25 (0, 0)) := by rw [hW1]; exact setRow_heap w.drew g _ _ 25 _ hg
  have hv1 : W1.heap[vb]? = some (.cells #[svl x] 25 (0, 0)) := by rw [hW1, setRow_other _ _ _ _ hvb]; exact hv
  have hB1 : Below g w W1 := by rw [hW1]; exact below_setRow (show Below g w w.drew by apply below_drew; exact Below.refl _ _) (Nat.le_refl _) _
  have hc2 := shift_cells cur xs x i c hi hroom hcl hcur
  have hl1 : (splice cur (i + 1) (lcells (xs.drop i))).length = c := by rw [length_splice _ _ _ (by rw [hd]; omega), hcl]
  generalize splice cur (i + 1) (lcells (xs.drop i)) = cur1 at *
  have hcp2 : ∀ ty dc, (Builtin.copy_ #[22, 22] ty #[.slice (some ⟨g, i, none⟩) (xs.length + 1 - i) dc, .slice (some ⟨vb, 0, none⟩) 1 1]).run Tryz.prog W1 = .ok (goInt (Nat.min 1 (xs.length + 1 - i))) (W1.setRow g (splice cur1 (i) [svl x]).toArray) := fun ty dc =>
    run_copy_row_sz W1 _ _ ty 25 1 g (i) (xs.length + 1 - i) dc ⟨vb, 0, none⟩ 1 1 cur1 25 [svl x] Tryz.underlying22 hsz hg1 (by simp only [Nat.min_def, List.length_cons, List.length_nil]; split <;> omega)
      (fun j v hj => by rw [add_plain]; exact cell_of_heap hv1 _ _ (by simpa using hj))
      (by rw [hl1]; simp; omega) (fun v hv => by simp at hv; subst hv; rfl)
  have HF := Aside0.mk (show Below g w (W1.setRow g (splice cur1 (i) [svl x]).toArray) from below_setRow hB1 (Nat.le_refl _) _)
  have HG2 := Aside0.mk (setRow_heap W1 g _ (splice cur1 (i) [svl x]).toArray 25 _ hg1)
  have HC2 := Aside0.mk hc2
  clear hc2 hcur hd hone hW1 hB1 hv1 hg1
  have mixed : Tryz.prog.follows .mixedOrders = true := by kernel_rfl
  go_enter Tryz.func55, Tryz.ntmps55
  go_wp2_with (simp only [hov])
  go_region_law_o (refine step_copy_run' rfl _ _ 22 22 rfl _ _ (by simp [Act.eval, Act.put]) (by simp [Act.eval, Act.put]) (hcp1 _ _ _) ?_)
  go_wp2_with (at_builtin; refine wpList_copy_run' _ rfl _ _ 22 22 rfl _ _ rfl rfl (hcp2 _ _) ?_)
  go_ret
  exact ⟨rfl, HF.out, _, HG2.out, HC2.out⟩

set_option maxRecDepth 100000 in
set_option maxHeartbeats 4000000 in
theorem Insert_end (vb base : Nat) (v : Value) (xs : List SL) (x : SL) (w : World) (hl : xs.length ≤ 4398046511103) (hbase : base ≤ w.heap.size)
    (hown : w.ownsRow base 25 1 v xs.length (lcells xs)) (hv : w.heap[vb]? = some (.cells #[svl x] 25 (0, 0))) :
    Calls Tryz.prog 55 #[v, .int .i64 xs.length, .slice (some ⟨vb, 0, none⟩) 1 1] w fun e w' =>
      ∃ v', e = .returned v' ∧ Below base w w' ∧ w'.ownsRow base 25 1 v' (xs.length + 1) (lcells (insL xs xs.length x)) := by
  obtain ⟨i0, hi0, hz0, hz1, hz2⟩ := info_parts infoL
  have hx : lcells (insL xs xs.length x) = lcells xs ++ [svl x] := by simp [insL, lcells]
  have HO := Aside0.mk hown
  have hcases : v = .slice none 0 0 ∧ xs.length = 0 ∨ ∃ g cap, v = .slice (some ⟨g, 0, none⟩) xs.length cap ∧ xs.length ≤ cap := by
    rcases hown.2 with h | ⟨g, cap, cur, h1, _, _, h2, _⟩
    · exact .inl h
    · exact .inr ⟨g, cap, h1, h2⟩
  clear hown
  rcases hcases with ⟨rfl, h0⟩ | ⟨g, cap, rfl, hcap⟩
  · rw [hx]
    rw [h0] at HO ⊢
    go_enter Tryz.func55, Tryz.ntmps55
    go_wp2_with (at_builtin; refine wpList_append_own _ rfl _ _ 22 rfl base 25 i0 (.slice none 0 0) 1 24 Tryz.underlying22 hi0 hz0 hz1 hz2 rfl (by decide) _ 0 (lcells xs) rfl HO.out ⟨vb, 0, none⟩ 1 1 [svl x] rfl rfl (fun j u hu => by rw [add_plain]; exact cell_of_heap hv j u (by simpa using hu)) (by simp [Value.oneCell']) (by unfold maxLen; omega) (by omega) hbase ?_; intro v' wb hown' hgrow _)
    go_ret
    exact ⟨_, rfl, (Below.refl base w).grown hgrow hbase (own_base HO.out), hown'⟩
  · rw [hx]
    go_enter Tryz.func55, Tryz.ntmps55
    go_wp2_with (at_builtin; refine wpList_append_own _ rfl _ _ 22 rfl base 25 i0 (.slice none 0 0) 1 24 Tryz.underlying22 hi0 hz0 hz1 hz2 rfl (by decide) _ xs.length (lcells xs) rfl HO.out ⟨vb, 0, none⟩ 1 1 [svl x] rfl rfl (fun j u hu => by rw [add_plain]; exact cell_of_heap hv j u (by simpa using hu)) (by simp [Value.oneCell']) (by unfold maxLen; omega) (by omega) hbase ?_; intro v' wb hown' hgrow _)
    all_goals
      go_ret
      exact ⟨_, rfl, (Below.refl base w).grown hgrow hbase (own_base HO.out), hown'⟩

set_option maxRecDepth 100000 in
set_option maxHeartbeats 4000000 in
theorem Insert_grow (g vb c i : Nat) (xs : List SL) (x : SL) (cur : List Value) (w : World) (hi : i < xs.length) (hle : xs.length ≤ c) (hroom : c < xs.length + 1) (hl : xs.length ≤ 4398046511) (hvb : vb ≠ g)
    (hg : w.heap[g]? = some (.cells cur.toArray 25 (0, 0))) (hcl : cur.length = c) (hcur : cur.take (xs.length) = lcells xs)
    (hv : w.heap[vb]? = some (.cells #[svl x] 25 (0, 0))) :
    Calls Tryz.prog 55 #[.slice (some ⟨g, 0, none⟩) xs.length c, .int .i64 i, .slice (some ⟨vb, 0, none⟩) 1 1] w fun e w' =>
      ∃ G, e = .returned (.slice (some ⟨w.heap.size, 0, none⟩) (xs.length + 1) G) ∧ Below w.heap.size w w' ∧ xs.length + 1 ≤ G ∧ G ≤ maxLen ∧ ∃ cur' : List Value, w'.heap[w.heap.size]? = some (.cells cur'.toArray 25 (0, 0)) ∧ cur'.length = G ∧ cur'.take (xs.length + 1) = lcells (insL xs i x) := by
  obtain ⟨i0, hi0, hz0, hz1, hz2⟩ := info_parts infoL
  have hn1 : xs.length + 1 ≤ 9223372036854775807 := by omega
  have hsz : (Tryz.prog.info? 25).map (·.size) = some 1 := by rw [hi0]; simp [hz1]
  have hgw : g < w.heap.size := heap_lt hg
  have hvw : vb < w.heap.size := heap_lt hv
  have hd : (lcells (xs.drop i)).length = xs.length - i := by rw [lcells_length, List.length_drop]
  have ht : (lcells (xs.take i)).length = i := by rw [lcells_length, List.length_take, Nat.min_eq_left (by omega)]
  have hcell : ∀ j u, (lcells xs)[j]? = some u → cur[j]? = some u := fun j u hj => by
    rw [← hcur, List.getElem?_take] at hj
    split at hj
    · exact hj
    · cases hj
  have hold : (Builtin.firstCells i0.size i (.slice (some ⟨g, 0, none⟩) i c)).run Tryz.prog w.drew = .ok (lcells (xs.take i)).toArray w.drew := by
    rw [hz1]
    exact run_firstCells_some w.drew 1 i ⟨g, 0, none⟩ i c (lcells (xs.take i)) (by rw [ht]; simp) (fun j u hj => by
      rw [add_plain]
      refine cell_of_heap (W := w.drew) hg _ _ ?_
      rw [← lcells_take, List.getElem?_take] at hj
      split at hj
      · simpa using hcell j u hj
      · cases hj)
  have hkk : (xs.length : Int) + 1 - (i : Int) = ((xs.length + 1 - i : Nat) : Int) := by omega
  have hik : i + (xs.length + 1 - i) = xs.length + 1 := by omega
  have hrz : ∀ ty, (Builtin.append_ #[22, 3] ty #[.slice (some ⟨g, 0, none⟩) i c, .int .i64 ((xs.length : Int) + 1 - (i : Int))]).run Tryz.prog w =
      .ok (.slice (some ⟨w.heap.size, 0, none⟩) (xs.length + 1) (grownCap w (xs.length + 1) c 25)) (w.drew.alloc (.cells ((lcells (xs.take i)).toArray ++ Builtin.zeroCells (Value.slice none 0 0).cells (xs.length + 1 - i) ++ Builtin.zeroCells (Value.slice none 0 0).cells (grownCap w (xs.length + 1) c 25 - (xs.length + 1))) 25)) := fun ty => by
    have h := Lib.run_append_grow_zeros w 22 3 ty 25 i0 _ .i64 .i64 Tryz.underlying22 Tryz.underlying3 hi0 hz0 (some ⟨g, 0, none⟩) i c (lcells (xs.take i)) hold (xs.length + 1 - i) (by omega) (by rw [hz1]; omega) (by omega) (by omega) (by rw [hz2]; omega) (by rw [hz2, hik]; exact growslice_fits hroom (by omega))
    rw [hik] at h
    rw [hkk]
    exact h
  have hGn : xs.length + 1 ≤ grownCap w (xs.length + 1) c 25 := grownCap_ge w _ _ _
  have hGm : grownCap w (xs.length + 1) c 25 ≤ maxLen := grownCap_le_maxLen w (xs.length + 1) c 25 (by unfold maxLen; omega)
  generalize grownCap w (xs.length + 1) c 25 = G at *
  obtain ⟨ROW, hROW⟩ : ∃ ROW : List Value, ROW.toArray = (lcells (xs.take i)).toArray ++ Builtin.zeroCells (Value.slice none 0 0).cells (xs.length + 1 - i) ++ Builtin.zeroCells (Value.slice none 0 0).cells (G - (xs.length + 1)) := ⟨_, Array.toArray_toList⟩
  have hRl : ROW.length = G := by
    have h := congrArg Array.size hROW
    simp [Builtin.zeroCells, Value.cells, ht] at h
    omega
  have hRt : ROW.take (i) = lcells (xs.take i) := by
    have h := congrArg Array.toList hROW
    simp only [Array.toList_append, List.append_assoc] at h
    rw [show ROW = ROW.toArray.toList from rfl, h, List.take_left' ht]
  rw [← hROW] at hrz
  clear hROW hold hkk hik
  have hone : ∀ l : List SL, ∀ v ∈ lcells l, v.oneCell' = true := fun l v hv => by
    simp only [lcells, List.mem_map] at hv
    obtain ⟨y, _, rfl⟩ := hv
    rfl
  obtain ⟨W1, hW1⟩ : ∃ W1, W1 = w.drew.alloc (.cells ROW.toArray 25) := ⟨_, rfl⟩
  have hN1 : W1.heap[w.heap.size]? = some (.cells ROW.toArray 25 (0, 0)) := by rw [hW1]; exact heap_alloc_new w.drew _
  have hv1 : W1.heap[vb]? = some (.cells #[svl x] 25 (0, 0)) := by rw [hW1]; exact heap_alloc_keep (W := w.drew) hv
  have hg1 : W1.heap[g]? = some (.cells cur.toArray 25 (0, 0)) := by rw [hW1]; exact heap_alloc_keep (W := w.drew) hg
  have hl1 : (splice ROW (i) [svl x]).length = G := by rw [length_splice _ _ _ (by rw [hRl]; simp; omega), hRl]
  have hcA : ∀ W : World, W.heap = W1.heap → ∀ ty dc, (Builtin.copy_ #[22, 22] ty #[.slice (some ⟨w.heap.size, i, none⟩) (xs.length + 1 - i) dc, .slice (some ⟨vb, 0, none⟩) 1 1]).run Tryz.prog W = .ok (goInt (Nat.min 1 (xs.length + 1 - i))) (W.setRow w.heap.size (splice ROW (i) [svl x]).toArray) := fun W hW ty dc =>
    run_copy_row_sz W _ _ ty 25 1 w.heap.size (i) (xs.length + 1 - i) dc ⟨vb, 0, none⟩ 1 1 ROW 25 [svl x] Tryz.underlying22 hsz (by rw [hW]; exact hN1) (by simp only [Nat.min_def, List.length_cons, List.length_nil]; split <;> omega)
      (fun j u hj => by rw [add_plain]; exact cell_of_heap (by rw [hW]; exact hv1) _ _ (by simpa using hj))
      (by rw [hRl]; simp; omega) (fun v hv => by simp at hv; subst hv; rfl)
  have hN2 : ∀ W : World, W.heap = W1.heap → (W.setRow w.heap.size (splice ROW (i) [svl x]).toArray).heap[w.heap.size]? = some (.cells (splice ROW (i) [svl x]).toArray 25 (0, 0)) := fun W hW => setRow_heap W _ _ _ 25 _ (by rw [hW]; exact hN1)
  have hg2 : ∀ W : World, W.heap = W1.heap → (W.setRow w.heap.size (splice ROW (i) [svl x]).toArray).heap[g]? = some (.cells cur.toArray 25 (0, 0)) := fun W hW => by rw [setRow_other _ _ _ _ (by omega), hW]; exact hg1
  have hfin : ((splice (splice ROW (i) [svl x]) (i + 1) (lcells (xs.drop i))).length = G) ∧ (splice (splice ROW (i) [svl x]) (i + 1) (lcells (xs.drop i))).take (xs.length + 1) = lcells (insL xs i x) := by
    refine ⟨by rw [length_splice _ _ _ (by rw [hl1, hd]; omega), hl1], ?_⟩
    have e1 : (splice ROW (i) [svl x]).take (i + 1) = lcells (xs.take i) ++ [svl x] := by
      unfold splice
      rw [hRt, ← List.append_assoc, List.take_left' (by rw [List.length_append, ht]; simp)]
    have e2 : splice (splice ROW (i) [svl x]) (i + 1) (lcells (xs.drop i)) = lcells (insL xs i x) ++ (splice ROW (i) [svl x]).drop ((i + 1) + (lcells (xs.drop i)).length) := by
      show List.take (i + 1) (splice ROW (i) [svl x]) ++ (lcells (xs.drop i) ++ List.drop ((i + 1) + (lcells (xs.drop i)).length) (splice ROW (i) [svl x])) = _
      rw [e1]
      simp [insL, lcells]
    rw [e2, List.take_left' (by rw [lcells_length, insL_length])]
  generalize splice ROW (i) [svl x] = cur1 at *
  have hcB : ∀ W : World, W.heap[w.heap.size]? = some (.cells cur1.toArray 25 (0, 0)) → W.heap[g]? = some (.cells cur.toArray 25 (0, 0)) → ∀ ty dc sc, (Builtin.copy_ #[22, 22] ty #[.slice (some ⟨w.heap.size, (i + 1), none⟩) (xs.length - i) dc, .slice (some ⟨g, i, none⟩) (xs.length - i) sc]).run Tryz.prog W = .ok (goInt (Nat.min (xs.length - i) (xs.length - i))) (W.setRow w.heap.size (splice cur1 (i + 1) (lcells (xs.drop i))).toArray) := fun W hW hWg ty dc sc =>
    run_copy_row_sz W _ _ ty 25 1 w.heap.size (i + 1) (xs.length - i) dc ⟨g, i, none⟩ (xs.length - i) sc cur1 25 (lcells (xs.drop i)) Tryz.underlying22 hsz hW (by rw [hd]; simp only [Nat.min_def]; split <;> omega)
      (fun j u hj => by
        rw [Addr.add_lit]
        refine cell_of_heap hWg _ _ ?_
        rw [← lcells_drop, List.getElem?_drop] at hj
        simpa using hcell _ u hj)
      (by rw [hd, hl1]; omega) (hone _)
  have hcA' := fun ty dc => hcA ((w.alloc (.cells ROW.toArray 25)).drew) (by rw [hW1]; rfl) ty dc
  obtain ⟨W2, hW2⟩ : ∃ W2, W2 = ((w.alloc (.cells ROW.toArray 25)).drew).setRow w.heap.size cur1.toArray := ⟨_, rfl⟩
  rw [← hW2] at hcA'
  have hcB' := fun ty dc sc => hcB W2.drew (by rw [hW2]; exact hN2 _ (by rw [hW1]; rfl)) (by rw [hW2]; exact hg2 _ (by rw [hW1]; rfl)) ty dc sc
  have HB2 := Aside0.mk (show Below w.heap.size w (W2.drew.setRow w.heap.size (splice cur1 (i + 1) (lcells (xs.drop i))).toArray) from below_setRow (by apply below_drew; rw [hW2]; exact below_setRow (by apply below_drew; exact below_alloc (Below.refl _ _) _) (Nat.le_refl _) _) (Nat.le_refl _) _)
  have HR2 := Aside0.mk (setRow_heap W2.drew w.heap.size _ (splice cur1 (i + 1) (lcells (xs.drop i))).toArray 25 _ (by rw [hW2]; exact hN2 _ (by rw [hW1]; rfl)))
  clear hcA hcB hW2
  have HFin := Aside0.mk hfin
  have HGN := Aside0.mk hGn
  have HGM := Aside0.mk hGm
  have hGi : ¬ (G = i) := by omega
  have hGi1 : ¬ (G = i + 1) := by omega
  have hci : ¬ (c = i) := by omega
  have hG63 : G ≤ 9223372036854775807 := by unfold maxLen at hGm; omega
  have d0 : ((i : Int) == (xs.length : Int)) = false := by simp; omega
  have q1 : ((c : Int) < (xs.length : Int) + 1) = True := eq_true (by omega)
  have hw1 : IntKind.i64.wrap ((i : Int) + 1) = (i : Int) + 1 := by rw [IntKind.wrap_i64]; omega
  have hb1 : (0 : Int) ≤ (i : Int) + 1 := by omega
  have htn : ((i : Int) + 1).toNat = i + 1 := by omega
  have hb3 : (i : Int) ≤ (xs.length : Int) + 1 := by omega
  have hb3' : (i : Int) ≤ (xs.length : Int) := by omega
  have hin : i ≤ xs.length := by omega
  have hu := Tryz.underlying25
  have mixed : Tryz.prog.follows .mixedOrders = true := by kernel_rfl
  clear hfin hN2 hg2 hGn hGm hW1 hN1 hv1 hg1 hRt hRl hone hcell hd ht hl1 hcur hcl
  go_enter Tryz.func55, Tryz.ntmps55
  go_wp2_with (at_builtin; refine Lib.wpList_append_run _ rfl _ _ _ _ rfl _ _ rfl rfl _ _ (hrz _) ?_)
  go_region_law_o (refine step_copy_run' rfl _ _ 22 22 rfl (.slice (some ⟨w.heap.size, (i + 1), none⟩) (xs.length - i) (G - (i + 1))) (.slice (some ⟨g, i, none⟩) (xs.length - i) (c - i)) (by simp [Act.eval, Act.put]) (by simp [Act.eval, Act.put]) (hcB' _ _ _) ?_)
  go_wp2
  go_ret
  exact ⟨G, rfl, HB2.out, HGN.out, HGM.out, _, HR2.out, HFin.out⟩

/-- Insert of one label at any place of a row of the call's own. -/
theorem Insert_calls (vb base i : Nat) (v : Value) (xs : List SL) (x : SL) (w : World) (hi : i ≤ xs.length) (hl : xs.length ≤ 4398046511) (hbase : base ≤ w.heap.size)
    (hown : w.ownsRow base 25 1 v xs.length (lcells xs)) (hv : w.heap[vb]? = some (.cells #[svl x] 25 (0, 0))) (hvb : v.ownBlock ≠ some vb) :
    Calls Tryz.prog 55 #[v, .int .i64 i, .slice (some ⟨vb, 0, none⟩) 1 1] w fun e w' =>
      ∃ v', e = .returned v' ∧ Below base w w' ∧ w'.ownsRow base 25 1 v' (insL xs i x).length (lcells (insL xs i x)) := by
  rw [insL_length]
  by_cases h : i = xs.length
  · subst h
    exact Insert_end vb base v xs x w (by omega) hbase hown hv
  · rcases hown.2 with ⟨rfl, h0⟩ | ⟨g, cap, cur, rfl, hbg, hg, hle, hcm, hsz, htk⟩
    · omega
    · have hne : vb ≠ g := fun e => hvb (by rw [e]; rfl)
      have hg' : w.heap[g]? = some (.cells cur.toList.toArray 25 (0, 0)) := by rw [Array.toArray_toList]; exact hg
      by_cases hr : xs.length + 1 ≤ cap
      · refine (Insert_shift g vb cap i xs x cur.toList w (by omega) hr (by unfold maxLen at hcm; omega) hne hg' (by simpa using hsz) (by simpa using htk) hv).mono ?_
        rintro e w' ⟨rfl, hb, cur', h1, h2, h3⟩
        refine ⟨_, rfl, hb.mono hbg, ⟨by rw [lcells_length, insL_length]; simp, .inr ⟨g, cap, cur'.toArray, rfl, hbg, h1, hr, hcm, by simpa using h2, by simpa using h3⟩⟩⟩
      · refine (Insert_grow g vb cap i xs x cur.toList w (by omega) hle (by omega) hl hne hg' (by simpa using hsz) (by simpa using htk) hv).mono ?_
        rintro e w' ⟨G, rfl, hb, hG, hGm, cur', h1, h2, h3⟩
        refine ⟨_, rfl, hb.mono hbase, ⟨by rw [lcells_length, insL_length]; simp, .inr ⟨w.heap.size, G, cur'.toArray, rfl, hbase, h1, hG, hGm, by simpa using h2, by simpa using h3⟩⟩⟩
end Go.Proofs.YtakobehkajphpaaGreat.H.RS
