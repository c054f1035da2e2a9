/- slices.Clone. -/
import Derived.Test.YtakobehkajphpaaGreatTGRow
import Derived.OwnWalk
import Derived.WalkSpells
import Derived.Lib.LazyBuf
import Derived.Maps.AppendAt
namespace Go.Proofs.YtakobehkajphpaaGreat.K
open Go Go.RowKit Go.Proofs.YtakobehkajphpaaGreatW.PrintWords Go.Proofs.YtakobehkajphpaaGreatW.PrintLast Go.Proofs.YtakobehkajphpaaGreatW.PrintMore Go.Proofs.YtakobehkajphpaaGreat.PAll
set_option linter.unusedVariables false
set_option linter.unusedSimpArgs false

theorem rdT_get (l : L64) (j : Nat) (h : j < l.length) : rd_T64 l (j : Int) = l[j] := by simp [rd_T64, List.getD_eq_getElem?_getD, List.getElem?_eq_getElem h]
theorem wrap1 (j : Nat) (h : j ≤ 4611686018427387904) : wrap64 ((j : Int) + 1) = ((j + 1 : Nat) : Int) := by unfold wrap64; omega
theorem wrapm1 (j : Nat) (h0 : 0 < j) (h : j ≤ 4611686018427387904) : wrap64 ((j : Int) - 1) = ((j - 1 : Nat) : Int) := by unfold wrap64; omega
theorem lcells_take : ∀ (l : L64) (i : Nat), (lcells l).take (i * 2) = lcells (l.take i)
  | [], i => by simp [lcells]
  | x :: l, 0 => by simp [lcells]
  | x :: l, i + 1 => by
    have ih := lcells_take l i
    simp only [lcells, List.flatMap_cons, List.take_succ_cons] at *
    rw [show (i + 1) * 2 = i * 2 + 2 by omega]
    simp [ih]
theorem lcells_drop : ∀ (l : L64) (i : Nat), (lcells l).drop (i * 2) = lcells (l.drop i)
  | [], i => by simp [lcells]
  | x :: l, 0 => by simp [lcells]
  | x :: l, i + 1 => by
    have ih := lcells_drop l i
    simp only [lcells, List.flatMap_cons, List.drop_succ_cons] at *
    rw [show (i + 1) * 2 = i * 2 + 2 by omega]
    simp [ih]
theorem lcells_at (xs : L64) (i r : Nat) (hi : i < xs.length) (hr : r < 2) : (lcells xs)[i * 2 + r]? = [Value.string xs[i].f0, Value.int .i64 xs[i].f1][r]? := by
  rw [← List.getElem?_drop, lcells_drop, List.drop_eq_getElem_cons hi]
  show ([Value.string xs[i].f0, Value.int .i64 xs[i].f1] ++ lcells (xs.drop (i + 1)))[r]? = _
  rw [List.getElem?_append_left (by simpa using hr)]
theorem C_cells {w : World} {ad : Addr} {xs : L64} (h : Kd.C k64 w (some ad) xs.length xs) : ∀ j u, (lcells xs)[j]? = some u → w.cell? (ad.add j) = some u := by
  intro j u hj
  have hlt : j < xs.length * 2 := by
    have := (List.getElem?_eq_some_iff.1 hj).1
    rwa [lcells_length] at this
  have hi : j / 2 < xs.length := by omega
  have e : j = j / 2 * 2 + j % 2 := by omega
  rw [e, lcells_at xs _ _ hi (by omega)] at hj
  obtain ⟨ad', c, e1, _, hK, hc⟩ := Kd.C_get h z64 ((j / 2 : Nat) : Int) (by omega) (by omega)
  cases e1
  have hg : xs.getD (((j / 2 : Nat) : Int)).toNat z64 = xs[j / 2] := by rw [Int.toNat_natCast]; simp [List.getD_eq_getElem?_getD, List.getElem?_eq_getElem hi]
  rw [hg] at hK
  obtain rfl := k64_open hK
  have h3 := hc (j % 2) u hj
  rw [Int.toNat_natCast] at h3
  rw [e]
  exact h3
theorem lcells_one (l : L64) : ∀ v ∈ lcells l, v.oneCell' = true := fun v hv => by
  simp only [lcells, List.mem_flatMap] at hv
  obtain ⟨y, _, hv⟩ := hv
  simp at hv
  rcases hv with rfl | rfl <;> rfl

theorem own_empty (w : World) : (w.alloc (.cells #[] 64)).ownsRow w.heap.size 64 2 (.slice (some ⟨w.heap.size, 0, none⟩) 0 0) 0 [] :=
  ⟨by simp, .inr ⟨w.heap.size, 0, #[], rfl, Nat.le_refl _, heap_alloc_new w _, Nat.le_refl _, by unfold maxLen; omega, by simp, by simp⟩⟩

set_option maxRecDepth 100000 in
set_option maxHeartbeats 4000000 in
theorem Clone_calls (A : Option Addr) (c : Nat) (xs : L64) (w : World) (hr : Kd.C k64 w A xs.length xs) (hc : xs.length ≤ c) (hl : xs.length ≤ 4398046511103) :
    Calls Tryz.prog 60 #[.slice A xs.length c] w fun e w' => ∃ v, e = .returned v ∧ w'.ownsRow w.heap.size 64 2 v xs.length (lcells xs) ∧ Below w.heap.size w w' := by
  obtain ⟨i0, hi, hz0, hz1, hz2⟩ := info_parts infoL
  cases A with
  | none =>
    have h0 : xs.length = 0 := by
      rcases Nat.eq_zero_or_pos xs.length with h | h
      · exact h
      · obtain ⟨ad, e1, _⟩ := at_T64 hr 0 (by omega) (by omega)
        cases e1
    have e : xs = [] := List.eq_nil_of_length_eq_zero h0
    subst e
    have hnil : ∀ w, (binOp .eql 53 (.slice none 0 c) (.slice none 0 0)).run Tryz.prog w = .ok (.bool true) w := fun w => Lib.run_eql_slice_nil w 53 64 none 0 c 0 0 Tryz.underlying53
    simp only [List.length_nil]
    go_enter Tryz.func60, Tryz.ntmps60
    go_wp2
    go_ret
    exact ⟨_, rfl, World.ownsRow_nil _ _ _ _, Below.refl _ _⟩
  | some ad =>
    have hcs := Aside0.mk (C_cells hr)
    have hnil : ∀ w, (binOp .eql 53 (.slice (some ad) xs.length c) (.slice none 0 0)).run Tryz.prog w = .ok (.bool false) w := fun w => Lib.run_eql_slice_nil w 53 64 (some ad) xs.length c 0 0 Tryz.underlying53
    clear hr
    go_enter Tryz.func60, Tryz.ntmps60
    go_wp2_with (at_builtin; refine wpList_append_own _ rfl _ _ 53 rfl w.heap.size 64 i0 (.agg #[Value.string ⟨#[]⟩, Value.int .i64 0]) 2 24 Tryz.underlying53 hi hz0 hz1 hz2 rfl (by decide) _ 0 [] rfl (own_empty w) ad xs.length c (lcells xs) rfl (lcells_length xs) (fun j u hu => ((below_alloc (Below.refl _ w) _).cell (World.block_lt_of_cell? w _ (hcs.out j u hu))).trans (hcs.out j u hu)) (lcells_one xs) (by unfold maxLen; omega) (by omega) (by simp) ?_; intro v' w1 hown' hgrow _)
    go_ret
    refine ⟨_, rfl, ?_, (below_alloc (Below.refl _ w) _).grown hgrow (by simp) (fun k hk => by cases hk; exact Nat.le_refl _)⟩
    simpa using hown'
end Go.Proofs.YtakobehkajphpaaGreat.K
