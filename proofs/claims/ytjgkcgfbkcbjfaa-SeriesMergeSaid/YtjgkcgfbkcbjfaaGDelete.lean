/- slices.Delete of one element of a row of the call's own; clear and append in place. -/
import Derived.Test.YtjgkcgfbkcbjfaaGClone
namespace Go.Proofs.Ytjgkcgfbkcbjfaa.H
open Go Go.RowKit Go.Proofs.YtjgkcgfbkcbjfaaW.PrintWords Go.Proofs.YtjgkcgfbkcbjfaaW.PrintLast Go.Proofs.YtjgkcgfbkcbjfaaW.PrintMore Go.Proofs.Ytjgkcgfbkcbjfaa.PAll
set_option linter.unusedVariables false
set_option linter.unusedSimpArgs false

section
variable {P : Program}
theorem run_clear_row (w : World) (t e ty : TypeId) (z : Value) (ht : P.underlying t = some (.slice e)) (hv : ∀ w, (zeroValue e).run P w = .ok z w) (g o n c : Nat) (cur : List Value) (T : TypeId)
    (hg : w.heap[g]? = some (.cells cur.toArray T (0, 0))) (h1 : ∀ v ∈ (Builtin.zeroCells z.cells n).toList, v.oneCell' = true) (hn : 0 < n) (hfit : o + (Builtin.zeroCells z.cells n).toList.length ≤ cur.length) :
    (Builtin.clear_ #[t] ty #[.slice (some ⟨g, o, none⟩) n c]).run P w = .ok (.tuple #[]) (w.setRow g (splice cur o (Builtin.zeroCells z.cells n).toList).toArray) := by
  have hst := run_storeCells_at P g o T (Builtin.zeroCells z.cells n).toList 0 cur.toArray w hg (by simpa using hfit) h1
  simp only [Nat.add_zero, List.append_assoc] at hst
  obtain ⟨m, rfl⟩ : ∃ m, n = m + 1 := ⟨n - 1, by omega⟩
  simp [Builtin.clear_, run_underlying ht, hv, hst, splice]
theorem wpList_clear_run (w : World) {ops : Array Oper} {rest : List Oper} {o : Oper} {a : Act} {Q : Exit → Act → World → Prop} (hgd : o.guard = none) (s : Operand) (t : TypeId)
    (ho : o.op = .call { callee := .builtin .clear, args := #[s], argTypes := #[t] }) (v : Value) (hd : a.eval s = v) {v' : Value} {w' : World}
    (hr : (Builtin.clear_ #[t] o.type #[v]).run P w = .ok v' w') (h : wpList P ops Q rest (a.put o.dst v') w') : wpList P ops Q (o :: rest) a w := by
  refine wpList_plain hgd fun K hK => ?_
  unfold Oper.wp execOp
  simp only [ho, resolve, invoke, builtin, Sem.run_bind, Sem.run_pure, Result.andThen_ok, List.map_toArray, List.map_cons, List.map_nil, hd, hr]
  exact hK _ _ h
theorem step_append_run' {ops : Array Oper} {o : Oper} {a : Act} {w : World} {K : Act → World → Prop} {Q : Exit → Act → World → Prop} {E : Prop}
    (hg : o.guard = none) (d x : Operand) (dT sT : TypeId) (hop : o.op = Op.call { callee := Callee.builtin Builtin.append, args := #[d, x], argTypes := #[dT, sT] })
    (v u : Value) (hd : a.eval d = v) (hx : a.eval x = u) {v' : Value} {w' : World} (hr : (Builtin.append_ #[dT, sT] o.type #[v, u]).run P w = .ok v' w') (hK : K (a.put o.dst v') w') :
    if Region.wanted o (yielded ops a.tmps) = true then Oper.wp P o a w K Q else E := by
  have hw : Region.wanted o (yielded ops a.tmps) = true := by simp [Region.wanted, hg]
  rw [if_pos hw]
  unfold Oper.wp
  simp [execOp, hop, resolve, invoke, builtin, hd, hx, hr, Result.andThen]
  exact hK
end
theorem zeroE (w : World) : (zeroValue 29).run Try.prog w = .ok (.agg #[Value.int .i64 0, Value.int .i64 0]) w := by kernel_rfl
/-- n zero elements' cells. -/
def zsE (n : Nat) : List Value := (Builtin.zeroCells (Value.agg #[Value.int .i64 0, Value.int .i64 0]).cells n).toList
theorem zsE_length (n : Nat) : (zsE n).length = n * 2 := by simp [zsE, Builtin.zeroCells, Value.cells]
theorem zsE_one (n : Nat) : ∀ v ∈ zsE n, v.oneCell' = true := by
  intro v hv
  simp [zsE, Builtin.zeroCells] at hv
  obtain ⟨i, _, rfl⟩ := hv
  have h : i % 2 = 0 ∨ i % 2 = 1 := by omega
  rcases h with h | h <;> simp [Value.cells, h, Value.oneCell']

/-- The elements but the one at place i. -/
def delL (xs : L29) (i : Nat) : L29 := xs.take i ++ xs.drop (i + 1)
theorem delL_length (xs : L29) (i : Nat) (h : i < xs.length) : (delL xs i).length = xs.length - 1 := by simp [delL]; omega

set_option maxRecDepth 100000 in
set_option maxHeartbeats 4000000 in
theorem Delete_calls (base i : Nat) (v : Value) (xs : L29) (w : World) (hi : i < xs.length) (hl : xs.length ≤ 4398046511) (hown : w.ownsRow base 29 2 v xs.length (lcells xs)) :
    Calls Try.prog 42 #[v, .int .i64 i, .int .i64 ((i : Int) + 1)] w fun e w' => ∃ v', e = .returned v' ∧ Below base w w' ∧ w'.ownsRow base 29 2 v' (delL xs i).length (lcells (delL xs i)) := by
  obtain ⟨i0, hi0, hz0, hz1, hz2⟩ := info_parts infoL
  rcases hown.2 with ⟨rfl, h0⟩ | ⟨g, cap, cur, rfl, hbg, hg, hle, hcm, hsz, htk⟩
  · omega
  · have hg' : w.heap[g]? = some (.cells cur.toList.toArray 29 (0, 0)) := by rw [Array.toArray_toList]; exact hg
    have hd : (lcells (xs.drop (i + 1))).length = (xs.length - (i + 1)) * 2 := by rw [lcells_length, List.length_drop]
    have hc63 : cap ≤ 9223372036854775807 := by unfold maxLen at hcm; omega
    have hcl : cur.toList.length = cap * 2 := by simpa using hsz
    -- the append in place
    have hr1 : ∀ ty sa sc, (sa = (⟨g, (i + 1) * 2, none⟩ : Addr) ∨ xs.length = i + 1) → (Builtin.append_ #[22, 22] ty #[.slice (some ⟨g, 0, none⟩) i cap, .slice (some sa) (xs.length - (i + 1)) sc]).run Try.prog w.drew =
        .ok (.slice (some ⟨g, 0, none⟩) (i + (xs.length - (i + 1))) cap) (w.drew.setRow g (cur.toList.take (i * i0.size) ++ lcells (xs.drop (i + 1)) ++ cur.toList.drop (i * i0.size + (lcells (xs.drop (i + 1))).length)).toArray) := fun ty sa sc hsa =>
      run_append_room w.drew 22 ty 29 i0 Try.underlying22 hi0 g i cap cur hg sa (xs.length - (i + 1)) sc (lcells (xs.drop (i + 1))) (by rw [hd, hz1]) (fun j u hj => by
        rcases hsa with rfl | hn
        · rw [Addr.add_lit]
          refine cell_of_heap (W := w.drew) hg _ _ ?_
          rw [← lcells_drop, List.getElem?_drop, ← htk, List.getElem?_take] at hj
          split at hj
          · simpa using hj
          · cases hj
        · rw [List.drop_eq_nil_of_le (by omega)] at hj
          simp [lcells] at hj) (lcells_one _) (by omega) (by rw [hd, hz1]; omega)
    rw [hz1] at hr1
    have e1 : i + (xs.length - (i + 1)) = xs.length - 1 := by omega
    rw [e1] at hr1
    obtain ⟨cur1, hcur1⟩ : ∃ cur1 : List Value, cur1 = cur.toList.take (i * 2) ++ lcells (xs.drop (i + 1)) ++ cur.toList.drop (i * 2 + (lcells (xs.drop (i + 1))).length) := ⟨_, rfl⟩
    have hl1 : cur1.length = cap * 2 := by
      rw [hcur1]
      simp only [List.length_append, List.length_take, List.length_drop, hd, hcl]
      omega
    have ht1 : cur1.take ((xs.length - 1) * 2) = lcells (delL xs i) := by
      have ha : cur.toList.take (i * 2) = lcells (xs.take i) := by
        rw [← lcells_take, ← htk, List.take_take, Nat.min_eq_left (by omega)]
      rw [hcur1, ha, ← lcells_append]
      show List.take _ (lcells (delL xs i) ++ _) = _
      rw [List.take_left' (by rw [lcells_length, delL_length xs i hi])]
    rw [← hcur1] at hr1
    clear hcur1
    obtain ⟨W1, hW1⟩ : ∃ W1, W1 = w.drew.setRow g cur1.toArray := ⟨_, rfl⟩
    have hg1 : W1.heap[g]? = some (.cells cur1.toArray 29 (0, 0)) := by rw [hW1]; exact setRow_heap w.drew g _ _ 29 _ hg
    have hB1 : Below g w W1 := by rw [hW1]; exact below_setRow (show Below g w w.drew by apply below_drew; exact Below.refl _ _) (Nat.le_refl _) _
    rw [← hW1] at hr1
    clear hW1
    have hr2 : ∀ ty sc, (Builtin.clear_ #[22] ty #[.slice (some ⟨g, (xs.length - 1) * 2, none⟩) 1 sc]).run Try.prog W1 = .ok (.tuple #[]) (W1.setRow g (splice cur1 ((xs.length - 1) * 2) (zsE 1)).toArray) := fun ty sc =>
      run_clear_row W1 22 29 ty (.agg #[Value.int .i64 0, Value.int .i64 0]) Try.underlying22 zeroE g ((xs.length - 1) * 2) 1 sc cur1 29 hg1 (zsE_one 1) (by omega) (by have := zsE_length 1; unfold zsE at this; rw [this, hl1]; omega)
    have HF := Aside0.mk (show Below g w (W1.setRow g (splice cur1 ((xs.length - 1) * 2) (zsE 1)).toArray) from below_setRow hB1 (Nat.le_refl _) _)
    have HG2 := Aside0.mk (setRow_heap W1 g _ (splice cur1 ((xs.length - 1) * 2) (zsE 1)).toArray 29 _ hg1)
    have HL2 := Aside0.mk (show (splice cur1 ((xs.length - 1) * 2) (zsE 1)).length = cap * 2 by rw [length_splice _ _ _ (by rw [zsE_length, hl1]; omega), hl1])
    have HT2 := Aside0.mk (show (splice cur1 ((xs.length - 1) * 2) (zsE 1)).take ((xs.length - 1) * 2) = lcells (delL xs i) by
      unfold splice
      rw [List.take_append_of_le_length (by rw [List.length_take, hl1]; omega), List.take_take, Nat.min_self, ht1])
    have HDL := Aside0.mk (delL_length xs i hi)
    have HBG := Aside0.mk hbg
    have HCM := Aside0.mk hcm
    generalize splice cur1 ((xs.length - 1) * 2) (zsE 1) = cur2 at *
    clear hB1 hg1 hl1 ht1 hg' htk hd hcm hbg hown
    obtain ⟨n, hn⟩ : ∃ n : Nat, xs.length = n + 1 := ⟨xs.length - 1, by omega⟩
    rw [hn] at hr1 hr2 hle hi HT2 HDL ⊢
    simp only [Nat.add_sub_cancel] at hr1 hr2 HT2 HDL
    have d0 : ((i : Int) == (i : Int) + 1) = false := by rw [beq_eq_false_iff_ne]; omega
    have b1 : (0 : Int) ≤ (i : Int) + 1 := by omega
    have b2 : ((i : Int) + 1).toNat = i + 1 := by omega
    have b3 : (i : Int) + 1 ≤ (n : Int) + 1 := by omega
    have b4 : i ≤ i + 1 := by omega
    have b5 : i + 1 ≤ n + 1 := by omega
    have b6 : n + 1 ≤ cap := hle
    have b7 : i ≤ cap := by omega
    have b8 : (i : Int) ≤ (i : Int) + 1 := by omega
    have b9 : (n : Int) + 1 ≤ (cap : Int) := by omega
    have b10 : ¬ (cap = n) := by omega
    have mixed : Try.prog.follows .mixedOrders = true := by kernel_rfl
    clear hn hi hcl hsz hg hle
    by_cases hcap : cap = i + 1
    · have hni : n = i := by omega
      subst hni hcap
      simp only [Nat.sub_self] at hr1
      go_enter Try.func42, Try.ntmps42
      go_wp2_with fail
      go_region_law_o (refine step_append_run' rfl _ _ 22 22 rfl _ _ (by simp [Act.eval, Act.put]) (by simp [Act.eval, Act.put]) (hr1 _ ⟨g, 0, none⟩ 0 (.inr trivial)) ?_)
      go_wp2_with (at_builtin; refine wpList_clear_run _ rfl _ 22 rfl _ rfl (hr2 _ _) ?_)
      go_ret
      refine ⟨_, rfl, HF.out.mono HBG.out, ⟨lcells_length _, .inr ⟨g, n + 1, cur2.toArray, ?_, HBG.out, HG2.out, ?_, HCM.out, by simpa using HL2.out, ?_⟩⟩⟩
      · rw [HDL.out]; rfl
      · rw [HDL.out]; omega
      · rw [HDL.out]; simpa using HT2.out
    · have hcap2 : ¬ (cap = i + 1) := hcap
      simp only [Nat.add_sub_add_right] at hr1
      go_enter Try.func42, Try.ntmps42
      go_wp2_with fail
      go_region_law_o (refine step_append_run' rfl _ _ 22 22 rfl _ _ (by simp [Act.eval, Act.put]) (by simp [Act.eval, Act.put]) (hr1 _ ⟨g, (i + 1) * 2, none⟩ (cap - (i + 1)) (.inl rfl)) ?_)
      go_wp2_with (at_builtin; refine wpList_clear_run _ rfl _ 22 rfl _ rfl (hr2 _ _) ?_)
      go_ret
      refine ⟨_, rfl, HF.out.mono HBG.out, ⟨lcells_length _, .inr ⟨g, cap, cur2.toArray, ?_, HBG.out, HG2.out, ?_, HCM.out, by simpa using HL2.out, ?_⟩⟩⟩
      · rw [HDL.out]; rfl
      · rw [HDL.out]; omega
      · rw [HDL.out]; simpa using HT2.out
end Go.Proofs.Ytjgkcgfbkcbjfaa.H
