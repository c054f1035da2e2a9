/- slices.Grow of nil, slices.Concat. -/
import Derived.Test.YtjgkcgfbkcbjfaaGClone
import Derived.Test.YtjgkcgfbkcbjfaaSGreat
import Derived.Lib.AppendZeros
namespace Go.Proofs.Ytjgkcgfbkcbjfaa.H
open Go Go.RowKit Go.Proofs.YtjgkcgfbkcbjfaaW.PrintWords Go.Proofs.YtjgkcgfbkcbjfaaW.PrintLast Go.Proofs.YtjgkcgfbkcbjfaaW.PrintMore Go.Proofs.Ytjgkcgfbkcbjfaa.PAll
set_option linter.unusedVariables false
set_option linter.unusedSimpArgs false

set_option maxRecDepth 100000 in
set_option maxHeartbeats 4000000 in
theorem Grow_nil (n : Nat) (hn : n ≤ 4398046511) (w : World) : Calls Try.prog 38 #[.slice none 0 0, .int .i64 n] w fun e w' => ∃ v, e = .returned v ∧ w'.ownsRow w.heap.size 29 2 v 0 [] ∧ Below w.heap.size w w' := by
  obtain ⟨i0, hi0, hz0, hz1, hz2⟩ := info_parts infoL
  have q0 : ((n : Int) < 0) = False := eq_false (by omega)
  by_cases h0 : n = 0
  · subst h0
    go_enter Try.func38, Try.ntmps38
    go_wp2
    go_ret
    exact ⟨_, rfl, World.ownsRow_nil _ _ _ _, Below.refl _ _⟩
  · have q1 : (0 < (n : Int)) = True := eq_true (by omega)
    have q2 : (0 < n) = True := eq_true (by omega)
    have hrz : ∀ ty, (Builtin.append_ #[22, 3] ty #[.slice none 0 0, .int .i64 n]).run Try.prog w =
        .ok (.slice (some ⟨w.heap.size, 0, none⟩) n (grownCap w n 0 29)) (w.drew.alloc (.cells (Builtin.zeroCells (Value.agg #[Value.int .i64 0, Value.int .i64 0]).cells n ++ Builtin.zeroCells (Value.agg #[Value.int .i64 0, Value.int .i64 0]).cells (grownCap w n 0 29 - n)) 29)) := fun ty =>
      Lib.run_append_nil_zeros w 22 3 ty 29 i0 _ .i64 .i64 Try.underlying22 Try.underlying3 hi0 hz0 n (by omega) (by rw [hz1]; omega) (by omega) (by rw [hz2]; omega)
    have hGn : n ≤ grownCap w n 0 29 := grownCap_ge w _ _ _
    have hGm : grownCap w n 0 29 ≤ maxLen := grownCap_le_maxLen w n 0 29 (by unfold maxLen; omega)
    generalize grownCap w n 0 29 = G at *
    obtain ⟨ROW, hROW⟩ : ∃ ROW : Array Value, ROW = Builtin.zeroCells (Value.agg #[Value.int .i64 0, Value.int .i64 0]).cells n ++ Builtin.zeroCells (Value.agg #[Value.int .i64 0, Value.int .i64 0]).cells (G - n) := ⟨_, rfl⟩
    have hRl : ROW.size = G * 2 := by
      rw [hROW]
      simp [Builtin.zeroCells, Value.cells]
      omega
    rw [← hROW] at hrz
    clear hROW
    have hG63 : G ≤ 9223372036854775807 := by unfold maxLen at hGm; omega
    go_enter Try.func38, Try.ntmps38
    go_wp2_with (at_builtin; refine Lib.wpList_append_run _ rfl _ _ _ _ rfl _ _ rfl rfl _ _ (hrz _) ?_)
    go_ret
    exact ⟨_, rfl, ⟨rfl, .inr ⟨w.heap.size, G, ROW, rfl, Nat.le_refl _, heap_alloc_new w.drew _, Nat.zero_le _, hGm, hRl, by simp⟩⟩, by repeat (first | exact Below.refl _ _ | apply below_alloc | apply pw_below_drewN | apply below_drew)⟩

theorem run_append_own_nil {P : Program} (w : World) (base : Nat) (t ty e : TypeId) (i : TypeInfo) (size : Nat) (ht : P.underlying t = some (.slice e)) (hi : P.info? e = some i)
    (v : Value) (n c : Nat) (xs : List Value) (hown : w.ownsRow base e size v n xs) :
    (Builtin.append_ #[t, t] ty #[v, .slice none 0 c]).run P w = .ok v w := by
  rcases hown.2 with ⟨rfl, rfl⟩ | ⟨g, cap, cur, rfl, _, _, hnc, _⟩
  · simp [Builtin.append_, run_underlying ht, sizeOf, typeInfo, hi, Builtin.lenOf, Builtin.firstCells]
  · simp [Builtin.append_, run_underlying ht, sizeOf, typeInfo, hi, Builtin.lenOf, Builtin.firstCells, hnc, storeCells]
theorem flat_take_succ {α : Type} (ls : List (List α)) (j : Nat) (h : j < ls.length) : (ls.take (j + 1)).flatten = (ls.take j).flatten ++ ls[j] := by
  rw [List.take_succ_eq_append_getElem h, List.flatten_append]
  simp only [List.flatten_cons, List.flatten_nil, List.append_nil]
theorem lcells_append' (a b : L29) : lcells (a ++ b) = lcells a ++ lcells b := lcells_append a b
theorem C_none {W : World} {xs : L29} (h : Kd.C k29 W none xs.length xs) : xs = [] := by
  rcases Nat.eq_zero_or_pos xs.length with h0 | h0
  · exact List.eq_nil_of_length_eq_zero h0
  · obtain ⟨ad, e1, _⟩ := at_T29 h 0 (by omega) (by omega)
    cases e1

set_option maxRecDepth 100000 in
set_option maxHeartbeats 8000000 in
theorem Concat_calls (A : Option Addr) (c : Nat) (ls : List (L29)) (w : World) (hr : Kd.C (Kd.slice 29 k29) w A ls.length ls) (hc : ls.length ≤ c) (hl : ls.flatten.length ≤ 1000000) (hll : ls.length ≤ 1000000) :
    Calls Try.prog 21 #[.slice A ls.length c] w fun e w' => ∃ v, e = .returned v ∧ w'.ownsRow w.heap.size 29 2 v ls.flatten.length (lcells ls.flatten) ∧ Below w.heap.size w w' := by
  obtain ⟨i0, hi0, hz0, hz1, hz2⟩ := info_parts infoL
  have HR0 := Aside0.mk hr
  have hpre : ∀ j, (ls.take j).flatten.length ≤ ls.flatten.length := fun j => by
    conv => rhs; rw [← List.take_append_drop j ls, List.flatten_append, List.length_append]
    omega
  have HP := Aside0.mk hpre
  clear hr hpre
  go_enter Try.func21, Try.ntmps21
  go_wp2_with fail
  go_loopg [3, 11] (ls.length) (fun kq v3 v11 w' => ∃ j : Nat, v3 = .int .i64 ((ls.take j).flatten.length : Int) ∧ v11 = .int .i64 j ∧ j ≤ ls.length ∧ Aside0 (kq = ls.length - j) ∧ w = w')
  case atStart => exact ⟨0, by simp, rfl, by omega, ⟨rfl⟩, rfl⟩
  case round =>
    obtain ⟨j, rfl, rfl, hj, HK, rfl⟩ := hrel
    by_cases hlt : j < ls.length
    · obtain ⟨ad, A', c', e1, hcell, hl', hC⟩ := slice_at HR0.out j hlt
      subst e1
      have hs1 : (ls.take (j + 1)).flatten.length = (ls.take j).flatten.length + ls[j].length := by
        rw [flat_take_succ ls j hlt, List.length_append]
      have HS1 := Aside0.mk hs1
      have hb1 := HP.out (j + 1)
      rw [hs1] at hb1
      clear hs1 hC
      generalize (ls.take j).flatten.length = s at *
      generalize ls[j].length = m at *
      have q0 : ((s : Int) + (m : Int) < 0) = False := eq_false (by omega)
      have dl : decide (j < ls.length) = true := decide_eq_true hlt
      go_wp2
      go_roundg (ls.length - (j + 1))
      case measure => have := HK.out; omega
      case rel => exact ⟨j + 1, by rw [HS1.out]; simp, by simp, by omega, ⟨rfl⟩, rfl⟩
    · have hjl : j = ls.length := by omega
      subst hjl
      rw [List.take_length]
      have dl : decide (ls.length < ls.length) = false := decide_eq_false hlt
      have HG := Aside0.mk (fun W => Grow_nil ls.flatten.length (by omega) W)
      have HFL := Aside0.mk (show ls.flatten.length ≤ 1000000 from hl)
      generalize hn : ls.flatten.length = n at *
      have HN := Aside0.mk hn
      clear hn
      go_wp2_with (go_at_call 38; refine (HG.out _).mono ?_; rintro e w1 ⟨v1, rfl, hO, hb⟩; have HO := Aside0.mk hO; have HB := Aside0.mk hb; clear hO hb)
      go_loopg [6, 27] (ls.length) (fun kq v6 v27 w' => ∃ (j : Nat) (v : Value), v = v6 ∧ v27 = .int .i64 j ∧ j ≤ ls.length ∧ Aside0 (kq = ls.length - j) ∧ Aside0 (w'.ownsRow w.heap.size 29 2 v (ls.take j).flatten.length (lcells (ls.take j).flatten)) ∧ Aside0 (Below w.heap.size w w'))
      case atStart => exact ⟨0, _, rfl, rfl, by omega, ⟨rfl⟩, ⟨by simpa [lcells] using HO.out⟩, HB⟩
      case round =>
        clear HO HB
        obtain ⟨j, v, rfl, rfl, hj, HK2, HO, HB⟩ := hrel
        by_cases hlt2 : j < ls.length
        · obtain ⟨ad, A', c', e1, hcell, hl', hC⟩ := slice_at (Kd.C_below HR0.out HB.out) j hlt2
          subst e1
          have hs1 := flat_take_succ ls j hlt2
          have HS1 := Aside0.mk hs1
          have hb1 := HP.out (j + 1)
          rw [hs1, List.length_append] at hb1
          have hb2 := HFL.out
          have hbs := HB.out.size
          clear hs1
          have dl2 : decide (j < ls.length) = true := decide_eq_true hlt2
          have HC := Aside0.mk hC
          clear hC
          generalize (ls.take j).flatten = pre at *
          generalize ls[j] = x at *
          cases A' with
          | none =>
            have hx := C_none HC.out
            subst hx
            have hrn : ∀ ty, _ := fun ty => run_append_own_nil (P := Try.prog) wr w.heap.size 22 ty 29 i0 2 Try.underlying22 hi0 v pre.length c' (lcells pre) HO.out
            simp only [List.length_nil] at hcell
            go_wp2_with (at_builtin; refine Lib.wpList_append_run _ rfl _ _ _ _ rfl _ _ rfl rfl _ _ (hrn _) ?_)
            go_roundg (ls.length - (j + 1))
            case measure => have := HK2.out; omega
            case rel => exact ⟨j + 1, _, rfl, by simp, by omega, ⟨rfl⟩, ⟨by rw [HS1.out, List.append_nil]; exact HO.out⟩, HB⟩
          | some ad' =>
            go_wp2_with (at_builtin; refine wpList_append_own _ rfl _ _ 22 rfl w.heap.size 29 i0 (.agg #[Value.int .i64 0, Value.int .i64 0]) 2 16 Try.underlying22 hi0 hz0 hz1 hz2 rfl (by decide) _ pre.length (lcells pre) rfl HO.out ad' x.length c' (lcells x) rfl (lcells_length x) (C_cells HC.out) (lcells_one x) (by unfold maxLen; omega) (by omega) hbs ?_; intro v' w2 hown' hgrow _; have HO2 := Aside0.mk hown'; have HB2 := Aside0.mk (HB.out.grown hgrow hbs (own_base HO.out)); clear hown' hgrow)
            go_roundg (ls.length - (j + 1))
            case measure => have := HK2.out; omega
            case rel => exact ⟨j + 1, _, rfl, by simp, by omega, ⟨rfl⟩, ⟨by rw [HS1.out, List.length_append, lcells_append]; exact HO2.out⟩, HB2⟩
        · have hjl : j = ls.length := by omega
          subst hjl
          have dl2 : decide (ls.length < ls.length) = false := decide_eq_false hlt2
          rw [List.take_length] at HO
          go_wp2
          go_ret
          refine ⟨_, rfl, ?_, HB.out⟩
          exact HO.out
end Go.Proofs.Ytjgkcgfbkcbjfaa.H
