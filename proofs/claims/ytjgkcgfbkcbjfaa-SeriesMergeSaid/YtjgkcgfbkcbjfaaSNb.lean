/- series.neighbours: the iterator over the pairs of neighbours. -/
import Derived.Test.YtjgkcgfbkcbjfaaGRow
import Derived.Test.YtjgkcgfbkcbjfaaPF1
import Derived.RangeFuncNested
import Derived.RangeFuncBound
import Derived.RangeFuncCalls
import Derived.RangeFuncLeaves
import Derived.RangeFuncBox
import Derived.Shelf.Abstract
import Derived.Shelf.RegionOpen
import Derived.WalkKit
import Derived.OwnWalkIn
import Derived.TacticsInMore
import Derived.LoopNIn
import Derived.LoopIn
import Derived.Maps.AppendAt
namespace Go.Proofs.Ytjgkcgfbkcbjfaa.H
open Go Go.RowKit Go.Shelf Go.Proofs.YtjgkcgfbkcbjfaaW.PrintWords Go.Proofs.YtjgkcgfbkcbjfaaW.PrintLast Go.Proofs.YtjgkcgfbkcbjfaaW.PrintMore Go.Proofs.Ytjgkcgfbkcbjfaa.PAll
set_option linter.unusedVariables false
set_option linter.unusedSimpArgs false
attribute [local go_sem] Oper.semAt_some

theorem rdT_get (l : L29) (j : Nat) (h : j < l.length) : rd_T29 l (j : Int) = l[j] := by simp [rd_T29, List.getD_eq_getElem?_getD, List.getElem?_eq_getElem h]

/-- Below n nothing has turned, nor has block B. -/
def KB (n B : Nat) (W W' : World) : Prop := Below n W W' ∧ W'.heap[B]? = W.heap[B]?
theorem KB.refl (n B : Nat) (W : World) : KB n B W W := ⟨Below.refl _ _, rfl⟩
theorem KB.trans {n B : Nat} {W1 W2 W3 : World} (h : KB n B W1 W2) (k : KB n B W2 W3) : KB n B W1 W3 := ⟨h.1.trans k.1, k.2.trans h.2⟩
theorem KB.of_below {n B : Nat} {W W' : World} (h : Below W.heap.size W W') (hn : n ≤ W.heap.size) (hB : B < W.heap.size) : KB n B W W' := ⟨h.mono hn, h.block B hB⟩
theorem KB.cell {n B : Nat} {W W' : World} (h : KB n B W W') (o : Nat) : W'.cell? ⟨B, o, none⟩ = W.cell? ⟨B, o, none⟩ := World.cell?_of_block h.2
theorem KB_b {n B : Nat} {w : World} (hn : n ≤ w.heap.size) (hB : B < w.heap.size) (W : World) (l : Nat) (o o' : Obj) (hl : w.heap.size ≤ l) (h : W.heap[l]? = some o) (h1 : o.isCells = false) (h2 : o.isWalk = false) : KB n B W (W.putObj l o') :=
  ⟨belowK_b hn W l o o' hl h h1 h2, (grownBy_putObj' W l o').block B (by have := (Array.getElem?_eq_some_iff.1 h).1; omega) (fun e => by cases e; omega)⟩

/-- The pairs of neighbours. -/
def prs : L29 → List (S29 × S29)
  | [] => []
  | x :: l => (x :: l).zip l
def encP (p : S29 × S29) : Array Value := #[.agg #[Value.int .i64 p.1.f0, Value.int .i64 p.1.f1], .agg #[Value.int .i64 p.2.f0, Value.int .i64 p.2.f1]]
theorem prs_length : ∀ l : L29, (prs l).length = l.length - 1
  | [] => rfl
  | x :: l => by simp [prs, List.length_zip]
theorem prs_get (l : L29) (k : Nat) (h : k + 1 < l.length) : (prs l)[k]? = some (l[k], l[k + 1]) := by
  cases l with
  | nil => simp at h
  | cons x l =>
    have h2 : k < l.length := by simpa using h
    have h3 : k < ((x :: l).zip l).length := by rw [List.length_zip]; simp; omega
    simp only [prs]
    rw [List.getElem?_eq_getElem h3]
    simp
theorem prs_take_succ (l : L29) (k : Nat) (h : k + 1 < l.length) : (prs l).take (k + 1) = (prs l).take k ++ [(l[k], l[k + 1])] := by
  rw [List.take_add_one, prs_get l k h]
  rfl

set_option maxRecDepth 100000 in
set_option maxHeartbeats 4000000 in
theorem neighbours1_in (n : Nat) (hn : 1 ≤ n) (l Bl n₀ : Nat) (A : Option Addr) (c : Nat) (xs : L29) (hc : xs.length ≤ c)
    (J Jx : List (S29 × S29) → World → Prop) (W : World) (hn0 : n₀ ≤ W.heap.size)
    (hJ : AbidesFrom W.heap.size J) (hJx : AbidesFrom W.heap.size Jx)
    (hY : ∀ pre x W1, J pre W1 → pre.length < xs.length → YieldAt Fence.wide (n - 1) Try.prog l (encP x) W1 fun e W' =>
      (e = .returned (.bool true) ∧ J (pre ++ [x]) W' ∧ KB n₀ Bl W1 W') ∨ (e = .returned (.bool false) ∧ Jx (pre ++ [x]) W'))
    (hBl : W.cell? ⟨Bl, 0, none⟩ = some (.slice A xs.length c)) (hbl : Bl < W.heap.size)
    (hC : ∀ W' : World, Below n₀ W W' → Kd.C k29 W' A xs.length xs) (h0 : J [] W) :
    CallsIn Fence.wide n Try.prog 51 #[.func (.yield l) #[] #[], .pointer (some ⟨Bl, 0, none⟩)] W fun e W' => (∃ v, e = .returned v) ∧
      ((∃ ys, ys = prs xs ∧ J ys W') ∨ (∃ pre, pre <+: prs xs ∧ Jx pre W')) := by
  have hu32 := Try.underlying29
  have hmax := Kd.C_max (hC W (Below.refl _ _))
  have hm2 : xs.length ≤ 9223372036854775807 := by unfold maxLen at hmax; omega
  refine callsIn_of_wp Try.func51 rfl trivial ?_ rfl
  simp only [Try.ntmps51, List.size_toArray, List.length_cons, List.length_nil, Nat.reduceAdd, Nat.reduceSub, Array.replicate_succ, Array.replicate_zero, List.push_toArray, List.append_toArray, List.nil_append, List.cons_append]
  gi_wp2
  gi_loopw [3] (fun i wr => ∃ k : Nat, k ≤ xs.length - 1 ∧ i = .int .i64 ((k : Int) + 1) ∧ J ((prs xs).take k) wr ∧ KB n₀ Bl W wr)
    (fun i _ => xs.length + 1 - (intOf i).toNat)
  case atStart => exact ⟨0, Nat.zero_le _, rfl, by simpa using h0, KB.refl _ _ _⟩
  case round =>
    obtain ⟨k, hk, rfl, hJs, hnx⟩ := hrel
    have hbl' : wr.cell? ⟨Bl, 0, none⟩ = some (.slice A xs.length c) := (hnx.cell 0).trans hBl
    by_cases hlt : k + 1 < xs.length
    · have hC1 := hC wr hnx.1
      obtain ⟨ad, e1, hc0, hc1⟩ := at_T29 hC1 (k : Int) (by omega) (by omega)
      cases e1
      obtain ⟨ad', e2, hd0, hd1⟩ := at_T29 hC1 ((k : Int) + 1) (by omega) (by omega)
      cases e2
      rw [rdT_get xs k (by omega)] at hc0 hc1
      rw [show rd_T29 xs ((k : Int) + 1) = xs[k + 1] from rdT_get xs (k + 1) hlt] at hd0 hd1
      rw [show ((k : Int) + 1).toNat = k + 1 by omega] at hd0 hd1
      simp only [Int.toNat_natCast] at hc0 hc1
      have hx := prs_take_succ xs k hlt
      have hpl := prs_length xs
      generalize xs[k] = x at *
      generalize xs[k + 1] = y at *
      have hb1 : Below wr.heap.size wr wr.drew := by
        repeat (first | exact Below.refl _ _ | apply below_alloc | apply pw_below_drewN | apply below_drew)
      have hnW := hnx.1.size
      have HYQ := Aside0.mk ((hY _ (x, y) wr.drew (hJ _ _ _ none hJs (grown_of_below hb1 none) (fun r e => by cases e)) (by rw [List.length_take]; omega)).mono (R' := fun e W' => ∃ b : Bool, e = .returned (.bool b) ∧ Aside0 ((b = true ∧ J ((prs xs).take (k + 1)) W' ∧ KB n₀ Bl wr.drew W') ∨ (b = false ∧ Jx ((prs xs).take (k + 1)) W'))) fun e W' h => by
          rw [hx]
          rcases h with ⟨rfl, h1, h2⟩ | ⟨rfl, h1⟩
          · exact ⟨true, rfl, ⟨.inl ⟨rfl, h1, h2⟩⟩⟩
          · exact ⟨false, rfl, ⟨.inr ⟨rfl, h1⟩⟩⟩)
      have HB1 := Aside0.mk hb1
      clear hx hb1 hC1 hpl
      have hmo : Try.prog.follows .mixedOrders = true := by kernel_rfl
      have hlt2 : Bl < wr.heap.size := by omega
      have hsub : IntKind.i64.wrap ((k : Int) + 1 - 1) = (k : Int) := by rw [IntKind.wrap_i64]; omega
      have hp0 : (0 : Int) ≤ (k : Int) := by omega
      have hp1 : (k : Int) < (xs.length : Int) := by omega
      have hp2 : (0 : Int) ≤ (k : Int) + 1 := by omega
      have htn : ((k : Int) + 1).toNat = k + 1 := by omega
      have hp3 : (k : Int) + 1 < (xs.length : Int) := by omega
      have hn1 : k < xs.length := by omega
      have hsub2 : IntKind.i64.wrap (k : Int) = (k : Int) := by rw [IntKind.wrap_i64]; omega
      gi_wp2
      obtain ⟨fn, tmps, assign, body, hy, hR⟩ := HYQ.out
      simp only [encP] at hy
      have HR := Aside0.mk hR
      clear hR
      gi_region_with_o (with_reducible refine HR.out.mono ?_; rintro e W3 ⟨b, rfl, HB⟩)
      all_goals
        rcases HB.out with ⟨rfl, hJ3, hk3⟩ | ⟨rfl, hJx3⟩
        · have HJ3 := Aside0.mk hJ3
          have HN3 := Aside0.mk ((hnx.trans (KB.of_below HB1.out (by omega) (by omega))).trans hk3)
          clear HB hJ3 hk3 HR HYQ
          gi_wp2
          go_roundw
          case rel => exact ⟨k + 1, by omega, by simp, HJ3.out, HN3.out⟩
          case measure => simp [intOf]; omega
        · have HJ3 := Aside0.mk hJx3
          clear HB hJx3 HR HYQ
          gi_wp2
          refine bodyPost_ret (results_none rfl _ _ _) rfl ?_
          exact ⟨⟨_, rfl⟩, .inr ⟨_, List.take_prefix _ _, HJ3.out⟩⟩
    · gi_wp2
      go_end0
      exact ⟨⟨_, rfl⟩, .inl ⟨_, rfl, by rw [List.take_of_length_le (by rw [prs_length]; omega)] at hJs; exact hJs⟩⟩

set_option maxHeartbeats 1000000 in
theorem neighbours_in (A : Option Addr) (len c : Nat) (w : World) :
    Calls Try.prog 35 #[.slice A len c] w fun e w' => e = .returned (.func (.func 51) #[] #[.pointer (some ⟨w.heap.size, 0, none⟩)]) ∧
      w' = w.alloc (.cells #[.slice A len c] 22) := by
  go_enter Try.func35, Try.ntmps35
  go_wp2
  go_ret
  exact ⟨rfl, rfl⟩

theorem neighbours_stops (n : Nat) (hn : 1 ≤ n) (Bl n₀ : Nat) (A : Option Addr) (c : Nat) (xs : L29) (hc : xs.length ≤ c)
    (w : World) (hn0 : n₀ ≤ w.heap.size) (hbl : Bl < w.heap.size)
    (hBl : w.cell? ⟨Bl, 0, none⟩ = some (.slice A xs.length c))
    (hC : ∀ W' : World, Below n₀ w W' → Kd.C k29 W' A xs.length xs) :
    SeqStopsK Fence.wide n Try.prog 51 #[.pointer (some ⟨Bl, 0, none⟩)] encP (KB n₀ Bl) (fun ys => ys = prs xs) (fun pre => pre <+: prs xs) xs.length w :=
  fun l J Jx W hW hJ hJx hY h0 => neighbours1_in n hn l Bl n₀ A c xs hc J Jx W (Nat.le_trans hn0 hW.size) hJ hJx hY
    ((hW.cell (p := ⟨Bl, 0, none⟩) hbl).trans hBl) (Nat.lt_of_lt_of_le hbl hW.size) (fun W' h => hC W' ((hW.mono hn0).trans h)) h0
end Go.Proofs.Ytjgkcgfbkcbjfaa.H
