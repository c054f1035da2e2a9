/- labels.marked: the iterator over the labels and whether a list of names has theirs. -/
import Derived.Test.YtakobehkajphpaaGreatTLCopy
import Derived.Test.YtakobehkajphpaaGreatTPF5
import Derived.RangeFuncNested
import Derived.RangeFuncBound
import Derived.RangeFuncCalls
import Derived.RangeFuncLeaves
import Derived.RangeFuncBox
import Derived.Shelf.Abstract
import Derived.Shelf.RegionOpen
import Derived.WalkKit
import Derived.OwnWalkIn
import Derived.TacticsInMore
import Derived.LoopNIn
import Derived.LoopIn
import Derived.Maps.AppendAt
namespace Go.Proofs.YtakobehkajphpaaGreat.H
open Go Go.RowKit Go.Shelf Go.Proofs.YtakobehkajphpaaGreatW.PrintWords Go.Proofs.YtakobehkajphpaaGreatW.PrintLast Go.Proofs.YtakobehkajphpaaGreatW.PrintMore Go.Proofs.YtakobehkajphpaaGreat.PAll
set_option linter.unusedVariables false
set_option linter.unusedSimpArgs false
attribute [local go_sem] Oper.semAt_some

/-- Is a name among some names? -/
def hasN (names : List ByteArray) (s : ByteArray) : Bool := names.any fun n => ab s == ab n

theorem Index_l0 (names : List ByteArray) (s : ByteArray) (hl : names.length ≤ 4611686018427387904) : ∀ (n k j : Nat), names.length - j = n → n < k →
    ∃ r : Int, slices_Index_string_string.l0 k names s (names.length : Int) (j : Int) = some r ∧ decide (r ≥ 0) = (names.drop j).any fun n => ab s == ab n := by
  intro n
  induction n with
  | zero =>
    intro k j hn hk
    obtain ⟨k, rfl⟩ : ∃ m, k = m + 1 := ⟨k - 1, by omega⟩
    simp only [slices_Index_string_string.l0]
    rw [if_neg (by omega), List.drop_eq_nil_of_le (by omega)]
    exact ⟨-1, rfl, rfl⟩
  | succ n ih =>
    intro k j hn hk
    obtain ⟨k, rfl⟩ : ∃ m, k = m + 1 := ⟨k - 1, by omega⟩
    have hj : j < names.length := by omega
    simp only [slices_Index_string_string.l0]
    rw [if_pos (by omega), if_pos (by omega), if_pos (by omega), rdOf_get names j hj, List.drop_eq_getElem_cons hj]
    simp only [List.any_cons, toList_ab]
    by_cases h : ab s = ab names[j]
    · rw [if_pos h]
      refine ⟨j, rfl, ?_⟩
      have h1 : (ab s == ab names[j]) = true := by simpa using h
      rw [h1]
      have : (j : Int) ≥ 0 := by omega
      simp
    · rw [if_neg h, wrap1 j (by omega)]
      obtain ⟨r, h1, h2⟩ := ih k (j + 1) (by omega) (by omega)
      refine ⟨r, h1, ?_⟩
      have h3 : (ab s == ab names[j]) = false := by simpa using h
      rw [h3, h2]; rfl

theorem Contains_f (names : List ByteArray) (s : ByteArray) (k : Nat) (hl : names.length ≤ 4611686018427387904) (hk : names.length < k) : slices_Contains_string_string.f k names s = some (hasN names s) := by
  obtain ⟨r, h1, h2⟩ := Index_l0 names s hl names.length k 0 (by omega) hk
  unfold slices_Contains_string_string.f slices_Index_string_string.f
  rw [show ((0 : Nat) : Int) = 0 from rfl] at h1
  rw [h1]
  simp only [Option.bind_some]
  rw [h2]; rfl

theorem Contains_calls (names : List ByteArray) (s : ByteArray) (A : Option Addr) (c : Nat) (w : World) (hr : Kd.C Kd.string w A names.length names) (hc : names.length ≤ c) (hl : names.length ≤ 4611686018427387904) :
    Calls Tryz.prog 68 #[.slice A names.length c, .string s] w fun e w' => e = .returned (.bool (hasN names s)) ∧ Drawn0 w w' :=
  slices_Contains_string_string.calls (names.length + 1) A c names s (hasN names s) w hr hc (Contains_f names s _ hl (by omega))

/-- What marked yields: each label, with whether its name is one of the names. -/
def marks (names : List ByteArray) (l : L94) : List (S94 × Bool) := l.map fun x => (x, hasN names x.f0)
def encM (x : S94 × Bool) : Array Value := #[.agg #[.string x.1.f0, .string x.1.f1], .bool x.2]

theorem marks_take_succ (names : List ByteArray) (l : L94) (j : Nat) (h : j < l.length) : (marks names l).take (j + 1) = (marks names l).take j ++ [(l[j], hasN names l[j].f0)] := by
  have h' : j < (marks names l).length := by simpa [marks] using h
  rw [List.take_succ_eq_append_getElem h']
  simp [marks]

/-- Below n nothing has turned, nor has block B. -/
def KB (n B : Nat) (W W' : World) : Prop := Below n W W' ∧ W'.heap[B]? = W.heap[B]?
theorem KB.refl (n B : Nat) (W : World) : KB n B W W := ⟨Below.refl _ _, rfl⟩
theorem KB.trans {n B : Nat} {W1 W2 W3 : World} (h : KB n B W1 W2) (k : KB n B W2 W3) : KB n B W1 W3 := ⟨h.1.trans k.1, k.2.trans h.2⟩
theorem KB.of_below {n B : Nat} {W W' : World} (h : Below W.heap.size W W') (hn : n ≤ W.heap.size) (hB : B < W.heap.size) : KB n B W W' := ⟨h.mono hn, h.block B hB⟩
theorem KB.cell {n B : Nat} {W W' : World} (h : KB n B W W') (o : Nat) : W'.cell? ⟨B, o, none⟩ = W.cell? ⟨B, o, none⟩ := World.cell?_of_block h.2
theorem KB_b {n B : Nat} {w : World} (hn : n ≤ w.heap.size) (hB : B < w.heap.size) (W : World) (l : Nat) (o o' : Obj) (hl : w.heap.size ≤ l) (h : W.heap[l]? = some o) (h1 : o.isCells = false) (h2 : o.isWalk = false) : KB n B W (W.putObj l o') :=
  ⟨belowK_b hn W l o o' hl h h1 h2, (grownBy_putObj' W l o').block B (by have := (Array.getElem?_eq_some_iff.1 h).1; omega) (fun e => by cases e; omega)⟩

set_option maxRecDepth 100000 in
set_option maxHeartbeats 4000000 in
theorem marked1_in (n : Nat) (hn : 1 ≤ n) (l Bl Bn n₀ : Nat) (A An : Option Addr) (c cn : Nat) (xs : L94) (names : List ByteArray) (hc : xs.length ≤ c) (hcn : names.length ≤ cn) (hln : names.length ≤ 4611686018427387904)
    (J Jx : List (S94 × Bool) → World → Prop) (W : World) (hn0 : n₀ ≤ W.heap.size)
    (hJ : AbidesFrom W.heap.size J) (hJx : AbidesFrom W.heap.size Jx)
    (hY : ∀ pre x W1, J pre W1 → pre.length < xs.length → YieldAt Fence.wide (n - 1) Tryz.prog l (encM x) W1 fun e W' =>
      (e = .returned (.bool true) ∧ J (pre ++ [x]) W' ∧ KB n₀ Bn W1 W') ∨ (e = .returned (.bool false) ∧ Jx (pre ++ [x]) W'))
    (hBl : W.cell? ⟨Bl, 0, none⟩ = some (.slice A xs.length c)) (hBn : W.cell? ⟨Bn, 0, none⟩ = some (.slice An names.length cn)) (hbn : Bn < W.heap.size)
    (hC : ∀ W' : World, Below n₀ W W' → Kd.C k94 W' A xs.length xs ∧ Kd.C Kd.string W' An names.length names) (h0 : J [] W) :
    CallsIn Fence.wide n Tryz.prog 67 #[.func (.yield l) #[] #[], .pointer (some ⟨Bl, 0, none⟩), .pointer (some ⟨Bn, 0, none⟩)] W fun e W' => (∃ v, e = .returned v) ∧
      ((∃ ys, ys = marks names xs ∧ J ys W') ∨ (∃ pre, pre <+: marks names xs ∧ Jx pre W')) := by
  have hu32 := Tryz.underlying94
  have hmax := Kd.C_max (hC W (Below.refl _ _)).1
  refine callsIn_of_wp Tryz.func67 rfl trivial ?_ rfl
  simp only [Tryz.ntmps67, List.size_toArray, List.length_cons, List.length_nil, Nat.reduceAdd, Nat.reduceSub, Array.replicate_succ, Array.replicate_zero, List.push_toArray, List.append_toArray, List.nil_append, List.cons_append]
  gi_wp2
  gi_loopw [8] (fun i wr => ∃ k : Nat, k ≤ xs.length ∧ i = .int .i64 k ∧ J ((marks names xs).take k) wr ∧ KB n₀ Bn W wr)
    (fun i _ => xs.length - (intOf i).toNat)
  case atStart => exact ⟨0, Nat.zero_le _, rfl, by simpa using h0, KB.refl _ _ _⟩
  case round =>
    obtain ⟨k, hk, rfl, hJs, hnx⟩ := hrel
    by_cases hlt : k < xs.length
    · obtain ⟨hC1, hC2⟩ := hC wr hnx.1
      obtain ⟨ad, e1, hc0, hc1⟩ := at_T94 hC1 (k : Int) (by omega) (by omega)
      cases e1
      rw [rdT_get xs k hlt] at hc0 hc1
      simp only [Int.toNat_natCast] at hc0 hc1
      have hbn' : wr.cell? ⟨Bn, 0, none⟩ = some (.slice An names.length cn) := (hnx.cell 0).trans hBn
      have hx := marks_take_succ names xs k hlt
      generalize xs[k] = x at *
      have hb1 : ∀ q, Below wr.heap.size wr ((wr.alloc (.cells #[.string x.f0, .string x.f1] 94)).drewN q) := fun q => by
        repeat (first | exact Below.refl _ _ | apply below_alloc | apply pw_below_drewN | apply below_drew)
      have hnW := hnx.1.size
      have HYQ := Aside0.mk (fun q => (hY _ (x, hasN names x.f0) ((wr.alloc (.cells #[.string x.f0, .string x.f1] 94)).drewN q) (hJ _ _ _ none hJs (grown_of_below (hb1 q) none) (fun r e => by cases e)) (by simp [marks]; omega)).mono (R' := fun e W' => ∃ b : Bool, e = .returned (.bool b) ∧ Aside0 ((b = true ∧ J ((marks names xs).take (k + 1)) W' ∧ KB n₀ Bn ((wr.alloc (.cells #[.string x.f0, .string x.f1] 94)).drewN q) W') ∨ (b = false ∧ Jx ((marks names xs).take (k + 1)) W'))) fun e W' h => by
          rw [hx]
          rcases h with ⟨rfl, h1, h2⟩ | ⟨rfl, h1⟩
          · exact ⟨true, rfl, ⟨.inl ⟨rfl, h1, h2⟩⟩⟩
          · exact ⟨false, rfl, ⟨.inr ⟨rfl, h1⟩⟩⟩)
      have HCC := Aside0.mk (Contains_calls names x.f0 An cn ((wr.alloc (.cells #[.string x.f0, .string x.f1] 94)).drew) (hC _ (hnx.1.trans ((below_drew (hb1 0)).mono (by omega)))).2 hcn hln)
      generalize hasN names x.f0 = hb at *
      have HB1 := Aside0.mk hb1
      clear hx hb1 hC1 hC2
      have hmo : Tryz.prog.follows .mixedOrders = true := by kernel_rfl
      have hbn2 : ((wr.alloc (.cells #[.string x.f0, .string x.f1] 94)).drew).cell? ⟨Bn, 0, none⟩ = some (.slice An names.length cn) := pw_cell_below (below_drew (HB1.out 0)) hbn'
      have hlt2 : Bn < wr.heap.size := by omega
      gi_wp2
      clear hc0 hc1
      gi_region_with_o (first
        | (refine ⟨trivial, ?_⟩; gi_at_call 68; refine (callsIn_wide.2 HCC.out).mono ?_; rintro e w' ⟨rfl, ⟨q, rfl⟩⟩; obtain ⟨fn, tmps, assign, body, hy, hR⟩ := HYQ.out (1 + q); simp only [encM] at hy; have HR := Aside0.mk hR; clear hR)
        | (with_reducible refine HR.out.mono ?_; rintro e W3 ⟨b, rfl, HB⟩))
      all_goals
        rcases HB.out with ⟨rfl, hJ3, hk3⟩ | ⟨rfl, hJx3⟩
        · have HJ3 := Aside0.mk hJ3
          have HN3 := Aside0.mk ((hnx.trans (KB.of_below (HB1.out _) (by omega) (by omega))).trans hk3)
          clear HB hJ3 hk3 HR HYQ HCC
          gi_wp2
          go_roundw
          case rel => exact ⟨k + 1, by omega, by simp, HJ3.out, HN3.out⟩
          case measure => simp [intOf]; omega
        · have HJ3 := Aside0.mk hJx3
          clear HB hJx3 HR HYQ HCC
          gi_wp2
          refine bodyPost_ret (results_none rfl _ _ _) rfl ?_
          exact ⟨⟨_, rfl⟩, .inr ⟨_, List.take_prefix _ _, HJ3.out⟩⟩
    · obtain rfl : k = xs.length := by omega
      gi_wp2
      go_end0
      exact ⟨⟨_, rfl⟩, .inl ⟨_, rfl, by rw [List.take_of_length_le (by simp [marks])] at hJs; exact hJs⟩⟩

set_option maxHeartbeats 1000000 in
theorem marked_in (A An : Option Addr) (len lenn c cn : Nat) (w : World) :
    Calls Tryz.prog 41 #[.slice A len c, .slice An lenn cn] w fun e w' => e = .returned (.func (.func 67) #[] #[.pointer (some ⟨w.heap.size, 0, none⟩), .pointer (some ⟨w.heap.size + 1, 0, none⟩)]) ∧
      w' = (w.alloc (.cells #[.slice A len c] 25)).alloc (.cells #[.slice An lenn cn] 92) := by
  go_enter Tryz.func41, Tryz.ntmps41
  go_wp2
  go_ret
  exact ⟨rfl, rfl⟩

theorem marked_stops (n : Nat) (hn : 1 ≤ n) (Bl Bn n₀ : Nat) (A An : Option Addr) (c cn : Nat) (xs : L94) (names : List ByteArray) (hc : xs.length ≤ c) (hcn : names.length ≤ cn) (hln : names.length ≤ 4611686018427387904)
    (w : World) (hn0 : n₀ ≤ w.heap.size) (hbl : Bl < w.heap.size) (hbn : Bn < w.heap.size)
    (hBl : w.cell? ⟨Bl, 0, none⟩ = some (.slice A xs.length c)) (hBn : w.cell? ⟨Bn, 0, none⟩ = some (.slice An names.length cn))
    (hC : ∀ W' : World, Below n₀ w W' → Kd.C k94 W' A xs.length xs ∧ Kd.C Kd.string W' An names.length names) :
    SeqStopsK Fence.wide n Tryz.prog 67 #[.pointer (some ⟨Bl, 0, none⟩), .pointer (some ⟨Bn, 0, none⟩)] encM (KB n₀ Bn) (fun ys => ys = marks names xs) (fun pre => pre <+: marks names xs) xs.length w :=
  fun l J Jx W hW hJ hJx hY h0 => marked1_in n hn l Bl Bn n₀ A An c cn xs names hc hcn hln J Jx W (Nat.le_trans hn0 hW.size) hJ hJx hY
    ((hW.cell (p := ⟨Bl, 0, none⟩) hbl).trans hBl) ((hW.cell (p := ⟨Bn, 0, none⟩) hbn).trans hBn) (Nat.lt_of_lt_of_le hbn hW.size) (fun W' h => hC W' ((hW.mono hn0).trans h)) h0
end Go.Proofs.YtakobehkajphpaaGreat.H
