/- slices.Backward: the iterator over a list from its end. -/
import Derived.Test.YtjgkcgfbkcbjfaaSNb
namespace Go.Proofs.Ytjgkcgfbkcbjfaa.H
open Go Go.RowKit Go.Shelf Go.Proofs.YtjgkcgfbkcbjfaaW.PrintWords Go.Proofs.YtjgkcgfbkcbjfaaW.PrintLast Go.Proofs.YtjgkcgfbkcbjfaaW.PrintMore Go.Proofs.Ytjgkcgfbkcbjfaa.PAll
set_option linter.unusedVariables false
set_option linter.unusedSimpArgs false
attribute [local go_sem] Oper.semAt_some

def encB (p : Int × S29) : Array Value := #[.int .i64 p.1, .agg #[Value.int .i64 p.2.f0, Value.int .i64 p.2.f1]]
/-- What Backward yields. -/
def bwd (l : L29) : List (Int × S29) := (l.mapIdx fun i x => ((i : Int), x)).reverse
theorem bwd_length (l : L29) : (bwd l).length = l.length := by simp [bwd]
theorem bwd_take_succ (l : L29) (m : Nat) (h : m < l.length) : (bwd l).take (l.length - m) = (bwd l).take (l.length - 1 - m) ++ [((m : Int), l[m])] := by
  have hb : l.length - m = (l.length - 1 - m) + 1 := by omega
  rw [hb, List.take_succ_eq_append_getElem (by rw [bwd_length]; omega)]
  congr 2
  simp only [bwd]
  rw [List.getElem_reverse]
  simp only [List.length_mapIdx, List.getElem_mapIdx]
  have e : l.length - 1 - (l.length - 1 - m) = m := by omega
  simp only [e]

set_option maxRecDepth 100000 in
set_option maxHeartbeats 4000000 in
theorem Backward1_in (n : Nat) (hn : 1 ≤ n) (l Bl n₀ : Nat) (A : Option Addr) (c : Nat) (xs : L29) (hc : xs.length ≤ c) (hl1 : xs.length ≤ 1000000)
    (J Jx : List (Int × S29) → World → Prop) (W : World) (hn0 : n₀ ≤ W.heap.size)
    (hJ : AbidesFrom W.heap.size J) (hJx : AbidesFrom W.heap.size Jx)
    (hY : ∀ pre x W1, J pre W1 → pre.length < xs.length → YieldAt Fence.wide (n - 1) Try.prog l (encB x) W1 fun e W' =>
      (e = .returned (.bool true) ∧ J (pre ++ [x]) W' ∧ KB n₀ Bl W1 W') ∨ (e = .returned (.bool false) ∧ Jx (pre ++ [x]) W'))
    (hBl : W.cell? ⟨Bl, 0, none⟩ = some (.slice A xs.length c)) (hbl : Bl < W.heap.size)
    (hC : ∀ W' : World, Below n₀ W W' → Kd.C k29 W' A xs.length xs) (h0 : J [] W) :
    CallsIn Fence.wide n Try.prog 48 #[.func (.yield l) #[] #[], .pointer (some ⟨Bl, 0, none⟩)] W fun e W' => (∃ v, e = .returned v) ∧
      ((∃ ys, ys = bwd xs ∧ J ys W') ∨ (∃ pre, pre <+: bwd xs ∧ Jx pre W')) := by
  have hu32 := Try.underlying29
  have hs0 : IntKind.i64.wrap ((xs.length : Int) - 1) = (xs.length : Int) - 1 := by rw [IntKind.wrap_i64]; omega
  refine callsIn_of_wp Try.func48 rfl trivial ?_ rfl
  simp only [Try.ntmps48, List.size_toArray, List.length_cons, List.length_nil, Nat.reduceAdd, Nat.reduceSub, Array.replicate_succ, Array.replicate_zero, List.push_toArray, List.append_toArray, List.nil_append, List.cons_append]
  gi_wp2
  gi_loopw [3] (fun i wr => ∃ z : Int, -1 ≤ z ∧ z < (xs.length : Int) ∧ i = .int .i64 z ∧ J ((bwd xs).take (xs.length - (z + 1).toNat)) wr ∧ KB n₀ Bl W wr)
    (fun i _ => (intOf i + 1).toNat)
  case atStart => exact ⟨_, by omega, by omega, rfl, by simpa using h0, KB.refl _ _ _⟩
  case round =>
    obtain ⟨z, hz1, hz2, rfl, hJs, hnx⟩ := hrel
    by_cases hz : 0 ≤ z
    · obtain ⟨m, rfl⟩ := Int.eq_ofNat_of_zero_le hz
      have hm : m < xs.length := by omega
      have hbl' : wr.cell? ⟨Bl, 0, none⟩ = some (.slice A xs.length c) := (hnx.cell 0).trans hBl
      obtain ⟨ad, e1, hc0, hc1⟩ := at_T29 (hC wr hnx.1) (m : Int) (by omega) (by omega)
      cases e1
      rw [rdT_get xs m hm] at hc0 hc1
      simp only [Int.toNat_natCast] at hc0 hc1
      have hx := bwd_take_succ xs m hm
      have e2 : xs.length - ((m : Int) + 1).toNat = xs.length - 1 - m := by omega
      rw [e2] at hJs
      have hpl := bwd_length xs
      generalize xs[m] = x at *
      have HYQ := Aside0.mk ((hY _ ((m : Int), x) wr hJs (by rw [List.length_take]; omega)).mono (R' := fun e W' => ∃ b : Bool, e = .returned (.bool b) ∧ Aside0 ((b = true ∧ J ((bwd xs).take (xs.length - m)) W' ∧ KB n₀ Bl wr W') ∨ (b = false ∧ Jx ((bwd xs).take (xs.length - m)) W'))) fun e W' h => by
          rw [hx]
          rcases h with ⟨rfl, h1, h2⟩ | ⟨rfl, h1⟩
          · exact ⟨true, rfl, ⟨.inl ⟨rfl, h1, h2⟩⟩⟩
          · exact ⟨false, rfl, ⟨.inr ⟨rfl, h1⟩⟩⟩)
      clear hx hpl e2
      have hmo : Try.prog.follows .mixedOrders = true := by kernel_rfl
      have hs1 : IntKind.i64.wrap ((m : Int) - 1) = (m : Int) - 1 := by rw [IntKind.wrap_i64]; omega
      have hq : ((0 : Int) ≤ (m : Int)) = True := eq_true (by omega)
      obtain ⟨fn, tmps, assign, body, hy, hR⟩ := HYQ.out
      simp only [encB] at hy
      have HR := Aside0.mk hR
      clear hR
      gi_wp2
      refine HR.out.mono ?_
      rintro e W3 ⟨b, rfl, HB⟩
      rcases HB.out with ⟨rfl, hJ3, hk3⟩ | ⟨rfl, hJx3⟩
      · have HJ3 := Aside0.mk hJ3
        have HN3 := Aside0.mk (hnx.trans hk3)
        clear HB hJ3 hk3 HR HYQ
        gi_wp2
        go_roundw
        case rel => exact ⟨(m : Int) - 1, by omega, by omega, by first | rfl | simp, by rw [show xs.length - ((m : Int) - 1 + 1).toNat = xs.length - m by omega]; exact HJ3.out, HN3.out⟩
        case measure => first | (simp [intOf]; done) | (simp [intOf]; omega)
      · have HJ3 := Aside0.mk hJx3
        clear HB hJx3 HR HYQ
        gi_wp2
        refine bodyPost_ret (results_none rfl _ _ _) rfl ?_
        exact ⟨⟨_, rfl⟩, .inr ⟨_, List.take_prefix _ _, HJ3.out⟩⟩
    · have hz' : z = -1 := by omega
      subst hz'
      have hq : ((0 : Int) ≤ -1) = False := eq_false (by omega)
      gi_wp2
      go_end0
      rw [List.take_of_length_le (by rw [bwd_length]; simp)] at hJs
      first
        | exact ⟨⟨_, rfl⟩, .inl ⟨_, rfl, hJs⟩⟩
        | exact ⟨⟨_, rfl⟩, .inl hJs⟩

set_option maxHeartbeats 1000000 in
theorem Backward_in (A : Option Addr) (len c : Nat) (w : World) :
    Calls Try.prog 27 #[.slice A len c] w fun e w' => e = .returned (.func (.func 48) #[] #[.pointer (some ⟨w.heap.size, 0, none⟩)]) ∧
      w' = w.alloc (.cells #[.slice A len c] 22) := by
  go_enter Try.func27, Try.ntmps27
  go_wp2
  go_ret
  exact ⟨rfl, rfl⟩

theorem Backward_stops (n : Nat) (hn : 1 ≤ n) (Bl n₀ : Nat) (A : Option Addr) (c : Nat) (xs : L29) (hc : xs.length ≤ c) (hl1 : xs.length ≤ 1000000)
    (w : World) (hn0 : n₀ ≤ w.heap.size) (hbl : Bl < w.heap.size)
    (hBl : w.cell? ⟨Bl, 0, none⟩ = some (.slice A xs.length c))
    (hC : ∀ W' : World, Below n₀ w W' → Kd.C k29 W' A xs.length xs) :
    SeqStopsK Fence.wide n Try.prog 48 #[.pointer (some ⟨Bl, 0, none⟩)] encB (KB n₀ Bl) (fun ys => ys = bwd xs) (fun pre => pre <+: bwd xs) xs.length w :=
  fun l J Jx W hW hJ hJx hY h0 => Backward1_in n hn l Bl n₀ A c xs hc hl1 J Jx W (Nat.le_trans hn0 hW.size) hJ hJx hY
    ((hW.cell (p := ⟨Bl, 0, none⟩) hbl).trans hBl) (Nat.lt_of_lt_of_le hbl hW.size) (fun W' h => hC W' ((hW.mono hn0).trans h)) h0
end Go.Proofs.Ytjgkcgfbkcbjfaa.H
