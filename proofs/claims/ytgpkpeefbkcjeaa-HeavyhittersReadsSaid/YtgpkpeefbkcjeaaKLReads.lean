/- The walk of HeavyhittersReads. -/
import Derived.Test.YtgpkpeefbkcjeaaKRead2
import Derived.Test.YtgpkpeefbkcjeaaPF5
namespace Go.Proofs.Ytgpkpeefbkcjeaa.H
open Go Go.RowKit Go.Proofs.YtgpkpeefbkcjeaaW.PrintWords Go.Proofs.YtgpkpeefbkcjeaaW.PrintLast Go.Proofs.YtgpkpeefbkcjeaaW.PrintMore Go.Proofs.Ytgpkpeefbkcjeaa.PAll
set_option linter.unusedVariables false
set_option linter.unusedSimpArgs false

theorem tot_le_sumI' {l : L58} (h : Pos l) (k : ByteArray) : tot l k ≤ sumI l := by
  induction l with
  | nil => simp [tot_nil, sumI]
  | cons x l ih =>
    rw [tot_cons, sumI_cons]
    have h0 := h x (by simp)
    have := ih (fun y hy => h y (by simp [hy]))
    split <;> omega
theorem abvH_len (x : HV) (n : Int) (h : x.f3.length ≤ 1000) : (abvH x n).1.length ≤ LB ∧ (abvH x n).2.1.length ≤ LB := by
  simp only [LB]
  unfold abvH
  split
  · simp
  · split
    · simp
    · have l1 := abv_len x.f3 (fun y => decide (n ≤ y.f1 + x.f2))
      have l2 := abv_len x.f3 (fun y => decide (n ≤ y.f1))
      simp only
      omega
theorem rcount_l0 (key : ByteArray) (K T L : Int) (l : L58) (hs : Srt l) (hl : l.length ≤ LB) : ∀ (d k j : Nat), l.length - j = d → d < k → j ≤ l.length → lookoutref32_count.l0 k key (j : Int) K T L l = some (tot (l.drop j) key) := by
  intro d
  induction d with
  | zero =>
    intro k j hn hk hj
    obtain ⟨k, rfl⟩ : ∃ m, k = m + 1 := ⟨k - 1, by omega⟩
    simp only [lookoutref32_count.l0]
    rw [if_neg (by omega), List.drop_eq_nil_of_le (by omega)]; rfl
  | succ d ih =>
    intro k j hn hk hj
    obtain ⟨k, rfl⟩ : ∃ m, k = m + 1 := ⟨k - 1, by omega⟩
    have hlb : l.length ≤ 1000000 := hl
    have hlt : j < l.length := by omega
    have hsd : Srt (l[j] :: l.drop (j + 1)) := by rw [← List.drop_eq_getElem_cons hlt]; exact List.Pairwise.sublist (List.drop_sublist _ _) hs
    simp only [lookoutref32_count.l0]
    rw [if_pos (by omega), if_pos (by omega), rdT_get l j hlt, wrap1 j (by omega), List.drop_eq_getElem_cons hlt, tot_cons]
    by_cases h : l[j].f0 = key
    · rw [if_pos ((toList_iff _ _).2 h), if_pos h, tot_none (fun y hy => by rw [← h]; exact hsd.ne y hy)]; simp
    · rw [if_neg (fun e => h ((toList_iff _ _).1 e)), if_neg h, ih k (j + 1) (by omega) (by omega) (by omega)]; simp
theorem rBounds_f (x : HV) (key : ByteArray) (k : Nat) (hl : x.f3.length ≤ 1000) (hk : 3 * x.f3.length + 9 < k) : lookoutref32_Bounds.f k x.f0 x.f1 x.f2 x.f3 key = some (bndH x key) := by
  unfold lookoutref32_Bounds.f bndH
  rw [rCheck_f x k hl hk]
  simp only [Option.bind_some]
  by_cases h1 : chkH x = 0
  · have V := (chkH_iff x).1 h1
    rw [if_pos h1, if_neg (show ¬ chkH x ≠ 0 by simpa using h1)]
    have := rcount_l0 key x.f0 x.f1 x.f2 x.f3 V.srt (by simp only [LB]; omega) x.f3.length k 0 (by omega) (by omega) (by omega)
    rw [List.drop_zero] at this
    have e : lookoutref32_count.f k x.f0 x.f1 x.f2 x.f3 key = some (tot x.f3 key) := this
    have h2 := tot_nonneg V.pos key
    have h3 := tot_le_sumI' V.pos key
    have h4 := V.sum
    have h5 := V.t1
    have h6 := V.l0
    have h7 := V.l1
    have h8 : 0 ≤ x.f0 * x.f2 := Int.mul_nonneg (by have := V.k0; omega) h6
    rw [e]
    simp only [Option.bind_some]
    rw [show wrap64 (tot x.f3 key + x.f2) = tot x.f3 key + x.f2 by unfold wrap64; omega]
    rfl
  · rw [if_neg h1, if_pos h1]
theorem rBounds_calls (x : HV) (key : ByteArray) (A : Option Addr) (c : Nat) (w : World) (hr : Kd.C k58 w A x.f3.length x.f3) (hc : x.f3.length ≤ c) (hl : x.f3.length ≤ 1000) :
    Calls Try.prog 20 #[.agg #[.int .i64 x.f0, .int .i64 x.f1, .int .i64 x.f2, .slice A x.f3.length c], .string key] w fun e w' => e = .returned (.tuple #[.int .i64 (bndH x key).1, .int .i64 (bndH x key).2.1, .int .i64 (bndH x key).2.2]) ∧ Below w.heap.size w w' :=
  lookoutref32_Bounds.calls (3 * x.f3.length + 10) _ _ _ A c _ key _ _ _ w hr hc (rBounds_f x key _ hl (by omega))
theorem rAbove_l0 (n : Int) (K T L : Int) (l : L58) (hl : l.length ≤ LB) (hb : ∀ y ∈ l, 0 ≤ y.f1 ∧ y.f1 ≤ 1099511627776) (hL : 0 ≤ L ∧ L ≤ 1099511627776) : ∀ (d k j : Nat), l.length - j = d → d < k → j ≤ l.length →
    lookoutref32_Above.l0 k n (abv (l.take j) (fun y => decide (n ≤ y.f1 + L))) (abv (l.take j) (fun y => decide (n ≤ y.f1))) (j : Int) K T L l = some (abv l (fun y => decide (n ≤ y.f1 + L)), abv l (fun y => decide (n ≤ y.f1)), 0) := by
  intro d
  induction d with
  | zero =>
    intro k j hn hk hj
    obtain ⟨k, rfl⟩ : ∃ m, k = m + 1 := ⟨k - 1, by omega⟩
    simp only [lookoutref32_Above.l0]
    rw [if_neg (by omega), List.take_of_length_le (by omega)]
  | succ d ih =>
    intro k j hn hk hj
    obtain ⟨k, rfl⟩ : ∃ m, k = m + 1 := ⟨k - 1, by omega⟩
    have hlb : l.length ≤ 1000000 := hl
    have hlt : j < l.length := by omega
    have hx := hb l[j] (List.getElem_mem hlt)
    have hih := ih k (j + 1) (by omega) (by omega) (by omega)
    rw [List.take_succ_eq_append_getElem hlt, abv_snoc, abv_snoc] at hih
    have l1 := abv_len (l.take j) (fun y => decide (n ≤ y.f1 + L))
    have l2 := abv_len (l.take j) (fun y => decide (n ≤ y.f1))
    rw [List.length_take] at l1 l2
    simp only [lookoutref32_Above.l0]
    rw [if_pos (by omega), if_pos (by omega), rdT_get l j hlt, wrap1 j (by omega), show wrap64 (l[j].f1 + L) = l[j].f1 + L by unfold wrap64; omega]
    by_cases h1 : n ≤ l[j].f1 + L
    · rw [if_pos h1, if_pos (by omega)]
      simp only [Option.bind_some]
      rw [if_pos (by simpa using h1)] at hih
      by_cases h2 : n ≤ l[j].f1
      · rw [if_pos h2, if_pos (by omega)]
        rw [if_pos (by simpa using h2)] at hih
        exact hih
      · rw [if_neg h2]
        rw [if_neg (by simpa using h2)] at hih
        exact hih
    · rw [if_neg h1]
      rw [if_neg (by simpa using h1)] at hih
      by_cases h2 : n ≤ l[j].f1
      · rw [if_pos h2, if_pos (by omega)]
        rw [if_pos (by simpa using h2)] at hih
        exact hih
      · rw [if_neg h2]
        rw [if_neg (by simpa using h2)] at hih
        exact hih
theorem rAbove_calls (x : HV) (n : Int) (A : Option Addr) (c : Nat) (w : World) (hr : Kd.C k58 w A x.f3.length x.f3) (hc : x.f3.length ≤ c) (hl : x.f3.length ≤ 1000) :
    Calls Try.prog 22 #[.agg #[.int .i64 x.f0, .int .i64 x.f1, .int .i64 x.f2, .slice A x.f3.length c], .int .i64 n] w fun e w' => ∃ v0 v1, e = .returned (.tuple #[v0, v1, .int .i64 (abvH x n).2.2]) ∧ CS w' v0 (abvH x n).1 ∧ CS w' v1 (abvH x n).2.1 ∧ Below w.heap.size w w' := by
  have hf : lookoutref32_Above.f (3 * x.f3.length + 10) x.f0 x.f1 x.f2 x.f3 n = some ((abvH x n).1, (abvH x n).2.1, (abvH x n).2.2) := by
    unfold lookoutref32_Above.f abvH
    rw [rCheck_f x _ hl (by omega)]
    simp only [Option.bind_some]
    by_cases h1 : chkH x = 0
    · have V := (chkH_iff x).1 h1
      rw [if_pos h1, if_neg (show ¬ chkH x ≠ 0 by simpa using h1)]
      by_cases h2 : n ≤ x.f2
      · rw [if_pos h2, if_pos h2]
      · rw [if_neg h2, if_neg h2]
        have := rAbove_l0 n x.f0 x.f1 x.f2 x.f3 (by simp only [LB]; omega) V.le ⟨V.l0, V.l1⟩ x.f3.length (3 * x.f3.length + 10) 0 (by omega) (by omega) (by omega)
        simpa [abv] using this
    · rw [if_neg h1, if_pos h1]
  refine (lookoutref32_Above.calls (3 * x.f3.length + 10) _ _ _ A c _ n _ _ _ w hr hc hf).mono ?_
  rintro e w' ⟨v0, v1, rfl, h0, h1, hb⟩
  exact ⟨v0, v1, rfl, Kd.R_reads h0, Kd.R_reads h1, hb⟩

set_option maxRecDepth 100000 in
set_option maxHeartbeats 8000000 in
theorem Reads_row (w : World) (x : HV) (A : Option Addr) (c : Nat) (hr : Kd.C k58 w A x.f3.length x.f3) (hc : x.f3.length ≤ c) (key : ByteArray) (hkm : key.size ≤ maxLen) (n : Int) (hnw : (Lit.int .i64 n).wf = true) :
    Calls Try.prog 4 #[.agg #[.int .i64 x.f0, .int .i64 x.f1, .int .i64 x.f2, .slice A x.f3.length c], .string key, .int .i64 n] w fun e w' => e = .returned (.bool true) ∧ Below w.heap.size w w' := by
  have hmax := Kd.C_max hr
  have HG := Aside0.mk (fun W (h : Below w.heap.size w W) => Great_calls x A c W (Kd.C_below hr h) hc)
  have HA := Aside0.mk (fun W => awake_calls W)
  have hu2 := Try.underlying24
  unfold maxLen at hkm
  by_cases hg : 20 < x.f3.length
  · have e : decide (20 < x.f3.length) = true := decide_eq_true hg
    rw [e] at HG
    obtain ⟨K, T, L, l⟩ := x
    simp only at *
    clear hg e hr
    go_enter Try.func4, Try.ntmps4
    go_wp2_with fail
    have HB := Aside0.mk (show Below w.heap.size w (w.alloc (.cells #[.int .i64 K, .int .i64 T, .int .i64 L, .slice A l.length c] 24)) by repeat (first | exact Below.refl _ _ | apply below_alloc))
    go_wp2_with (first
      | (go_at_call 10; (with_reducible refine (HG.out _ HB.out).mono ?_); rintro e w1 ⟨rfl, hb⟩; have HB1 := Aside0.mk (HB.out.trans (hb.mono HB.out.size)); clear hb)
      | (go_at_call 11; (with_reducible refine (HA.out _).mono ?_); rintro e w2 ⟨rfl, hb⟩; have HB2 := Aside0.mk (HB1.out.trans (hb.mono HB1.out.size)); clear hb))
    go_ret
    exact ⟨rfl, HB2.out⟩
  · have e : decide (20 < x.f3.length) = false := decide_eq_false hg
    rw [e] at HG
    have hl : x.f3.length ≤ 20 := by omega
    have HB1 := Aside0.mk (fun W (h : Below w.heap.size w W) => Bounds_calls x key A c W (Kd.C_below hr h) hc (by omega))
    have HB2 := Aside0.mk (fun W (h : Below w.heap.size w W) => rBounds_calls x key A c W (Kd.C_below hr h) hc (by omega))
    have HA1 := Aside0.mk (fun W (h : Below w.heap.size w W) => Above_calls x n A c W (Kd.C_below hr h) hc (by simp only [LB]; omega))
    have HA2 := Aside0.mk (fun W (h : Below w.heap.size w W) => rAbove_calls x n A c W (Kd.C_below hr h) hc (by omega))
    have HE1 := Aside0.mk (fun W v v' (h1 : CS W v (abvH x n).1) (h2 : CS W v' (abvH x n).1) => EqualS_calls (abvH x n).1 v v' W h1 h2 (abvH_len x n (by omega)).1)
    have HE2 := Aside0.mk (fun W v v' (h1 : CS W v (abvH x n).2.1) (h2 : CS W v' (abvH x n).2.1) => EqualS_calls (abvH x n).2.1 v v' W h1 h2 (abvH_len x n (by omega)).2)
    generalize bndH x key = bb at *
    generalize abvH x n = aa at *
    obtain ⟨K, T, L, l⟩ := x
    obtain ⟨b0, b1, b2⟩ := bb
    obtain ⟨a0, a1, a2⟩ := aa
    simp only at *
    clear hg e hr
    go_enter Try.func4, Try.ntmps4
    go_wp2_with fail
    have hW0 := Aside0.mk (show Below w.heap.size w (w.alloc (.cells #[.int .i64 K, .int .i64 T, .int .i64 L, .slice A l.length c] 24)) by repeat (first | exact Below.refl _ _ | apply below_alloc))
    have BX := Aside0.mk (heap_alloc_new w (.cells #[.int .i64 K, .int .i64 T, .int .i64 L, .slice A l.length c] 24))
    have hS := Aside0.mk (show w.heap.size < (w.alloc (.cells #[.int .i64 K, .int .i64 T, .int .i64 L, .slice A l.length c] 24)).heap.size by simp)
    have HBB := Aside0.mk (Below.refl (w.alloc (.cells #[.int .i64 K, .int .i64 T, .int .i64 L, .slice A l.length c] 24)).heap.size (w.alloc (.cells #[.int .i64 K, .int .i64 T, .int .i64 L, .slice A l.length c] 24)))
    generalize hWW : w.alloc (.cells #[.int .i64 K, .int .i64 T, .int .i64 L, .slice A l.length c] 24) = W0 at *
    clear hWW
    have x0 := (blk_cell BX.out 0).trans rfl
    have x1 := (blk_cell BX.out 1).trans rfl
    have x2 := (blk_cell BX.out 2).trans rfl
    have x3 := (blk_cell BX.out 3).trans rfl
    simp only [List.getElem?_toArray, List.getElem?_cons_zero, List.getElem?_cons_succ] at x0 x1 x2 x3
    go_wp2_with (first
      | (go_at_call 10; (with_reducible refine (HG.out _ (hW0.out.trans (HBB.out.mono hW0.out.size))).mono ?_); rintro e w1 ⟨rfl, hb⟩; have n1_ := Aside0.mk (HBB.out.trans (hb.mono HBB.out.size)); clear HBB; have HBB := n1_; clear n1_; clear hb HG; clear x0 x1 x2 x3; have x0 := (blk_cell ((HBB.out.block w.heap.size hS.out).trans BX.out) 0).trans rfl; have x1 := (blk_cell ((HBB.out.block w.heap.size hS.out).trans BX.out) 1).trans rfl; have x2 := (blk_cell ((HBB.out.block w.heap.size hS.out).trans BX.out) 2).trans rfl; have x3 := (blk_cell ((HBB.out.block w.heap.size hS.out).trans BX.out) 3).trans rfl; simp only [List.getElem?_toArray, List.getElem?_cons_zero, List.getElem?_cons_succ] at x0 x1 x2 x3)
      | (go_at_call 11; (with_reducible refine (HA.out _).mono ?_); rintro e w9 ⟨rfl, hb⟩; have n1_ := Aside0.mk (HBB.out.trans (hb.mono HBB.out.size)); clear HBB; have HBB := n1_; clear n1_; clear hb; clear x0 x1 x2 x3; have x0 := (blk_cell ((HBB.out.block w.heap.size hS.out).trans BX.out) 0).trans rfl; have x1 := (blk_cell ((HBB.out.block w.heap.size hS.out).trans BX.out) 1).trans rfl; have x2 := (blk_cell ((HBB.out.block w.heap.size hS.out).trans BX.out) 2).trans rfl; have x3 := (blk_cell ((HBB.out.block w.heap.size hS.out).trans BX.out) 3).trans rfl; simp only [List.getElem?_toArray, List.getElem?_cons_zero, List.getElem?_cons_succ] at x0 x1 x2 x3)
      | (go_at_call 19; (with_reducible refine (HB1.out _ (hW0.out.trans (HBB.out.mono hW0.out.size))).mono ?_); rintro e w2 ⟨rfl, hb⟩; have n1_ := Aside0.mk (HBB.out.trans (hb.mono HBB.out.size)); clear HBB; have HBB := n1_; clear n1_; clear hb HB1; clear x0 x1 x2 x3; have x0 := (blk_cell ((HBB.out.block w.heap.size hS.out).trans BX.out) 0).trans rfl; have x1 := (blk_cell ((HBB.out.block w.heap.size hS.out).trans BX.out) 1).trans rfl; have x2 := (blk_cell ((HBB.out.block w.heap.size hS.out).trans BX.out) 2).trans rfl; have x3 := (blk_cell ((HBB.out.block w.heap.size hS.out).trans BX.out) 3).trans rfl; simp only [List.getElem?_toArray, List.getElem?_cons_zero, List.getElem?_cons_succ] at x0 x1 x2 x3)
      | (go_at_call 20; (with_reducible refine (HB2.out _ (hW0.out.trans (HBB.out.mono hW0.out.size))).mono ?_); rintro e w3 ⟨rfl, hb⟩; have n1_ := Aside0.mk (HBB.out.trans (hb.mono HBB.out.size)); clear HBB; have HBB := n1_; clear n1_; clear hb HB2; clear x0 x1 x2 x3; have x0 := (blk_cell ((HBB.out.block w.heap.size hS.out).trans BX.out) 0).trans rfl; have x1 := (blk_cell ((HBB.out.block w.heap.size hS.out).trans BX.out) 1).trans rfl; have x2 := (blk_cell ((HBB.out.block w.heap.size hS.out).trans BX.out) 2).trans rfl; have x3 := (blk_cell ((HBB.out.block w.heap.size hS.out).trans BX.out) 3).trans rfl; simp only [List.getElem?_toArray, List.getElem?_cons_zero, List.getElem?_cons_succ] at x0 x1 x2 x3)
      | (go_at_call 21; (with_reducible refine (HA1.out _ (hW0.out.trans (HBB.out.mono hW0.out.size))).mono ?_); rintro e w4 ⟨v0, v1, rfl, h0, h1, hb⟩; have n1_ := Aside0.mk (HBB.out.trans (hb.mono HBB.out.size)); clear HBB; have HBB := n1_; clear n1_; have H0 := Aside0.mk h0; have H1 := Aside0.mk h1; clear hb h0 h1 HA1; clear x0 x1 x2 x3; have x0 := (blk_cell ((HBB.out.block w.heap.size hS.out).trans BX.out) 0).trans rfl; have x1 := (blk_cell ((HBB.out.block w.heap.size hS.out).trans BX.out) 1).trans rfl; have x2 := (blk_cell ((HBB.out.block w.heap.size hS.out).trans BX.out) 2).trans rfl; have x3 := (blk_cell ((HBB.out.block w.heap.size hS.out).trans BX.out) 3).trans rfl; simp only [List.getElem?_toArray, List.getElem?_cons_zero, List.getElem?_cons_succ] at x0 x1 x2 x3)
      | (go_at_call 22; (with_reducible refine (HA2.out _ (hW0.out.trans (HBB.out.mono hW0.out.size))).mono ?_); rintro e w5 ⟨u0, u1, rfl, h0, h1, hb⟩; have H0' := Aside0.mk (H0.out.below hb); have H1' := Aside0.mk (H1.out.below hb); have G0 := Aside0.mk h0; have G1 := Aside0.mk h1; have n1_ := Aside0.mk (HBB.out.trans (hb.mono HBB.out.size)); clear HBB; have HBB := n1_; clear n1_; clear hb h0 h1 HA2; clear x0 x1 x2 x3; have x0 := (blk_cell ((HBB.out.block w.heap.size hS.out).trans BX.out) 0).trans rfl; have x1 := (blk_cell ((HBB.out.block w.heap.size hS.out).trans BX.out) 1).trans rfl; have x2 := (blk_cell ((HBB.out.block w.heap.size hS.out).trans BX.out) 2).trans rfl; have x3 := (blk_cell ((HBB.out.block w.heap.size hS.out).trans BX.out) 3).trans rfl; simp only [List.getElem?_toArray, List.getElem?_cons_zero, List.getElem?_cons_succ] at x0 x1 x2 x3)
      | (go_at_call 23; (with_reducible refine (HE1.out _ _ _ H0'.out G0.out).mono ?_); rintro e w6 ⟨rfl, hd⟩; have hb := hd.below; have H1'' := Aside0.mk (H1'.out.below hb); have G1' := Aside0.mk (G1.out.below hb); have n1_ := Aside0.mk (HBB.out.trans (hb.mono HBB.out.size)); clear HBB; have HBB := n1_; clear n1_; clear hb hd HE1; clear x0 x1 x2 x3; have x0 := (blk_cell ((HBB.out.block w.heap.size hS.out).trans BX.out) 0).trans rfl; have x1 := (blk_cell ((HBB.out.block w.heap.size hS.out).trans BX.out) 1).trans rfl; have x2 := (blk_cell ((HBB.out.block w.heap.size hS.out).trans BX.out) 2).trans rfl; have x3 := (blk_cell ((HBB.out.block w.heap.size hS.out).trans BX.out) 3).trans rfl; simp only [List.getElem?_toArray, List.getElem?_cons_zero, List.getElem?_cons_succ] at x0 x1 x2 x3)
      | (go_at_call 23; (with_reducible refine (HE2.out _ _ _ H1''.out G1'.out).mono ?_); rintro e w7 ⟨rfl, hd⟩; have hb := hd.below; have n1_ := Aside0.mk (HBB.out.trans (hb.mono HBB.out.size)); clear HBB; have HBB := n1_; clear n1_; clear hb hd HE2; clear x0 x1 x2 x3; have x0 := (blk_cell ((HBB.out.block w.heap.size hS.out).trans BX.out) 0).trans rfl; have x1 := (blk_cell ((HBB.out.block w.heap.size hS.out).trans BX.out) 1).trans rfl; have x2 := (blk_cell ((HBB.out.block w.heap.size hS.out).trans BX.out) 2).trans rfl; have x3 := (blk_cell ((HBB.out.block w.heap.size hS.out).trans BX.out) 3).trans rfl; simp only [List.getElem?_toArray, List.getElem?_cons_zero, List.getElem?_cons_succ] at x0 x1 x2 x3))
    · go_ret
      exact ⟨rfl, hW0.out.trans (HBB.out.mono hW0.out.size)⟩
    · go_ret
      exact ⟨rfl, hW0.out.trans (HBB.out.mono hW0.out.size)⟩
end Go.Proofs.Ytgpkpeefbkcjeaa.H
