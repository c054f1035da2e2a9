/- The walk of SeriesCheck. -/
import Derived.Test.YtjgkcgfbkcbjfaaSLInc
import Derived.Test.YtjgkcgfbkcbjfaaGOpn2
namespace Go.Proofs.Ytjgkcgfbkcbjfaa.H
open Go Go.RowKit Go.Proofs.YtjgkcgfbkcbjfaaW.PrintWords Go.Proofs.YtjgkcgfbkcbjfaaW.PrintLast Go.Proofs.YtjgkcgfbkcbjfaaW.PrintMore Go.Proofs.Ytjgkcgfbkcbjfaa.PAll
set_option linter.unusedVariables false
set_option linter.unusedSimpArgs false

theorem Slice_calls (A : Option Addr) (c : Nat) (l : L29) (a b : Int) (w : World) (hr : Kd.C k29 w A l.length l) (hc : l.length ≤ c) (hl : l.length ≤ 1000000) :
    Calls Try.prog 17 #[.slice A l.length c, .int .i64 a, .int .i64 b] w fun e w' => ∃ v, e = .returned v ∧ Kd.R k29 29 w' w.heap.size (fun _ => True) v (slc l a b) ∧ Below w.heap.size w w' :=
  series_Slice.calls (l.length + 1) A c l a b _ w hr hc (sSlice_f l a b _ hl (by omega))
theorem rSlice_calls (A : Option Addr) (c : Nat) (l : L29) (a b : Int) (w : World) (hr : Kd.C k29 w A l.length l) (hc : l.length ≤ c) (hl : l.length ≤ 1000000) :
    Calls Try.prog 18 #[.slice A l.length c, .int .i64 a, .int .i64 b] w fun e w' => ∃ v, e = .returned v ∧ Kd.R k29 29 w' w.heap.size (fun _ => True) v (slc l a b) ∧ Below w.heap.size w w' :=
  lookoutref11_Slice.calls (l.length + 1) A c l a b _ w hr hc (rSlice_f l a b _ hl (by omega))
theorem rIncrease_calls (A : Option Addr) (c : Nat) (l : L29) (w : World) (hr : Kd.C k29 w A l.length l) (hc : l.length ≤ c) (hl : l.length ≤ 1000000) :
    Calls Try.prog 19 #[.slice A l.length c] w fun e w' => e = .returned (.int .i64 (inc l)) ∧ Below w.heap.size w w' :=
  lookoutref11_Increase.calls (2 * l.length + 3) A c l _ w hr hc (rIncrease_f l _ hl (by omega))
theorem rResets_calls (A : Option Addr) (c : Nat) (l : L29) (w : World) (hr : Kd.C k29 w A l.length l) (hc : l.length ≤ c) (hl : l.length ≤ 1000000) :
    Calls Try.prog 20 #[.slice A l.length c] w fun e w' => e = .returned (.int .i64 (rst l)) ∧ Below w.heap.size w w' :=
  lookoutref11_Resets.calls (2 * l.length + 3) A c l _ w hr hc (rResets_f l _ hl (by omega))
theorem slc_len (l : L29) (a b : Int) : (slc l a b).length ≤ l.length := List.length_filter_le _ _
/-- Same of two rows that hold the same, or not. -/
theorem Same_R (v v' : Value) (b b' : Nat) (ok ok' : Nat → Prop) (m m' : L29) (W W' : World) (h1 : Kd.R k29 29 W b ok v m) (h2 : Kd.R k29 29 W' b' ok' v' m') (hb : Below W.heap.size W W') (hm : m.length ≤ 1000000) :
    Calls Try.prog 16 #[v, v'] W' fun e w' => e = .returned (.bool (sameB m m')) ∧ Drawn0 W' w' := by
  obtain ⟨A, c, rfl, hc, hC⟩ := Kd.R_reads h1
  obtain ⟨A', c', rfl, hc', hC'⟩ := Kd.R_reads h2
  exact Same_calls A A' c c' m m' W' (Kd.C_below hC hb) hc hC' hc' hm

set_option maxRecDepth 100000 in
set_option maxHeartbeats 8000000 in
theorem SeriesCheck_row (w : World) (kind : Int) (_ : (Lit.int .i64 kind).wf = true) (A : Option Addr) (l : L29) (c0 : Nat) (hr0 : Kd.C k29 w A l.length l) (hc0 : l.length ≤ c0) (_ : ∀ x ∈ l, (Lit.int .i64 x.f0).wf = true ∧ (Lit.int .i64 x.f1).wf = true) (a b : Int) :
    Calls Try.prog 4 #[.int .i64 kind, .slice A l.length c0, .agg #[.int .i64 a, .int .i64 b]] w fun e w' => e = .returned (.bool true) ∧ Below w.heap.size w w' := by
  have HG := Aside0.mk (fun W n hn (h : Below w.heap.size w W) => great1 W n hn A c0 l (Kd.C_below hr0 h) hc0)
  have HA := Aside0.mk (fun W => awake_calls W)
  have HB2 := Aside0.mk (Below.refl w.heap.size w)
  have hX := heap_alloc_new w (.cells #[.int .i64 a, .int .i64 b] 31)
  cases hg : greatB l with
  | true =>
    rw [hg] at HG
    clear hg hr0 hc0
    go_enter Try.func4, Try.ntmps4
    go_wp2_with (first
      | (go_at_call 10; refine (HG.out _ _ (by simp) (by repeat (first | exact HB2.out | apply below_alloc | apply pw_below_drewN | apply below_drew))).mono ?_; rintro e w1 ⟨rfl, ⟨q, rfl⟩⟩)
      | (go_at_call 12; refine (HA.out _).mono ?_; rintro e w2 ⟨rfl, hb⟩; have n1_ := Aside0.mk ((show Below w.heap.size w _ by repeat (first | exact HB2.out | apply below_alloc | apply pw_below_drewN | apply below_drew)).trans (hb.mono (by have := HB2.out.size; simp; try omega))); clear HB2; have HB2 := n1_; clear n1_; clear hb))
    go_ret
    exact ⟨rfl, HB2.out⟩
  | false =>
    have hl24 : l.length ≤ 24 := by simpa [greatB] using hg
    rw [hg] at HG
    clear hg
    have HCK := Aside0.mk (fun W (h : Below w.heap.size w W) => Check_calls kind A c0 l W (Kd.C_below hr0 h) hc0 (by omega))
    have HRC := Aside0.mk (fun W (h : Below w.heap.size w W) => rCheck_calls kind A c0 l W (Kd.C_below hr0 h) hc0 (by omega))
    have HSL := Aside0.mk (fun W (h : Below w.heap.size w W) => Slice_calls A c0 l a b W (Kd.C_below hr0 h) hc0 (by omega))
    have HRS := Aside0.mk (fun W (h : Below w.heap.size w W) => rSlice_calls A c0 l a b W (Kd.C_below hr0 h) hc0 (by omega))
    have HIN := Aside0.mk (fun W (h : Below w.heap.size w W) => Increase_calls A c0 l W (Kd.C_below hr0 h) hc0 (by omega))
    have HRI := Aside0.mk (fun W (h : Below w.heap.size w W) => rIncrease_calls A c0 l W (Kd.C_below hr0 h) hc0 (by omega))
    have HRE := Aside0.mk (fun W (h : Below w.heap.size w W) => Resets_calls A c0 l W (Kd.C_below hr0 h) hc0 (by omega))
    have HRR := Aside0.mk (fun W (h : Below w.heap.size w W) => rResets_calls A c0 l W (Kd.C_below hr0 h) hc0 (by omega))
    have hsl : (slc l a b).length ≤ 1000000 := Nat.le_trans (slc_len l a b) (by omega)
    have HSM := Aside0.mk (fun v v' b0 b' W W' h1 h2 hb => Same_R v v' b0 b' (fun _ => True) (fun _ => True) (slc l a b) (slc l a b) W W' h1 h2 hb hsl)
    rw [sameB_refl] at HSM
    clear hr0 hc0 hsl
    generalize slc l a b = m at *
    generalize chkK kind l = ck at *
    generalize inc l = I at *
    generalize rst l = R at *
    have hx0 := cell_of_heap hX 0 _ rfl
    have hx1 := cell_of_heap hX 1 _ rfl
    go_enter Try.func4, Try.ntmps4
    go_wp2_with (first
      | (go_at_call 10; refine (HG.out _ _ (by simp) (by repeat (first | exact HB2.out | apply below_alloc | apply pw_below_drewN | apply below_drew))).mono ?_; rintro e w1 ⟨rfl, ⟨q, rfl⟩⟩))
    have hy0 := cell_of_heap (heap_alloc_keep (o := .cells #[.slice A l.length c0] 22) hX) 0 _ rfl
    have hy1 := cell_of_heap (heap_alloc_keep (o := .cells #[.slice A l.length c0] 22) hX) 1 _ rfl
    go_quiet (fail)
    go_wp2_with (first
      | (go_at_call 15; refine (HCK.out _ (by repeat (first | exact HB2.out | apply below_alloc | apply pw_below_drewN | apply below_drew))).mono ?_; rintro e w2 ⟨rfl, hb⟩; have n1_ := Aside0.mk ((show Below w.heap.size w _ by repeat (first | exact HB2.out | apply below_alloc | apply pw_below_drewN | apply below_drew)).trans (hb.mono (by have := HB2.out.size; simp; try omega))); clear HB2; have HB2 := n1_; clear n1_; clear hb)
      | (go_at_call 11; refine (HRC.out _ (by repeat (first | exact HB2.out | apply below_alloc | apply pw_below_drewN | apply below_drew))).mono ?_; rintro e w3 ⟨rfl, hb⟩; have n1_ := Aside0.mk ((show Below w.heap.size w _ by repeat (first | exact HB2.out | apply below_alloc | apply pw_below_drewN | apply below_drew)).trans (hb.mono (by have := HB2.out.size; simp; try omega))); clear HB2; have HB2 := n1_; clear n1_; clear hb)
      | (go_at_call 17; refine (HSL.out _ (by repeat (first | exact HB2.out | apply below_alloc | apply pw_below_drewN | apply below_drew))).mono ?_; rintro e w4 ⟨v4, rfl, hR, hb⟩; have HR4 := Aside0.mk hR; have n1_ := Aside0.mk ((show Below w.heap.size w _ by repeat (first | exact HB2.out | apply below_alloc | apply pw_below_drewN | apply below_drew)).trans (hb.mono (by have := HB2.out.size; simp; try omega))); clear HB2; have HB2 := n1_; clear n1_; clear hb hR; have B4 := Aside0.mk (Below.refl w4.heap.size w4))
      | (go_at_call 18; refine (HRS.out _ (by repeat (first | exact HB2.out | apply below_alloc | apply pw_below_drewN | apply below_drew))).mono ?_; rintro e w5 ⟨v5, rfl, hR, hb⟩; have HR5 := Aside0.mk hR; have n1_ := Aside0.mk ((show Below w.heap.size w _ by repeat (first | exact HB2.out | apply below_alloc | apply pw_below_drewN | apply below_drew)).trans (hb.mono (by have := HB2.out.size; simp; try omega))); clear HB2; have HB2 := n1_; clear n1_; have n1_ := Aside0.mk ((show Below w4.heap.size w4 _ by repeat (first | exact B4.out | apply below_alloc | apply pw_below_drewN | apply below_drew)).trans (hb.mono (by have := B4.out.size; simp; try omega))); clear B4; have B4 := n1_; clear n1_; clear hb hR)
      | (go_at_call 16; refine (HSM.out _ _ _ _ _ _ HR4.out HR5.out B4.out).mono ?_; rintro e w6 ⟨rfl, ⟨q6, rfl⟩⟩)
      | (go_at_call 13; refine (HIN.out _ (by repeat (first | exact HB2.out | apply below_alloc | apply pw_below_drewN | apply below_drew))).mono ?_; rintro e w7 ⟨rfl, hb⟩; have n1_ := Aside0.mk ((show Below w.heap.size w _ by repeat (first | exact HB2.out | apply below_alloc | apply pw_below_drewN | apply below_drew)).trans (hb.mono (by have := HB2.out.size; simp; try omega))); clear HB2; have HB2 := n1_; clear n1_; clear hb)
      | (go_at_call 19; refine (HRI.out _ (by repeat (first | exact HB2.out | apply below_alloc | apply pw_below_drewN | apply below_drew))).mono ?_; rintro e w7 ⟨rfl, hb⟩; have n1_ := Aside0.mk ((show Below w.heap.size w _ by repeat (first | exact HB2.out | apply below_alloc | apply pw_below_drewN | apply below_drew)).trans (hb.mono (by have := HB2.out.size; simp; try omega))); clear HB2; have HB2 := n1_; clear n1_; clear hb)
      | (go_at_call 14; refine (HRE.out _ (by repeat (first | exact HB2.out | apply below_alloc | apply pw_below_drewN | apply below_drew))).mono ?_; rintro e w7 ⟨rfl, hb⟩; have n1_ := Aside0.mk ((show Below w.heap.size w _ by repeat (first | exact HB2.out | apply below_alloc | apply pw_below_drewN | apply below_drew)).trans (hb.mono (by have := HB2.out.size; simp; try omega))); clear HB2; have HB2 := n1_; clear n1_; clear hb)
      | (go_at_call 20; refine (HRR.out _ (by repeat (first | exact HB2.out | apply below_alloc | apply pw_below_drewN | apply below_drew))).mono ?_; rintro e w7 ⟨rfl, hb⟩; have n1_ := Aside0.mk ((show Below w.heap.size w _ by repeat (first | exact HB2.out | apply below_alloc | apply pw_below_drewN | apply below_drew)).trans (hb.mono (by have := HB2.out.size; simp; try omega))); clear HB2; have HB2 := n1_; clear n1_; clear hb)
      | (go_at_call 12; refine (HA.out _).mono ?_; rintro e w2 ⟨rfl, hb⟩; have n1_ := Aside0.mk ((show Below w.heap.size w _ by repeat (first | exact HB2.out | apply below_alloc | apply pw_below_drewN | apply below_drew)).trans (hb.mono (by have := HB2.out.size; simp; try omega))); clear HB2; have HB2 := n1_; clear n1_; clear hb))
    go_ret
    exact ⟨rfl, HB2.out⟩
end Go.Proofs.Ytjgkcgfbkcbjfaa.H
