/- awake of the laws of layer 11. -/
import Derived.Test.YtjgkcgfbkcbjfaaSIns
namespace Go.Proofs.Ytjgkcgfbkcbjfaa.H
open Go Go.RowKit Go.Proofs.YtjgkcgfbkcbjfaaW.PrintWords Go.Proofs.YtjgkcgfbkcbjfaaW.PrintLast Go.Proofs.YtjgkcgfbkcbjfaaW.PrintMore Go.Proofs.Ytjgkcgfbkcbjfaa.PAll
set_option linter.unusedVariables false
set_option linter.unusedSimpArgs false

theorem C_lit (W : World) (n : Nat) (hn : n = W.heap.size) (l : L29) (hl : l.length ≤ 1000000) : Kd.C k29 (W.alloc (.cells (lcells l).toArray 29)) (some ⟨n, 0, none⟩) l.length l := by
  subst hn
  have h : (W.alloc (.cells (lcells l).toArray 29)).ownsRow 0 29 2 (.slice (some ⟨W.heap.size, 0, none⟩) l.length l.length) l.length (lcells l) :=
    ⟨lcells_length l, .inr ⟨W.heap.size, l.length, _, rfl, Nat.zero_le _, heap_alloc_new W _, Nat.le_refl _, by unfold maxLen; omega, by simp [lcells_length], by rw [List.take_of_length_le (by rw [lcells_length]; omega)]⟩⟩
  exact (Kd.R_reads' (R_of_lcells h)).2.2
theorem C_lit_ints (W : World) (n : Nat) (hn : n = W.heap.size) (l : List Int) (hl : l.length ≤ 1000) (e : Nat) : Kd.C (Kd.int .i64) (W.alloc (.cells (l.map (Value.int .i64)).toArray e)) (some ⟨n, 0, none⟩) l.length l := by
  subst hn
  refine ⟨rfl, by omega, fun _ => ⟨_, rfl, fun j p hj => ?_⟩⟩
  refine ⟨[.int .i64 p], rfl, rfl, fun i u hu => ?_⟩
  rcases i with _ | i
  · simp at hu; subst hu
    rw [add_plain]
    exact cell_of_heap (heap_alloc_new W _) _ _ (by simpa [Kd.int, Kd.scalar] using hj)
  · simp at hu

theorem Same_calls (A0 A1 : Option Addr) (c0 c1 : Nat) (l m : L29) (w : World) (hr0 : Kd.C k29 w A0 l.length l) (hc0 : l.length ≤ c0) (hr1 : Kd.C k29 w A1 m.length m) (hc1 : m.length ≤ c1) (hl : l.length ≤ 1000000) :
    Calls Try.prog 16 #[.slice A0 l.length c0, .slice A1 m.length c1] w fun e w' => e = .returned (.bool (sameB l m)) ∧ Drawn0 w w' :=
  lookoutref11_Same.calls (l.length + 1) A0 c0 l A1 c1 m _ w hr0 hc0 hr1 hc1 (rSame_f l m _ (by omega) (by omega))

def exL : L29 := [⟨1, 5⟩, ⟨2, 8⟩, ⟨3, 2⟩, ⟨4, 4⟩]
theorem ex_samples : lookoutlaw11_samples.f 10 [5, 8, 2, 4] = some exL := by kernel_rfl
theorem ex_ins : insS (exL.take 3) ⟨4, 4⟩ = (exL, 0) := by kernel_rfl
theorem ex_inc : inc exL = 7 := by kernel_rfl
theorem ex_rst : rst exL = 1 := by kernel_rfl
theorem ex_chk : chkK 2 exL = 0 := by kernel_rfl

set_option maxRecDepth 100000 in
set_option maxHeartbeats 8000000 in
theorem awake_calls (w : World) : Calls Try.prog 12 #[] w fun e w' => e = .returned (.bool true) ∧ Below w.heap.size w w' := by
  have HB2 := Aside0.mk (Below.refl w.heap.size w)
  have HSM := Aside0.mk (lookoutlaw11_samples.calls 10 (some ⟨w.heap.size, 0, none⟩) 4 [5, 8, 2, 4] exL (w.alloc (.cells #[.int .i64 5, .int .i64 8, .int .i64 2, .int .i64 4] 3)) (C_lit_ints w _ rfl [5, 8, 2, 4] (by decide) 3) (by decide) ex_samples)
  have mixed : Try.prog.follows .mixedOrders = true := by kernel_rfl
  go_enter Try.func12, Try.ntmps12
  go_wp2_with (go_at_call 34; refine HSM.out.mono ?_; rintro e w1 ⟨v1, rfl, hR, hb⟩; obtain ⟨A, c, rfl, hlc, hC⟩ := (show ∃ A c, v1 = .slice A 4 c ∧ 4 ≤ c ∧ Kd.C k29 w1 A 4 exL from Kd.R_reads hR); have HC := Aside0.mk (And.intro hlc hC); have n1_ := Aside0.mk ((show Below w.heap.size w _ by repeat (first | exact HB2.out | apply below_alloc | apply pw_below_drewN | apply below_drew)).trans (hb.mono (by have := HB2.out.size; simp; try omega))); clear HB2; have HB2 := n1_; clear n1_; clear hb hR hlc hC)
  obtain ⟨ad, e1, hd0, hd1⟩ := at_T29 HC.out.2 3 (by decide) (by decide)
  cases e1
  have hc4 := HC.out.1
  have hc3 : (3 : Int) ≤ (c : Int) := by omega
  have hc3' : 3 ≤ c := by omega
  have HIN := Aside0.mk (fun W (h : Below w1.heap.size w1 W) => Insert_S (some ad) c (exL.take 3) ⟨4, 4⟩ W (Kd.C_below (Kd.C_take HC.out.2 (by decide)) h) hc3' (by decide))
  rw [ex_ins] at HIN
  have B1 := Aside0.mk (Below.refl w1.heap.size w1)
  have HINC := Aside0.mk (fun W (h : Below w1.heap.size w1 W) => Increase_calls (some ad) c exL W (Kd.C_below HC.out.2 h) HC.out.1 (by decide))
  have HRST := Aside0.mk (fun W (h : Below w1.heap.size w1 W) => Resets_calls (some ad) c exL W (Kd.C_below HC.out.2 h) HC.out.1 (by decide))
  have HCHK := Aside0.mk (fun W (h : Below w1.heap.size w1 W) => Check_calls 2 (some ad) c exL W (Kd.C_below HC.out.2 h) HC.out.1 (by decide))
  rw [ex_inc] at HINC
  rw [ex_rst] at HRST
  rw [ex_chk] at HCHK
  rw [show rd_T29 exL 3 = ⟨4, 4⟩ from rfl] at hd0 hd1
  have hd0' : w1.cell? ⟨ad.block, ad.off + 6, none⟩ = some (.int .i64 4) := by simpa [Addr.add] using hd0
  have hd1' : w1.cell? ⟨ad.block, ad.off + 6 + 1, none⟩ = some (.int .i64 4) := by simpa [Addr.add] using hd1
  go_region_held3 (fun w' => w'.cell? ⟨ad.block, ad.off + 6, none⟩ = some (.int .i64 4) ∧ w'.cell? ⟨ad.block, ad.off + 6 + 1, none⟩ = some (.int .i64 4)) (go_keep)
    (first
    | (go_at_call 22; refine (HIN.out _ (by repeat (first | exact B1.out | apply below_alloc | apply pw_below_drewN | apply below_drew))).mono ?_; rintro e w2 ⟨v2, rfl, hR, hb⟩; obtain ⟨A2, c2, rfl, hlc2, hC2⟩ := (show ∃ A c, v2 = .slice A 4 c ∧ 4 ≤ c ∧ Kd.C k29 w2 A 4 exL from Kd.R_reads hR); have HC2 := Aside0.mk (And.intro hlc2 hC2); have hk0 := (hb.cell (World.block_lt_of_cell? _ _ hd0')).trans hd0'; have hk1 := (hb.cell (World.block_lt_of_cell? _ _ hd1')).trans hd1'; have n1_ := Aside0.mk ((show Below w.heap.size w _ by repeat (first | exact HB2.out | apply below_alloc | apply pw_below_drewN | apply below_drew)).trans (hb.mono (by have := HB2.out.size; simp; try omega))); clear HB2; have HB2 := n1_; clear n1_; have n1_ := Aside0.mk ((show Below w1.heap.size w1 _ by repeat (first | exact B1.out | apply below_alloc | apply pw_below_drewN | apply below_drew)).trans (hb.mono (by have := B1.out.size; simp; try omega))); clear B1; have B1 := n1_; clear n1_; have B2 := Aside0.mk (Below.refl w2.heap.size w2); clear hb hR hlc2 hC2))
  have HSA := Aside0.mk (fun W (h1 : Below w1.heap.size w1 W) (h2 : Below w2.heap.size w2 W) => Same_calls A2 (some ad) c2 c exL exL W (Kd.C_below HC2.out.2 h2) HC2.out.1 (Kd.C_below HC.out.2 h1) HC.out.1 (by decide))
  rw [sameB_refl] at HSA
  go_wp2_with (first
    | (go_at_call 13; refine (HINC.out _ (by repeat (first | exact B1.out | apply below_alloc | apply pw_below_drewN | apply below_drew))).mono ?_; rintro e w3 ⟨rfl, hb⟩; have n1_ := Aside0.mk ((show Below w.heap.size w _ by repeat (first | exact HB2.out | apply below_alloc | apply pw_below_drewN | apply below_drew)).trans (hb.mono (by have := HB2.out.size; simp; try omega))); clear HB2; have HB2 := n1_; clear n1_; have n1_ := Aside0.mk ((show Below w1.heap.size w1 _ by repeat (first | exact B1.out | apply below_alloc | apply pw_below_drewN | apply below_drew)).trans (hb.mono (by have := B1.out.size; simp; try omega))); clear B1; have B1 := n1_; clear n1_; have n1_ := Aside0.mk ((show Below w2.heap.size w2 _ by repeat (first | exact B2.out | apply below_alloc | apply pw_below_drewN | apply below_drew)).trans (hb.mono (by have := B2.out.size; simp; try omega))); clear B2; have B2 := n1_; clear n1_; clear hb)
    | (go_at_call 14; refine (HRST.out _ (by repeat (first | exact B1.out | apply below_alloc | apply pw_below_drewN | apply below_drew))).mono ?_; rintro e w3 ⟨rfl, hb⟩; have n1_ := Aside0.mk ((show Below w.heap.size w _ by repeat (first | exact HB2.out | apply below_alloc | apply pw_below_drewN | apply below_drew)).trans (hb.mono (by have := HB2.out.size; simp; try omega))); clear HB2; have HB2 := n1_; clear n1_; have n1_ := Aside0.mk ((show Below w1.heap.size w1 _ by repeat (first | exact B1.out | apply below_alloc | apply pw_below_drewN | apply below_drew)).trans (hb.mono (by have := B1.out.size; simp; try omega))); clear B1; have B1 := n1_; clear n1_; have n1_ := Aside0.mk ((show Below w2.heap.size w2 _ by repeat (first | exact B2.out | apply below_alloc | apply pw_below_drewN | apply below_drew)).trans (hb.mono (by have := B2.out.size; simp; try omega))); clear B2; have B2 := n1_; clear n1_; clear hb)
    | (go_at_call 16; refine (HSA.out _ (by repeat (first | exact B1.out | apply below_alloc | apply pw_below_drewN | apply below_drew)) (by repeat (first | exact B2.out | apply below_alloc | apply pw_below_drewN | apply below_drew))).mono ?_; rintro e w3 ⟨rfl, ⟨q3, rfl⟩⟩)
    | (go_at_call 15; refine (HCHK.out _ (by repeat (first | exact B1.out | apply below_alloc | apply pw_below_drewN | apply below_drew))).mono ?_; rintro e w4 ⟨rfl, hb⟩; have n1_ := Aside0.mk ((show Below w.heap.size w _ by repeat (first | exact HB2.out | apply below_alloc | apply pw_below_drewN | apply below_drew)).trans (hb.mono (by have := HB2.out.size; simp; try omega))); clear HB2; have HB2 := n1_; clear n1_; clear hb))
  go_ret
  exact ⟨rfl, HB2.out⟩
end Go.Proofs.Ytjgkcgfbkcbjfaa.H
