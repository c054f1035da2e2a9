/- tree. -/
import Derived.Test.YtgpkpeefbkcjeaaKRowM
import Derived.Test.YtgpkpeefbkcjeaaKMerge
import Derived.StillTailTactics
namespace Go.Proofs.Ytgpkpeefbkcjeaa.H
open Go Go.RowKit Go.Proofs.YtgpkpeefbkcjeaaW.PrintWords Go.Proofs.YtgpkpeefbkcjeaaW.PrintLast Go.Proofs.YtgpkpeefbkcjeaaW.PrintMore Go.Proofs.Ytgpkpeefbkcjeaa.PAll
set_option linter.unusedVariables false
set_option linter.unusedSimpArgs false

theorem few_of {l : L49} (h : fewL l = true) : Few l := by
  unfold fewL at h
  rw [Bool.and_eq_true, decide_eq_true_eq, Bool.not_eq_true'] at h
  refine ⟨h.1, fun x hx => ?_⟩
  have := List.any_eq_false.1 h.2 x hx
  simp [badM] at this
  omega
theorem fits_of {ls : List L49} (h : fitsL ls = true) : 0 < ls.length ∧ ls.length ≤ 5 ∧ ∀ l ∈ ls, Few l := by
  unfold fitsL at h
  rw [Bool.and_eq_true, Bool.and_eq_true, decide_eq_true_eq, decide_eq_true_eq, Bool.not_eq_true'] at h
  refine ⟨h.1.1, h.1.2, fun l hl => few_of ?_⟩
  have := List.any_eq_false.1 h.2 l hl
  simpa using this
theorem sumN_few {l : L49} (h : Few l) : 0 ≤ sumN l ∧ sumN l ≤ 20000000 := by
  have h1 := sumN_nonneg (l := l) (fun x hx => (h.2 x hx).2.1)
  have h2 := sumN_le (l := l) (fun x hx => (h.2 x hx).2.2)
  have h3 := h.1
  omega
theorem flat_few : ∀ (ls : List L49), (∀ l ∈ ls, Few l) → 0 ≤ sumN ls.flatten ∧ sumN ls.flatten ≤ 20000000 * ls.length ∧ ls.flatten.length ≤ 20 * ls.length
  | [], _ => by simp [sumN]
  | l :: ls, h => by
    have ih := flat_few ls (fun x hx => h x (by simp [hx]))
    have h1 := sumN_few (h l (by simp))
    have h2 := (h l (by simp)).1
    rw [List.flatten_cons, sumN_append]
    simp only [List.length_cons, List.length_append]
    omega

theorem own_emptyM (w : World) : (w.alloc (.cells #[] 49)).ownsRow w.heap.size 49 2 (.slice (some ⟨w.heap.size, 0, none⟩) 0 0) 0 [] :=
  ⟨by simp, .inr ⟨w.heap.size, 0, #[], rfl, Nat.le_refl _, heap_alloc_new w _, Nat.le_refl _, by unfold maxLen; omega, by simp, by simp⟩⟩
theorem own_neH {W : World} {base n B : Nat} {v : Value} {cs : List Value} {c : Array Value} (h : W.ownsRow base 49 2 v n cs) (hx : W.heap[B]? = some (.cells c 24 (0, 0))) : some B ≠ v.ownBlock := by
  rcases h.2 with ⟨rfl, _⟩ | ⟨g, cap, cur, rfl, _, hg, _⟩
  · simp [Value.ownBlock]
  · intro e
    simp [Value.ownBlock] at e
    subst e
    rw [hg] at hx
    cases hx

theorem CH_of_V {w : World} {base : Nat} {ok : Nat → Prop} {v : Value} {l : L58} (h : Kd.V k58 58 w base ok v l) : CH w v l := by
  obtain ⟨A, c, rfl⟩ := Kd.V_slice h
  obtain ⟨_, h2, h3⟩ := Kd.V_reads' h
  exact ⟨A, c, rfl, h2, h3⟩
theorem V_fresh {w : World} {base : Nat} {v : Value} {l : L58} (h : Kd.R k58 58 w base (fun _ => True) v l) : Kd.V k58 58 w 0 (fun k => base ≤ k) v l := Kd.V_mono (Kd.R_V (Kd.R_bound h)) (fun k hk => hk.2.1)
theorem own_belowM {W W' : World} {base e sz n : Nat} {v : Value} {cs : List Value} (h : W.ownsRow base e sz v n cs) (hb : Below W.heap.size W W') : W'.ownsRow base e sz v n cs := by
  refine ⟨h.1, ?_⟩
  rcases h.2 with h2 | ⟨g, cap, cur, rfl, hg0, hg, h3⟩
  · exact .inl h2
  · exact .inr ⟨g, cap, cur, rfl, hg0, (hb.block g (heap_lt hg)).trans hg, h3⟩
theorem own_farM {W : World} {base e sz n : Nat} {v : Value} {cs : List Value} (h : W.ownsRow base e sz v n cs) {p : Addr} (hp : some p.block ≠ v.ownBlock) (u : Value) : (W.setCell p u).ownsRow base e sz v n cs := by
  refine ⟨h.1, ?_⟩
  rcases h.2 with h2 | ⟨g, cap, cur, rfl, hg0, hg, h3⟩
  · exact .inl h2
  · exact .inr ⟨g, cap, cur, rfl, hg0, blk_far hg (p := p) (by intro e; exact hp (by simp [Value.ownBlock, e])) u, h3⟩
theorem own_ltM {W : World} {base e sz n : Nat} {v : Value} {cs : List Value} (h : W.ownsRow base e sz v n cs) : ∀ k, v.ownBlock = some k → k < W.heap.size := by
  rcases h.2 with ⟨rfl, _⟩ | ⟨g, cap, cur, rfl, _, hg, _⟩
  · intro k hk; simp [Value.ownBlock] at hk
  · intro k hk; simp [Value.ownBlock] at hk; subst hk; exact heap_lt hg

set_option maxRecDepth 100000 in
set_option maxHeartbeats 8000000 in
theorem tree_calls (K : Int) (hK : 2 ≤ K) (hK1 : K ≤ 100) (ls : List L49) (hf : 0 < ls.length ∧ ls.length ≤ 5 ∧ ∀ l ∈ ls, Few l) (A : Option Addr) (c : Nat) (w : World) (hr : Kd.C kLM w A ls.length ls) (hc : ls.length ≤ c) :
    Calls Try.prog 27 #[.int .i64 K, .slice A ls.length c] w fun e w' => ∃ (x : HV) (v va : Value), e = .returned (.tuple #[.agg #[.int .i64 x.f0, .int .i64 x.f1, .int .i64 x.f2, v], va, .bool true]) ∧ Of K x ls.flatten ∧ CH w' v x.f3 ∧ w'.ownsRow w.heap.size 49 2 va ls.flatten.length (mlcells ls.flatten) ∧ Below w.heap.size w w' := by
  have HR := Aside0.mk hr
  have HFW := Aside0.mk hf
  have hlen := hf.2.1
  have hpos := hf.1
  clear hr hf
  have hu := Try.underlying45
  have hu2 := Try.underlying24
  go_enter Try.func27, Try.ntmps27
  go_wp2_with fail
  have b4 := heap_alloc_keep (o := (.cells #[.int .i64 0, .int .i64 0, .int .i64 0, .slice none 0 0] 24)) (heap_alloc_keep (o := .cells #[] 49) (heap_alloc_new w (.cells #[.int .i64 0, .int .i64 0, .int .i64 0, .slice none 0 0] 24)))
  have b7 := heap_alloc_new ((w.alloc (.cells #[.int .i64 0, .int .i64 0, .int .i64 0, .slice none 0 0] 24)).alloc (.cells #[] 49)) (.cells #[.int .i64 0, .int .i64 0, .int .i64 0, .slice none 0 0] 24)
  have hal := (own_emptyM (w.alloc (.cells #[.int .i64 0, .int .i64 0, .int .i64 0, .slice none 0 0] 24))).alloc (.cells #[.int .i64 0, .int .i64 0, .int .i64 0, .slice none 0 0] 24)
  have hb0 : Below w.heap.size w (((w.alloc (.cells #[.int .i64 0, .int .i64 0, .int .i64 0, .slice none 0 0] 24)).alloc (.cells #[] 49)).alloc (.cells #[.int .i64 0, .int .i64 0, .int .i64 0, .slice none 0 0] 24)) := by repeat (first | exact Below.refl _ _ | apply below_alloc)
  have hs0 : w.heap.size + 1 + 1 < (((w.alloc (.cells #[.int .i64 0, .int .i64 0, .int .i64 0, .slice none 0 0] 24)).alloc (.cells #[] 49)).alloc (.cells #[.int .i64 0, .int .i64 0, .int .i64 0, .slice none 0 0] 24)).heap.size := by simp
  generalize (((w.alloc (.cells #[.int .i64 0, .int .i64 0, .int .i64 0, .slice none 0 0] 24)).alloc (.cells #[] 49)).alloc (.cells #[.int .i64 0, .int .i64 0, .int .i64 0, .slice none 0 0] 24)) = W0 at *
  simp only [World.size_alloc] at b4 b7 hal
  have HX4 := Aside0.mk b4
  have HX7 := Aside0.mk b7
  have HAL := Aside0.mk hal
  have HBW := Aside0.mk hb0
  have HSZ := Aside0.mk hs0
  clear b4 b7 hal hb0 hs0
  go_loopg [8, 9, 20] (ls.length) (fun kq v8 v9 v20 w' => ∃ (j : Nat) (x : HV) (A7 : Option Addr) (c7 : Nat), v20 = .int .i64 j ∧ v9 = .bool (decide (0 < j)) ∧ j ≤ ls.length ∧ Aside0 (kq = ls.length - j) ∧ Aside0 (0 < j → Of K x (ls.take j).flatten) ∧ Aside0 (Kd.V k58 58 w' 0 (fun k => w.heap.size + 1 + 1 < k) (.slice A7 x.f3.length c7) x.f3) ∧ Aside0 (w'.ownsRow (w.heap.size + 1) 49 2 v8 (ls.take j).flatten.length (mlcells (ls.take j).flatten)) ∧ Aside0 (w'.heap[w.heap.size + 1 + 1]? = some (.cells #[.int .i64 x.f0, .int .i64 x.f1, .int .i64 x.f2, .slice A7 x.f3.length c7] 24 (0, 0))) ∧ Aside0 (w'.heap[w.heap.size]? = some (.cells #[.int .i64 0, .int .i64 0, .int .i64 0, .slice none 0 0] 24 (0, 0))) ∧ Aside0 (Below w.heap.size w w') ∧ Aside0 (w.heap.size + 1 + 1 < w'.heap.size))
  case atStart => exact ⟨0, zH, none, 0, rfl, rfl, by omega, ⟨rfl⟩, ⟨fun h => absurd h (by omega)⟩, ⟨Kd.V_nil _ _ _ _ _⟩, HAL, HX7, HX4, HBW, HSZ⟩
  case round =>
    clear HX4 HX7 HAL HBW HSZ
    obtain ⟨j, x, A7, c7, rfl, rfl, hj, HKQ, HOF, HCV, HAL, HX7, HX4, HBW, HSZ⟩ := hrel
    have hsz : w.heap.size + 1 + 1 < wr.heap.size := HSZ.out
    have HCH := Aside0.mk (And.intro (Kd.V_reads' HCV.out).2.2 (Kd.V_reads' HCV.out).2.1)
    by_cases hlt : j < ls.length
    · obtain ⟨ad, A1, c1, e1, hcell, hle, hC⟩ := slice_at (Kd.C_below HR.out HBW.out) j hlt
      cases e1
      have hmem : ls[j] ∈ ls := List.getElem_mem hlt
      have hfew := HFW.out.2.2 _ hmem
      have HOY := Aside0.mk (ofF_of hK hK1 ls[j] hfew.1 hfew.2)
      have HCO := Aside0.mk (of_calls K hK hK1 ls[j] hfew A1 c1 wr hC hle)
      have HPC := Aside0.mk hC
      have HPL := Aside0.mk hfew
      have HTK := Aside0.mk (show (ls.take (j + 1)).flatten = (ls.take j).flatten ++ ls[j] by rw [List.take_succ_eq_append_getElem hlt, List.flatten_append]; simp)
      have HTF := Aside0.mk (flat_few (ls.take j) (fun l hl => HFW.out.2.2 l (List.mem_of_mem_take hl)))
      have pl : (0 ≤ (j : Int)) = True := eq_true (by omega)
      have dl : decide (j < ls.length) = true := decide_eq_true hlt
      clear hC hfew hmem
      generalize ofF K ls[j] = y at *
      generalize ls[j] = p at *
      obtain ⟨q, hq⟩ : ∃ q, (ls.take j).flatten = q := ⟨_, rfl⟩
      rw [hq] at HAL HOF HTK HTF
      have HQ := Aside0.mk hq
      clear hq
      by_cases hj0 : j = 0
      · have d0 : decide (0 < j) = false := decide_eq_false (by omega)
        have d0' : decide (0 < (j : Int)) = false := decide_eq_false (by omega)
        have HJ0 := Aside0.mk hj0
        clear hj0
        go_wp2_with (go_at_call 34; (with_reducible refine HCO.out.mono ?_); rintro e w1 ⟨v1, rfl, hR, hb⟩; obtain ⟨A2, c2, rfl⟩ := Kd.R_slice hR; have HR2 := Aside0.mk hR; have HB2 := Aside0.mk hb; clear hR hb)
        have hb2 := below_alloc HB2.out (.cells #[.int .i64 y.f0, .int .i64 y.f1, .int .i64 y.f2, .slice A2 y.f3.length c2] 24)
        have X7 := Aside0.mk (show (w1.alloc (.cells #[.int .i64 y.f0, .int .i64 y.f1, .int .i64 y.f2, .slice A2 y.f3.length c2] 24)).heap[w.heap.size + 1 + 1]? = some (.cells #[.int .i64 x.f0, .int .i64 x.f1, .int .i64 x.f2, .slice A7 x.f3.length c7] 24 (0, 0)) from (hb2.block _ hsz).trans HX7.out)
        have X4 := Aside0.mk ((hb2.block w.heap.size (by omega)).trans HX4.out)
        have XB := Aside0.mk (heap_alloc_new w1 (.cells #[.int .i64 y.f0, .int .i64 y.f1, .int .i64 y.f2, .slice A2 y.f3.length c2] 24))
        have OW := Aside0.mk (own_belowM HAL.out hb2)
        have PC := Aside0.mk (Kd.C_below HPC.out hb2)
        have VZ := Aside0.mk (Kd.V_alloc (V_fresh HR2.out) (.cells #[.int .i64 y.f0, .int .i64 y.f1, .int .i64 y.f2, .slice A2 y.f3.length c2] 24))
        have HV8 := Aside0.mk (own_ltM HAL.out)
        have BW := Aside0.mk (HBW.out.trans (hb2.mono HBW.out.size))
        have SZ := Aside0.mk (Nat.lt_of_lt_of_le hsz hb2.size)
        have OFZ := Aside0.mk (show Of K y (q ++ p) by
          have h0 : q = [] := by rw [← HQ.out, HJ0.out]; rfl
          rw [h0]; exact HOY.out)
        have HN := Aside0.mk hsz
        clear hb2 HR2 HB2 HX7 HX4 HAL HBW HSZ HPC
        generalize (w1.alloc (.cells #[.int .i64 y.f0, .int .i64 y.f1, .int .i64 y.f2, .slice A2 y.f3.length c2] 24)) = W2 at *
        generalize wr.heap.size = NN at *
        have t0 := (blk_cell XB.out 0).trans rfl
        have t1 := (blk_cell XB.out 1).trans rfl
        have t2 := (blk_cell XB.out 2).trans rfl
        have t3 := (blk_cell XB.out 3).trans rfl
        simp only [List.getElem?_toArray, List.getElem?_cons_zero, List.getElem?_cons_succ] at t0 t1 t2 t3
        go_region_law (first
          | (refine stepM_append rfl _ _ rfl (w.heap.size + 1) _ q rfl (own_belowM OW.out (below_drew (Below.refl _ _))) A1 c1 p rfl (Kd.C_below PC.out (below_drew (Below.refl _ _))) (by have h1 := HTF.out.2.2; have h2 := HPL.out.1; rw [List.length_take] at h1; omega) (by have h1 := SZ.out; show w.heap.size + 1 ≤ W2.heap.size; omega) ?_; intro v5 w5 hown5 hg5; have hg6 := hg5; have y7 := blk_grown (w := W2.drew) X7.out hg5 (own_neH OW.out X7.out); have y4 := blk_grown (w := W2.drew) X4.out hg5 (own_neH OW.out X4.out); have Y7 := Aside0.mk y7; have Y4 := Aside0.mk y4; have NE := Aside0.mk (own_neH hown5 y7); have O5 := Aside0.mk hown5; have V5 := Aside0.mk (Kd.V_grown (Kd.V_drew VZ.out) hg5 (fun k hk e => absurd (HV8.out k e.symm) (Nat.not_lt.2 hk))); have B5 := Aside0.mk ((below_drew BW.out).grown hg5 BW.out.size (fun k hk => Nat.le_of_succ_le (own_base OW.out k hk))); have S5 := Aside0.mk (show w.heap.size + 1 + 1 < w5.heap.size from Nat.lt_of_lt_of_le SZ.out hg5.size); have f0 := blk_frozen y7 0; have f1 := blk_frozen y7 1; have f2 := blk_frozen y7 2; have f3 := blk_frozen y7 3; have s0 := (blk_cell y7 0).trans rfl; have s1 := (blk_cell y7 1).trans rfl; have s2 := (blk_cell y7 2).trans rfl; have s3 := (blk_cell y7 3).trans rfl; simp only [List.getElem?_toArray, List.getElem?_cons_zero, List.getElem?_cons_succ] at s0 s1 s2 s3; clear y7 y4 hown5 hg5; have x5 := blk_grown (w := W2.drew) XB.out hg6 (own_neH OW.out XB.out); have z0 := (blk_cell x5 0).trans rfl; have z1 := (blk_cell x5 1).trans rfl; have z2 := (blk_cell x5 2).trans rfl; have z3 := (blk_cell x5 3).trans rfl; simp only [List.getElem?_toArray, List.getElem?_cons_zero, List.getElem?_cons_succ] at z0 z1 z2 z3; clear x5 hg6))
        all_goals
          go_wp2
          go_roundg (ls.length - (j + 1))
          case measure => have := HKQ.out; omega
          case rel =>
            refine ⟨j + 1, y, A2, c2, by simp, by simp, by omega, ⟨rfl⟩, ⟨fun _ => by rw [HTK.out]; exact OFZ.out⟩, ⟨?_⟩, ⟨by rw [HTK.out]; exact own_farM (own_farM (own_farM (own_farM O5.out (p := ⟨w.heap.size + 1 + 1, 0, none⟩) NE.out _) (p := ⟨w.heap.size + 1 + 1, 1, none⟩) NE.out _) (p := ⟨w.heap.size + 1 + 1, 2, none⟩) NE.out _) (p := ⟨w.heap.size + 1 + 1, 3, none⟩) NE.out _⟩, ⟨blk_set (blk_set (blk_set (blk_set Y7.out 0 _) 1 _) 2 _) 3 _⟩, ⟨blk_far (blk_far (blk_far (blk_far Y4.out (p := ⟨w.heap.size + 1 + 1, 0, none⟩) (show w.heap.size ≠ w.heap.size + 1 + 1 by omega) _) (p := ⟨w.heap.size + 1 + 1, 1, none⟩) (show w.heap.size ≠ w.heap.size + 1 + 1 by omega) _) (p := ⟨w.heap.size + 1 + 1, 2, none⟩) (show w.heap.size ≠ w.heap.size + 1 + 1 by omega) _) (p := ⟨w.heap.size + 1 + 1, 3, none⟩) (show w.heap.size ≠ w.heap.size + 1 + 1 by omega) _⟩, ⟨set4_below B5.out (by omega) _ _ _ _⟩, ⟨by have := S5.out; simpa using this⟩⟩
            have hfar : ∀ k, NN ≤ k → k ≠ w.heap.size + 1 + 1 := fun k hk => by have := HN.out; omega
            exact Kd.V_mono (Kd.V_far (p := ⟨w.heap.size + 1 + 1, 3, none⟩) (Kd.V_far (p := ⟨w.heap.size + 1 + 1, 2, none⟩) (Kd.V_far (p := ⟨w.heap.size + 1 + 1, 1, none⟩) (Kd.V_far (p := ⟨w.heap.size + 1 + 1, 0, none⟩) V5.out hfar (.int .i64 y.f0)) hfar (.int .i64 y.f1)) hfar (.int .i64 y.f2)) hfar (.slice A2 y.f3.length c2)) (fun k hk => Nat.lt_of_lt_of_le HN.out hk)
      · have d0 : decide (0 < j) = true := decide_eq_true (by omega)
        have d0' : decide (0 < (j : Int)) = true := decide_eq_true (by omega)
        have hofx := HOF.out (by omega)
        have hmg := hofx.mrg HOY.out (by have h1 := HTF.out.2.1; have h2 := sumN_few HPL.out; rw [List.length_take] at h1; omega)
        have hxl := hofx.val.len
        have hxk := hofx.val.k1
        have hyl := HOY.out.val.len
        have hyk := HOY.out.val.k1
        have HMG := Aside0.mk (fun A2 c2 W (h1 : Kd.C k58 W A7 x.f3.length x.f3) (h2 : Kd.C k58 W A2 y.f3.length y.f3) (h3 : y.f3.length ≤ c2) => Merge_calls x y A7 A2 c7 c2 W h1 HCH.out.2 (by omega) h2 h3 (by omega))
        clear hofx hxl hxk hyl hyk
        generalize mrgH x y = rz at *
        obtain ⟨z, ez⟩ := rz
        obtain ⟨rfl, hofz⟩ : ez = 0 ∧ Of K z (q ++ p) := hmg
        have OFZ := Aside0.mk hofz
        clear hofz
        unfold RH at HMG
        simp only at HMG
        go_wp2_with (first
          | (go_at_call 34; (with_reducible refine HCO.out.mono ?_); rintro e w1 ⟨v1, rfl, hR, hb⟩; obtain ⟨A2, c2, rfl, hq2, hC2⟩ := CH.of_R hR; have HB2 := Aside0.mk hb; have CY := Aside0.mk (And.intro (Kd.C_below hC2 (below_alloc (Below.refl _ w1) (.cells #[.int .i64 y.f0, .int .i64 y.f1, .int .i64 y.f2, .slice A2 y.f3.length c2] 24))) hq2); have CX := Aside0.mk (Kd.C_below (Kd.C_below HCH.out.1 hb) (below_alloc (Below.refl _ w1) (.cells #[.int .i64 y.f0, .int .i64 y.f1, .int .i64 y.f2, .slice A2 y.f3.length c2] 24))); have hb2 := below_alloc hb (.cells #[.int .i64 y.f0, .int .i64 y.f1, .int .i64 y.f2, .slice A2 y.f3.length c2] 24); have x7 := (hb2.block _ hsz).trans HX7.out; have x0 := (blk_cell x7 0).trans rfl; have x1 := (blk_cell x7 1).trans rfl; have x2 := (blk_cell x7 2).trans rfl; have x3 := (blk_cell x7 3).trans rfl; simp only [List.getElem?_toArray, List.getElem?_cons_zero, List.getElem?_cons_succ] at x0 x1 x2 x3; have YB := Aside0.mk (heap_alloc_new w1 (.cells #[.int .i64 y.f0, .int .i64 y.f1, .int .i64 y.f2, .slice A2 y.f3.length c2] 24)); clear hR hb hb2 x7 hq2 hC2 HCO; have y0 := (blk_cell YB.out 0).trans rfl; have y1 := (blk_cell YB.out 1).trans rfl; have y2 := (blk_cell YB.out 2).trans rfl; have y3 := (blk_cell YB.out 3).trans rfl; simp only [List.getElem?_toArray, List.getElem?_cons_zero, List.getElem?_cons_succ] at y0 y1 y2 y3)
          | (go_at_call 24; (with_reducible refine (HMG.out A2 c2 _ CX.out CY.out.1 CY.out.2).mono ?_); rintro e w3 ⟨v3, rfl, hR, hb⟩; obtain ⟨A3, c3, rfl⟩ := Kd.R_slice hR; have HR3 := Aside0.mk hR; have HB3 := Aside0.mk hb; have yb := heap_alloc_keep (o := (.cells #[.int .i64 z.f0, .int .i64 z.f1, .int .i64 z.f2, .slice A3 z.f3.length c3] 24)) ((hb.block w1.heap.size (by simp)).trans YB.out); have YB3 := Aside0.mk yb; have zb := heap_alloc_new w3 (.cells #[.int .i64 z.f0, .int .i64 z.f1, .int .i64 z.f2, .slice A3 z.f3.length c3] 24); clear hR hb x0 x1 x2 x3 y0 y1 y2 y3; have y0 := (blk_cell yb 0).trans rfl; have y1 := (blk_cell yb 1).trans rfl; have y2 := (blk_cell yb 2).trans rfl; have y3 := (blk_cell yb 3).trans rfl; simp only [List.getElem?_toArray, List.getElem?_cons_zero, List.getElem?_cons_succ] at y0 y1 y2 y3; have z0 := (blk_cell zb 0).trans rfl; have z1 := (blk_cell zb 1).trans rfl; have z2 := (blk_cell zb 2).trans rfl; have z3 := (blk_cell zb 3).trans rfl; simp only [List.getElem?_toArray, List.getElem?_cons_zero, List.getElem?_cons_succ] at z0 z1 z2 z3; have yf0 := blk_frozen yb 0; have yf1 := blk_frozen yb 1; have yf2 := blk_frozen yb 2; have yf3 := blk_frozen yb 3; clear yb zb HMG))
        have hle2 : wr.heap.size ≤ w1.heap.size := HB2.out.size
        have hlt3 : w1.heap.size < w3.heap.size := Nat.lt_of_lt_of_le (by simp) HB3.out.size
        have hbT : Below wr.heap.size wr (((((w3.alloc (.cells #[.int .i64 z.f0, .int .i64 z.f1, .int .i64 z.f2, .slice A3 z.f3.length c3] 24)).setCell ⟨w1.heap.size, 0, none⟩ (.int .i64 z.f0)).setCell ⟨w1.heap.size, 1, none⟩ (.int .i64 z.f1)).setCell ⟨w1.heap.size, 2, none⟩ (.int .i64 z.f2)).setCell ⟨w1.heap.size, 3, none⟩ (.slice A3 z.f3.length c3)) := set4_below (below_alloc ((below_alloc HB2.out (.cells #[.int .i64 y.f0, .int .i64 y.f1, .int .i64 y.f2, .slice A2 y.f3.length c2] 24)).trans (HB3.out.mono (by simp; omega))) (.cells #[.int .i64 z.f0, .int .i64 z.f1, .int .i64 z.f2, .slice A3 z.f3.length c3] 24)) hle2 _ _ _ _
        have X7 := Aside0.mk ((hbT.block _ hsz).trans HX7.out)
        have X4 := Aside0.mk ((hbT.block w.heap.size (by omega)).trans HX4.out)
        have XB := Aside0.mk (show (((((w3.alloc (.cells #[.int .i64 z.f0, .int .i64 z.f1, .int .i64 z.f2, .slice A3 z.f3.length c3] 24)).setCell ⟨w1.heap.size, 0, none⟩ (.int .i64 z.f0)).setCell ⟨w1.heap.size, 1, none⟩ (.int .i64 z.f1)).setCell ⟨w1.heap.size, 2, none⟩ (.int .i64 z.f2)).setCell ⟨w1.heap.size, 3, none⟩ (.slice A3 z.f3.length c3)).heap[w1.heap.size]? = some (.cells #[.int .i64 z.f0, .int .i64 z.f1, .int .i64 z.f2, .slice A3 z.f3.length c3] 24 (0, 0)) from blk_set (blk_set (blk_set (blk_set YB3.out 0 _) 1 _) 2 _) 3 _)
        have OW := Aside0.mk (own_belowM HAL.out hbT)
        have PC := Aside0.mk (Kd.C_below HPC.out hbT)
        have hfz : ∀ k, (w1.alloc (.cells #[.int .i64 y.f0, .int .i64 y.f1, .int .i64 y.f2, .slice A2 y.f3.length c2] 24)).heap.size ≤ k → k ≠ w1.heap.size := fun k hk => by simp at hk; omega
        have VZ := Aside0.mk (Kd.V_mono (ok' := fun k => wr.heap.size ≤ k) (Kd.V_far (p := ⟨w1.heap.size, 3, none⟩) (Kd.V_far (p := ⟨w1.heap.size, 2, none⟩) (Kd.V_far (p := ⟨w1.heap.size, 1, none⟩) (Kd.V_far (p := ⟨w1.heap.size, 0, none⟩) (Kd.V_alloc (V_fresh HR3.out) (.cells #[.int .i64 z.f0, .int .i64 z.f1, .int .i64 z.f2, .slice A3 z.f3.length c3] 24)) hfz (.int .i64 z.f0)) hfz (.int .i64 z.f1)) hfz (.int .i64 z.f2)) hfz (.slice A3 z.f3.length c3)) (fun k hk => by have : (w1.alloc (.cells #[.int .i64 y.f0, .int .i64 y.f1, .int .i64 y.f2, .slice A2 y.f3.length c2] 24)).heap.size ≤ k := hk; simp at this; omega))
        have HV8 := Aside0.mk (own_ltM HAL.out)
        have BW := Aside0.mk (HBW.out.trans (hbT.mono HBW.out.size))
        have SZ := Aside0.mk (Nat.lt_of_lt_of_le hsz hbT.size)
        have HN := Aside0.mk hsz
        clear hbT HR3 HB2 HB3 HX7 HX4 HAL HBW HSZ HPC YB YB3 CX CY hfz hle2 hlt3 y0 y1 y2 y3 yf0 yf1 yf2 yf3 z0 z1 z2 z3
        generalize (((((w3.alloc (.cells #[.int .i64 z.f0, .int .i64 z.f1, .int .i64 z.f2, .slice A3 z.f3.length c3] 24)).setCell ⟨w1.heap.size, 0, none⟩ (.int .i64 z.f0)).setCell ⟨w1.heap.size, 1, none⟩ (.int .i64 z.f1)).setCell ⟨w1.heap.size, 2, none⟩ (.int .i64 z.f2)).setCell ⟨w1.heap.size, 3, none⟩ (.slice A3 z.f3.length c3)) = W2 at *
        generalize wr.heap.size = NN at *
        have t0 := (blk_cell XB.out 0).trans rfl
        have t1 := (blk_cell XB.out 1).trans rfl
        have t2 := (blk_cell XB.out 2).trans rfl
        have t3 := (blk_cell XB.out 3).trans rfl
        simp only [List.getElem?_toArray, List.getElem?_cons_zero, List.getElem?_cons_succ] at t0 t1 t2 t3
        go_region_law (first
          | (refine stepM_append rfl _ _ rfl (w.heap.size + 1) _ q rfl (own_belowM OW.out (below_drew (Below.refl _ _))) A1 c1 p rfl (Kd.C_below PC.out (below_drew (Below.refl _ _))) (by have h1 := HTF.out.2.2; have h2 := HPL.out.1; rw [List.length_take] at h1; omega) (by have h1 := SZ.out; show w.heap.size + 1 ≤ W2.heap.size; omega) ?_; intro v5 w5 hown5 hg5; have hg6 := hg5; have y7 := blk_grown (w := W2.drew) X7.out hg5 (own_neH OW.out X7.out); have y4 := blk_grown (w := W2.drew) X4.out hg5 (own_neH OW.out X4.out); have Y7 := Aside0.mk y7; have Y4 := Aside0.mk y4; have NE := Aside0.mk (own_neH hown5 y7); have O5 := Aside0.mk hown5; have V5 := Aside0.mk (Kd.V_grown (Kd.V_drew VZ.out) hg5 (fun k hk e => absurd (HV8.out k e.symm) (Nat.not_lt.2 hk))); have B5 := Aside0.mk ((below_drew BW.out).grown hg5 BW.out.size (fun k hk => Nat.le_of_succ_le (own_base OW.out k hk))); have S5 := Aside0.mk (show w.heap.size + 1 + 1 < w5.heap.size from Nat.lt_of_lt_of_le SZ.out hg5.size); have f0 := blk_frozen y7 0; have f1 := blk_frozen y7 1; have f2 := blk_frozen y7 2; have f3 := blk_frozen y7 3; have s0 := (blk_cell y7 0).trans rfl; have s1 := (blk_cell y7 1).trans rfl; have s2 := (blk_cell y7 2).trans rfl; have s3 := (blk_cell y7 3).trans rfl; simp only [List.getElem?_toArray, List.getElem?_cons_zero, List.getElem?_cons_succ] at s0 s1 s2 s3; clear y7 y4 hown5 hg5; have x5 := blk_grown (w := W2.drew) XB.out hg6 (own_neH OW.out XB.out); have z0 := (blk_cell x5 0).trans rfl; have z1 := (blk_cell x5 1).trans rfl; have z2 := (blk_cell x5 2).trans rfl; have z3 := (blk_cell x5 3).trans rfl; simp only [List.getElem?_toArray, List.getElem?_cons_zero, List.getElem?_cons_succ] at z0 z1 z2 z3; clear x5 hg6))
        all_goals
          go_wp2
          go_roundg (ls.length - (j + 1))
          case measure => have := HKQ.out; omega
          case rel =>
            refine ⟨j + 1, z, A3, c3, by simp, by simp, by omega, ⟨rfl⟩, ⟨fun _ => by rw [HTK.out]; exact OFZ.out⟩, ⟨?_⟩, ⟨by rw [HTK.out]; exact own_farM (own_farM (own_farM (own_farM O5.out (p := ⟨w.heap.size + 1 + 1, 0, none⟩) NE.out _) (p := ⟨w.heap.size + 1 + 1, 1, none⟩) NE.out _) (p := ⟨w.heap.size + 1 + 1, 2, none⟩) NE.out _) (p := ⟨w.heap.size + 1 + 1, 3, none⟩) NE.out _⟩, ⟨blk_set (blk_set (blk_set (blk_set Y7.out 0 _) 1 _) 2 _) 3 _⟩, ⟨blk_far (blk_far (blk_far (blk_far Y4.out (p := ⟨w.heap.size + 1 + 1, 0, none⟩) (show w.heap.size ≠ w.heap.size + 1 + 1 by omega) _) (p := ⟨w.heap.size + 1 + 1, 1, none⟩) (show w.heap.size ≠ w.heap.size + 1 + 1 by omega) _) (p := ⟨w.heap.size + 1 + 1, 2, none⟩) (show w.heap.size ≠ w.heap.size + 1 + 1 by omega) _) (p := ⟨w.heap.size + 1 + 1, 3, none⟩) (show w.heap.size ≠ w.heap.size + 1 + 1 by omega) _⟩, ⟨set4_below B5.out (by omega) _ _ _ _⟩, ⟨by have := S5.out; simpa using this⟩⟩
            have hfar : ∀ k, NN ≤ k → k ≠ w.heap.size + 1 + 1 := fun k hk => by have := HN.out; omega
            exact Kd.V_mono (Kd.V_far (p := ⟨w.heap.size + 1 + 1, 3, none⟩) (Kd.V_far (p := ⟨w.heap.size + 1 + 1, 2, none⟩) (Kd.V_far (p := ⟨w.heap.size + 1 + 1, 1, none⟩) (Kd.V_far (p := ⟨w.heap.size + 1 + 1, 0, none⟩) V5.out hfar (.int .i64 z.f0)) hfar (.int .i64 z.f1)) hfar (.int .i64 z.f2)) hfar (.slice A3 z.f3.length c3)) (fun k hk => Nat.lt_of_lt_of_le HN.out hk)
    · have hjl : j = ls.length := by omega
      subst hjl
      have dl : decide (ls.length < ls.length) = false := decide_eq_false (by omega)
      have d0 : decide (0 < ls.length) = true := decide_eq_true hpos
      rw [List.take_length] at HAL HOF
      have HOX := Aside0.mk (HOF.out hpos)
      have HN4 := Aside0.mk (own_neH HAL.out HX4.out)
      have x0 := (blk_cell HX7.out 0).trans rfl
      have x1 := (blk_cell HX7.out 1).trans rfl
      have x2 := (blk_cell HX7.out 2).trans rfl
      have x3 := (blk_cell HX7.out 3).trans rfl
      have y0 := (blk_cell HX4.out 0).trans rfl
      have y1 := (blk_cell HX4.out 1).trans rfl
      have y2 := (blk_cell HX4.out 2).trans rfl
      have y3 := (blk_cell HX4.out 3).trans rfl
      have f0 := blk_frozen HX4.out 0
      have f1 := blk_frozen HX4.out 1
      have f2 := blk_frozen HX4.out 2
      have f3 := blk_frozen HX4.out 3
      simp only [List.getElem?_toArray, List.getElem?_cons_zero, List.getElem?_cons_succ] at x0 x1 x2 x3 y0 y1 y2 y3
      go_wp2_with fail
      obtain ⟨q0, q1, q2, q3⟩ := set4_cells HX4.out (.int .i64 x.f0) (.int .i64 x.f1) (.int .i64 x.f2) (.slice A7 x.f3.length c7)
      unfold set4 at q0 q1 q2 q3
      refine bodyPost_ret (v := .tuple #[.agg #[.int .i64 x.f0, .int .i64 x.f1, .int .i64 x.f2, .slice A7 x.f3.length c7], u8, .bool true]) (by simp [results, Try.results27, go_sem, q0, q1, q2, q3, hpos]) rfl ?_
      have hfar : ∀ k, w.heap.size + 1 + 1 < k → k ≠ w.heap.size := fun k hk => by omega
      refine ⟨x, _, _, rfl, HOX.out, CH_of_V (Kd.V_far (p := ⟨w.heap.size, 3, none⟩) (Kd.V_far (p := ⟨w.heap.size, 2, none⟩) (Kd.V_far (p := ⟨w.heap.size, 1, none⟩) (Kd.V_far (p := ⟨w.heap.size, 0, none⟩) HCV.out hfar (.int .i64 x.f0)) hfar (.int .i64 x.f1)) hfar (.int .i64 x.f2)) hfar (.slice A7 x.f3.length c7)), ?_, set4_below HBW.out (Nat.le_refl _) _ _ _ _⟩
      have ho := own_farM (own_farM (own_farM (own_farM HAL.out (p := ⟨w.heap.size, 0, none⟩) HN4.out (.int .i64 x.f0)) (p := ⟨w.heap.size, 1, none⟩) HN4.out (.int .i64 x.f1)) (p := ⟨w.heap.size, 2, none⟩) HN4.out (.int .i64 x.f2)) (p := ⟨w.heap.size, 3, none⟩) HN4.out (.slice A7 x.f3.length c7)
      refine ⟨ho.1, ho.2.imp id ?_⟩
      rintro ⟨g, cap, cur, e, hg, h⟩
      exact ⟨g, cap, cur, e, Nat.le_of_succ_le hg, h⟩
end Go.Proofs.Ytgpkpeefbkcjeaa.H
