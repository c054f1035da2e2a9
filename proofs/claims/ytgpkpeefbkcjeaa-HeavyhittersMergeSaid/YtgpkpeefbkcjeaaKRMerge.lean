/- The reference's Merge: printed by gen_krmerge.py. -/
import Derived.Test.YtgpkpeefbkcjeaaKRAdd
import Derived.BigRegion
import Derived.StillTailTactics
namespace Go.Proofs.Ytgpkpeefbkcjeaa.H
open Go Go.RowKit Go.WideMaps Go.Proofs.YtgpkpeefbkcjeaaW.PrintWords Go.Proofs.YtgpkpeefbkcjeaaW.PrintLast Go.Proofs.YtgpkpeefbkcjeaaW.PrintMore Go.Proofs.Ytgpkpeefbkcjeaa.PAll
set_option linter.unusedVariables false
set_option linter.unusedSimpArgs false

theorem heap58 : Kd.Heap k58 := ⟨fun _ h => h⟩
theorem V_of_C {w W : World} {A : Option Addr} {c : Nat} {l : L58} (h : Kd.C k58 w A l.length l) (hc : l.length ≤ c) (ok : Nat → Prop) (base : Nat) (hb : Below w.heap.size w W) (hok : ∀ k, k < w.heap.size → ok k) : Kd.V k58 58 W base ok (.slice A l.length c) l :=
  Kd.V_mono (Kd.V_below (Kd.V_mk (base := base) (e := 58) hc (Kd.C_F heap58 h)) hb) hok
set_option maxRecDepth 100000 in
set_option maxHeartbeats 8000000 in
theorem rMerge_bad1 (K T L K' T' L' : Int) (l l' : L58) (A A' : Option Addr) (c c' : Nat) (w : World) (hr : Kd.C k58 w A l.length l) (hc : l.length ≤ c) (hl : l.length ≤ 1000) (hr' : Kd.C k58 w A' l'.length l') (hc' : l'.length ≤ c') (hl' : l'.length ≤ 1000) (hz : chkH ⟨K, T, L, l⟩ ≠ 0) :
    Calls Try.prog 25 #[.agg #[.int .i64 K, .int .i64 T, .int .i64 L, .slice A l.length c], .agg #[.int .i64 K', .int .i64 T', .int .i64 L', .slice A' l'.length c']] w (RC w (mrgH ⟨K, T, L, l⟩ ⟨K', T', L', l'⟩)) := by
  have HC := Aside0.mk (fun W (h : Below w.heap.size w W) => rCheck_calls ⟨K, T, L, l⟩ A c W (Kd.C_below hr h) hc (by omega))
  have hu1 := Try.underlying58
  have hu2 := Try.underlying24
  have hd : (chkH ⟨K, T, L, l⟩ != 0) = true := by simpa using hz
  have HE := Aside0.mk (show mrgH ⟨K, T, L, l⟩ ⟨K', T', L', l'⟩ = (zH, 1) by unfold mrgH; rw [if_pos (.inl hz)])
  clear hr hr' hz
  simp only at HC
  generalize chkH ⟨K, T, L, l⟩ = r at *
  go_enter Try.func25, Try.ntmps25
  go_wp2_with fail
  have bx := heap_alloc_keep (o := (.cells #[.int .i64 0, .int .i64 0, .int .i64 0, .slice none 0 0] 24)) (heap_alloc_keep (o := (.cells #[.int .i64 K', .int .i64 T', .int .i64 L', .slice A' l'.length c'] 24)) (heap_alloc_new w (.cells #[.int .i64 K, .int .i64 T, .int .i64 L, .slice A l.length c] 24)))
  have bY := heap_alloc_keep (o := (.cells #[.int .i64 0, .int .i64 0, .int .i64 0, .slice none 0 0] 24)) (heap_alloc_new (w.alloc (.cells #[.int .i64 K, .int .i64 T, .int .i64 L, .slice A l.length c] 24)) (.cells #[.int .i64 K', .int .i64 T', .int .i64 L', .slice A' l'.length c'] 24))
  have br := heap_alloc_new ((w.alloc (.cells #[.int .i64 K, .int .i64 T, .int .i64 L, .slice A l.length c] 24)).alloc (.cells #[.int .i64 K', .int .i64 T', .int .i64 L', .slice A' l'.length c'] 24)) (.cells #[.int .i64 0, .int .i64 0, .int .i64 0, .slice none 0 0] 24)
  have hW0 := Aside0.mk (show Below w.heap.size w (((w.alloc (.cells #[.int .i64 K, .int .i64 T, .int .i64 L, .slice A l.length c] 24)).alloc (.cells #[.int .i64 K', .int .i64 T', .int .i64 L', .slice A' l'.length c'] 24)).alloc (.cells #[.int .i64 0, .int .i64 0, .int .i64 0, .slice none 0 0] 24)) by repeat (first | exact Below.refl _ _ | apply below_alloc))
  have hsz := Aside0.mk (show (((w.alloc (.cells #[.int .i64 K, .int .i64 T, .int .i64 L, .slice A l.length c] 24)).alloc (.cells #[.int .i64 K', .int .i64 T', .int .i64 L', .slice A' l'.length c'] 24)).alloc (.cells #[.int .i64 0, .int .i64 0, .int .i64 0, .slice none 0 0] 24)).heap.size = w.heap.size + 1 + 1 + 1 by simp)
  generalize (((w.alloc (.cells #[.int .i64 K, .int .i64 T, .int .i64 L, .slice A l.length c] 24)).alloc (.cells #[.int .i64 K', .int .i64 T', .int .i64 L', .slice A' l'.length c'] 24)).alloc (.cells #[.int .i64 0, .int .i64 0, .int .i64 0, .slice none 0 0] 24)) = W0 at *
  simp only [World.size_alloc] at bx bY br
  have BX := Aside0.mk bx
  have BY := Aside0.mk bY
  have BR := Aside0.mk br
  have HS := Aside0.mk (show w.heap.size + 1 + 1 < W0.heap.size by rw [hsz.out]; omega)
  have x0 := (blk_cell BX.out 0).trans rfl
  have x1 := (blk_cell BX.out 1).trans rfl
  have x2 := (blk_cell BX.out 2).trans rfl
  have x3 := (blk_cell BX.out 3).trans rfl
  simp only [List.getElem?_toArray, List.getElem?_cons_zero, List.getElem?_cons_succ] at x0 x1 x2 x3
  clear bx bY br
  go_wp2_with (go_at_call 17; (with_reducible refine (HC.out _ hW0.out).mono ?_); rintro e w1 ⟨rfl, hb⟩; have BX1 := Aside0.mk ((hb.block w.heap.size (by have := HS.out; omega)).trans BX.out); have BY1 := Aside0.mk ((hb.block (w.heap.size + 1) (by have := HS.out; omega)).trans BY.out); have BR1 := Aside0.mk ((hb.block (w.heap.size + 1 + 1) (by have := HS.out; omega)).trans BR.out); have HB1 := Aside0.mk (hW0.out.trans (hb.mono hW0.out.size)); have HS1 := Aside0.mk (Nat.le_trans HS.out hb.size); have hs1 : w.heap.size + 1 + 1 < w1.heap.size := HS1.out; clear x0 x1 x2 x3; clear hb; have x0 := (blk_cell BX1.out 0).trans rfl; have x1 := (blk_cell BX1.out 1).trans rfl; have x2 := (blk_cell BX1.out 2).trans rfl; have x3 := (blk_cell BX1.out 3).trans rfl; have y0 := (blk_cell BY1.out 0).trans rfl; have y1 := (blk_cell BY1.out 1).trans rfl; have y2 := (blk_cell BY1.out 2).trans rfl; have y3 := (blk_cell BY1.out 3).trans rfl; have r0 := (blk_cell BR1.out 0).trans rfl; have r1 := (blk_cell BR1.out 1).trans rfl; have r2 := (blk_cell BR1.out 2).trans rfl; have r3 := (blk_cell BR1.out 3).trans rfl; have rf0 := blk_frozen BR1.out 0; have rf1 := blk_frozen BR1.out 1; have rf2 := blk_frozen BR1.out 2; have rf3 := blk_frozen BR1.out 3; simp only [List.getElem?_toArray, List.getElem?_cons_zero, List.getElem?_cons_succ] at x0 x1 x2 x3 y0 y1 y2 y3 r0 r1 r2 r3)
  obtain ⟨c0, c1, c2, c3⟩ := set4_cells BR1.out (.int .i64 0) (.int .i64 0) (.int .i64 0) (.slice none 0 0)
  unfold set4 at c0 c1 c2 c3
  refine bodyPost_ret (v := .tuple #[.agg #[.int .i64 0, .int .i64 0, .int .i64 0, .slice none 0 0], .int .i64 1]) (by simp [results, Try.results25, go_sem, c0, c1, c2, c3]) rfl ?_
  rw [HE.out]
  exact ⟨_, rfl, CH.nil _, set4_below HB1.out (by omega) _ _ _ _⟩

set_option maxRecDepth 100000 in
set_option maxHeartbeats 8000000 in
theorem rMerge_bad2 (K T L K' T' L' : Int) (l l' : L58) (A A' : Option Addr) (c c' : Nat) (w : World) (hr : Kd.C k58 w A l.length l) (hc : l.length ≤ c) (hl : l.length ≤ 1000) (hr' : Kd.C k58 w A' l'.length l') (hc' : l'.length ≤ c') (hl' : l'.length ≤ 1000) (hz : chkH ⟨K, T, L, l⟩ = 0) (hz' : chkH ⟨K', T', L', l'⟩ ≠ 0) :
    Calls Try.prog 25 #[.agg #[.int .i64 K, .int .i64 T, .int .i64 L, .slice A l.length c], .agg #[.int .i64 K', .int .i64 T', .int .i64 L', .slice A' l'.length c']] w (RC w (mrgH ⟨K, T, L, l⟩ ⟨K', T', L', l'⟩)) := by
  have HC := Aside0.mk (fun W (h : Below w.heap.size w W) => rCheck_calls ⟨K, T, L, l⟩ A c W (Kd.C_below hr h) hc (by omega))
  have HC' := Aside0.mk (fun W (h : Below w.heap.size w W) => rCheck_calls ⟨K', T', L', l'⟩ A' c' W (Kd.C_below hr' h) hc' (by omega))
  have hu1 := Try.underlying58
  have hu2 := Try.underlying24
  have hd : (chkH ⟨K', T', L', l'⟩ != 0) = true := by simpa using hz'
  have HE := Aside0.mk (show mrgH ⟨K, T, L, l⟩ ⟨K', T', L', l'⟩ = (zH, 1) by unfold mrgH; rw [if_pos (.inr hz')])
  rw [hz] at HC
  clear hr hr' hz hz'
  simp only at HC HC'
  generalize chkH ⟨K', T', L', l'⟩ = r at *
  go_enter Try.func25, Try.ntmps25
  go_wp2_with fail
  have bx := heap_alloc_keep (o := (.cells #[.int .i64 0, .int .i64 0, .int .i64 0, .slice none 0 0] 24)) (heap_alloc_keep (o := (.cells #[.int .i64 K', .int .i64 T', .int .i64 L', .slice A' l'.length c'] 24)) (heap_alloc_new w (.cells #[.int .i64 K, .int .i64 T, .int .i64 L, .slice A l.length c] 24)))
  have bY := heap_alloc_keep (o := (.cells #[.int .i64 0, .int .i64 0, .int .i64 0, .slice none 0 0] 24)) (heap_alloc_new (w.alloc (.cells #[.int .i64 K, .int .i64 T, .int .i64 L, .slice A l.length c] 24)) (.cells #[.int .i64 K', .int .i64 T', .int .i64 L', .slice A' l'.length c'] 24))
  have br := heap_alloc_new ((w.alloc (.cells #[.int .i64 K, .int .i64 T, .int .i64 L, .slice A l.length c] 24)).alloc (.cells #[.int .i64 K', .int .i64 T', .int .i64 L', .slice A' l'.length c'] 24)) (.cells #[.int .i64 0, .int .i64 0, .int .i64 0, .slice none 0 0] 24)
  have hW0 := Aside0.mk (show Below w.heap.size w (((w.alloc (.cells #[.int .i64 K, .int .i64 T, .int .i64 L, .slice A l.length c] 24)).alloc (.cells #[.int .i64 K', .int .i64 T', .int .i64 L', .slice A' l'.length c'] 24)).alloc (.cells #[.int .i64 0, .int .i64 0, .int .i64 0, .slice none 0 0] 24)) by repeat (first | exact Below.refl _ _ | apply below_alloc))
  have hsz := Aside0.mk (show (((w.alloc (.cells #[.int .i64 K, .int .i64 T, .int .i64 L, .slice A l.length c] 24)).alloc (.cells #[.int .i64 K', .int .i64 T', .int .i64 L', .slice A' l'.length c'] 24)).alloc (.cells #[.int .i64 0, .int .i64 0, .int .i64 0, .slice none 0 0] 24)).heap.size = w.heap.size + 1 + 1 + 1 by simp)
  generalize (((w.alloc (.cells #[.int .i64 K, .int .i64 T, .int .i64 L, .slice A l.length c] 24)).alloc (.cells #[.int .i64 K', .int .i64 T', .int .i64 L', .slice A' l'.length c'] 24)).alloc (.cells #[.int .i64 0, .int .i64 0, .int .i64 0, .slice none 0 0] 24)) = W0 at *
  simp only [World.size_alloc] at bx bY br
  have BX := Aside0.mk bx
  have BY := Aside0.mk bY
  have BR := Aside0.mk br
  have HS := Aside0.mk (show w.heap.size + 1 + 1 < W0.heap.size by rw [hsz.out]; omega)
  have x0 := (blk_cell BX.out 0).trans rfl
  have x1 := (blk_cell BX.out 1).trans rfl
  have x2 := (blk_cell BX.out 2).trans rfl
  have x3 := (blk_cell BX.out 3).trans rfl
  simp only [List.getElem?_toArray, List.getElem?_cons_zero, List.getElem?_cons_succ] at x0 x1 x2 x3
  clear bx bY br
  go_wp2_with (first
    | (go_at_call 17; (with_reducible refine (HC.out _ hW0.out).mono ?_); rintro e w1 ⟨rfl, hb⟩; have BX1 := Aside0.mk ((hb.block w.heap.size (by have := HS.out; omega)).trans BX.out); have BY1 := Aside0.mk ((hb.block (w.heap.size + 1) (by have := HS.out; omega)).trans BY.out); have BR1 := Aside0.mk ((hb.block (w.heap.size + 1 + 1) (by have := HS.out; omega)).trans BR.out); have HB1 := Aside0.mk (hW0.out.trans (hb.mono hW0.out.size)); have HS1 := Aside0.mk (Nat.le_trans HS.out hb.size); have hs1 : w.heap.size + 1 + 1 < w1.heap.size := HS1.out; clear x0 x1 x2 x3; clear HC; clear hb; have x0 := (blk_cell BX1.out 0).trans rfl; have x1 := (blk_cell BX1.out 1).trans rfl; have x2 := (blk_cell BX1.out 2).trans rfl; have x3 := (blk_cell BX1.out 3).trans rfl; have y0 := (blk_cell BY1.out 0).trans rfl; have y1 := (blk_cell BY1.out 1).trans rfl; have y2 := (blk_cell BY1.out 2).trans rfl; have y3 := (blk_cell BY1.out 3).trans rfl; have r0 := (blk_cell BR1.out 0).trans rfl; have r1 := (blk_cell BR1.out 1).trans rfl; have r2 := (blk_cell BR1.out 2).trans rfl; have r3 := (blk_cell BR1.out 3).trans rfl; have rf0 := blk_frozen BR1.out 0; have rf1 := blk_frozen BR1.out 1; have rf2 := blk_frozen BR1.out 2; have rf3 := blk_frozen BR1.out 3; simp only [List.getElem?_toArray, List.getElem?_cons_zero, List.getElem?_cons_succ] at x0 x1 x2 x3 y0 y1 y2 y3 r0 r1 r2 r3)
    | (go_at_call 17; (with_reducible refine (HC'.out _ HB1.out).mono ?_); rintro e w2 ⟨rfl, hb⟩; have BX2 := Aside0.mk ((hb.block w.heap.size (by have := HS1.out; omega)).trans BX1.out); have BY2 := Aside0.mk ((hb.block (w.heap.size + 1) (by have := HS1.out; omega)).trans BY1.out); have BR2 := Aside0.mk ((hb.block (w.heap.size + 1 + 1) (by have := HS1.out; omega)).trans BR1.out); have HB2 := Aside0.mk (HB1.out.trans (hb.mono HB1.out.size)); have HS2 := Aside0.mk (Nat.le_trans HS1.out hb.size); have hs2 : w.heap.size + 1 + 1 < w2.heap.size := HS2.out; clear x0 x1 x2 x3 y0 y1 y2 y3 r0 r1 r2 r3 rf0 rf1 rf2 rf3 hs1; clear hb; have x0 := (blk_cell BX2.out 0).trans rfl; have x1 := (blk_cell BX2.out 1).trans rfl; have x2 := (blk_cell BX2.out 2).trans rfl; have x3 := (blk_cell BX2.out 3).trans rfl; have y0 := (blk_cell BY2.out 0).trans rfl; have y1 := (blk_cell BY2.out 1).trans rfl; have y2 := (blk_cell BY2.out 2).trans rfl; have y3 := (blk_cell BY2.out 3).trans rfl; have r0 := (blk_cell BR2.out 0).trans rfl; have r1 := (blk_cell BR2.out 1).trans rfl; have r2 := (blk_cell BR2.out 2).trans rfl; have r3 := (blk_cell BR2.out 3).trans rfl; have rf0 := blk_frozen BR2.out 0; have rf1 := blk_frozen BR2.out 1; have rf2 := blk_frozen BR2.out 2; have rf3 := blk_frozen BR2.out 3; simp only [List.getElem?_toArray, List.getElem?_cons_zero, List.getElem?_cons_succ] at x0 x1 x2 x3 y0 y1 y2 y3 r0 r1 r2 r3))
  obtain ⟨c0, c1, c2, c3⟩ := set4_cells BR2.out (.int .i64 0) (.int .i64 0) (.int .i64 0) (.slice none 0 0)
  unfold set4 at c0 c1 c2 c3
  refine bodyPost_ret (v := .tuple #[.agg #[.int .i64 0, .int .i64 0, .int .i64 0, .slice none 0 0], .int .i64 1]) (by simp [results, Try.results25, go_sem, c0, c1, c2, c3]) rfl ?_
  rw [HE.out]
  exact ⟨_, rfl, CH.nil _, set4_below HB2.out (by omega) _ _ _ _⟩

set_option maxRecDepth 100000 in
set_option maxHeartbeats 8000000 in
theorem rMerge_good (K T L K' T' L' : Int) (l l' : L58) (A A' : Option Addr) (c c' : Nat) (w : World) (hr : Kd.C k58 w A l.length l) (hc : l.length ≤ c) (hl : l.length ≤ 1000) (hr' : Kd.C k58 w A' l'.length l') (hc' : l'.length ≤ c') (hl' : l'.length ≤ 1000) (hz : chkH ⟨K, T, L, l⟩ = 0) (hz' : chkH ⟨K', T', L', l'⟩ = 0) :
    Calls Try.prog 25 #[.agg #[.int .i64 K, .int .i64 T, .int .i64 L, .slice A l.length c], .agg #[.int .i64 K', .int .i64 T', .int .i64 L', .slice A' l'.length c']] w (RC w (mrgH ⟨K, T, L, l⟩ ⟨K', T', L', l'⟩)) := by
  have HC := Aside0.mk (fun W (h : Below w.heap.size w W) => rCheck_calls ⟨K, T, L, l⟩ A c W (Kd.C_below hr h) hc (by omega))
  have HC' := Aside0.mk (fun W (h : Below w.heap.size w W) => rCheck_calls ⟨K', T', L', l'⟩ A' c' W (Kd.C_below hr' h) hc' (by omega))
  have hu1 := Try.underlying58
  have hu2 := Try.underlying24
  have HV := Aside0.mk ((chkH_iff _).1 hz)
  have HV' := Aside0.mk ((chkH_iff _).1 hz')
  have ht0 : 0 ≤ T := HV.out.t0
  have ht1 : T ≤ 1099511627776 := HV.out.t1
  have hl0 : 0 ≤ L := HV.out.l0
  have hl1 : L ≤ 1099511627776 := HV.out.l1
  have ht0' : 0 ≤ T' := HV'.out.t0
  have ht1' : T' ≤ 1099511627776 := HV'.out.t1
  have hl0' : 0 ≤ L' := HV'.out.l0
  have hl1' : L' ≤ 1099511627776 := HV'.out.l1
  have HN := Aside0.mk (show ¬ (chkH ⟨K, T, L, l⟩ ≠ 0 ∨ chkH ⟨K', T', L', l'⟩ ≠ 0) by rw [hz, hz']; simp)
  have HRA := Aside0.mk hr
  have HRB := Aside0.mk hr'
  rw [hz] at HC
  rw [hz'] at HC'
  clear hr hr' hz hz'
  simp only at HC HC'
  go_enter Try.func25, Try.ntmps25
  go_wp2_with fail
  have bx := heap_alloc_keep (o := (.cells #[.int .i64 0, .int .i64 0, .int .i64 0, .slice none 0 0] 24)) (heap_alloc_keep (o := (.cells #[.int .i64 K', .int .i64 T', .int .i64 L', .slice A' l'.length c'] 24)) (heap_alloc_new w (.cells #[.int .i64 K, .int .i64 T, .int .i64 L, .slice A l.length c] 24)))
  have bY := heap_alloc_keep (o := (.cells #[.int .i64 0, .int .i64 0, .int .i64 0, .slice none 0 0] 24)) (heap_alloc_new (w.alloc (.cells #[.int .i64 K, .int .i64 T, .int .i64 L, .slice A l.length c] 24)) (.cells #[.int .i64 K', .int .i64 T', .int .i64 L', .slice A' l'.length c'] 24))
  have br := heap_alloc_new ((w.alloc (.cells #[.int .i64 K, .int .i64 T, .int .i64 L, .slice A l.length c] 24)).alloc (.cells #[.int .i64 K', .int .i64 T', .int .i64 L', .slice A' l'.length c'] 24)) (.cells #[.int .i64 0, .int .i64 0, .int .i64 0, .slice none 0 0] 24)
  have hW0 := Aside0.mk (show Below w.heap.size w (((w.alloc (.cells #[.int .i64 K, .int .i64 T, .int .i64 L, .slice A l.length c] 24)).alloc (.cells #[.int .i64 K', .int .i64 T', .int .i64 L', .slice A' l'.length c'] 24)).alloc (.cells #[.int .i64 0, .int .i64 0, .int .i64 0, .slice none 0 0] 24)) by repeat (first | exact Below.refl _ _ | apply below_alloc))
  have hsz := Aside0.mk (show (((w.alloc (.cells #[.int .i64 K, .int .i64 T, .int .i64 L, .slice A l.length c] 24)).alloc (.cells #[.int .i64 K', .int .i64 T', .int .i64 L', .slice A' l'.length c'] 24)).alloc (.cells #[.int .i64 0, .int .i64 0, .int .i64 0, .slice none 0 0] 24)).heap.size = w.heap.size + 1 + 1 + 1 by simp)
  generalize (((w.alloc (.cells #[.int .i64 K, .int .i64 T, .int .i64 L, .slice A l.length c] 24)).alloc (.cells #[.int .i64 K', .int .i64 T', .int .i64 L', .slice A' l'.length c'] 24)).alloc (.cells #[.int .i64 0, .int .i64 0, .int .i64 0, .slice none 0 0] 24)) = W0 at *
  simp only [World.size_alloc] at bx bY br
  have BX := Aside0.mk bx
  have BY := Aside0.mk bY
  have BR := Aside0.mk br
  have HS := Aside0.mk (show w.heap.size + 1 + 1 < W0.heap.size by rw [hsz.out]; omega)
  have x0 := (blk_cell BX.out 0).trans rfl
  have x1 := (blk_cell BX.out 1).trans rfl
  have x2 := (blk_cell BX.out 2).trans rfl
  have x3 := (blk_cell BX.out 3).trans rfl
  simp only [List.getElem?_toArray, List.getElem?_cons_zero, List.getElem?_cons_succ] at x0 x1 x2 x3
  clear bx bY br
  go_wp2_with (first
    | (go_at_call 17; (with_reducible refine (HC.out _ hW0.out).mono ?_); rintro e w1 ⟨rfl, hb⟩; have BX1 := Aside0.mk ((hb.block w.heap.size (by have := HS.out; omega)).trans BX.out); have BY1 := Aside0.mk ((hb.block (w.heap.size + 1) (by have := HS.out; omega)).trans BY.out); have BR1 := Aside0.mk ((hb.block (w.heap.size + 1 + 1) (by have := HS.out; omega)).trans BR.out); have HB1 := Aside0.mk (hW0.out.trans (hb.mono hW0.out.size)); have HS1 := Aside0.mk (Nat.le_trans HS.out hb.size); have hs1 : w.heap.size + 1 + 1 < w1.heap.size := HS1.out; clear x0 x1 x2 x3; clear HC; clear hb; have x0 := (blk_cell BX1.out 0).trans rfl; have x1 := (blk_cell BX1.out 1).trans rfl; have x2 := (blk_cell BX1.out 2).trans rfl; have x3 := (blk_cell BX1.out 3).trans rfl; have y0 := (blk_cell BY1.out 0).trans rfl; have y1 := (blk_cell BY1.out 1).trans rfl; have y2 := (blk_cell BY1.out 2).trans rfl; have y3 := (blk_cell BY1.out 3).trans rfl; have r0 := (blk_cell BR1.out 0).trans rfl; have r1 := (blk_cell BR1.out 1).trans rfl; have r2 := (blk_cell BR1.out 2).trans rfl; have r3 := (blk_cell BR1.out 3).trans rfl; have rf0 := blk_frozen BR1.out 0; have rf1 := blk_frozen BR1.out 1; have rf2 := blk_frozen BR1.out 2; have rf3 := blk_frozen BR1.out 3; simp only [List.getElem?_toArray, List.getElem?_cons_zero, List.getElem?_cons_succ] at x0 x1 x2 x3 y0 y1 y2 y3 r0 r1 r2 r3)
    | (go_at_call 17; (with_reducible refine (HC'.out _ HB1.out).mono ?_); rintro e w2 ⟨rfl, hb⟩; have BX2 := Aside0.mk ((hb.block w.heap.size (by have := HS1.out; omega)).trans BX1.out); have BY2 := Aside0.mk ((hb.block (w.heap.size + 1) (by have := HS1.out; omega)).trans BY1.out); have BR2 := Aside0.mk ((hb.block (w.heap.size + 1 + 1) (by have := HS1.out; omega)).trans BR1.out); have HB2 := Aside0.mk (HB1.out.trans (hb.mono HB1.out.size)); have HS2 := Aside0.mk (Nat.le_trans HS1.out hb.size); have hs2 : w.heap.size + 1 + 1 < w2.heap.size := HS2.out; clear x0 x1 x2 x3 y0 y1 y2 y3 r0 r1 r2 r3 rf0 rf1 rf2 rf3 hs1; clear hb; have x0 := (blk_cell BX2.out 0).trans rfl; have x1 := (blk_cell BX2.out 1).trans rfl; have x2 := (blk_cell BX2.out 2).trans rfl; have x3 := (blk_cell BX2.out 3).trans rfl; have y0 := (blk_cell BY2.out 0).trans rfl; have y1 := (blk_cell BY2.out 1).trans rfl; have y2 := (blk_cell BY2.out 2).trans rfl; have y3 := (blk_cell BY2.out 3).trans rfl; have r0 := (blk_cell BR2.out 0).trans rfl; have r1 := (blk_cell BR2.out 1).trans rfl; have r2 := (blk_cell BR2.out 2).trans rfl; have r3 := (blk_cell BR2.out 3).trans rfl; have rf0 := blk_frozen BR2.out 0; have rf1 := blk_frozen BR2.out 1; have rf2 := blk_frozen BR2.out 2; have rf3 := blk_frozen BR2.out 3; simp only [List.getElem?_toArray, List.getElem?_cons_zero, List.getElem?_cons_succ] at x0 x1 x2 x3 y0 y1 y2 y3 r0 r1 r2 r3))
  · have hk : K ≠ K' := by
      have h5 : (K != K') = true := by assumption
      simpa using h5
    obtain ⟨c0, c1, c2, c3⟩ := set4_cells BR2.out (.int .i64 0) (.int .i64 0) (.int .i64 0) (.slice none 0 0)
    unfold set4 at c0 c1 c2 c3
    refine bodyPost_ret (v := .tuple #[.agg #[.int .i64 0, .int .i64 0, .int .i64 0, .slice none 0 0], .int .i64 10]) (by simp [results, Try.results25, go_sem, c0, c1, c2, c3]) rfl ?_
    rw [show mrgH ⟨K, T, L, l⟩ ⟨K', T', L', l'⟩ = (zH, 10) by unfold mrgH; rw [if_neg HN.out, if_pos hk]]
    exact ⟨_, rfl, CH.nil _, set4_below HB2.out (by omega) _ _ _ _⟩
  · have hk : K = K' := by
      have h5 : (K != K') = false := by assumption
      simpa using h5
    obtain ⟨c0, c1, c2, c3⟩ := set4_cells BR2.out (.int .i64 0) (.int .i64 0) (.int .i64 0) (.slice none 0 0)
    unfold set4 at c0 c1 c2 c3
    refine bodyPost_ret (v := .tuple #[.agg #[.int .i64 0, .int .i64 0, .int .i64 0, .slice none 0 0], .int .i64 4]) (by simp [results, Try.results25, go_sem, c0, c1, c2, c3]) rfl ?_
    rw [show mrgH ⟨K, T, L, l⟩ ⟨K', T', L', l'⟩ = (zH, 4) by unfold mrgH; rw [if_neg HN.out, if_neg (show ¬ K ≠ K' by simpa using hk), if_pos (by simp only; omega)]]
    exact ⟨_, rfl, CH.nil _, set4_below HB2.out (by omega) _ _ _ _⟩
  · have hk : K = K' := by
      have h5 : (K != K') = false := by assumption
      simpa using h5
    have HKK := Aside0.mk hk
    clear hk
    have xf1 := blk_frozen BX2.out 1
    have xf2 := blk_frozen BX2.out 2
    go_region
    have hbx : (((w2.setCell ⟨w.heap.size, 1, none⟩ (.int .i64 (T + T'))).setCell ⟨w.heap.size, 2, none⟩ (.int .i64 (L + L'))).drew).heap[w.heap.size]? = some (.cells #[.int .i64 K, .int .i64 (T + T'), .int .i64 (L + L'), .slice A l.length c] 24 (0, 0)) := blk_set (blk_set BX2.out 1 (.int .i64 (T + T'))) 2 (.int .i64 (L + L'))
    have hby : (((w2.setCell ⟨w.heap.size, 1, none⟩ (.int .i64 (T + T'))).setCell ⟨w.heap.size, 2, none⟩ (.int .i64 (L + L'))).drew).heap[w.heap.size + 1]? = some (.cells #[.int .i64 K', .int .i64 T', .int .i64 L', .slice A' l'.length c'] 24 (0, 0)) := blk_far (blk_far BY2.out (p := ⟨w.heap.size, 1, none⟩) (show w.heap.size + 1 ≠ w.heap.size by omega) (.int .i64 (T + T'))) (p := ⟨w.heap.size, 2, none⟩) (show w.heap.size + 1 ≠ w.heap.size by omega) (.int .i64 (L + L'))
    have hbr : (((w2.setCell ⟨w.heap.size, 1, none⟩ (.int .i64 (T + T'))).setCell ⟨w.heap.size, 2, none⟩ (.int .i64 (L + L'))).drew).heap[w.heap.size + 1 + 1]? = some (.cells #[.int .i64 0, .int .i64 0, .int .i64 0, .slice none 0 0] 24 (0, 0)) := blk_far (blk_far BR2.out (p := ⟨w.heap.size, 1, none⟩) (show w.heap.size + 1 + 1 ≠ w.heap.size by omega) (.int .i64 (T + T'))) (p := ⟨w.heap.size, 2, none⟩) (show w.heap.size + 1 + 1 ≠ w.heap.size by omega) (.int .i64 (L + L'))
    have hb4 : Below w.heap.size w (((w2.setCell ⟨w.heap.size, 1, none⟩ (.int .i64 (T + T'))).setCell ⟨w.heap.size, 2, none⟩ (.int .i64 (L + L'))).drew) := below_drew ((HB2.out.setCell (p := ⟨w.heap.size, 1, none⟩) (Nat.le_refl _) _).setCell (p := ⟨w.heap.size, 2, none⟩) (Nat.le_refl _) _)
    have hs4 : w.heap.size + 1 + 1 < (((w2.setCell ⟨w.heap.size, 1, none⟩ (.int .i64 (T + T'))).setCell ⟨w.heap.size, 2, none⟩ (.int .i64 (L + L'))).drew).heap.size := by have h1 := HS2.out; simp; omega
    clear x0 x1 x2 x3 y0 y1 y2 y3 r0 r1 r2 r3 rf0 rf1 rf2 rf3 xf1 xf2 hs2
    generalize ((w2.setCell ⟨w.heap.size, 1, none⟩ (.int .i64 (T + T'))).setCell ⟨w.heap.size, 2, none⟩ (.int .i64 (L + L'))).drew = W4 at *
    have HX4 := Aside0.mk hbx
    have HY4 := Aside0.mk hby
    have HR4 := Aside0.mk hbr
    have HB4 := Aside0.mk hb4
    have HS4 := Aside0.mk hs4
    have HV4 := Aside0.mk (V_of_C HRA.out hc (fun k => k < w.heap.size ∨ w.heap.size + 1 + 1 < k) 0 hb4 (fun k hk => .inl hk))
    clear hbx hby hbr hb4 hs4
    go_wp2_with fail
    simp only [show (K != K') = false by assumption]
    go_loopg [6] (l'.length) (fun kq v6 w' => ∃ (j : Nat) (A4 : Option Addr) (c4 : Nat), v6 = .int .i64 j ∧ j ≤ l'.length ∧ Aside0 (kq = l'.length - j) ∧ Aside0 (Kd.V k58 58 w' 0 (fun k => k < w.heap.size ∨ w.heap.size + 1 + 1 < k) (.slice A4 (mrgI l (l'.take j)).length c4) (mrgI l (l'.take j))) ∧ Aside0 (w'.heap[w.heap.size]? = some (.cells #[.int .i64 K, .int .i64 (T + T'), .int .i64 (L + L'), .slice A4 (mrgI l (l'.take j)).length c4] 24 (0, 0))) ∧ Aside0 (w'.heap[w.heap.size + 1]? = some (.cells #[.int .i64 K', .int .i64 T', .int .i64 L', .slice A' l'.length c'] 24 (0, 0))) ∧ Aside0 (w'.heap[w.heap.size + 1 + 1]? = some (.cells #[.int .i64 0, .int .i64 0, .int .i64 0, .slice none 0 0] 24 (0, 0))) ∧ Aside0 (Below w.heap.size w w') ∧ Aside0 (w.heap.size + 1 + 1 < w'.heap.size))
    case atStart => exact ⟨0, A, c, rfl, by omega, ⟨rfl⟩, HV4, HX4, HY4, HR4, HB4, HS4⟩
    case round =>
      clear HX4 HY4 HR4 HB4 HS4 HV4
      obtain ⟨j, A4, c4, rfl, hj, HK4, HV4, HX4, HY4, HR4, HB4, HS4⟩ := hrel
      obtain ⟨cur, hcur⟩ : ∃ M, mrgI l (l'.take j) = M := ⟨_, rfl⟩
      rw [hcur] at HV4 HX4
      have HCL := Aside0.mk (show cur.length ≤ 200 by
        have h1 := mrgI_len l (l'.take j); have h2 := HV.out.len; have h3 := HV.out.k1; have h4 := HV'.out.len; have h5 := HV'.out.k1
        rw [List.length_take] at h1; rw [hcur] at h1; simp only at h2 h3 h4 h5; omega)
      have HCP := Aside0.mk (show Pos cur by rw [← hcur]; exact mrgI_pos HV.out.pos (fun y hy => HV'.out.pos y (List.mem_of_mem_take hy)))
      have HCS := Aside0.mk (show Srt cur by rw [← hcur]; exact mrgI_srt HV.out.srt _)
      have HCB := Aside0.mk (show ∀ y ∈ cur, 0 ≤ y.f1 ∧ y.f1 ≤ 4398046511104 by
        intro y hy
        have h1 := HCP.out y hy
        have h2 := le_sumI HCP.out hy
        rw [← hcur, mrgI_sum] at h2
        have h3 : sumI (l'.take j) ≤ sumI l' := by
          conv => rhs; rw [← List.take_append_drop j l', sumI_append]
          have := sumI_nonneg (show Pos (l'.drop j) from fun y hy => HV'.out.pos y (List.mem_of_mem_drop hy))
          omega
        have h7 := HV.out.sum
        have h7' := HV'.out.sum
        have k0 : 2 ≤ K := HV.out.k0
        have k0' : 2 ≤ K' := HV'.out.k0
        have h8 : 0 ≤ K * L := Int.mul_nonneg (by omega) hl0
        have h8' : 0 ≤ K' * L' := Int.mul_nonneg (by omega) hl0'
        simp only at h7 h7'
        omega)
      have x0 := (blk_cell HX4.out 0).trans rfl
      have x1 := (blk_cell HX4.out 1).trans rfl
      have x2 := (blk_cell HX4.out 2).trans rfl
      have x3 := (blk_cell HX4.out 3).trans rfl
      have y0 := (blk_cell HY4.out 0).trans rfl
      have y1 := (blk_cell HY4.out 1).trans rfl
      have y2 := (blk_cell HY4.out 2).trans rfl
      have y3 := (blk_cell HY4.out 3).trans rfl
      simp only [List.getElem?_toArray, List.getElem?_cons_zero, List.getElem?_cons_succ] at x0 x1 x2 x3 y0 y1 y2 y3
      have hs4 : w.heap.size + 1 + 1 < wr.heap.size := HS4.out
      by_cases hlt : j < l'.length
      · have HPUT := Aside0.mk (fun W (h : Kd.V k58 58 W 0 (fun k => k < w.heap.size ∨ w.heap.size + 1 + 1 < k) (.slice A4 cur.length c4) cur) => lookoutref32_put.calls (cur.length + 1) A4 c4 cur l'[j].f0 l'[j].f1 (putK cur l'[j].f0 l'[j].f1) W (Kd.V_reads' h).2.2 (Kd.V_reads' h).2.1 (rput_f cur _ _ (by have := HCL.out; omega) HCB.out (by have h1 := HV'.out.pos l'[j] (List.getElem_mem hlt); have h2 := HV'.out.le l'[j] (List.getElem_mem hlt); (try simp only at h2); omega)))
        have HNX := Aside0.mk (show mrgI l (l'.take (j + 1)) = putK cur l'[j].f0 l'[j].f1 by rw [List.take_succ_eq_append_getElem hlt, ← hcur]; unfold mrgI; rw [List.foldl_append]; rfl)
        obtain ⟨ad, HE0⟩ : ∃ ad, Aside0 (A' = some ad ∧ ∀ W, Below w.heap.size w W → W.cell? (ad.add (j * 2)) = some (.string l'[j].f0) ∧ W.cell? ⟨(ad.add (j * 2)).block, (ad.add (j * 2)).off + 1, none⟩ = some (.int .i64 l'[j].f1)) := by
          obtain ⟨ad, e1, hc0, hc1⟩ := at_T58 HRB.out (j : Int) (by omega) (by omega)
          subst e1
          refine ⟨ad, ⟨rfl, fun W h => ?_⟩⟩
          obtain ⟨ad', e1, hc0, hc1⟩ := at_T58 (Kd.C_below HRB.out h) (j : Int) (by omega) (by omega)
          cases e1
          rw [rdT_get l' j hlt] at hc0 hc1
          exact ⟨hc0, hc1⟩
        obtain ⟨rfl, hel⟩ := HE0.out
        have HEL := Aside0.mk hel
        clear HE0 hel
        obtain ⟨g0, g1⟩ := HEL.out wr HB4.out
        have xf3 := blk_frozen HX4.out 3
        have pl : (0 ≤ (j : Int)) = True := eq_true (by omega)
        have dl : decide (j < l'.length) = true := decide_eq_true hlt
        generalize hnx : putK cur l'[j].f0 l'[j].f1 = nx at *
        generalize l'[j] = y at *
        have HCU := Aside0.mk hcur
        have HNE := Aside0.mk hnx
        clear hcur hnx HCL HCP HCS HCB
        go_wp2_with fail
        go_still_tail 14, (by kernel_rfl)
        change wpList _ _ _ _ _ wr.drew
        go_wp2_with (go_at_call 37; (with_reducible refine (HPUT.out _ (by exact Kd.V_drew HV4.out)).mono ?_); rintro e u1 ⟨v1, rfl, hR, hb⟩; obtain ⟨A5, c5, rfl⟩ := Kd.R_slice hR; have hbw : Below wr.heap.size wr u1 := (below_drew (Below.refl _ _)).trans hb; have bx : u1.heap[w.heap.size]? = some (.cells #[.int .i64 K, .int .i64 (T + T'), .int .i64 (L + L'), .slice A4 cur.length c4] 24 (0, 0)) := (hb.block w.heap.size (show w.heap.size < wr.heap.size by omega)).trans HX4.out; have by_ : u1.heap[w.heap.size + 1]? = some (.cells #[.int .i64 K', .int .i64 T', .int .i64 L', .slice (some ad) l'.length c'] 24 (0, 0)) := (hb.block (w.heap.size + 1) (show w.heap.size + 1 < wr.heap.size by omega)).trans HY4.out; have br : u1.heap[w.heap.size + 1 + 1]? = some (.cells #[.int .i64 0, .int .i64 0, .int .i64 0, .slice none 0 0] 24 (0, 0)) := (hb.block (w.heap.size + 1 + 1) (show w.heap.size + 1 + 1 < wr.heap.size by omega)).trans HR4.out; have hbu : Below w.heap.size w u1 := HB4.out.trans (hbw.mono HB4.out.size); have hsu : w.heap.size + 1 + 1 < u1.heap.size := Nat.lt_of_lt_of_le hs4 hb.size; have n3 := (blk_cell by_ 3).trans rfl; have z3 := (blk_cell bx 3).trans rfl; have zf3 := blk_frozen bx 3; obtain ⟨n4, n5⟩ := HEL.out u1 hbu; have HB6 := Aside0.mk (hbu.setCell (p := ⟨w.heap.size, 3, none⟩) (Nat.le_refl _) (.slice A5 nx.length c5)); obtain ⟨m4, m5⟩ := HEL.out _ HB6.out; have HY6 := Aside0.mk (show (u1.setCell ⟨w.heap.size, 3, none⟩ (.slice A5 nx.length c5)).heap[w.heap.size + 1]? = some (.cells #[.int .i64 K', .int .i64 T', .int .i64 L', .slice (some ad) l'.length c'] 24 (0, 0)) from blk_far by_ (p := ⟨w.heap.size, 3, none⟩) (show w.heap.size + 1 ≠ w.heap.size by omega) _); have HR6 := Aside0.mk (show (u1.setCell ⟨w.heap.size, 3, none⟩ (.slice A5 nx.length c5)).heap[w.heap.size + 1 + 1]? = some (.cells #[.int .i64 0, .int .i64 0, .int .i64 0, .slice none 0 0] 24 (0, 0)) from blk_far br (p := ⟨w.heap.size, 3, none⟩) (show w.heap.size + 1 + 1 ≠ w.heap.size by omega) _); have HX6 := Aside0.mk (show (u1.setCell ⟨w.heap.size, 3, none⟩ (.slice A5 nx.length c5)).heap[w.heap.size]? = some (.cells #[.int .i64 K, .int .i64 (T + T'), .int .i64 (L + L'), .slice A5 nx.length c5] 24 (0, 0)) from blk_set bx 3 (.slice A5 nx.length c5)); have m3 := (blk_cell HY6.out 3).trans rfl; have HS6 := Aside0.mk (show w.heap.size + 1 + 1 < (u1.setCell ⟨w.heap.size, 3, none⟩ (.slice A5 nx.length c5)).heap.size by simpa using hsu); have HV6 := Aside0.mk (show Kd.V k58 58 (u1.setCell ⟨w.heap.size, 3, none⟩ (.slice A5 nx.length c5)) 0 (fun k => k < w.heap.size ∨ w.heap.size + 1 + 1 < k) (.slice A5 nx.length c5) nx from Kd.V_far (p := ⟨w.heap.size, 3, none⟩) (Kd.V_mono (ok' := (fun k => k < w.heap.size ∨ w.heap.size + 1 + 1 < k)) (Kd.R_V (Kd.R_bound hR)) (fun k hk => .inr (Nat.lt_of_lt_of_le hs4 hk.2.1))) (fun k hk => by rcases hk with hk | hk; exact Nat.ne_of_lt hk; show k ≠ w.heap.size; omega) _); simp only [List.getElem?_toArray, List.getElem?_cons_zero, List.getElem?_cons_succ] at n3 z3 m3; clear hb hbw hR bx by_ br hbu hsu)
        go_roundg (l'.length - (j + 1))
        case measure => have := HK4.out; omega
        case rel =>
          refine ⟨j + 1, A5, c5, by simp, by omega, ⟨rfl⟩, ?_⟩
          rw [HNX.out]
          exact ⟨HV6, HX6, HY6, HR6, HB6, HS6⟩
      · have hjl : j = l'.length := by omega
        subst hjl
        rw [List.take_length] at hcur
        have dl : decide (l'.length < l'.length) = false := decide_eq_false (by omega)
        obtain ⟨N, hN⟩ := rshort_f K (T + T') (L + L') cur HV.out.k0 HV.out.k1 HCS.out HCP.out (by have := HCL.out; omega) HCB.out ⟨by omega, by omega⟩
        have HSO := Aside0.mk (hN N (Nat.le_refl _))
        have HCU := Aside0.mk hcur
        have hs5 : ¬ 1099511627776 - T' < T := by omega
        have HNT := Aside0.mk hs5
        clear hN hcur hs5
        go_wp2_with (go_at_call 38; (refine (lookoutref32_shortened.calls N K (T + T') (L + L') (fun k => k < w.heap.size ∨ w.heap.size + 1 + 1 < k) A4 c4 cur _ _ _ _ _ (by first | exact HV4.out | exact Kd.V_drew HV4.out) HSO.out).mono ?_); rintro e u1 ⟨v4, rfl, hV5, hb⟩; obtain ⟨A5, c5, rfl⟩ := Kd.V_slice hV5; have BR5 := Aside0.mk ((hb.block (w.heap.size + 1 + 1) (show w.heap.size + 1 + 1 < wr.heap.size by omega)).trans HR4.out); have HB5 := Aside0.mk (HB4.out.trans (hb.mono HB4.out.size)); have HV5 := Aside0.mk (Kd.V_mono (ok' := fun k => k ≠ w.heap.size + 1 + 1) hV5 (fun k hk => by have h1 := HS4.out; rcases hk with (hk | hk) | hk; omega; omega; omega)); clear hb hV5; have r0 := (blk_cell BR5.out 0).trans rfl; have r1 := (blk_cell BR5.out 1).trans rfl; have r2 := (blk_cell BR5.out 2).trans rfl; have r3 := (blk_cell BR5.out 3).trans rfl; have rf0 := blk_frozen BR5.out 0; have rf1 := blk_frozen BR5.out 1; have rf2 := blk_frozen BR5.out 2; have rf3 := blk_frozen BR5.out 3; simp only [List.getElem?_toArray, List.getElem?_cons_zero, List.getElem?_cons_succ] at r0 r1 r2 r3)
        obtain ⟨q0, q1, q2, q3⟩ := set4_cells BR5.out (.int .i64 K) (.int .i64 (T + T')) (.int .i64 (shrt K cur (L + L')).2) (.slice A5 (shrt K cur (L + L')).1.length c5)
        unfold set4 at q0 q1 q2 q3
        refine bodyPost_ret (v := .tuple #[.agg #[.int .i64 K, .int .i64 (T + T'), .int .i64 (shrt K cur (L + L')).2, .slice A5 (shrt K cur (L + L')).1.length c5], .int .i64 0]) (by simp [results, Try.results25, go_sem, q0, q1, q2, q3]) rfl ?_
        rw [show mrgH ⟨K, T, L, l⟩ ⟨K', T', L', l'⟩ = (shrtH K (T + T') (L + L') cur, 0) by unfold mrgH; rw [if_neg HN.out, if_neg (show ¬ K ≠ K' by simpa using HKK.out), if_neg (by have := HNT.out; simp only; omega)]; simp only [HCU.out]]
        exact ⟨_, rfl, CH.of_V (set4_V HV5.out _ _ _ _), set4_below HB5.out (by omega) _ _ _ _⟩
theorem rMerge_calls (x y : HV) (A A' : Option Addr) (c c' : Nat) (w : World) (hr : Kd.C k58 w A x.f3.length x.f3) (hc : x.f3.length ≤ c) (hl : x.f3.length ≤ 1000) (hr' : Kd.C k58 w A' y.f3.length y.f3) (hc' : y.f3.length ≤ c') (hl' : y.f3.length ≤ 1000) :
    Calls Try.prog 25 #[.agg #[.int .i64 x.f0, .int .i64 x.f1, .int .i64 x.f2, .slice A x.f3.length c], .agg #[.int .i64 y.f0, .int .i64 y.f1, .int .i64 y.f2, .slice A' y.f3.length c']] w (RC w (mrgH x y)) := by
  obtain ⟨K, T, L, l⟩ := x
  obtain ⟨K', T', L', l'⟩ := y
  by_cases hz : chkH ⟨K, T, L, l⟩ = 0
  · by_cases hz' : chkH ⟨K', T', L', l'⟩ = 0
    · exact rMerge_good K T L K' T' L' l l' A A' c c' w hr hc hl hr' hc' hl' hz hz'
    · exact rMerge_bad2 K T L K' T' L' l l' A A' c c' w hr hc hl hr' hc' hl' hz hz'
  · exact rMerge_bad1 K T L K' T' L' l l' A A' c c' w hr hc hl hr' hc' hl' hz
end Go.Proofs.Ytgpkpeefbkcjeaa.H
