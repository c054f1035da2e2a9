/- heavyhitters.Merge: printed by gen_kmerge.py. -/
import Derived.Test.YtgpkpeefbkcjeaaKOf
import Derived.BigQuiet
namespace Go.Proofs.Ytgpkpeefbkcjeaa.H
open Go Go.RowKit Go.WideMaps Go.Proofs.YtgpkpeefbkcjeaaW.PrintWords Go.Proofs.YtgpkpeefbkcjeaaW.PrintLast Go.Proofs.YtgpkpeefbkcjeaaW.PrintMore Go.Proofs.Ytgpkpeefbkcjeaa.PAll
set_option linter.unusedVariables false
set_option linter.unusedSimpArgs false

set_option maxRecDepth 100000 in
set_option maxHeartbeats 8000000 in
theorem Merge_bad1 (K T L K' T' L' : Int) (l l' : L58) (A A' : Option Addr) (c c' : Nat) (w : World) (hr : Kd.C k58 w A l.length l) (hc : l.length ≤ c) (hl : l.length ≤ 1000) (hr' : Kd.C k58 w A' l'.length l') (hc' : l'.length ≤ c') (hl' : l'.length ≤ 1000) (hz : chkH ⟨K, T, L, l⟩ ≠ 0) :
    Calls Try.prog 24 #[.agg #[.int .i64 K, .int .i64 T, .int .i64 L, .slice A l.length c], .agg #[.int .i64 K', .int .i64 T', .int .i64 L', .slice A' l'.length c']] w (RH w (mrgH ⟨K, T, L, l⟩ ⟨K', T', L', l'⟩)) := by
  have HC := Aside0.mk (fun W (h : Below w.heap.size w W) => Check_calls ⟨K, T, L, l⟩ A c W (Kd.C_below hr h) hc (by simp only [LB]; omega))
  have hu1 := Try.underlying58
  have hu2 := Try.underlying24
  have hd : (chkH ⟨K, T, L, l⟩ != 0) = true := by simpa using hz
  have HE := Aside0.mk (show mrgH ⟨K, T, L, l⟩ ⟨K', T', L', l'⟩ = (zH, 1) by unfold mrgH; rw [if_pos (.inl hz)])
  clear hr hr' hz
  simp only at HC
  generalize chkH ⟨K, T, L, l⟩ = r at *
  go_enter Try.func24, Try.ntmps24
  go_wp2_with fail
  have bx := heap_alloc_keep (o := (.cells #[.int .i64 0, .int .i64 0, .int .i64 0, .slice none 0 0] 24)) (heap_alloc_keep (o := (.cells #[.int .i64 K', .int .i64 T', .int .i64 L', .slice A' l'.length c'] 24)) (heap_alloc_new w (.cells #[.int .i64 K, .int .i64 T, .int .i64 L, .slice A l.length c] 24)))
  have bY := heap_alloc_keep (o := (.cells #[.int .i64 0, .int .i64 0, .int .i64 0, .slice none 0 0] 24)) (heap_alloc_new (w.alloc (.cells #[.int .i64 K, .int .i64 T, .int .i64 L, .slice A l.length c] 24)) (.cells #[.int .i64 K', .int .i64 T', .int .i64 L', .slice A' l'.length c'] 24))
  have br := heap_alloc_new ((w.alloc (.cells #[.int .i64 K, .int .i64 T, .int .i64 L, .slice A l.length c] 24)).alloc (.cells #[.int .i64 K', .int .i64 T', .int .i64 L', .slice A' l'.length c'] 24)) (.cells #[.int .i64 0, .int .i64 0, .int .i64 0, .slice none 0 0] 24)
  have hW0 := Aside0.mk (show Below w.heap.size w (((w.alloc (.cells #[.int .i64 K, .int .i64 T, .int .i64 L, .slice A l.length c] 24)).alloc (.cells #[.int .i64 K', .int .i64 T', .int .i64 L', .slice A' l'.length c'] 24)).alloc (.cells #[.int .i64 0, .int .i64 0, .int .i64 0, .slice none 0 0] 24)) by repeat (first | exact Below.refl _ _ | apply below_alloc))
  have hsz := Aside0.mk (show (((w.alloc (.cells #[.int .i64 K, .int .i64 T, .int .i64 L, .slice A l.length c] 24)).alloc (.cells #[.int .i64 K', .int .i64 T', .int .i64 L', .slice A' l'.length c'] 24)).alloc (.cells #[.int .i64 0, .int .i64 0, .int .i64 0, .slice none 0 0] 24)).heap.size = w.heap.size + 1 + 1 + 1 by simp)
  generalize (((w.alloc (.cells #[.int .i64 K, .int .i64 T, .int .i64 L, .slice A l.length c] 24)).alloc (.cells #[.int .i64 K', .int .i64 T', .int .i64 L', .slice A' l'.length c'] 24)).alloc (.cells #[.int .i64 0, .int .i64 0, .int .i64 0, .slice none 0 0] 24)) = W0 at *
  simp only [World.size_alloc] at bx bY br
  have BX := Aside0.mk bx
  have BY := Aside0.mk bY
  have BR := Aside0.mk br
  have HS := Aside0.mk (show w.heap.size + 1 + 1 < W0.heap.size by rw [hsz.out]; omega)
  have x0 := (blk_cell BX.out 0).trans rfl
  have x1 := (blk_cell BX.out 1).trans rfl
  have x2 := (blk_cell BX.out 2).trans rfl
  have x3 := (blk_cell BX.out 3).trans rfl
  simp only [List.getElem?_toArray, List.getElem?_cons_zero, List.getElem?_cons_succ] at x0 x1 x2 x3
  clear bx bY br
  go_wp2_with (go_at_call 16; (with_reducible refine (HC.out _ hW0.out).mono ?_); rintro e w1 ⟨rfl, hb⟩; have BX1 := Aside0.mk ((hb.block w.heap.size (by have := HS.out; omega)).trans BX.out); have BY1 := Aside0.mk ((hb.block (w.heap.size + 1) (by have := HS.out; omega)).trans BY.out); have BR1 := Aside0.mk ((hb.block (w.heap.size + 1 + 1) (by have := HS.out; omega)).trans BR.out); have HB1 := Aside0.mk (hW0.out.trans (hb.mono hW0.out.size)); have HS1 := Aside0.mk (Nat.le_trans HS.out hb.size); have hs1 : w.heap.size + 1 + 1 < w1.heap.size := HS1.out; clear x0 x1 x2 x3; clear hb; have x0 := (blk_cell BX1.out 0).trans rfl; have x1 := (blk_cell BX1.out 1).trans rfl; have x2 := (blk_cell BX1.out 2).trans rfl; have x3 := (blk_cell BX1.out 3).trans rfl; have y0 := (blk_cell BY1.out 0).trans rfl; have y1 := (blk_cell BY1.out 1).trans rfl; have y2 := (blk_cell BY1.out 2).trans rfl; have y3 := (blk_cell BY1.out 3).trans rfl; have r0 := (blk_cell BR1.out 0).trans rfl; have r1 := (blk_cell BR1.out 1).trans rfl; have r2 := (blk_cell BR1.out 2).trans rfl; have r3 := (blk_cell BR1.out 3).trans rfl; have rf0 := blk_frozen BR1.out 0; have rf1 := blk_frozen BR1.out 1; have rf2 := blk_frozen BR1.out 2; have rf3 := blk_frozen BR1.out 3; simp only [List.getElem?_toArray, List.getElem?_cons_zero, List.getElem?_cons_succ] at x0 x1 x2 x3 y0 y1 y2 y3 r0 r1 r2 r3)
  obtain ⟨c0, c1, c2, c3⟩ := set4_cells BR1.out (.int .i64 0) (.int .i64 0) (.int .i64 0) (.slice none 0 0)
  unfold set4 at c0 c1 c2 c3
  refine bodyPost_ret (v := .tuple #[.agg #[.int .i64 0, .int .i64 0, .int .i64 0, .slice none 0 0], .int .i64 1]) (by simp [results, Try.results24, go_sem, c0, c1, c2, c3]) rfl ?_
  rw [HE.out]
  exact ⟨_, rfl, Kd.R_nil k58 58 _ _ _, set4_below HB1.out (by omega) _ _ _ _⟩

set_option maxRecDepth 100000 in
set_option maxHeartbeats 8000000 in
theorem Merge_bad2 (K T L K' T' L' : Int) (l l' : L58) (A A' : Option Addr) (c c' : Nat) (w : World) (hr : Kd.C k58 w A l.length l) (hc : l.length ≤ c) (hl : l.length ≤ 1000) (hr' : Kd.C k58 w A' l'.length l') (hc' : l'.length ≤ c') (hl' : l'.length ≤ 1000) (hz : chkH ⟨K, T, L, l⟩ = 0) (hz' : chkH ⟨K', T', L', l'⟩ ≠ 0) :
    Calls Try.prog 24 #[.agg #[.int .i64 K, .int .i64 T, .int .i64 L, .slice A l.length c], .agg #[.int .i64 K', .int .i64 T', .int .i64 L', .slice A' l'.length c']] w (RH w (mrgH ⟨K, T, L, l⟩ ⟨K', T', L', l'⟩)) := by
  have HC := Aside0.mk (fun W (h : Below w.heap.size w W) => Check_calls ⟨K, T, L, l⟩ A c W (Kd.C_below hr h) hc (by simp only [LB]; omega))
  have HC' := Aside0.mk (fun W (h : Below w.heap.size w W) => Check_calls ⟨K', T', L', l'⟩ A' c' W (Kd.C_below hr' h) hc' (by simp only [LB]; omega))
  have hu1 := Try.underlying58
  have hu2 := Try.underlying24
  have hd : (chkH ⟨K', T', L', l'⟩ != 0) = true := by simpa using hz'
  have HE := Aside0.mk (show mrgH ⟨K, T, L, l⟩ ⟨K', T', L', l'⟩ = (zH, 1) by unfold mrgH; rw [if_pos (.inr hz')])
  rw [hz] at HC
  clear hr hr' hz hz'
  simp only at HC HC'
  generalize chkH ⟨K', T', L', l'⟩ = r at *
  go_enter Try.func24, Try.ntmps24
  go_wp2_with fail
  have bx := heap_alloc_keep (o := (.cells #[.int .i64 0, .int .i64 0, .int .i64 0, .slice none 0 0] 24)) (heap_alloc_keep (o := (.cells #[.int .i64 K', .int .i64 T', .int .i64 L', .slice A' l'.length c'] 24)) (heap_alloc_new w (.cells #[.int .i64 K, .int .i64 T, .int .i64 L, .slice A l.length c] 24)))
  have bY := heap_alloc_keep (o := (.cells #[.int .i64 0, .int .i64 0, .int .i64 0, .slice none 0 0] 24)) (heap_alloc_new (w.alloc (.cells #[.int .i64 K, .int .i64 T, .int .i64 L, .slice A l.length c] 24)) (.cells #[.int .i64 K', .int .i64 T', .int .i64 L', .slice A' l'.length c'] 24))
  have br := heap_alloc_new ((w.alloc (.cells #[.int .i64 K, .int .i64 T, .int .i64 L, .slice A l.length c] 24)).alloc (.cells #[.int .i64 K', .int .i64 T', .int .i64 L', .slice A' l'.length c'] 24)) (.cells #[.int .i64 0, .int .i64 0, .int .i64 0, .slice none 0 0] 24)
  have hW0 := Aside0.mk (show Below w.heap.size w (((w.alloc (.cells #[.int .i64 K, .int .i64 T, .int .i64 L, .slice A l.length c] 24)).alloc (.cells #[.int .i64 K', .int .i64 T', .int .i64 L', .slice A' l'.length c'] 24)).alloc (.cells #[.int .i64 0, .int .i64 0, .int .i64 0, .slice none 0 0] 24)) by repeat (first | exact Below.refl _ _ | apply below_alloc))
  have hsz := Aside0.mk (show (((w.alloc (.cells #[.int .i64 K, .int .i64 T, .int .i64 L, .slice A l.length c] 24)).alloc (.cells #[.int .i64 K', .int .i64 T', .int .i64 L', .slice A' l'.length c'] 24)).alloc (.cells #[.int .i64 0, .int .i64 0, .int .i64 0, .slice none 0 0] 24)).heap.size = w.heap.size + 1 + 1 + 1 by simp)
  generalize (((w.alloc (.cells #[.int .i64 K, .int .i64 T, .int .i64 L, .slice A l.length c] 24)).alloc (.cells #[.int .i64 K', .int .i64 T', .int .i64 L', .slice A' l'.length c'] 24)).alloc (.cells #[.int .i64 0, .int .i64 0, .int .i64 0, .slice none 0 0] 24)) = W0 at *
  simp only [World.size_alloc] at bx bY br
  have BX := Aside0.mk bx
  have BY := Aside0.mk bY
  have BR := Aside0.mk br
  have HS := Aside0.mk (show w.heap.size + 1 + 1 < W0.heap.size by rw [hsz.out]; omega)
  have x0 := (blk_cell BX.out 0).trans rfl
  have x1 := (blk_cell BX.out 1).trans rfl
  have x2 := (blk_cell BX.out 2).trans rfl
  have x3 := (blk_cell BX.out 3).trans rfl
  simp only [List.getElem?_toArray, List.getElem?_cons_zero, List.getElem?_cons_succ] at x0 x1 x2 x3
  clear bx bY br
  go_wp2_with (first
    | (go_at_call 16; (with_reducible refine (HC.out _ hW0.out).mono ?_); rintro e w1 ⟨rfl, hb⟩; have BX1 := Aside0.mk ((hb.block w.heap.size (by have := HS.out; omega)).trans BX.out); have BY1 := Aside0.mk ((hb.block (w.heap.size + 1) (by have := HS.out; omega)).trans BY.out); have BR1 := Aside0.mk ((hb.block (w.heap.size + 1 + 1) (by have := HS.out; omega)).trans BR.out); have HB1 := Aside0.mk (hW0.out.trans (hb.mono hW0.out.size)); have HS1 := Aside0.mk (Nat.le_trans HS.out hb.size); have hs1 : w.heap.size + 1 + 1 < w1.heap.size := HS1.out; clear x0 x1 x2 x3; clear HC; clear hb; have x0 := (blk_cell BX1.out 0).trans rfl; have x1 := (blk_cell BX1.out 1).trans rfl; have x2 := (blk_cell BX1.out 2).trans rfl; have x3 := (blk_cell BX1.out 3).trans rfl; have y0 := (blk_cell BY1.out 0).trans rfl; have y1 := (blk_cell BY1.out 1).trans rfl; have y2 := (blk_cell BY1.out 2).trans rfl; have y3 := (blk_cell BY1.out 3).trans rfl; have r0 := (blk_cell BR1.out 0).trans rfl; have r1 := (blk_cell BR1.out 1).trans rfl; have r2 := (blk_cell BR1.out 2).trans rfl; have r3 := (blk_cell BR1.out 3).trans rfl; have rf0 := blk_frozen BR1.out 0; have rf1 := blk_frozen BR1.out 1; have rf2 := blk_frozen BR1.out 2; have rf3 := blk_frozen BR1.out 3; simp only [List.getElem?_toArray, List.getElem?_cons_zero, List.getElem?_cons_succ] at x0 x1 x2 x3 y0 y1 y2 y3 r0 r1 r2 r3)
    | (go_at_call 16; (with_reducible refine (HC'.out _ HB1.out).mono ?_); rintro e w2 ⟨rfl, hb⟩; have BX2 := Aside0.mk ((hb.block w.heap.size (by have := HS1.out; omega)).trans BX1.out); have BY2 := Aside0.mk ((hb.block (w.heap.size + 1) (by have := HS1.out; omega)).trans BY1.out); have BR2 := Aside0.mk ((hb.block (w.heap.size + 1 + 1) (by have := HS1.out; omega)).trans BR1.out); have HB2 := Aside0.mk (HB1.out.trans (hb.mono HB1.out.size)); have HS2 := Aside0.mk (Nat.le_trans HS1.out hb.size); have hs2 : w.heap.size + 1 + 1 < w2.heap.size := HS2.out; clear x0 x1 x2 x3 y0 y1 y2 y3 r0 r1 r2 r3 rf0 rf1 rf2 rf3 hs1; clear hb; have x0 := (blk_cell BX2.out 0).trans rfl; have x1 := (blk_cell BX2.out 1).trans rfl; have x2 := (blk_cell BX2.out 2).trans rfl; have x3 := (blk_cell BX2.out 3).trans rfl; have y0 := (blk_cell BY2.out 0).trans rfl; have y1 := (blk_cell BY2.out 1).trans rfl; have y2 := (blk_cell BY2.out 2).trans rfl; have y3 := (blk_cell BY2.out 3).trans rfl; have r0 := (blk_cell BR2.out 0).trans rfl; have r1 := (blk_cell BR2.out 1).trans rfl; have r2 := (blk_cell BR2.out 2).trans rfl; have r3 := (blk_cell BR2.out 3).trans rfl; have rf0 := blk_frozen BR2.out 0; have rf1 := blk_frozen BR2.out 1; have rf2 := blk_frozen BR2.out 2; have rf3 := blk_frozen BR2.out 3; simp only [List.getElem?_toArray, List.getElem?_cons_zero, List.getElem?_cons_succ] at x0 x1 x2 x3 y0 y1 y2 y3 r0 r1 r2 r3))
  obtain ⟨c0, c1, c2, c3⟩ := set4_cells BR2.out (.int .i64 0) (.int .i64 0) (.int .i64 0) (.slice none 0 0)
  unfold set4 at c0 c1 c2 c3
  refine bodyPost_ret (v := .tuple #[.agg #[.int .i64 0, .int .i64 0, .int .i64 0, .slice none 0 0], .int .i64 1]) (by simp [results, Try.results24, go_sem, c0, c1, c2, c3]) rfl ?_
  rw [HE.out]
  exact ⟨_, rfl, Kd.R_nil k58 58 _ _ _, set4_below HB2.out (by omega) _ _ _ _⟩

set_option maxRecDepth 100000 in
set_option maxHeartbeats 8000000 in
theorem Merge_good (K T L K' T' L' : Int) (l l' : L58) (A A' : Option Addr) (c c' : Nat) (w : World) (hr : Kd.C k58 w A l.length l) (hc : l.length ≤ c) (hl : l.length ≤ 1000) (hr' : Kd.C k58 w A' l'.length l') (hc' : l'.length ≤ c') (hl' : l'.length ≤ 1000) (hz : chkH ⟨K, T, L, l⟩ = 0) (hz' : chkH ⟨K', T', L', l'⟩ = 0) :
    Calls Try.prog 24 #[.agg #[.int .i64 K, .int .i64 T, .int .i64 L, .slice A l.length c], .agg #[.int .i64 K', .int .i64 T', .int .i64 L', .slice A' l'.length c']] w (RH w (mrgH ⟨K, T, L, l⟩ ⟨K', T', L', l'⟩)) := by
  have HC := Aside0.mk (fun W (h : Below w.heap.size w W) => Check_calls ⟨K, T, L, l⟩ A c W (Kd.C_below hr h) hc (by simp only [LB]; omega))
  have HC' := Aside0.mk (fun W (h : Below w.heap.size w W) => Check_calls ⟨K', T', L', l'⟩ A' c' W (Kd.C_below hr' h) hc' (by simp only [LB]; omega))
  have hu1 := Try.underlying58
  have hu2 := Try.underlying24
  have HV := Aside0.mk ((chkH_iff _).1 hz)
  have HV' := Aside0.mk ((chkH_iff _).1 hz')
  have ht0 : 0 ≤ T := HV.out.t0
  have ht1 : T ≤ 1099511627776 := HV.out.t1
  have hl0 : 0 ≤ L := HV.out.l0
  have hl1 : L ≤ 1099511627776 := HV.out.l1
  have ht0' : 0 ≤ T' := HV'.out.t0
  have ht1' : T' ≤ 1099511627776 := HV'.out.t1
  have hl0' : 0 ≤ L' := HV'.out.l0
  have hl1' : L' ≤ 1099511627776 := HV'.out.l1
  have HN := Aside0.mk (show ¬ (chkH ⟨K, T, L, l⟩ ≠ 0 ∨ chkH ⟨K', T', L', l'⟩ ≠ 0) by rw [hz, hz']; simp)
  have HSH := Aside0.mk (fun (w1 : World) (h : Below w.heap.size w w1) => shorten_calls K (T + T') (L + L') A A' c c' l l' (w1.alloc (.cells #[.int .i64 K, .int .i64 (T + T'), .int .i64 (L + L'), .slice none 0 0] 24)) (Kd.C_below (Kd.C_below hr h) (below_alloc (Below.refl _ w1) _)) hc (Kd.C_below (Kd.C_below hr' h) (below_alloc (Below.refl _ w1) _)) hc' hl hl' HV.out.srt HV.out.pos HV'.out.pos (by
    have h7 := HV.out.sum
    have h7' := HV'.out.sum
    have k0 : 2 ≤ K := HV.out.k0
    have k0' : 2 ≤ K' := HV'.out.k0
    have h8 : 0 ≤ K * L := Int.mul_nonneg (by omega) hl0
    have h8' : 0 ≤ K' * L' := Int.mul_nonneg (by omega) hl0'
    simp only at h7 h7'
    omega) HV.out.k0 HV.out.k1 (by omega) (by omega) (fun y hy => by
    rcases List.mem_append.1 hy with hy | hy
    · have := HV.out.key y hy; omega
    · have := HV'.out.key y hy; omega))
  rw [hz] at HC
  rw [hz'] at HC'
  clear hr hr' hz hz'
  simp only at HC HC'
  go_enter Try.func24, Try.ntmps24
  go_wp2_with fail
  have bx := heap_alloc_keep (o := (.cells #[.int .i64 0, .int .i64 0, .int .i64 0, .slice none 0 0] 24)) (heap_alloc_keep (o := (.cells #[.int .i64 K', .int .i64 T', .int .i64 L', .slice A' l'.length c'] 24)) (heap_alloc_new w (.cells #[.int .i64 K, .int .i64 T, .int .i64 L, .slice A l.length c] 24)))
  have bY := heap_alloc_keep (o := (.cells #[.int .i64 0, .int .i64 0, .int .i64 0, .slice none 0 0] 24)) (heap_alloc_new (w.alloc (.cells #[.int .i64 K, .int .i64 T, .int .i64 L, .slice A l.length c] 24)) (.cells #[.int .i64 K', .int .i64 T', .int .i64 L', .slice A' l'.length c'] 24))
  have br := heap_alloc_new ((w.alloc (.cells #[.int .i64 K, .int .i64 T, .int .i64 L, .slice A l.length c] 24)).alloc (.cells #[.int .i64 K', .int .i64 T', .int .i64 L', .slice A' l'.length c'] 24)) (.cells #[.int .i64 0, .int .i64 0, .int .i64 0, .slice none 0 0] 24)
  have hW0 := Aside0.mk (show Below w.heap.size w (((w.alloc (.cells #[.int .i64 K, .int .i64 T, .int .i64 L, .slice A l.length c] 24)).alloc (.cells #[.int .i64 K', .int .i64 T', .int .i64 L', .slice A' l'.length c'] 24)).alloc (.cells #[.int .i64 0, .int .i64 0, .int .i64 0, .slice none 0 0] 24)) by repeat (first | exact Below.refl _ _ | apply below_alloc))
  have hsz := Aside0.mk (show (((w.alloc (.cells #[.int .i64 K, .int .i64 T, .int .i64 L, .slice A l.length c] 24)).alloc (.cells #[.int .i64 K', .int .i64 T', .int .i64 L', .slice A' l'.length c'] 24)).alloc (.cells #[.int .i64 0, .int .i64 0, .int .i64 0, .slice none 0 0] 24)).heap.size = w.heap.size + 1 + 1 + 1 by simp)
  generalize (((w.alloc (.cells #[.int .i64 K, .int .i64 T, .int .i64 L, .slice A l.length c] 24)).alloc (.cells #[.int .i64 K', .int .i64 T', .int .i64 L', .slice A' l'.length c'] 24)).alloc (.cells #[.int .i64 0, .int .i64 0, .int .i64 0, .slice none 0 0] 24)) = W0 at *
  simp only [World.size_alloc] at bx bY br
  have BX := Aside0.mk bx
  have BY := Aside0.mk bY
  have BR := Aside0.mk br
  have HS := Aside0.mk (show w.heap.size + 1 + 1 < W0.heap.size by rw [hsz.out]; omega)
  have x0 := (blk_cell BX.out 0).trans rfl
  have x1 := (blk_cell BX.out 1).trans rfl
  have x2 := (blk_cell BX.out 2).trans rfl
  have x3 := (blk_cell BX.out 3).trans rfl
  simp only [List.getElem?_toArray, List.getElem?_cons_zero, List.getElem?_cons_succ] at x0 x1 x2 x3
  clear bx bY br
  go_wp2_with (first
    | (go_at_call 16; (with_reducible refine (HC.out _ hW0.out).mono ?_); rintro e w1 ⟨rfl, hb⟩; have BX1 := Aside0.mk ((hb.block w.heap.size (by have := HS.out; omega)).trans BX.out); have BY1 := Aside0.mk ((hb.block (w.heap.size + 1) (by have := HS.out; omega)).trans BY.out); have BR1 := Aside0.mk ((hb.block (w.heap.size + 1 + 1) (by have := HS.out; omega)).trans BR.out); have HB1 := Aside0.mk (hW0.out.trans (hb.mono hW0.out.size)); have HS1 := Aside0.mk (Nat.le_trans HS.out hb.size); have hs1 : w.heap.size + 1 + 1 < w1.heap.size := HS1.out; clear x0 x1 x2 x3; clear HC; clear hb; have x0 := (blk_cell BX1.out 0).trans rfl; have x1 := (blk_cell BX1.out 1).trans rfl; have x2 := (blk_cell BX1.out 2).trans rfl; have x3 := (blk_cell BX1.out 3).trans rfl; have y0 := (blk_cell BY1.out 0).trans rfl; have y1 := (blk_cell BY1.out 1).trans rfl; have y2 := (blk_cell BY1.out 2).trans rfl; have y3 := (blk_cell BY1.out 3).trans rfl; have r0 := (blk_cell BR1.out 0).trans rfl; have r1 := (blk_cell BR1.out 1).trans rfl; have r2 := (blk_cell BR1.out 2).trans rfl; have r3 := (blk_cell BR1.out 3).trans rfl; have rf0 := blk_frozen BR1.out 0; have rf1 := blk_frozen BR1.out 1; have rf2 := blk_frozen BR1.out 2; have rf3 := blk_frozen BR1.out 3; simp only [List.getElem?_toArray, List.getElem?_cons_zero, List.getElem?_cons_succ] at x0 x1 x2 x3 y0 y1 y2 y3 r0 r1 r2 r3)
    | (go_at_call 16; (with_reducible refine (HC'.out _ HB1.out).mono ?_); rintro e w2 ⟨rfl, hb⟩; have BX2 := Aside0.mk ((hb.block w.heap.size (by have := HS1.out; omega)).trans BX1.out); have BY2 := Aside0.mk ((hb.block (w.heap.size + 1) (by have := HS1.out; omega)).trans BY1.out); have BR2 := Aside0.mk ((hb.block (w.heap.size + 1 + 1) (by have := HS1.out; omega)).trans BR1.out); have HB2 := Aside0.mk (HB1.out.trans (hb.mono HB1.out.size)); have HS2 := Aside0.mk (Nat.le_trans HS1.out hb.size); have hs2 : w.heap.size + 1 + 1 < w2.heap.size := HS2.out; clear x0 x1 x2 x3 y0 y1 y2 y3 r0 r1 r2 r3 rf0 rf1 rf2 rf3 hs1; have z3 := cell_of_heap (heap_alloc_keep (o := .cells #[.int .i64 K, .int .i64 (T + T'), .int .i64 (L + L'), .slice none 0 0] 24) BX2.out) 3 _ rfl; have z4 := cell_of_heap (heap_alloc_keep (o := .cells #[.int .i64 K, .int .i64 (T + T'), .int .i64 (L + L'), .slice none 0 0] 24) BY2.out) 3 _ rfl; clear hb; have x0 := (blk_cell BX2.out 0).trans rfl; have x1 := (blk_cell BX2.out 1).trans rfl; have x2 := (blk_cell BX2.out 2).trans rfl; have x3 := (blk_cell BX2.out 3).trans rfl; have y0 := (blk_cell BY2.out 0).trans rfl; have y1 := (blk_cell BY2.out 1).trans rfl; have y2 := (blk_cell BY2.out 2).trans rfl; have y3 := (blk_cell BY2.out 3).trans rfl; have r0 := (blk_cell BR2.out 0).trans rfl; have r1 := (blk_cell BR2.out 1).trans rfl; have r2 := (blk_cell BR2.out 2).trans rfl; have r3 := (blk_cell BR2.out 3).trans rfl; have rf0 := blk_frozen BR2.out 0; have rf1 := blk_frozen BR2.out 1; have rf2 := blk_frozen BR2.out 2; have rf3 := blk_frozen BR2.out 3; simp only [List.getElem?_toArray, List.getElem?_cons_zero, List.getElem?_cons_succ] at x0 x1 x2 x3 y0 y1 y2 y3 r0 r1 r2 r3)
    | (go_at_call 36; (with_reducible refine (HSH.out w2 HB2.out).mono ?_); rintro e w3 ⟨v3, rfl, hR3, hb3⟩; obtain ⟨A3, c3', rfl⟩ := Kd.R_slice hR3; have hb3' := below_one hb3; have BR3 := Aside0.mk ((hb3'.block (w.heap.size + 1 + 1) (by have := HS2.out; omega)).trans BR2.out); have HB3 := Aside0.mk (HB2.out.trans (hb3'.mono HB2.out.size)); have HR3 := Aside0.mk (Kd.R_lower hR3 (base' := w2.heap.size) (by simp)); clear hR3 hb3 hb3' z3 z4 x0 x1 x2 x3 y0 y1 y2 y3 r0 r1 r2 r3 rf0 rf1 rf2 rf3; have r0 := (blk_cell BR3.out 0).trans rfl; have r1 := (blk_cell BR3.out 1).trans rfl; have r2 := (blk_cell BR3.out 2).trans rfl; have r3 := (blk_cell BR3.out 3).trans rfl; have rf0 := blk_frozen BR3.out 0; have rf1 := blk_frozen BR3.out 1; have rf2 := blk_frozen BR3.out 2; have rf3 := blk_frozen BR3.out 3; simp only [List.getElem?_toArray, List.getElem?_cons_zero, List.getElem?_cons_succ] at r0 r1 r2 r3))
  · have hk : K ≠ K' := by
      have h5 : (K != K') = true := by assumption
      simpa using h5
    obtain ⟨c0, c1, c2, c3⟩ := set4_cells BR2.out (.int .i64 0) (.int .i64 0) (.int .i64 0) (.slice none 0 0)
    unfold set4 at c0 c1 c2 c3
    refine bodyPost_ret (v := .tuple #[.agg #[.int .i64 0, .int .i64 0, .int .i64 0, .slice none 0 0], .int .i64 10]) (by simp [results, Try.results24, go_sem, c0, c1, c2, c3]) rfl ?_
    rw [show mrgH ⟨K, T, L, l⟩ ⟨K', T', L', l'⟩ = (zH, 10) by unfold mrgH; rw [if_neg HN.out, if_pos hk]]
    exact ⟨_, rfl, Kd.R_nil k58 58 _ _ _, set4_below HB2.out (by omega) _ _ _ _⟩
  · have hk : K = K' := by
      have h5 : (K != K') = false := by assumption
      simpa using h5
    obtain ⟨c0, c1, c2, c3⟩ := set4_cells BR2.out (.int .i64 0) (.int .i64 0) (.int .i64 0) (.slice none 0 0)
    unfold set4 at c0 c1 c2 c3
    refine bodyPost_ret (v := .tuple #[.agg #[.int .i64 0, .int .i64 0, .int .i64 0, .slice none 0 0], .int .i64 4]) (by simp [results, Try.results24, go_sem, c0, c1, c2, c3]) rfl ?_
    rw [show mrgH ⟨K, T, L, l⟩ ⟨K', T', L', l'⟩ = (zH, 4) by unfold mrgH; rw [if_neg HN.out, if_neg (show ¬ K ≠ K' by simpa using hk), if_pos (by simp only; omega)]]
    exact ⟨_, rfl, Kd.R_nil k58 58 _ _ _, set4_below HB2.out (by omega) _ _ _ _⟩
  · have hk : K = K' := by
      have h5 : (K != K') = false := by assumption
      simpa using h5
    obtain ⟨c0, c1, c2, c3⟩ := set4_cells BR3.out (.int .i64 K) (.int .i64 (T + T')) (.int .i64 (shrt K (mrgI l l') (L + L')).2) (.slice A3 (shrt K (mrgI l l') (L + L')).1.length c3')
    unfold set4 at c0 c1 c2 c3
    refine bodyPost_ret (v := .tuple #[.agg #[.int .i64 K, .int .i64 (T + T'), .int .i64 (shrt K (mrgI l l') (L + L')).2, .slice A3 (shrt K (mrgI l l') (L + L')).1.length c3'], .int .i64 0]) (by simp [results, Try.results24, go_sem, c0, c1, c2, c3]) rfl ?_
    rw [show mrgH ⟨K, T, L, l⟩ ⟨K', T', L', l'⟩ = (shrtH K (T + T') (L + L') (mrgI l l'), 0) by unfold mrgH; rw [if_neg HN.out, if_neg (show ¬ K ≠ K' by simpa using hk), if_neg (by simp only; omega)]]
    exact ⟨_, rfl, Kd.R_lower (set4_R HR3.out (by omega) _ _ _ _) (by omega), set4_below HB3.out (by omega) _ _ _ _⟩
theorem Merge_calls (x y : HV) (A A' : Option Addr) (c c' : Nat) (w : World) (hr : Kd.C k58 w A x.f3.length x.f3) (hc : x.f3.length ≤ c) (hl : x.f3.length ≤ 1000) (hr' : Kd.C k58 w A' y.f3.length y.f3) (hc' : y.f3.length ≤ c') (hl' : y.f3.length ≤ 1000) :
    Calls Try.prog 24 #[.agg #[.int .i64 x.f0, .int .i64 x.f1, .int .i64 x.f2, .slice A x.f3.length c], .agg #[.int .i64 y.f0, .int .i64 y.f1, .int .i64 y.f2, .slice A' y.f3.length c']] w (RH w (mrgH x y)) := by
  obtain ⟨K, T, L, l⟩ := x
  obtain ⟨K', T', L', l'⟩ := y
  by_cases hz : chkH ⟨K, T, L, l⟩ = 0
  · by_cases hz' : chkH ⟨K', T', L', l'⟩ = 0
    · exact Merge_good K T L K' T' L' l l' A A' c c' w hr hc hl hr' hc' hl' hz hz'
    · exact Merge_bad2 K T L K' T' L' l l' A A' c c' w hr hc hl hr' hc' hl' hz hz'
  · exact Merge_bad1 K T L K' T' L' l l' A A' c c' w hr hc hl hr' hc' hl' hz
end Go.Proofs.Ytgpkpeefbkcjeaa.H
