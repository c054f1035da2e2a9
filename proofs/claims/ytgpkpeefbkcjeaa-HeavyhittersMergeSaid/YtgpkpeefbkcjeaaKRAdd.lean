/- The reference's Add. -/
import Derived.Test.YtgpkpeefbkcjeaaKRefF
import Derived.Test.YtgpkpeefbkcjeaaKAdd
namespace Go.Proofs.Ytgpkpeefbkcjeaa.H
open Go Go.RowKit Go.WideMaps Go.Proofs.YtgpkpeefbkcjeaaW.PrintWords Go.Proofs.YtgpkpeefbkcjeaaW.PrintLast Go.Proofs.YtgpkpeefbkcjeaaW.PrintMore Go.Proofs.Ytgpkpeefbkcjeaa.PAll
set_option linter.unusedVariables false
set_option linter.unusedSimpArgs false

/-- What the reference's functions that hand back a summary and an error leave. -/
def RC (W : World) (r : HV × Int) (e : Ending) (w' : World) : Prop := ∃ v, e = .returned (.tuple #[.agg #[.int .i64 r.1.f0, .int .i64 r.1.f1, .int .i64 r.1.f2, v], .int .i64 r.2]) ∧ CH w' v r.1.f3 ∧ Below W.heap.size W w'
theorem CH.of_V {w : World} {base : Nat} {ok : Nat → Prop} {v : Value} {l : L58} (h : Kd.V k58 58 w base ok v l) : CH w v l := by
  obtain ⟨A, c, rfl⟩ := Kd.V_slice h
  obtain ⟨_, h2, h3⟩ := Kd.V_reads' h
  exact ⟨A, c, rfl, h2, h3⟩
theorem set4_V {W : World} {base B : Nat} {v : Value} {l : L58} (h : Kd.V k58 58 W base (fun k => k ≠ B) v l) (v0 v1 v2 v3 : Value) : Kd.V k58 58 (set4 W B v0 v1 v2 v3) base (fun k => k ≠ B) v l :=
  Kd.V_far (p := ⟨B, 3, none⟩) (Kd.V_far (p := ⟨B, 2, none⟩) (Kd.V_far (p := ⟨B, 1, none⟩) (Kd.V_far (p := ⟨B, 0, none⟩) h (fun _ hk => hk) v0) (fun _ hk => hk) v1) (fun _ hk => hk) v2) (fun _ hk => hk) v3

set_option maxRecDepth 100000 in
set_option maxHeartbeats 8000000 in
theorem rAdd_bad (K T L : Int) (l : L58) (key : ByteArray) (n : Int) (A : Option Addr) (c : Nat) (w : World) (hr : Kd.C k58 w A l.length l) (hc : l.length ≤ c) (hl : l.length ≤ 1000) (hz : chkH ⟨K, T, L, l⟩ ≠ 0) :
    Calls Try.prog 13 #[.agg #[.int .i64 K, .int .i64 T, .int .i64 L, .slice A l.length c], .string key, .int .i64 n] w (RC w (addH ⟨K, T, L, l⟩ key n)) := by
  have HC := Aside0.mk (fun W (h : Below w.heap.size w W) => rCheck_calls ⟨K, T, L, l⟩ A c W (Kd.C_below hr h) hc (by omega))
  have hu1 := Try.underlying58
  have hu2 := Try.underlying24
  have HZ := Aside0.mk hz
  have hd : (chkH ⟨K, T, L, l⟩ != 0) = true := by simpa using hz
  have HE := Aside0.mk (show addH ⟨K, T, L, l⟩ key n = (zH, 1) by unfold addH; rw [if_pos hz])
  clear hr hz HZ
  simp only at HC
  generalize chkH ⟨K, T, L, l⟩ = r at *
  go_enter Try.func13, Try.ntmps13
  go_wp2_with fail
  have bx := heap_alloc_keep (o := .cells #[.int .i64 0, .int .i64 0, .int .i64 0, .slice none 0 0] 24) (heap_alloc_new w (.cells #[.int .i64 K, .int .i64 T, .int .i64 L, .slice A l.length c] 24))
  have br := heap_alloc_new (w.alloc (.cells #[.int .i64 K, .int .i64 T, .int .i64 L, .slice A l.length c] 24)) (.cells #[.int .i64 0, .int .i64 0, .int .i64 0, .slice none 0 0] 24)
  have hW0 := Aside0.mk (show Below w.heap.size w ((w.alloc (.cells #[.int .i64 K, .int .i64 T, .int .i64 L, .slice A l.length c] 24)).alloc (.cells #[.int .i64 0, .int .i64 0, .int .i64 0, .slice none 0 0] 24)) by repeat (first | exact Below.refl _ _ | apply below_alloc))
  have hsz := Aside0.mk (show ((w.alloc (.cells #[.int .i64 K, .int .i64 T, .int .i64 L, .slice A l.length c] 24)).alloc (.cells #[.int .i64 0, .int .i64 0, .int .i64 0, .slice none 0 0] 24)).heap.size = w.heap.size + 1 + 1 by simp)
  generalize ((w.alloc (.cells #[.int .i64 K, .int .i64 T, .int .i64 L, .slice A l.length c] 24)).alloc (.cells #[.int .i64 0, .int .i64 0, .int .i64 0, .slice none 0 0] 24)) = W0 at *
  simp only [World.size_alloc] at bx br
  have BX := Aside0.mk bx
  have BR := Aside0.mk br
  clear bx br
  go_wp2_with (go_at_call 17; refine (HC.out _ hW0.out).mono ?_; rintro e w1 ⟨rfl, hb⟩; have BX1 := Aside0.mk ((hb.block w.heap.size (by rw [hsz.out]; omega)).trans BX.out); have BR1 := Aside0.mk ((hb.block (w.heap.size + 1) (by rw [hsz.out]; omega)).trans BR.out); have HB1 := Aside0.mk (hW0.out.trans (hb.mono hW0.out.size)); have HS1 := Aside0.mk (show w.heap.size + 1 + 1 ≤ w1.heap.size by rw [← hsz.out]; exact hb.size); have hs1 : w.heap.size + 1 < w1.heap.size := HS1.out; clear hb; have x0 := (blk_cell BX1.out 0).trans rfl; have x1 := (blk_cell BX1.out 1).trans rfl; have x2 := (blk_cell BX1.out 2).trans rfl; have x3 := (blk_cell BX1.out 3).trans rfl; have xf3 := blk_frozen BX1.out 3; have r0 := (blk_cell BR1.out 0).trans rfl; have r1 := (blk_cell BR1.out 1).trans rfl; have r2 := (blk_cell BR1.out 2).trans rfl; have r3 := (blk_cell BR1.out 3).trans rfl; have rf0 := blk_frozen BR1.out 0; have rf1 := blk_frozen BR1.out 1; have rf2 := blk_frozen BR1.out 2; have rf3 := blk_frozen BR1.out 3; simp only [List.getElem?_toArray, List.getElem?_cons_zero, List.getElem?_cons_succ] at x0 x1 x2 x3 r0 r1 r2 r3)
  obtain ⟨c0, c1, c2, c3⟩ := set4_cells BR1.out (.int .i64 0) (.int .i64 0) (.int .i64 0) (.slice none 0 0)
  unfold set4 at c0 c1 c2 c3
  refine bodyPost_ret (v := .tuple #[.agg #[.int .i64 0, .int .i64 0, .int .i64 0, .slice none 0 0], .int .i64 1]) (by simp [results, Try.results13, go_sem, c0, c1, c2, c3]) rfl ?_
  rw [HE.out]
  exact ⟨_, rfl, CH.nil _, set4_below HB1.out (Nat.le_succ _) _ _ _ _⟩

set_option maxRecDepth 100000 in
set_option maxHeartbeats 8000000 in
theorem rAdd_good (K T L : Int) (l : L58) (key : ByteArray) (n : Int) (A : Option Addr) (c : Nat) (w : World) (hr : Kd.C k58 w A l.length l) (hc : l.length ≤ c) (hl : l.length ≤ 1000) (hn1 : -9223372036854775808 ≤ n) (hn2 : n ≤ 9223372036854775807) (hz : chkH ⟨K, T, L, l⟩ = 0) :
    Calls Try.prog 13 #[.agg #[.int .i64 K, .int .i64 T, .int .i64 L, .slice A l.length c], .string key, .int .i64 n] w (RC w (addH ⟨K, T, L, l⟩ key n)) := by
  have HC := Aside0.mk (fun W (h : Below w.heap.size w W) => rCheck_calls ⟨K, T, L, l⟩ A c W (Kd.C_below hr h) hc (by omega))
  have HR := Aside0.mk hr
  have hu1 := Try.underlying58
  have hu2 := Try.underlying24
  have HV := Aside0.mk ((chkH_iff _).1 hz)
  have ht0 : 0 ≤ T := HV.out.t0
  have ht1 : T ≤ 1099511627776 := HV.out.t1
  have hl0 : 0 ≤ L := HV.out.l0
  have hl1 : L ≤ 1099511627776 := HV.out.l1
  have HZ := Aside0.mk hz
  have HPUT := Aside0.mk (fun (h0 : 0 ≤ n) (h1 : n ≤ 1099511627776 - T) W (h : Below w.heap.size w W) => lookoutref32_put.calls (l.length + 1) A c l key n (putK l key n) W (Kd.C_below hr h) hc (rput_f l key n hl (fun y hy => by have := HV.out.le y hy; omega) ⟨h0, by omega⟩))
  have HSO := Aside0.mk (fun (h0 : 1 ≤ n) (h1 : n ≤ 1099511627776 - T) => rshort_f K (T + n) L (putK l key n) HV.out.k0 HV.out.k1 (put_srt HV.out.srt _ _) (put_pos HV.out.pos _ h0) (by have := put_len l key n; have := HV.out.len; have := HV.out.k1; simp only at *; omega) (fun y hy => by
    have h2 := put_pos HV.out.pos key h0 y hy
    have h3 := le_sumI (put_pos HV.out.pos key h0) hy
    rw [sumI_put] at h3
    have h4 := HV.out.sum
    have k0 : 2 ≤ K := HV.out.k0
    have h5 : 0 ≤ K * L := Int.mul_nonneg (by omega) hl0
    have h3' : y.f1 ≤ sumI l + n := h3
    have h4' : K * L + sumI l ≤ T := h4
    omega) ⟨hl0, by omega⟩)
  rw [hz] at HC
  clear hr hz
  simp only at HC
  go_enter Try.func13, Try.ntmps13
  go_wp2_with fail
  have bx := heap_alloc_keep (o := .cells #[.int .i64 0, .int .i64 0, .int .i64 0, .slice none 0 0] 24) (heap_alloc_new w (.cells #[.int .i64 K, .int .i64 T, .int .i64 L, .slice A l.length c] 24))
  have br := heap_alloc_new (w.alloc (.cells #[.int .i64 K, .int .i64 T, .int .i64 L, .slice A l.length c] 24)) (.cells #[.int .i64 0, .int .i64 0, .int .i64 0, .slice none 0 0] 24)
  have hW0 := Aside0.mk (show Below w.heap.size w ((w.alloc (.cells #[.int .i64 K, .int .i64 T, .int .i64 L, .slice A l.length c] 24)).alloc (.cells #[.int .i64 0, .int .i64 0, .int .i64 0, .slice none 0 0] 24)) by repeat (first | exact Below.refl _ _ | apply below_alloc))
  have hsz := Aside0.mk (show ((w.alloc (.cells #[.int .i64 K, .int .i64 T, .int .i64 L, .slice A l.length c] 24)).alloc (.cells #[.int .i64 0, .int .i64 0, .int .i64 0, .slice none 0 0] 24)).heap.size = w.heap.size + 1 + 1 by simp)
  generalize ((w.alloc (.cells #[.int .i64 K, .int .i64 T, .int .i64 L, .slice A l.length c] 24)).alloc (.cells #[.int .i64 0, .int .i64 0, .int .i64 0, .slice none 0 0] 24)) = W0 at *
  simp only [World.size_alloc] at bx br
  have BX := Aside0.mk bx
  have BR := Aside0.mk br
  clear bx br
  go_wp2_with (first
    | (go_at_call 17; refine (HC.out _ hW0.out).mono ?_; rintro e w1 ⟨rfl, hb⟩; have BX1 := Aside0.mk ((hb.block w.heap.size (by rw [hsz.out]; omega)).trans BX.out); have BR1 := Aside0.mk ((hb.block (w.heap.size + 1) (by rw [hsz.out]; omega)).trans BR.out); have HB1 := Aside0.mk (hW0.out.trans (hb.mono hW0.out.size)); have HS1 := Aside0.mk (show w.heap.size + 1 + 1 ≤ w1.heap.size by rw [← hsz.out]; exact hb.size); have hs1 : w.heap.size + 1 < w1.heap.size := HS1.out; have xf1 := blk_frozen BX1.out 1; have y3 := (blk_cell (blk_set BX1.out 1 (.int .i64 (T + n))) 3).trans rfl; simp only [List.setIfInBounds_toArray, List.set_cons_succ, List.set_cons_zero, List.getElem?_toArray, List.getElem?_cons_zero, List.getElem?_cons_succ] at y3; clear hb; have x0 := (blk_cell BX1.out 0).trans rfl; have x1 := (blk_cell BX1.out 1).trans rfl; have x2 := (blk_cell BX1.out 2).trans rfl; have x3 := (blk_cell BX1.out 3).trans rfl; have xf3 := blk_frozen BX1.out 3; have r0 := (blk_cell BR1.out 0).trans rfl; have r1 := (blk_cell BR1.out 1).trans rfl; have r2 := (blk_cell BR1.out 2).trans rfl; have r3 := (blk_cell BR1.out 3).trans rfl; have rf0 := blk_frozen BR1.out 0; have rf1 := blk_frozen BR1.out 1; have rf2 := blk_frozen BR1.out 2; have rf3 := blk_frozen BR1.out 3; simp only [List.getElem?_toArray, List.getElem?_cons_zero, List.getElem?_cons_succ] at x0 x1 x2 x3 r0 r1 r2 r3)
    | (go_at_call 37; (with_reducible refine (HPUT.out (by omega) (by omega) _ (HB1.out.setCell (p := ⟨w.heap.size, 1, none⟩) (Nat.le_refl _) _)).mono ?_); rintro e w2 ⟨v2, rfl, hR2, hb⟩; obtain ⟨A2, c2, rfl⟩ := Kd.R_slice hR2; have hbx := blk_set BX1.out 1 (.int .i64 (T + n)); have BX2 := Aside0.mk ((hb.block w.heap.size (by have := HS1.out; simp; omega)).trans hbx); have BR2 := Aside0.mk ((hb.block (w.heap.size + 1) (by have := HS1.out; simp; omega)).trans (blk_far BR1.out (p := ⟨w.heap.size, 1, none⟩) (show w.heap.size + 1 ≠ w.heap.size by omega) (.int .i64 (T + n)))); have HB2 := Aside0.mk ((HB1.out.setCell (p := ⟨w.heap.size, 1, none⟩) (Nat.le_refl _) (.int .i64 (T + n))).trans (hb.mono (by have := HB1.out.size; simpa using this))); have HS2 := Aside0.mk (show w.heap.size + 1 < w2.heap.size by have h1 := hb.size; have h2 := HS1.out; simp at h1; omega); have HR2 := Aside0.mk (Kd.R_lower hR2 (base' := w.heap.size + 1 + 1) (by have := HS1.out; simp; omega)); clear hb hR2 hbx x0 x1 x2 x3 xf3 r0 r1 r2 r3 rf0 rf1 rf2 rf3; have BX3 := Aside0.mk (blk_set BX2.out 3 (.slice A2 (putK l key n).length c2)); have xf3 := blk_frozen BX2.out 3; have x0 := (blk_cell BX3.out 0).trans rfl; have x1 := (blk_cell BX3.out 1).trans rfl; have x2 := (blk_cell BX3.out 2).trans rfl; have x3 := (blk_cell BX3.out 3).trans rfl; have z3 := (blk_cell BX2.out 3).trans rfl; simp only [List.setIfInBounds_toArray, List.set_cons_succ, List.set_cons_zero, List.getElem?_toArray, List.getElem?_cons_zero, List.getElem?_cons_succ] at x0 x1 x2 x3 z3)
    | (go_at_call 38; have hn0 := one_le (n := n) (by assumption) (by assumption); have hR3 := Kd.R_far (Kd.R_bound HR2.out) (p := ⟨w.heap.size, 3, none⟩) (fun k hk => by have := hk.2.1; show k ≠ w.heap.size; omega) (.slice A2 (putK l key n).length c2); obtain ⟨N, hN⟩ := HSO.out hn0 (by omega); (refine (lookoutref32_shortened.calls N K (T + n) L (fun k => k ≠ w.heap.size + 1) A2 c2 (putK l key n) _ _ _ _ _ (Kd.R_V (Kd.R_mono hR3 (fun k hk => by have := hk.2.1; omega))) (hN N (Nat.le_refl _))).mono ?_); rintro e w4 ⟨v4, rfl, hV4, hb⟩; obtain ⟨A4, c4, rfl⟩ := Kd.V_slice hV4; have BR4 := Aside0.mk ((hb.block (w.heap.size + 1) (by have := HS2.out; simpa using this)).trans (blk_far BR2.out (p := ⟨w.heap.size, 3, none⟩) (show w.heap.size + 1 ≠ w.heap.size by omega) (.slice A2 (putK l key n).length c2))); have HB4 := Aside0.mk ((HB2.out.setCell (p := ⟨w.heap.size, 3, none⟩) (Nat.le_refl _) (.slice A2 (putK l key n).length c2)).trans (hb.mono (by have := HB2.out.size; simpa using this))); have HV4 := Aside0.mk (Kd.V_mono (ok' := fun k => k ≠ w.heap.size + 1) hV4 (fun k hk => by have h1 := HS2.out; rcases hk with hk | hk; exact hk; simp at hk; omega)); clear hb hV4 hR3 hN x0 x1 x2 x3 xf3 z3; have r0 := (blk_cell BR4.out 0).trans rfl; have r1 := (blk_cell BR4.out 1).trans rfl; have r2 := (blk_cell BR4.out 2).trans rfl; have r3 := (blk_cell BR4.out 3).trans rfl; have rf0 := blk_frozen BR4.out 0; have rf1 := blk_frozen BR4.out 1; have rf2 := blk_frozen BR4.out 2; have rf3 := blk_frozen BR4.out 3; simp only [List.getElem?_toArray, List.getElem?_cons_zero, List.getElem?_cons_succ] at r0 r1 r2 r3))
  · obtain ⟨c0, c1, c2, c3⟩ := set4_cells BR1.out (.int .i64 0) (.int .i64 0) (.int .i64 0) (.slice none 0 0)
    unfold set4 at c0 c1 c2 c3
    refine bodyPost_ret (v := .tuple #[.agg #[.int .i64 0, .int .i64 0, .int .i64 0, .slice none 0 0], .int .i64 4]) (by simp [results, Try.results13, go_sem, c0, c1, c2, c3]) rfl ?_
    rw [show addH ⟨K, T, L, l⟩ key n = (zH, 4) by unfold addH; rw [if_neg (show ¬ chkH ⟨K, T, L, l⟩ ≠ 0 by rw [HZ.out]; simp), if_pos (by omega)]]
    exact ⟨_, rfl, CH.nil _, set4_below HB1.out (Nat.le_succ _) _ _ _ _⟩
  · obtain ⟨c0, c1, c2, c3⟩ := set4_cells BR1.out (.int .i64 0) (.int .i64 0) (.int .i64 0) (.slice none 0 0)
    unfold set4 at c0 c1 c2 c3
    refine bodyPost_ret (v := .tuple #[.agg #[.int .i64 0, .int .i64 0, .int .i64 0, .slice none 0 0], .int .i64 2]) (by simp [results, Try.results13, go_sem, c0, c1, c2, c3]) rfl ?_
    rw [show addH ⟨K, T, L, l⟩ key n = (zH, 2) by unfold addH; rw [if_neg (show ¬ chkH ⟨K, T, L, l⟩ ≠ 0 by rw [HZ.out]; simp), if_neg (by omega), if_pos (by omega)]]
    exact ⟨_, rfl, CH.nil _, set4_below HB1.out (Nat.le_succ _) _ _ _ _⟩
  · obtain ⟨c0, c1, c2, c3⟩ := set4_cells BR1.out (.int .i64 0) (.int .i64 0) (.int .i64 0) (.slice none 0 0)
    unfold set4 at c0 c1 c2 c3
    refine bodyPost_ret (v := .tuple #[.agg #[.int .i64 0, .int .i64 0, .int .i64 0, .slice none 0 0], .int .i64 4]) (by simp [results, Try.results13, go_sem, c0, c1, c2, c3]) rfl ?_
    rw [show addH ⟨K, T, L, l⟩ key n = (zH, 4) by unfold addH; rw [if_neg (show ¬ chkH ⟨K, T, L, l⟩ ≠ 0 by rw [HZ.out]; simp), if_neg (by omega), if_neg (by omega), if_pos (by simp only; omega)]]
    exact ⟨_, rfl, CH.nil _, set4_below HB1.out (Nat.le_succ _) _ _ _ _⟩
  · have hn0 : n = 0 := by
      have h5 : (n == 0) = true := by assumption
      simpa using h5
    obtain ⟨c0, c1, c2', c3⟩ := set4_cells BR1.out (.int .i64 K) (.int .i64 T) (.int .i64 L) (.slice A l.length c)
    unfold set4 at c0 c1 c2' c3
    refine bodyPost_ret (v := .tuple #[.agg #[.int .i64 K, .int .i64 T, .int .i64 L, .slice A l.length c], .int .i64 0]) (by simp [results, Try.results13, go_sem, c0, c1, c2', c3]) rfl ?_
    rw [show addH ⟨K, T, L, l⟩ key n = (⟨K, T, L, l⟩, 0) by unfold addH; rw [if_neg (show ¬ chkH ⟨K, T, L, l⟩ ≠ 0 by rw [HZ.out]; simp), if_neg (by omega), if_neg (by omega), if_neg (by simp only; omega), if_pos hn0]]
    have hbl := set4_below HB1.out (Nat.le_succ w.heap.size) (.int .i64 K) (.int .i64 T) (.int .i64 L) (.slice A l.length c)
    exact ⟨_, rfl, ⟨A, c, rfl, hc, Kd.C_below HR.out hbl⟩, hbl⟩
  · have hn0 : n ≠ 0 := by
      have h5 : (n == 0) = false := by assumption
      simpa using h5
    obtain ⟨c0, c1, c2', c3⟩ := set4_cells BR4.out (.int .i64 K) (.int .i64 (T + n)) (.int .i64 (shrt K (putK l key n) L).2) (.slice A4 (shrt K (putK l key n) L).1.length c4)
    unfold set4 at c0 c1 c2' c3
    refine bodyPost_ret (v := .tuple #[.agg #[.int .i64 K, .int .i64 (T + n), .int .i64 (shrt K (putK l key n) L).2, .slice A4 (shrt K (putK l key n) L).1.length c4], .int .i64 0]) (by simp [results, Try.results13, go_sem, c0, c1, c2', c3]) rfl ?_
    rw [show addH ⟨K, T, L, l⟩ key n = (shrtH K (T + n) L (putK l key n), 0) by unfold addH; rw [if_neg (show ¬ chkH ⟨K, T, L, l⟩ ≠ 0 by rw [HZ.out]; simp), if_neg (by omega), if_neg (by omega), if_neg (by simp only; omega), if_neg hn0]]
    exact ⟨_, rfl, CH.of_V (set4_V HV4.out _ _ _ _), set4_below HB4.out (Nat.le_succ _) _ _ _ _⟩
theorem rAdd_calls (x : HV) (key : ByteArray) (n : Int) (A : Option Addr) (c : Nat) (w : World) (hr : Kd.C k58 w A x.f3.length x.f3) (hc : x.f3.length ≤ c) (hl : x.f3.length ≤ 1000) (hn1 : -9223372036854775808 ≤ n) (hn2 : n ≤ 9223372036854775807) :
    Calls Try.prog 13 #[.agg #[.int .i64 x.f0, .int .i64 x.f1, .int .i64 x.f2, .slice A x.f3.length c], .string key, .int .i64 n] w (RC w (addH x key n)) := by
  obtain ⟨K, T, L, l⟩ := x
  by_cases hz : chkH ⟨K, T, L, l⟩ = 0
  · exact rAdd_good K T L l key n A c w hr hc hl hn1 hn2 hz
  · exact rAdd_bad K T L l key n A c w hr hc hl hz
end Go.Proofs.Ytgpkpeefbkcjeaa.H
