/- heavyhitters.Add and Merge. -/
import Derived.Test.YtakobehkajphpaaGreatTKRead1
import Derived.Test.YtakobehkajphpaaGreatTKShort
namespace Go.Proofs.YtakobehkajphpaaGreat.K
open Go Go.RowKit Go.WideMaps Go.Proofs.YtakobehkajphpaaGreatW.PrintWords Go.Proofs.YtakobehkajphpaaGreatW.PrintLast Go.Proofs.YtakobehkajphpaaGreatW.PrintMore Go.Proofs.YtakobehkajphpaaGreat.PAll
set_option linter.unusedVariables false
set_option linter.unusedSimpArgs false

/-- Four cells stored into a block. -/
def set4 (W : World) (B : Nat) (v0 v1 v2 v3 : Value) : World := (((W.setCell ⟨B, 0, none⟩ v0).setCell ⟨B, 1, none⟩ v1).setCell ⟨B, 2, none⟩ v2).setCell ⟨B, 3, none⟩ v3
theorem set4_cells {W : World} {B : Nat} {a0 a1 a2 a3 : Value} {t : TypeId} (h : W.heap[B]? = some (.cells #[a0, a1, a2, a3] t (0, 0))) (v0 v1 v2 v3 : Value) :
    (set4 W B v0 v1 v2 v3).cell? ⟨B, 0, none⟩ = some v0 ∧ (set4 W B v0 v1 v2 v3).cell? ⟨B, 1, none⟩ = some v1 ∧ (set4 W B v0 v1 v2 v3).cell? ⟨B, 2, none⟩ = some v2 ∧ (set4 W B v0 v1 v2 v3).cell? ⟨B, 3, none⟩ = some v3 := by
  have g := blk_set (blk_set (blk_set (blk_set h 0 v0) 1 v1) 2 v2) 3 v3
  exact ⟨(blk_cell g 0).trans rfl, (blk_cell g 1).trans rfl, (blk_cell g 2).trans rfl, (blk_cell g 3).trans rfl⟩
theorem set4_below {n : Nat} {w W : World} {B : Nat} (h : Below n w W) (hB : n ≤ B) (v0 v1 v2 v3 : Value) : Below n w (set4 W B v0 v1 v2 v3) :=
  (((h.setCell (p := ⟨B, 0, none⟩) hB _).setCell (p := ⟨B, 1, none⟩) hB _).setCell (p := ⟨B, 2, none⟩) hB _).setCell (p := ⟨B, 3, none⟩) hB _
theorem R_setCell {W : World} {base B o : Nat} {ok : Nat → Prop} {v : Value} {l : L64} (h : Kd.R k64 64 W base ok v l) (hB : B < base) (u : Value) : Kd.R k64 64 (W.setCell ⟨B, o, none⟩ u) base ok v l :=
  Kd.R_mono (Kd.R_far (Kd.R_bound h) (p := ⟨B, o, none⟩) (fun k hk => by have := hk.2.1; show k ≠ B; omega) u) (fun k hk => hk.1)
theorem set4_R {W : World} {base B : Nat} {ok : Nat → Prop} {v : Value} {l : L64} (h : Kd.R k64 64 W base ok v l) (hB : B < base) (v0 v1 v2 v3 : Value) : Kd.R k64 64 (set4 W B v0 v1 v2 v3) base ok v l :=
  R_setCell (R_setCell (R_setCell (R_setCell h hB v0) hB v1) hB v2) hB v3
theorem row_lit (W : World) (k : ByteArray) (n : Int) : Kd.C k64 (W.alloc (.cells #[.string k, .int .i64 n] 64)) (some ⟨W.heap.size, 0, none⟩) 1 [⟨k, n⟩] := by
  refine ⟨rfl, by omega, fun _ => ⟨_, rfl, fun j p hj => ?_⟩⟩
  rcases j with _ | j
  · simp at hj
    subst hj
    refine ⟨[.string k, .int .i64 n], rfl, k64_mk _ ⟨k, n⟩, fun i u hu => ?_⟩
    rw [Nat.zero_mul, Nat.zero_add, add_plain]
    exact cell_of_heap (heap_alloc_new W _) i u (by simpa using hu)
  · simp at hj
theorem below_two {w1 w3 : World} {o1 o2 : Obj} (h : Below ((w1.alloc o1).alloc o2).heap.size ((w1.alloc o1).alloc o2) w3) : Below w1.heap.size w1 w3 :=
  (below_alloc (below_alloc (Below.refl _ w1) o1) o2).trans (h.mono (by simp; omega))
theorem C_two {w1 : World} {o1 o2 : Obj} {A : Option Addr} {n : Nat} {l : L64} (h : Kd.C k64 w1 A n l) : Kd.C k64 ((w1.alloc o1).alloc o2) A n l := Kd.C_below h (below_alloc (below_alloc (Below.refl _ w1) o1) o2)
theorem one_le {n : Int} (h : (n == 0) = false) (h0 : 0 ≤ n) : 1 ≤ n := by
  have : n ≠ 0 := by simpa using h
  omega
theorem put_one (l : L64) (k : ByteArray) (n : Int) : mrgI l [⟨k, n⟩] = putK l k n := rfl

set_option maxRecDepth 100000 in
set_option maxHeartbeats 8000000 in
theorem Add_bad (K T L : Int) (l : L64) (key : ByteArray) (n : Int) (A : Option Addr) (c : Nat) (w : World) (hr : Kd.C k64 w A l.length l) (hc : l.length ≤ c) (hl : l.length ≤ 1000) (hz : chkH ⟨K, T, L, l⟩ ≠ 0) :
    Calls Tryz.prog 35 #[.agg #[.int .i64 K, .int .i64 T, .int .i64 L, .slice A l.length c], .string key, .int .i64 n] w (RH w (addH ⟨K, T, L, l⟩ key n)) := by
  have HC := Aside0.mk (fun W (h : Below w.heap.size w W) => Check_calls ⟨K, T, L, l⟩ A c W (Kd.C_below hr h) hc (by simp only [LB]; omega))
  have hu1 := Tryz.underlying64
  have hu2 := Tryz.underlying55
  have HZ := Aside0.mk hz
  have hd : (chkH ⟨K, T, L, l⟩ != 0) = true := by simpa using hz
  have HE := Aside0.mk (show addH ⟨K, T, L, l⟩ key n = (zH, 1) by unfold addH; rw [if_pos hz])
  clear hr hz HZ
  simp only at HC
  generalize chkH ⟨K, T, L, l⟩ = r at *
  go_enter Tryz.func35, Tryz.ntmps35
  go_wp2_with fail
  have bx := heap_alloc_keep (o := .cells #[.int .i64 0, .int .i64 0, .int .i64 0, .slice none 0 0] 55) (heap_alloc_new w (.cells #[.int .i64 K, .int .i64 T, .int .i64 L, .slice A l.length c] 55))
  have br := heap_alloc_new (w.alloc (.cells #[.int .i64 K, .int .i64 T, .int .i64 L, .slice A l.length c] 55)) (.cells #[.int .i64 0, .int .i64 0, .int .i64 0, .slice none 0 0] 55)
  have hW0 := Aside0.mk (show Below w.heap.size w ((w.alloc (.cells #[.int .i64 K, .int .i64 T, .int .i64 L, .slice A l.length c] 55)).alloc (.cells #[.int .i64 0, .int .i64 0, .int .i64 0, .slice none 0 0] 55)) by repeat (first | exact Below.refl _ _ | apply below_alloc))
  have hsz := Aside0.mk (show ((w.alloc (.cells #[.int .i64 K, .int .i64 T, .int .i64 L, .slice A l.length c] 55)).alloc (.cells #[.int .i64 0, .int .i64 0, .int .i64 0, .slice none 0 0] 55)).heap.size = w.heap.size + 1 + 1 by simp)
  generalize ((w.alloc (.cells #[.int .i64 K, .int .i64 T, .int .i64 L, .slice A l.length c] 55)).alloc (.cells #[.int .i64 0, .int .i64 0, .int .i64 0, .slice none 0 0] 55)) = W0 at *
  simp only [World.size_alloc] at bx br
  have BX := Aside0.mk bx
  have BR := Aside0.mk br
  clear bx br
  go_wp2_with (go_at_call 59; refine (HC.out _ hW0.out).mono ?_; rintro e w1 ⟨rfl, hb⟩; have BX1 := Aside0.mk ((hb.block w.heap.size (by rw [hsz.out]; omega)).trans BX.out); have BR1 := Aside0.mk ((hb.block (w.heap.size + 1) (by rw [hsz.out]; omega)).trans BR.out); have HB1 := Aside0.mk (hW0.out.trans (hb.mono hW0.out.size)); have HS1 := Aside0.mk (show w.heap.size + 1 + 1 ≤ w1.heap.size by rw [← hsz.out]; exact hb.size); have hs1 : w.heap.size + 1 < w1.heap.size := HS1.out; clear hb; have x0 := (blk_cell BX1.out 0).trans rfl; have x1 := (blk_cell BX1.out 1).trans rfl; have x2 := (blk_cell BX1.out 2).trans rfl; have x3 := (blk_cell BX1.out 3).trans rfl; have xf3 := blk_frozen BX1.out 3; have r0 := (blk_cell BR1.out 0).trans rfl; have r1 := (blk_cell BR1.out 1).trans rfl; have r2 := (blk_cell BR1.out 2).trans rfl; have r3 := (blk_cell BR1.out 3).trans rfl; have rf0 := blk_frozen BR1.out 0; have rf1 := blk_frozen BR1.out 1; have rf2 := blk_frozen BR1.out 2; have rf3 := blk_frozen BR1.out 3; simp only [List.getElem?_toArray, List.getElem?_cons_zero, List.getElem?_cons_succ] at x0 x1 x2 x3 r0 r1 r2 r3)
  obtain ⟨c0, c1, c2, c3⟩ := set4_cells BR1.out (.int .i64 0) (.int .i64 0) (.int .i64 0) (.slice none 0 0)
  unfold set4 at c0 c1 c2 c3
  refine bodyPost_ret (v := .tuple #[.agg #[.int .i64 0, .int .i64 0, .int .i64 0, .slice none 0 0], .int .i64 1]) (by simp [results, Tryz.results35, go_sem, c0, c1, c2, c3]) rfl ?_
  rw [HE.out]
  exact ⟨_, rfl, Kd.R_nil k64 64 _ _ _, set4_below HB1.out (Nat.le_succ _) _ _ _ _⟩

set_option maxRecDepth 100000 in
set_option maxHeartbeats 8000000 in
theorem Add_good (K T L : Int) (l : L64) (key : ByteArray) (n : Int) (A : Option Addr) (c : Nat) (w : World) (hr : Kd.C k64 w A l.length l) (hc : l.length ≤ c) (hl : l.length ≤ 1000) (hn1 : -9223372036854775808 ≤ n) (hn2 : n ≤ 9223372036854775807) (hz : chkH ⟨K, T, L, l⟩ = 0) :
    Calls Tryz.prog 35 #[.agg #[.int .i64 K, .int .i64 T, .int .i64 L, .slice A l.length c], .string key, .int .i64 n] w (RH w (addH ⟨K, T, L, l⟩ key n)) := by
  have HC := Aside0.mk (fun W (h : Below w.heap.size w W) => Check_calls ⟨K, T, L, l⟩ A c W (Kd.C_below hr h) hc (by simp only [LB]; omega))
  have HR := Aside0.mk hr
  have hu1 := Tryz.underlying64
  have hu2 := Tryz.underlying55
  have HV := Aside0.mk ((chkH_iff _).1 hz)
  have ht0 : 0 ≤ T := HV.out.t0
  have ht1 : T ≤ 1099511627776 := HV.out.t1
  have hl0 : 0 ≤ L := HV.out.l0
  have hl1 : L ≤ 1099511627776 := HV.out.l1
  have HZ := Aside0.mk hz
  have HSH := Aside0.mk (fun (w1 : World) (h : Below w.heap.size w w1) (hn0 : 1 ≤ n) (hn3 : n ≤ 1099511627776 - T) (hks : key.size ≤ 200) => shorten_calls K (T + n) L A (some ⟨w1.heap.size + 1, 0, none⟩) c 1 l [⟨key, n⟩] ((w1.alloc (.cells #[.int .i64 K, .int .i64 (T + n), .int .i64 L, .slice none 0 0] 55)).alloc (.cells #[.string key, .int .i64 n] 64)) (C_two (Kd.C_below hr h)) hc (by have := row_lit (w1.alloc (.cells #[.int .i64 K, .int .i64 (T + n), .int .i64 L, .slice none 0 0] 55)) key n; rw [World.size_alloc] at this; exact this) (Nat.le_refl _) hl (by simp) HV.out.srt HV.out.pos (fun y hy => by simp at hy; subst hy; exact hn0) (by
    have h7 := HV.out.sum
    have k0 : 2 ≤ K := HV.out.k0
    have h8 : 0 ≤ K * L := Int.mul_nonneg (by omega) hl0
    simp only [sumI, List.map_cons, List.map_nil, List.sum_cons, List.sum_nil] at h7 ⊢
    omega) HV.out.k0 HV.out.k1 hl0 (by omega) (fun y hy => by
    rcases List.mem_append.1 hy with hy | hy
    · have := HV.out.key y hy; omega
    · simp only [List.mem_singleton] at hy; subst hy; simp only; omega))
  simp only [put_one, List.length_cons, List.length_nil, Nat.zero_add] at HSH
  rw [hz] at HC
  clear hr hz
  simp only at HC
  go_enter Tryz.func35, Tryz.ntmps35
  go_wp2_with fail
  have bx := heap_alloc_keep (o := .cells #[.int .i64 0, .int .i64 0, .int .i64 0, .slice none 0 0] 55) (heap_alloc_new w (.cells #[.int .i64 K, .int .i64 T, .int .i64 L, .slice A l.length c] 55))
  have br := heap_alloc_new (w.alloc (.cells #[.int .i64 K, .int .i64 T, .int .i64 L, .slice A l.length c] 55)) (.cells #[.int .i64 0, .int .i64 0, .int .i64 0, .slice none 0 0] 55)
  have hW0 := Aside0.mk (show Below w.heap.size w ((w.alloc (.cells #[.int .i64 K, .int .i64 T, .int .i64 L, .slice A l.length c] 55)).alloc (.cells #[.int .i64 0, .int .i64 0, .int .i64 0, .slice none 0 0] 55)) by repeat (first | exact Below.refl _ _ | apply below_alloc))
  have hsz := Aside0.mk (show ((w.alloc (.cells #[.int .i64 K, .int .i64 T, .int .i64 L, .slice A l.length c] 55)).alloc (.cells #[.int .i64 0, .int .i64 0, .int .i64 0, .slice none 0 0] 55)).heap.size = w.heap.size + 1 + 1 by simp)
  generalize ((w.alloc (.cells #[.int .i64 K, .int .i64 T, .int .i64 L, .slice A l.length c] 55)).alloc (.cells #[.int .i64 0, .int .i64 0, .int .i64 0, .slice none 0 0] 55)) = W0 at *
  simp only [World.size_alloc] at bx br
  have BX := Aside0.mk bx
  have BR := Aside0.mk br
  clear bx br
  go_wp2_with (first
    | (go_at_call 59; refine (HC.out _ hW0.out).mono ?_; rintro e w1 ⟨rfl, hb⟩; have BX1 := Aside0.mk ((hb.block w.heap.size (by rw [hsz.out]; omega)).trans BX.out); have BR1 := Aside0.mk ((hb.block (w.heap.size + 1) (by rw [hsz.out]; omega)).trans BR.out); have HB1 := Aside0.mk (hW0.out.trans (hb.mono hW0.out.size)); have HS1 := Aside0.mk (show w.heap.size + 1 + 1 ≤ w1.heap.size by rw [← hsz.out]; exact hb.size); have hs1 : w.heap.size + 1 < w1.heap.size := HS1.out; have y3 := cell_of_heap (heap_alloc_keep (o := .cells #[.int .i64 K, .int .i64 (T + n), .int .i64 L, .slice none 0 0] 55) BX1.out) 3 _ rfl; clear hb; have x0 := (blk_cell BX1.out 0).trans rfl; have x1 := (blk_cell BX1.out 1).trans rfl; have x2 := (blk_cell BX1.out 2).trans rfl; have x3 := (blk_cell BX1.out 3).trans rfl; have xf3 := blk_frozen BX1.out 3; have r0 := (blk_cell BR1.out 0).trans rfl; have r1 := (blk_cell BR1.out 1).trans rfl; have r2 := (blk_cell BR1.out 2).trans rfl; have r3 := (blk_cell BR1.out 3).trans rfl; have rf0 := blk_frozen BR1.out 0; have rf1 := blk_frozen BR1.out 1; have rf2 := blk_frozen BR1.out 2; have rf3 := blk_frozen BR1.out 3; simp only [List.getElem?_toArray, List.getElem?_cons_zero, List.getElem?_cons_succ] at x0 x1 x2 x3 r0 r1 r2 r3)
    | (go_at_call 60; refine (Clone_calls A c l _ (Kd.C_below HR.out HB1.out) hc (by omega)).mono ?_; rintro e w2 ⟨v2, rfl, hrow, hb⟩; obtain ⟨A2, c2, rfl⟩ := own_slice hrow; have BX2 := Aside0.mk ((hb.block w.heap.size (by have := HS1.out; omega)).trans BX1.out); have BR2 := Aside0.mk ((hb.block (w.heap.size + 1) (by have := HS1.out; omega)).trans BR1.out); have HB2 := Aside0.mk (HB1.out.trans (hb.mono HB1.out.size)); have HROW2 := Aside0.mk hrow; clear hb hrow y3 x0 x1 x2 x3 xf3 r0 r1 r2 r3 rf0 rf1 rf2 rf3; have x0 := (blk_cell BX2.out 0).trans rfl; have x1 := (blk_cell BX2.out 1).trans rfl; have x2 := (blk_cell BX2.out 2).trans rfl; have x3 := (blk_cell BX2.out 3).trans rfl; have xf3 := blk_frozen BX2.out 3; have r0 := (blk_cell BR2.out 0).trans rfl; have r1 := (blk_cell BR2.out 1).trans rfl; have r2 := (blk_cell BR2.out 2).trans rfl; have r3 := (blk_cell BR2.out 3).trans rfl; have rf0 := blk_frozen BR2.out 0; have rf1 := blk_frozen BR2.out 1; have rf2 := blk_frozen BR2.out 2; have rf3 := blk_frozen BR2.out 3; simp only [List.getElem?_toArray, List.getElem?_cons_zero, List.getElem?_cons_succ] at x0 x1 x2 x3 r0 r1 r2 r3)
    | (go_at_call 61; (with_reducible refine (HSH.out w1 HB1.out (one_le (by assumption) (by assumption)) (by omega) (by omega)).mono ?_); rintro e w3 ⟨v3, rfl, hR3, hb3⟩; obtain ⟨A3, c3', rfl⟩ := Kd.R_slice hR3; have hb3' := below_two hb3; have BR3 := Aside0.mk ((hb3'.block (w.heap.size + 1) (by have := HS1.out; omega)).trans BR1.out); have HB3 := Aside0.mk (HB1.out.trans (hb3'.mono HB1.out.size)); have HR3 := Aside0.mk (Kd.R_lower hR3 (base' := w1.heap.size) (by simp; omega)); clear hR3 hb3 hb3' y3 x0 x1 x2 x3 xf3 r0 r1 r2 r3 rf0 rf1 rf2 rf3; have r0 := (blk_cell BR3.out 0).trans rfl; have r1 := (blk_cell BR3.out 1).trans rfl; have r2 := (blk_cell BR3.out 2).trans rfl; have r3 := (blk_cell BR3.out 3).trans rfl; have rf0 := blk_frozen BR3.out 0; have rf1 := blk_frozen BR3.out 1; have rf2 := blk_frozen BR3.out 2; have rf3 := blk_frozen BR3.out 3; simp only [List.getElem?_toArray, List.getElem?_cons_zero, List.getElem?_cons_succ] at r0 r1 r2 r3))
  · obtain ⟨c0, c1, c2, c3⟩ := set4_cells BR1.out (.int .i64 0) (.int .i64 0) (.int .i64 0) (.slice none 0 0)
    unfold set4 at c0 c1 c2 c3
    refine bodyPost_ret (v := .tuple #[.agg #[.int .i64 0, .int .i64 0, .int .i64 0, .slice none 0 0], .int .i64 4]) (by simp [results, Tryz.results35, go_sem, c0, c1, c2, c3]) rfl ?_
    rw [show addH ⟨K, T, L, l⟩ key n = (zH, 4) by unfold addH; rw [if_neg (show ¬ chkH ⟨K, T, L, l⟩ ≠ 0 by rw [HZ.out]; simp), if_pos (by omega)]]
    exact ⟨_, rfl, Kd.R_nil k64 64 _ _ _, set4_below HB1.out (Nat.le_succ _) _ _ _ _⟩
  · obtain ⟨c0, c1, c2, c3⟩ := set4_cells BR1.out (.int .i64 0) (.int .i64 0) (.int .i64 0) (.slice none 0 0)
    unfold set4 at c0 c1 c2 c3
    refine bodyPost_ret (v := .tuple #[.agg #[.int .i64 0, .int .i64 0, .int .i64 0, .slice none 0 0], .int .i64 2]) (by simp [results, Tryz.results35, go_sem, c0, c1, c2, c3]) rfl ?_
    rw [show addH ⟨K, T, L, l⟩ key n = (zH, 2) by unfold addH; rw [if_neg (show ¬ chkH ⟨K, T, L, l⟩ ≠ 0 by rw [HZ.out]; simp), if_neg (by omega), if_pos (by omega)]]
    exact ⟨_, rfl, Kd.R_nil k64 64 _ _ _, set4_below HB1.out (Nat.le_succ _) _ _ _ _⟩
  · obtain ⟨c0, c1, c2, c3⟩ := set4_cells BR1.out (.int .i64 0) (.int .i64 0) (.int .i64 0) (.slice none 0 0)
    unfold set4 at c0 c1 c2 c3
    refine bodyPost_ret (v := .tuple #[.agg #[.int .i64 0, .int .i64 0, .int .i64 0, .slice none 0 0], .int .i64 4]) (by simp [results, Tryz.results35, go_sem, c0, c1, c2, c3]) rfl ?_
    rw [show addH ⟨K, T, L, l⟩ key n = (zH, 4) by unfold addH; rw [if_neg (show ¬ chkH ⟨K, T, L, l⟩ ≠ 0 by rw [HZ.out]; simp), if_neg (by omega), if_neg (by omega), if_pos (by simp only; omega)]]
    exact ⟨_, rfl, Kd.R_nil k64 64 _ _ _, set4_below HB1.out (Nat.le_succ _) _ _ _ _⟩
  · have hn0 : n = 0 := by
      have h5 : (n == 0) = true := by assumption
      simpa using h5
    have g1 := blk_far BR2.out (p := ⟨w.heap.size, 3, none⟩) (show w.heap.size + 1 ≠ w.heap.size by omega) (.slice A2 l.length c2)
    obtain ⟨c0, c1, c2', c3⟩ := set4_cells g1 (.int .i64 K) (.int .i64 T) (.int .i64 L) (.slice A2 l.length c2)
    unfold set4 at c0 c1 c2' c3
    refine bodyPost_ret (v := .tuple #[.agg #[.int .i64 K, .int .i64 T, .int .i64 L, .slice A2 l.length c2], .int .i64 0]) (by simp [results, Tryz.results35, go_sem, c0, c1, c2', c3]) rfl ?_
    rw [show addH ⟨K, T, L, l⟩ key n = (⟨K, T, L, l⟩, 0) by unfold addH; rw [if_neg (show ¬ chkH ⟨K, T, L, l⟩ ≠ 0 by rw [HZ.out]; simp), if_neg (by omega), if_neg (by omega), if_neg (by simp only; omega), if_pos hn0]]
    have hR := R_of_lcells HROW2.out
    exact ⟨_, rfl, Kd.R_lower (set4_R (R_setCell hR (by omega) _) (by omega) _ _ _ _) (by omega), set4_below (HB2.out.setCell (p := ⟨w.heap.size, 3, none⟩) (Nat.le_refl _) _) (Nat.le_succ _) _ _ _ _⟩
  · have hn0 : n ≠ 0 := by
      have h5 : (n == 0) = false := by assumption
      simpa using h5
    obtain ⟨c0, c1, c2, c3⟩ := set4_cells BR3.out (.int .i64 K) (.int .i64 (T + n)) (.int .i64 (shrt K (putK l key n) L).2) (.slice A3 (shrt K (putK l key n) L).1.length c3')
    unfold set4 at c0 c1 c2 c3
    refine bodyPost_ret (v := .tuple #[.agg #[.int .i64 K, .int .i64 (T + n), .int .i64 (shrt K (putK l key n) L).2, .slice A3 (shrt K (putK l key n) L).1.length c3'], .int .i64 0]) (by simp [results, Tryz.results35, go_sem, c0, c1, c2, c3]) rfl ?_
    rw [show addH ⟨K, T, L, l⟩ key n = (shrtH K (T + n) L (putK l key n), 0) by unfold addH; rw [if_neg (show ¬ chkH ⟨K, T, L, l⟩ ≠ 0 by rw [HZ.out]; simp), if_neg (by omega), if_neg (by omega), if_neg (by simp only; omega), if_neg hn0]]
    exact ⟨_, rfl, Kd.R_lower (set4_R HR3.out (by omega) _ _ _ _) (by omega), set4_below HB3.out (Nat.le_succ _) _ _ _ _⟩
theorem Add_calls (x : HV) (key : ByteArray) (n : Int) (A : Option Addr) (c : Nat) (w : World) (hr : Kd.C k64 w A x.f3.length x.f3) (hc : x.f3.length ≤ c) (hl : x.f3.length ≤ 1000) (hn1 : -9223372036854775808 ≤ n) (hn2 : n ≤ 9223372036854775807) :
    Calls Tryz.prog 35 #[.agg #[.int .i64 x.f0, .int .i64 x.f1, .int .i64 x.f2, .slice A x.f3.length c], .string key, .int .i64 n] w (RH w (addH x key n)) := by
  obtain ⟨K, T, L, l⟩ := x
  by_cases hz : chkH ⟨K, T, L, l⟩ = 0
  · exact Add_good K T L l key n A c w hr hc hl hn1 hn2 hz
  · exact Add_bad K T L l key n A c w hr hc hl hz
end Go.Proofs.YtakobehkajphpaaGreat.K
