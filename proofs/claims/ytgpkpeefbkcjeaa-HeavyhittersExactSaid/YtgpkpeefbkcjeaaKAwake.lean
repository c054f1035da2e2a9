/- awake: the example of the chapter. -/
import Derived.Test.YtgpkpeefbkcjeaaKOf
namespace Go.Proofs.Ytgpkpeefbkcjeaa.H
open Go Go.RowKit Go.WideMaps Go.Proofs.YtgpkpeefbkcjeaaW.PrintWords Go.Proofs.YtgpkpeefbkcjeaaW.PrintLast Go.Proofs.YtgpkpeefbkcjeaaW.PrintMore Go.Proofs.Ytgpkpeefbkcjeaa.PAll
set_option linter.unusedVariables false
set_option linter.unusedSimpArgs false

def sA : ByteArray := ⟨#[97]⟩
def sB : ByteArray := ⟨#[98]⟩
def sC : ByteArray := ⟨#[99]⟩
def exL : List S49 := [⟨sA, 3⟩, ⟨sB, 2⟩, ⟨sC, 1⟩]
theorem ex_of : ofF 3 exL = ⟨3, 6, 1, [⟨sA, 2⟩, ⟨sB, 1⟩]⟩ := by rfl
theorem ex_bnd : bndH ⟨3, 6, 1, [⟨sA, 2⟩, ⟨sB, 1⟩]⟩ sA = (2, 3, 0) := by rfl
theorem ex_abv : abvH ⟨3, 6, 1, [⟨sA, 2⟩, ⟨sB, 1⟩]⟩ 2 = ([sA, sB], [sA], 0) := by rfl
theorem ex_few : Few exL := ⟨by decide, fun x hx => by simp [exL] at hx; rcases hx with rfl | rfl | rfl <;> exact ⟨by decide, by decide, by decide⟩⟩
theorem ex_row (W : World) (n : Nat) (hn : n = W.heap.size) : Kd.C k49 (W.alloc (.cells #[.string ⟨#[97]⟩, .int .i64 3, .string ⟨#[98]⟩, .int .i64 2, .string ⟨#[99]⟩, .int .i64 1] 49)) (some ⟨n, 0, none⟩) 3 exL := by
  subst hn
  refine ⟨rfl, by omega, fun _ => ⟨_, rfl, fun j p hj => ?_⟩⟩
  rcases j with _ | _ | _ | j
  · simp [exL] at hj
    subst hj
    refine ⟨_, rfl, k49_mk _ ⟨sA, 3⟩, fun i u hu => ?_⟩
    rw [add_plain]
    rcases i with _ | _ | i
    · simp at hu; subst hu; exact cell_of_heap (heap_alloc_new W _) 0 _ rfl
    · simp at hu; subst hu; exact cell_of_heap (heap_alloc_new W _) 1 _ rfl
    · simp at hu
  · simp [exL] at hj
    subst hj
    refine ⟨_, rfl, k49_mk _ ⟨sB, 2⟩, fun i u hu => ?_⟩
    rw [add_plain]
    rcases i with _ | _ | i
    · simp at hu; subst hu; exact cell_of_heap (heap_alloc_new W _) 2 _ rfl
    · simp at hu; subst hu; exact cell_of_heap (heap_alloc_new W _) 3 _ rfl
    · simp at hu
  · simp [exL] at hj
    subst hj
    refine ⟨_, rfl, k49_mk _ ⟨sC, 1⟩, fun i u hu => ?_⟩
    rw [add_plain]
    rcases i with _ | _ | i
    · simp at hu; subst hu; exact cell_of_heap (heap_alloc_new W _) 4 _ rfl
    · simp at hu; subst hu; exact cell_of_heap (heap_alloc_new W _) 5 _ rfl
    · simp at hu
  · simp [exL] at hj
theorem CS_lit (W : World) (n : Nat) (hn : n = W.heap.size) (l : List ByteArray) (hl : l.length ≤ 1000) (cs : Array Value) (hcs : cs = (l.map Value.string).toArray) (T : TypeId) : CS (W.alloc (.cells cs T)) (.slice (some ⟨n, 0, none⟩) l.length l.length) l := by
  subst hn hcs
  refine ⟨_, _, rfl, Nat.le_refl _, rfl, by omega, fun _ => ⟨_, rfl, fun j p hj => ?_⟩⟩
  refine ⟨[.string p], rfl, rfl, fun i u hu => ?_⟩
  rcases i with _ | i
  · simp at hu; subst hu
    rw [add_plain]
    exact cell_of_heap (heap_alloc_new W _) _ _ (by simp [Kd.string, Kd.scalar, hj])
  · simp at hu

theorem CS_ad {w : World} {v : Value} {l : List ByteArray} (h : CS w v l) (o : Obj) (q : Nat) : CS ((w.alloc o).drewN q) v l := h.below (pw_below_drewN (below_alloc (Below.refl _ w) o) q)

set_option maxRecDepth 100000 in
set_option maxHeartbeats 8000000 in
theorem awake_calls (w : World) : Calls Try.prog 11 #[] w fun e w' => e = .returned (.bool true) ∧ Below w.heap.size w w' := by
  have HOF := Aside0.mk (fun W => show Calls Try.prog 34 #[.int .i64 3, .slice (some ⟨W.heap.size, 0, none⟩) 3 3] (W.alloc (.cells #[.string ⟨#[97]⟩, .int .i64 3, .string ⟨#[98]⟩, .int .i64 2, .string ⟨#[99]⟩, .int .i64 1] 49)) fun e w' => ∃ A c, e = .returned (.tuple #[.agg #[.int .i64 3, .int .i64 6, .int .i64 1, .slice A 2 c], .bool true]) ∧ 2 ≤ c ∧ Kd.C k58 w' A 2 [⟨sA, 2⟩, ⟨sB, 1⟩] ∧ Below W.heap.size W w' by
    refine (of_calls 3 (by omega) (by omega) exL ex_few (some ⟨W.heap.size, 0, none⟩) 3 _ (ex_row W _ rfl) (Nat.le_refl _)).mono ?_
    rw [ex_of]
    rintro e w' ⟨v, rfl, hR, hb⟩
    obtain ⟨A, c, rfl, hc, hC⟩ := Kd.R_reads hR
    exact ⟨A, c, rfl, hc, hC, (below_alloc (Below.refl _ W) _).trans (hb.mono (by simp))⟩)
  have HBN := Aside0.mk (fun A c W (hC : Kd.C k58 W A 2 [⟨sA, 2⟩, ⟨sB, 1⟩]) (hc : 2 ≤ c) => show Calls Try.prog 19 #[.agg #[.int .i64 3, .int .i64 6, .int .i64 1, .slice A 2 c], .string ⟨#[97]⟩] W fun e w' => e = .returned (.tuple #[.int .i64 2, .int .i64 3, .int .i64 0]) ∧ Below W.heap.size W w' by
    have h := Bounds_calls ⟨3, 6, 1, [⟨sA, 2⟩, ⟨sB, 1⟩]⟩ sA A c W hC hc (by simp)
    rw [ex_bnd] at h
    exact h)
  have HAB := Aside0.mk (fun A c W (hC : Kd.C k58 W A 2 [⟨sA, 2⟩, ⟨sB, 1⟩]) (hc : 2 ≤ c) => show Calls Try.prog 21 #[.agg #[.int .i64 3, .int .i64 6, .int .i64 1, .slice A 2 c], .int .i64 2] W fun e w' => ∃ v0 v1, e = .returned (.tuple #[v0, v1, .int .i64 0]) ∧ CS w' v0 [sA, sB] ∧ CS w' v1 [sA] ∧ Below W.heap.size W w' by
    have h := Above_calls ⟨3, 6, 1, [⟨sA, 2⟩, ⟨sB, 1⟩]⟩ 2 A c W hC hc (by simp [LB])
    rw [ex_abv] at h
    exact h)
  have HE1 := Aside0.mk (fun v W (h : CS W v [sA, sB]) => show Calls Try.prog 23 #[v, .slice (some ⟨W.heap.size, 0, none⟩) 2 2] (W.alloc (.cells #[.string ⟨#[97]⟩, .string ⟨#[98]⟩] 9)) fun e w' => e = .returned (.bool true) ∧ Drawn0 (W.alloc (.cells #[.string ⟨#[97]⟩, .string ⟨#[98]⟩] 9)) w' from
    EqualS_calls [sA, sB] v _ _ (h.below (below_alloc (Below.refl _ W) _)) (CS_lit W _ rfl [sA, sB] (by simp) _ rfl _) (by simp [LB]))
  have HE2 := Aside0.mk (fun v W n (hn : n = W.heap.size) (h : CS W v [sA]) => show Calls Try.prog 23 #[v, .slice (some ⟨n, 0, none⟩) 1 1] (W.alloc (.cells #[.string ⟨#[97]⟩] 9)) fun e w' => e = .returned (.bool true) ∧ Drawn0 (W.alloc (.cells #[.string ⟨#[97]⟩] 9)) w' from
    EqualS_calls [sA] v _ _ (h.below (below_alloc (Below.refl _ W) _)) (CS_lit W n hn [sA] (by simp) _ rfl _) (by simp [LB]))
  have hu1 := Try.underlying58
  have hu2 := Try.underlying24
  have hu3 := Try.underlying49
  go_enter Try.func11, Try.ntmps11
  go_wp2_with (go_at_call 34; (with_reducible refine (HOF.out _).mono ?_); rintro e w1 ⟨A1, c1, rfl, hc1, hC1, hb⟩; have HC1 := Aside0.mk hC1; have HB1 := Aside0.mk hb; clear hC1 hb)
  have HB2 := Aside0.mk (below_alloc HB1.out (.cells #[.int .i64 3, .int .i64 6, .int .i64 1, .slice A1 2 c1] 24))
  have BX2 := Aside0.mk (heap_alloc_new w1 (.cells #[.int .i64 3, .int .i64 6, .int .i64 1, .slice A1 2 c1] 24))
  have HC2 := Aside0.mk (Kd.C_below HC1.out (below_alloc (Below.refl _ w1) (.cells #[.int .i64 3, .int .i64 6, .int .i64 1, .slice A1 2 c1] 24)))
  have HS2 := Aside0.mk (show w1.heap.size < (w1.alloc (.cells #[.int .i64 3, .int .i64 6, .int .i64 1, .slice A1 2 c1] 24)).heap.size by simp)
  go_wp2_with (first
    | (go_at_call 19; (with_reducible refine (HBN.out A1 c1 _ HC2.out hc1).mono ?_); rintro e w3 ⟨rfl, hb⟩; have BX3 := Aside0.mk ((hb.block w1.heap.size HS2.out).trans BX2.out); have HC3 := Aside0.mk (Kd.C_below HC2.out hb); have HB3 := Aside0.mk (HB2.out.trans (hb.mono HB2.out.size)); have HS3 := Aside0.mk (Nat.lt_of_lt_of_le HS2.out hb.size); clear hb; have x0 := (blk_cell BX3.out 0).trans rfl; have x1 := (blk_cell BX3.out 1).trans rfl; have x2 := (blk_cell BX3.out 2).trans rfl; have x3 := (blk_cell BX3.out 3).trans rfl; simp only [List.getElem?_toArray, List.getElem?_cons_zero, List.getElem?_cons_succ] at x0 x1 x2 x3)
    | (go_at_call 21; (with_reducible refine (HAB.out A1 c1 _ HC3.out hc1).mono ?_); rintro e w4 ⟨v0, v1, rfl, h0, h1, hb⟩; have BX4 := Aside0.mk ((hb.block w1.heap.size HS3.out).trans BX3.out); have HB4 := Aside0.mk (HB3.out.trans (hb.mono HB3.out.size)); have H0 := Aside0.mk h0; have H1 := Aside0.mk h1; clear hb h0 h1 x0 x1 x2 x3; have x2 := (blk_cell BX4.out 2).trans rfl; have x3 := (blk_cell BX4.out 3).trans rfl; simp only [List.getElem?_toArray, List.getElem?_cons_zero, List.getElem?_cons_succ] at x2 x3)
    | (go_at_call 23; (with_reducible refine (HE1.out _ _ H0.out).mono ?_); rintro e w5 ⟨rfl, ⟨q, rfl⟩⟩)
    | (go_at_call 23; (with_reducible refine (HE2.out _ _ _ (by simp) (CS_ad H1.out _ _)).mono ?_); rintro e w6 ⟨rfl, ⟨q2, rfl⟩⟩))
  go_ret
  exact ⟨rfl, by repeat (first | exact HB4.out | apply below_alloc | apply pw_below_drewN)⟩
end Go.Proofs.Ytgpkpeefbkcjeaa.H
