/- The law's of: keys added one after the other; awake: the example of the chapter. -/
import Derived.Test.YtgpkpeefbkcjeaaKAdd
import Derived.Test.YtgpkpeefbkcjeaaKBnd
import Derived.BigQuiet
namespace Go.Proofs.Ytgpkpeefbkcjeaa.H
open Go Go.RowKit Go.WideMaps Go.Proofs.YtgpkpeefbkcjeaaW.PrintWords Go.Proofs.YtgpkpeefbkcjeaaW.PrintLast Go.Proofs.YtgpkpeefbkcjeaaW.PrintMore Go.Proofs.Ytgpkpeefbkcjeaa.PAll
set_option linter.unusedVariables false
set_option linter.unusedSimpArgs false

theorem below_one {w1 w3 : World} {o1 : Obj} (h : Below (w1.alloc o1).heap.size (w1.alloc o1) w3) : Below w1.heap.size w1 w3 := (below_alloc (Below.refl _ w1) o1).trans (h.mono (by simp))
theorem ofF_len {K : Int} (h0 : 2 ≤ K) (h1 : K ≤ 100) {l : List S49} (hf : Few l) (j : Nat) : (ofF K (l.take j)).f3.length ≤ 1000 := by
  have := (ofF_of h0 h1 (l.take j) (by rw [List.length_take]; have := hf.1; omega) (fun x hx => hf.2 x (List.mem_of_mem_take hx))).val
  have h2 := this.len
  have h3 := this.k1
  omega
theorem of_add {x x' : HV} {m : S49} (hst : addH x m.f0 m.f1 = (x', 0)) (hlx : x.f3.length ≤ 1000) (h0 : 0 ≤ m.f1) (h1 : m.f1 ≤ 1000000) (W : World) (B : Nat) {Av : Option Addr} {cv : Nat} (hC : Kd.R k58 58 W B (fun _ => True) (.slice Av x.f3.length cv) x.f3) :
    Calls Try.prog 12 #[.agg #[.int .i64 x.f0, .int .i64 x.f1, .int .i64 x.f2, .slice Av x.f3.length cv], .string m.f0, .int .i64 m.f1] W (RH W (x', 0)) := by
  obtain ⟨A', c', e, hcc, hCC⟩ := Kd.R_reads hC
  cases e
  have := Add_calls x m.f0 m.f1 _ _ W hCC hcc hlx (by omega) (by omega)
  rw [hst] at this
  exact this
set_option maxRecDepth 100000 in
set_option maxHeartbeats 8000000 in
theorem of_calls (K : Int) (hK : 2 ≤ K) (hK1 : K ≤ 100) (l : List S49) (hf : Few l) (A : Option Addr) (c : Nat) (w : World) (hr : Kd.C k49 w A l.length l) (hc : l.length ≤ c) :
    Calls Try.prog 34 #[.int .i64 K, .slice A l.length c] w fun e w' => ∃ v, e = .returned (.tuple #[.agg #[.int .i64 (ofF K l).f0, .int .i64 (ofF K l).f1, .int .i64 (ofF K l).f2, v], .bool true]) ∧ Kd.R k58 58 w' w.heap.size (fun _ => True) v (ofF K l).f3 ∧ Below w.heap.size w w' := by
  have HR := Aside0.mk hr
  have HF := Aside0.mk hf
  have hln := hf.1
  have HN := Aside0.mk (fun W => show Calls Try.prog 14 #[.int .i64 K] W (RH W (⟨K, 0, 0, []⟩, 0)) by
    have h := New_calls K W
    unfold newF at h
    rw [if_neg (by omega)] at h
    exact h)
  have hu1 := Try.underlying58
  have hu2 := Try.underlying24
  have hu3 := Try.underlying49
  clear hr hf
  go_enter Try.func34, Try.ntmps34
  go_wp2_with fail
  have hW0 := Aside0.mk (show Below w.heap.size w (w.alloc (.cells #[.int .i64 0, .int .i64 0, .int .i64 0, .slice none 0 0] 24)) by repeat (first | exact Below.refl _ _ | apply below_alloc))
  have BR := Aside0.mk (heap_alloc_new w (.cells #[.int .i64 0, .int .i64 0, .int .i64 0, .slice none 0 0] 24))
  have HS := Aside0.mk (show w.heap.size < (w.alloc (.cells #[.int .i64 0, .int .i64 0, .int .i64 0, .slice none 0 0] 24)).heap.size by simp)
  go_wp2_with (go_at_call 14; (with_reducible refine (HN.out _).mono ?_); rintro e w1 ⟨v1, rfl, hR1, hb⟩; obtain ⟨A1, c1, rfl⟩ := Kd.R_slice hR1; have BR1 := Aside0.mk ((hb.block w.heap.size HS.out).trans BR.out); have HB1 := Aside0.mk (hW0.out.trans (hb.mono hW0.out.size)); have HS1 := Aside0.mk (Nat.lt_of_lt_of_le HS.out hb.size); have HR1 := Aside0.mk (Kd.R_lower hR1 (base' := w.heap.size + 1) (by simp)); clear hb hR1)
  have BX2 := Aside0.mk (heap_alloc_new w1 (.cells #[.int .i64 K, .int .i64 0, .int .i64 0, .slice A1 0 c1] 24))
  have BR2 := Aside0.mk (heap_alloc_keep (o := .cells #[.int .i64 K, .int .i64 0, .int .i64 0, .slice A1 0 c1] 24) BR1.out)
  have HB2 := Aside0.mk (below_alloc HB1.out (.cells #[.int .i64 K, .int .i64 0, .int .i64 0, .slice A1 0 c1] 24))
  have HR2 := Aside0.mk (Kd.R_below HR1.out (below_alloc (Below.refl _ w1) (.cells #[.int .i64 K, .int .i64 0, .int .i64 0, .slice A1 0 c1] 24)))
  have HS2 := Aside0.mk (show w1.heap.size < (w1.alloc (.cells #[.int .i64 K, .int .i64 0, .int .i64 0, .slice A1 0 c1] 24)).heap.size by simp)
  clear BR1 HB1 HR1 BR hW0 HS
  generalize (w1.alloc (.cells #[.int .i64 K, .int .i64 0, .int .i64 0, .slice A1 0 c1] 24)) = W2 at *
  obtain ⟨Bx, hBx⟩ : ∃ Bx, Bx = w1.heap.size := ⟨_, rfl⟩
  rw [← hBx] at HS1 BX2 HS2 ⊢
  clear hBx
  go_loopg [7, 17] (l.length) (fun kq v7 v17 w' => ∃ (j : Nat) (v : Value), v7 = .int .i64 0 ∧ v17 = .int .i64 j ∧ j ≤ l.length ∧ Aside0 (kq = l.length - j) ∧ Aside0 (w'.heap[Bx]? = some (.cells #[.int .i64 (ofF K (l.take j)).f0, .int .i64 (ofF K (l.take j)).f1, .int .i64 (ofF K (l.take j)).f2, v] 24 (0, 0))) ∧ Aside0 (w'.heap[w.heap.size]? = some (.cells #[.int .i64 0, .int .i64 0, .int .i64 0, .slice none 0 0] 24 (0, 0))) ∧ Aside0 (Below w.heap.size w w') ∧ Aside0 (Kd.R k58 58 w' (w.heap.size + 1) (fun _ => True) v (ofF K (l.take j)).f3) ∧ Aside0 (Bx < w'.heap.size))
  case atStart => exact ⟨0, _, rfl, rfl, by omega, ⟨rfl⟩, BX2, BR2, HB2, HR2, HS2⟩
  case round =>
    clear BX2 BR2 HB2 HR2 HS2
    obtain ⟨j, v, rfl, rfl, hj, HK, BX, BR, HB, HRR, HS⟩ := hrel
    obtain ⟨Av, cv, ev⟩ := Kd.R_slice HRR.out
    subst ev
    have x0 := (blk_cell BX.out 0).trans rfl
    have x1 := (blk_cell BX.out 1).trans rfl
    have x2 := (blk_cell BX.out 2).trans rfl
    have x3 := (blk_cell BX.out 3).trans rfl
    simp only [List.getElem?_toArray, List.getElem?_cons_zero, List.getElem?_cons_succ] at x0 x1 x2 x3
    by_cases hlt : j < l.length
    · obtain ⟨ad, e1, hc0, hc1⟩ := at_T49 (Kd.C_below HR.out HB.out) (j : Int) (by omega) (by omega)
      cases e1
      have hg : rd_T49 l (j : Int) = l[j] := by simp [rd_T49, List.getD_eq_getElem?_getD, List.getElem?_eq_getElem hlt]
      rw [hg] at hc0 hc1
      simp only [Int.toNat_natCast] at hc0 hc1
      have pl : (0 ≤ (j : Int)) = True := eq_true (by omega)
      have dl : decide (j < l.length) = true := decide_eq_true hlt
      have hm := HF.out.2 _ (List.getElem_mem hlt)
      have hst := ofF_step hK hK1 (l := l.take j) (m := l[j]) (by rw [← List.take_succ_eq_append_getElem hlt, List.length_take]; omega) (fun x hx => HF.out.2 x (by rw [← List.take_succ_eq_append_getElem hlt] at hx; exact List.mem_of_mem_take hx))
      rw [← List.take_succ_eq_append_getElem hlt] at hst
      have hlx := ofF_len hK hK1 HF.out j
      have hn1 := hm.2.1
      have hn2 := hm.2.2
      have HADD := Aside0.mk (fun W Av cv hC => of_add (Av := Av) (cv := cv) hst hlx hn1 hn2 W (w.heap.size + 1) hC)
      clear hst hm hg hlx
      generalize ofF K (l.take j) = x at *
      generalize hx' : ofF K (l.take (j + 1)) = x' at *
      have HX' := Aside0.mk hx'
      clear hx'
      generalize l[j] = m at *
      clear x0 x1 x2 x3
      have y0 := cell_of_heap (heap_alloc_keep (o := .cells #[.string m.f0, .int .i64 m.f1] 49) BX.out) 0 _ rfl
      have y1 := cell_of_heap (heap_alloc_keep (o := .cells #[.string m.f0, .int .i64 m.f1] 49) BX.out) 1 _ rfl
      have y2 := cell_of_heap (heap_alloc_keep (o := .cells #[.string m.f0, .int .i64 m.f1] 49) BX.out) 2 _ rfl
      have y3 := cell_of_heap (heap_alloc_keep (o := .cells #[.string m.f0, .int .i64 m.f1] 49) BX.out) 3 _ rfl
      go_wp2_with (go_at_call 12; (with_reducible refine (HADD.out _ _ _ (Kd.R_below HRR.out (below_alloc (Below.refl _ wr) _))).mono ?_); rintro e w3 ⟨v3, rfl, hR3, hb3⟩; obtain ⟨A3, c3, rfl⟩ := Kd.R_slice hR3; have hb3' := below_one hb3; have BX3 := Aside0.mk ((hb3'.block Bx HS.out).trans BX.out); have BR3 := Aside0.mk ((hb3'.block w.heap.size (by have := HS.out; have := HS1.out; omega)).trans BR.out); have HB3 := Aside0.mk (HB.out.trans (hb3'.mono HB.out.size)); have HS3 := Aside0.mk (Nat.lt_of_lt_of_le HS.out hb3'.size); have HR3 := Aside0.mk (Kd.R_lower hR3 (base' := wr.heap.size) (by simp)); clear hR3 hb3 hb3' y0 y1 y2 y3 hc0 hc1; have x0 := (blk_cell BX3.out 0).trans rfl; have x1 := (blk_cell BX3.out 1).trans rfl; have x2 := (blk_cell BX3.out 2).trans rfl; have x3 := (blk_cell BX3.out 3).trans rfl; have xf0 := blk_frozen BX3.out 0; have xf1 := blk_frozen BX3.out 1; have xf2 := blk_frozen BX3.out 2; have xf3 := blk_frozen BX3.out 3; simp only [List.getElem?_toArray, List.getElem?_cons_zero, List.getElem?_cons_succ] at x0 x1 x2 x3)
      go_roundg (l.length - (j + 1))
      case measure => have := HK.out; omega
      case rel =>
        have hs := HS.out
        have hs1 := HS1.out
        refine ⟨j + 1, .slice A3 x'.f3.length c3, rfl, by simp, by omega, ⟨rfl⟩, ⟨?_⟩, ⟨?_⟩, ⟨set4_below HB3.out (B := Bx) (by omega) _ _ _ _⟩, ⟨?_⟩, ⟨?_⟩⟩
        · rw [HX'.out]
          simpa using blk_set (blk_set (blk_set (blk_set BX3.out 0 (.int .i64 x'.f0)) 1 (.int .i64 x'.f1)) 2 (.int .i64 x'.f2)) 3 (.slice A3 x'.f3.length c3)
        · have q : w.heap.size ≠ Bx := by omega
          exact blk_far (p := ⟨Bx, 3, none⟩) (blk_far (p := ⟨Bx, 2, none⟩) (blk_far (p := ⟨Bx, 1, none⟩) (blk_far (p := ⟨Bx, 0, none⟩) BR3.out q _) q _) q _) q _
        · rw [HX'.out]
          exact Kd.R_lower (set4_R HR3.out (B := Bx) hs _ _ _ _) (by omega)
        · have := HS3.out
          simpa using this
    · have hjl : j = l.length := by omega
      subst hjl
      rw [List.take_length] at *
      have dl : decide (l.length < l.length) = false := decide_eq_false hlt
      have r0 := (blk_cell BR.out 0).trans rfl
      have r1 := (blk_cell BR.out 1).trans rfl
      have r2 := (blk_cell BR.out 2).trans rfl
      have r3 := (blk_cell BR.out 3).trans rfl
      have rf0 := blk_frozen BR.out 0
      have rf1 := blk_frozen BR.out 1
      have rf2 := blk_frozen BR.out 2
      have rf3 := blk_frozen BR.out 3
      simp only [List.getElem?_toArray, List.getElem?_cons_zero, List.getElem?_cons_succ] at r0 r1 r2 r3
      go_wp2_with fail
      obtain ⟨c0, c1, c2, c3⟩ := set4_cells BR.out (.int .i64 (ofF K l).f0) (.int .i64 (ofF K l).f1) (.int .i64 (ofF K l).f2) (.slice Av (ofF K l).f3.length cv)
      unfold set4 at c0 c1 c2 c3
      refine bodyPost_ret (v := .tuple #[.agg #[.int .i64 (ofF K l).f0, .int .i64 (ofF K l).f1, .int .i64 (ofF K l).f2, .slice Av (ofF K l).f3.length cv], .bool true]) (by simp [results, Try.results34, go_sem, c0, c1, c2, c3]) rfl ?_
      exact ⟨_, rfl, Kd.R_lower (set4_R HRR.out (by omega) _ _ _ _) (by omega), set4_below HB.out (Nat.le_refl _) _ _ _ _⟩
end Go.Proofs.Ytgpkpeefbkcjeaa.H
