/- The walk of quota.Top. -/
import Derived.Test.YtakobehkajphpaaGreatTQTopP
import Derived.Test.YtakobehkajphpaaGreatTKAdd
import Derived.Test.YtakobehkajphpaaGreatTQFill
namespace Go.Proofs.YtakobehkajphpaaGreat.H
open Go Go.RowKit Go.Proofs.YtakobehkajphpaaGreatW.PrintWords Go.Proofs.YtakobehkajphpaaGreatW.PrintLast Go.Proofs.YtakobehkajphpaaGreatW.PrintMore Go.Proofs.YtakobehkajphpaaGreat.PAll
set_option linter.unusedVariables false
set_option linter.unusedSimpArgs false

def topT (t : TV) (name : ByteArray) (k : Int) : K.HV × Int := if k < 2 ∨ 100 < k then (K.zH, 2) else (topH k (valsT t.ser name), 0)
theorem add_own {x x' : K.HV} {v : ByteArray} (hst : K.addH x v 1 = (x', 0)) (hlx : x.f3.length ≤ 1000) (W : World) (B : Nat) {Av : Option Addr} {cv : Nat} (hC : Kd.R k64 64 W B (fun _ => True) (.slice Av x.f3.length cv) x.f3) :
    Calls Tryz.prog 35 #[.agg #[.int .i64 x.f0, .int .i64 x.f1, .int .i64 x.f2, .slice Av x.f3.length cv], .string v, .int .i64 1] W (K.RH W (x', 0)) := by
  obtain ⟨A', c', e, hcc, hCC⟩ := Kd.R_reads hC
  cases e
  have := K.Add_calls x v 1 _ _ W hCC hcc hlx (by omega) (by omega)
  rw [hst] at this
  exact this
theorem top_len {k : Int} (h : 2 ≤ k) (h1 : k ≤ 100) {vs : List ByteArray} (hl : vs.length ≤ 1000) (hs : ∀ v ∈ vs, v.size ≤ 200) : (topH k vs).f3.length ≤ 1000 := by
  have hO := (top_of h h1 hl hs).val
  have h2 := hO.len
  have h3 := hO.k1
  omega
set_option maxRecDepth 100000 in
set_option maxHeartbeats 16000000 in
theorem Top_calls (t : TV) (hv : ValT t) (hS : SmallT t) (A : Option Addr) (c : Nat) (name : ByteArray) (k : Int) (w : World) (hr : Kd.C kLL w A t.ser.length t.ser) (hc : t.ser.length ≤ c) (hvs : ∀ l ∈ t.ser, (getL l name).size ≤ 200) :
    Calls Tryz.prog 10 #[tv t (.slice A t.ser.length c), .string name, .int .i64 k] w (K.RH w (topT t name k)) := by
  have HCK := Aside0.mk (fun W (h : Below w.heap.size w W) => show Calls Tryz.prog 25 #[tv t (.slice A t.ser.length c)] W (fun e w' => e = .returned (.int .i64 0) ∧ Below W.heap.size W w') by
    have := QCheck_calls t hS A c W (Kd.C_below hr h) hc
    rwa [chkT_val hv] at this)
  have hu := Tryz.underlying24
  have hu2 := Tryz.underlying55
  have HX0 := Aside0.mk (heap_alloc_keep (o := (.cells #[.int .i64 0, .int .i64 0, .int .i64 0, .slice none 0 0] 55)) (heap_alloc_new w (.cells #[.string t.nm, .int .i64 t.rate, .int .i64 t.burst, .int .i64 t.level, .int .i64 t.clock, .int .i64 t.mx, .slice A t.ser.length c, .int .i64 t.acc, .int .i64 t.rr, .int .i64 t.rs] 24)))
  have HR0 := Aside0.mk (heap_alloc_new (w.alloc (.cells #[.string t.nm, .int .i64 t.rate, .int .i64 t.burst, .int .i64 t.level, .int .i64 t.clock, .int .i64 t.mx, .slice A t.ser.length c, .int .i64 t.acc, .int .i64 t.rr, .int .i64 t.rs] 24)) (.cells #[.int .i64 0, .int .i64 0, .int .i64 0, .slice none 0 0] 55))
  have HB0 := Aside0.mk (below_alloc (below_alloc (Below.refl _ w) (.cells #[.string t.nm, .int .i64 t.rate, .int .i64 t.burst, .int .i64 t.level, .int .i64 t.clock, .int .i64 t.mx, .slice A t.ser.length c, .int .i64 t.acc, .int .i64 t.rr, .int .i64 t.rs] 24)) (.cells #[.int .i64 0, .int .i64 0, .int .i64 0, .slice none 0 0] 55))
  simp only [World.size_alloc] at HR0
  have HLN := Aside0.mk hS.len
  have y0 := (blk_cell HX0.out 0).trans rfl; have y1 := (blk_cell HX0.out 1).trans rfl; have y2 := (blk_cell HX0.out 2).trans rfl; have y3 := (blk_cell HX0.out 3).trans rfl; have y4 := (blk_cell HX0.out 4).trans rfl; have y5 := (blk_cell HX0.out 5).trans rfl; have y6 := (blk_cell HX0.out 6).trans rfl; have y7 := (blk_cell HX0.out 7).trans rfl; have y8 := (blk_cell HX0.out 8).trans rfl; have y9 := (blk_cell HX0.out 9).trans rfl; simp only [List.getElem?_toArray, List.getElem?_cons_zero, List.getElem?_cons_succ] at y0 y1 y2 y3 y4 y5 y6 y7 y8 y9
  by_cases hk : k < 2 ∨ 100 < k
  · have HE := Aside0.mk (show topT t name k = (K.zH, 2) from if_pos hk)
    have HN := Aside0.mk (fun W => show Calls Tryz.prog 34 #[.int .i64 k] W (K.RH W (K.zH, 2)) by
      have h := K.New_calls k W
      unfold K.newF at h
      rwa [if_pos hk] at h)
    clear hk hr hv hS hvs
    go_enter Tryz.func10, Tryz.ntmps10
    go_wp2_with (first
      | (go_at_call 25; (with_reducible refine (HCK.out _ HB0.out).mono ?_); rintro e w1 ⟨rfl, hb⟩; have HB1 := Aside0.mk (HB0.out.trans (hb.mono HB0.out.size)); have HR1 := Aside0.mk ((hb.block (w.heap.size + 1) (heap_lt HR0.out)).trans HR0.out); clear hb)
      | (go_at_call 34; (with_reducible refine (HN.out _).mono ?_); rintro e w2 ⟨v2, rfl, hR, hb⟩; obtain ⟨A2, c2, rfl⟩ := Kd.R_slice hR; have HB2 := Aside0.mk (below_alloc (HB1.out.trans (hb.mono HB1.out.size)) (.cells #[.int .i64 K.zH.f0, .int .i64 K.zH.f1, .int .i64 K.zH.f2, .slice A2 K.zH.f3.length c2] 55)); have HR2 := Aside0.mk (heap_alloc_keep (o := (.cells #[.int .i64 K.zH.f0, .int .i64 K.zH.f1, .int .i64 K.zH.f2, .slice A2 K.zH.f3.length c2] 55)) ((hb.block (w.heap.size + 1) (heap_lt HR1.out)).trans HR1.out)); clear hb hR; have r0 := (blk_cell HR2.out 0).trans rfl; have r1 := (blk_cell HR2.out 1).trans rfl; have r2 := (blk_cell HR2.out 2).trans rfl; have r3 := (blk_cell HR2.out 3).trans rfl; simp only [List.getElem?_toArray, List.getElem?_cons_zero, List.getElem?_cons_succ] at r0 r1 r2 r3; have rf0 := blk_frozen HR2.out 0; have rf1 := blk_frozen HR2.out 1; have rf2 := blk_frozen HR2.out 2; have rf3 := blk_frozen HR2.out 3))
    have hr2 := HR2.out
    obtain ⟨q0, q1, q2, q3⟩ := K.set4_cells HR2.out (.int .i64 0) (.int .i64 0) (.int .i64 0) (.slice none 0 0)
    unfold K.set4 at q0 q1 q2 q3
    refine bodyPost_ret (v := .tuple #[.agg #[.int .i64 0, .int .i64 0, .int .i64 0, .slice none 0 0], .int .i64 2]) (by simp [results, Tryz.results10, go_sem, q0, q1, q2, q3]) rfl ?_
    rw [HE.out]
    exact ⟨_, rfl, Kd.R_nil k64 64 _ _ _, K.set4_below HB2.out (by omega) _ _ _ _⟩
  have h1 : 2 ≤ k := by omega
  have h2 : k ≤ 100 := by omega
  have HE := Aside0.mk (show topT t name k = (topH k (valsT t.ser name), 0) from if_neg hk)
  have HN := Aside0.mk (fun W => show Calls Tryz.prog 34 #[.int .i64 k] W (K.RH W (⟨k, 0, 0, []⟩, 0)) by
    have h := K.New_calls k W
    unfold K.newF at h
    rwa [if_neg hk] at h)
  have HVS := Aside0.mk (show ∀ v ∈ valsT t.ser name, v.size ≤ 200 from fun v hv => by
    unfold valsT at hv
    obtain ⟨l, hl, rfl⟩ := List.mem_map.1 (List.mem_filter.1 hv).1
    exact hvs l hl)
  have HGT := Aside0.mk (fun (A' : Option Addr) (c' : Nat) (l : L94) W (hC : Kd.C k94 W A' l.length l) (hc' : l.length ≤ c') (hl : l.length ≤ 1000) => Get_calls A' c' l name W hC hc' (by omega))
  have HCR := Aside0.mk hr
  have HSR := Aside0.mk hS.ser
  clear hk hr hv hS hvs
  go_enter Tryz.func10, Tryz.ntmps10
  go_wp2_with (first
    | (go_at_call 25; (with_reducible refine (HCK.out _ HB0.out).mono ?_); rintro e w1 ⟨rfl, hb⟩; have HB1 := Aside0.mk (HB0.out.trans (hb.mono HB0.out.size)); have HX1 := Aside0.mk ((hb.block w.heap.size (heap_lt HX0.out)).trans HX0.out); have HR1 := Aside0.mk ((hb.block (w.heap.size + 1) (heap_lt HR0.out)).trans HR0.out); clear hb y0 y1 y2 y3 y4 y5 y6 y7 y8 y9)
    | (go_at_call 34; (with_reducible refine (HN.out _).mono ?_); rintro e w2 ⟨v2, rfl, hR, hb⟩; obtain ⟨A1, c1, rfl⟩ := Kd.R_slice hR; have HB2 := Aside0.mk (below_alloc (HB1.out.trans (hb.mono HB1.out.size)) (.cells #[.int .i64 k, .int .i64 0, .int .i64 0, .slice A1 0 c1] 55)); have HX2 := Aside0.mk (heap_alloc_keep (o := (.cells #[.int .i64 k, .int .i64 0, .int .i64 0, .slice A1 0 c1] 55)) ((hb.block w.heap.size (heap_lt HX1.out)).trans HX1.out)); have HR2 := Aside0.mk (heap_alloc_keep (o := (.cells #[.int .i64 k, .int .i64 0, .int .i64 0, .slice A1 0 c1] 55)) ((hb.block (w.heap.size + 1) (heap_lt HR1.out)).trans HR1.out)); have HH2 := Aside0.mk (heap_alloc_new w2 (.cells #[.int .i64 k, .int .i64 0, .int .i64 0, .slice A1 0 c1] 55)); have HO2 := Aside0.mk (Kd.R_below (Kd.R_lower hR (base' := w.heap.size + 2) (by have := heap_lt HR1.out; omega)) (below_alloc (Below.refl _ w2) (.cells #[.int .i64 k, .int .i64 0, .int .i64 0, .slice A1 0 c1] 55))); have HS2 := Aside0.mk (Nat.lt_of_lt_of_le (heap_lt HR1.out) hb.size); clear hb hR; have y6 := (blk_cell HX2.out 6).trans rfl; simp only [List.getElem?_toArray, List.getElem?_cons_zero, List.getElem?_cons_succ] at y6))
  generalize w2.alloc (.cells #[.int .i64 k, .int .i64 0, .int .i64 0, .slice A1 0 c1] 55) = W2 at *
  obtain ⟨Bx, hBx⟩ : ∃ Bx, Bx = w2.heap.size := ⟨_, rfl⟩
  rw [← hBx] at HH2 HS2 ⊢
  clear hBx
  have HSB := Aside0.mk (heap_lt HH2.out)
  go_loopg [29] (t.ser.length) (fun kq v29 w' => ∃ (j : Nat) (v : Value), v29 = .int .i64 j ∧ j ≤ t.ser.length ∧ Aside0 (kq = t.ser.length - j) ∧ Aside0 (w'.heap[Bx]? = some (.cells #[.int .i64 (topH k (valsT (t.ser.take j) name)).f0, .int .i64 (topH k (valsT (t.ser.take j) name)).f1, .int .i64 (topH k (valsT (t.ser.take j) name)).f2, v] 55 (0, 0))) ∧ Aside0 (w'.heap[w.heap.size + 1]? = some (.cells #[.int .i64 0, .int .i64 0, .int .i64 0, .slice none 0 0] 55 (0, 0))) ∧ Aside0 (Below w.heap.size w w') ∧ Aside0 (Kd.R k64 64 w' (w.heap.size + 2) (fun _ => True) v (topH k (valsT (t.ser.take j) name)).f3) ∧ Aside0 (Bx < w'.heap.size))
  case atStart => exact ⟨0, .slice A1 0 c1, rfl, Nat.zero_le _, ⟨rfl⟩, HH2, HR2, HB2, HO2, HSB⟩
  case round =>
    clear HH2 HR2 HB2 HO2 HSB y6 HX2
    obtain ⟨j, v, rfl, hj, HK, BX, BR, HB, HRR, HS⟩ := hrel
    obtain ⟨Av, cv, ev⟩ := Kd.R_slice HRR.out
    subst ev
    by_cases hlt : j < t.ser.length
    · obtain ⟨ad, A', c', HE0⟩ : ∃ ad A' c', Aside0 (A = some ad ∧ wr.cell? (ad.add j) = some (.slice A' t.ser[j].length c') ∧ Calls Tryz.prog 15 #[.slice A' t.ser[j].length c', .string name] wr (fun e W' => e = .returned (.string (getL t.ser[j] name)) ∧ Below wr.heap.size wr W')) := by
        obtain ⟨ad, A', c', e1, hcell, hl', hC⟩ := slice_at (Kd.C_below HCR.out HB.out) j hlt
        exact ⟨ad, A', c', ⟨e1, hcell, HGT.out A' c' t.ser[j] wr hC hl' (HSR.out _ (List.getElem_mem hlt)).1⟩⟩
      obtain ⟨rfl, hcell, hG⟩ := HE0.out
      have HG := Aside0.mk hG
      clear hG HE0
      have dl : decide (j < t.ser.length) = true := decide_eq_true hlt
      have pl : (0 ≤ (j : Int)) = True := eq_true (by omega)
      have HTK := Aside0.mk (show t.ser.take (j + 1) = t.ser.take j ++ [t.ser[j]] from List.take_succ_eq_append_getElem hlt)
      by_cases he : ab (getL t.ser[j] name) = []
      · have HE1 := Aside0.mk (show valsT (t.ser.take (j + 1)) name = valsT (t.ser.take j) name by rw [HTK.out]; exact valsT_snoc_no he)
        have hz : getL t.ser[j] name = ⟨#[]⟩ := ab_inj (by rw [he]; rfl)
        rw [hz] at HG
        clear he hz
        generalize t.ser[j] = l at *
        go_wp2_with (go_at_call 15; (with_reducible refine HG.out.mono ?_); rintro e w3 ⟨rfl, hb⟩; have BX3 := Aside0.mk ((hb.block Bx HS.out).trans BX.out); have BR3 := Aside0.mk ((hb.block (w.heap.size + 1) (heap_lt BR.out)).trans BR.out); have HB3 := Aside0.mk (HB.out.trans (hb.mono HB.out.size)); have HR3 := Aside0.mk (Kd.R_below HRR.out hb); have HS3 := Aside0.mk (Nat.lt_of_lt_of_le HS.out hb.size); clear hb hcell)
        go_roundg (t.ser.length - (j + 1))
        case measure => have := HK.out; omega
        case rel =>
          refine ⟨j + 1, .slice Av (topH k (valsT (t.ser.take j) name)).f3.length cv, (by first | rw [wrap1 j (by have := HLN.out; omega)] | simp), by omega, ⟨rfl⟩, ⟨?_⟩, BR3, HB3, ⟨?_⟩, HS3⟩
          · rw [HE1.out]; exact BX3.out
          · rw [HE1.out]; exact HR3.out
      · have HE1 := Aside0.mk (show valsT (t.ser.take (j + 1)) name = valsT (t.ser.take j) name ++ [getL t.ser[j] name] by rw [HTK.out]; exact valsT_snoc_yes he)
        have hsub : ∀ x ∈ valsT (t.ser.take (j + 1)) name, x.size ≤ 200 := fun x hx => HVS.out x (by
          unfold valsT at hx ⊢
          obtain ⟨h1, h2⟩ := List.mem_filter.1 hx
          obtain ⟨l, hl, rfl⟩ := List.mem_map.1 h1
          exact List.mem_filter.2 ⟨List.mem_map.2 ⟨l, List.mem_of_mem_take hl, rfl⟩, h2⟩)
        have hlen : (valsT (t.ser.take (j + 1)) name).length ≤ 1000 := Nat.le_trans (valsT_len _ _) (by rw [List.length_take]; have := HLN.out; omega)
        have hst := top_step h1 h2 (vs := valsT (t.ser.take j) name) (v := getL t.ser[j] name) (by rw [← HE1.out]; exact hlen) (by rw [← HE1.out]; exact hsub)
        rw [← HE1.out] at hst
        have hlx := top_len h1 h2 (vs := valsT (t.ser.take j) name) (Nat.le_trans (valsT_len _ _) (by rw [List.length_take]; have := HLN.out; omega)) (fun x hx => hsub x (by rw [HE1.out]; exact List.mem_append_left _ hx))
        have HADD := Aside0.mk (fun W Av cv hC => add_own (Av := Av) (cv := cv) hst hlx W (w.heap.size + 2) hC)
        clear hst hsub hlen
        generalize topH k (valsT (t.ser.take j) name) = x at *
        obtain ⟨x', HX'⟩ : ∃ x', Aside0 (topH k (valsT (t.ser.take (j + 1)) name) = x') := ⟨_, ⟨rfl⟩⟩
        rw [HX'.out] at HADD
        clear HE1 HTK
        generalize getL t.ser[j] name = g at *
        have hg1 : (g.toList == []) = false := by rw [toList_ab]; simpa using he
        have hg2 : g.toList.isEmpty = false := by rw [toList_ab]; simpa using he
        have hg3 : (g.toList = []) = False := by rw [toList_ab]; simpa using he
        clear he hlx
        generalize t.ser[j] = l at *
        go_wp2_with (first
          | (go_at_call 15; (with_reducible refine HG.out.mono ?_); rintro e w3 ⟨rfl, hb⟩; have BX3 := Aside0.mk ((hb.block Bx HS.out).trans BX.out); have BR3 := Aside0.mk ((hb.block (w.heap.size + 1) (heap_lt BR.out)).trans BR.out); have HB3 := Aside0.mk (HB.out.trans (hb.mono HB.out.size)); have HR3 := Aside0.mk (Kd.R_below HRR.out hb); have HS3 := Aside0.mk (Nat.lt_of_lt_of_le HS.out hb.size); clear hb hcell; have x0 := (blk_cell BX3.out 0).trans rfl; have x1 := (blk_cell BX3.out 1).trans rfl; have x2 := (blk_cell BX3.out 2).trans rfl; have x3 := (blk_cell BX3.out 3).trans rfl; simp only [List.getElem?_toArray, List.getElem?_cons_zero, List.getElem?_cons_succ] at x0 x1 x2 x3)
          | (go_at_call 35; (with_reducible refine (HADD.out _ _ _ HR3.out).mono ?_); rintro e w4 ⟨v4, rfl, hR4, hb⟩; obtain ⟨A4, c4, rfl⟩ := Kd.R_slice hR4; have BX4 := Aside0.mk ((hb.block Bx HS3.out).trans BX3.out); have BR4 := Aside0.mk ((hb.block (w.heap.size + 1) (heap_lt BR3.out)).trans BR3.out); have HB4 := Aside0.mk (HB3.out.trans (hb.mono HB3.out.size)); have HS4 := Aside0.mk (Nat.lt_of_lt_of_le HS3.out hb.size); have HR4 := Aside0.mk hR4; clear hb hR4 x0 x1 x2 x3; have x0 := (blk_cell BX4.out 0).trans rfl; have x1 := (blk_cell BX4.out 1).trans rfl; have x2 := (blk_cell BX4.out 2).trans rfl; have x3 := (blk_cell BX4.out 3).trans rfl; simp only [List.getElem?_toArray, List.getElem?_cons_zero, List.getElem?_cons_succ] at x0 x1 x2 x3; have xf0 := blk_frozen BX4.out 0; have xf1 := blk_frozen BX4.out 1; have xf2 := blk_frozen BX4.out 2; have xf3 := blk_frozen BX4.out 3))
        go_roundg (t.ser.length - (j + 1))
        case measure => have := HK.out; omega
        case rel =>
          have hs3 := HS3.out
          have hs2 := HS2.out
          refine ⟨j + 1, .slice A4 x'.f3.length c4, (by first | rw [wrap1 j (by have := HLN.out; omega)] | simp), by omega, ⟨rfl⟩, ⟨?_⟩, ⟨?_⟩, ⟨K.set4_below HB4.out (B := Bx) (by omega) _ _ _ _⟩, ⟨?_⟩, ⟨?_⟩⟩
          · rw [HX'.out]
            simpa using blk_set (blk_set (blk_set (blk_set BX4.out 0 (.int .i64 x'.f0)) 1 (.int .i64 x'.f1)) 2 (.int .i64 x'.f2)) 3 (.slice A4 x'.f3.length c4)
          · have q : w.heap.size + 1 ≠ Bx := by omega
            exact blk_far (p := ⟨Bx, 3, none⟩) (blk_far (p := ⟨Bx, 2, none⟩) (blk_far (p := ⟨Bx, 1, none⟩) (blk_far (p := ⟨Bx, 0, none⟩) BR4.out q _) q _) q _) q _
          · rw [HX'.out]
            exact Kd.R_lower (K.set4_R HR4.out (B := Bx) hs3 _ _ _ _) (by omega)
          · have := HS4.out
            simpa using this
    · have hjl : j = t.ser.length := by omega
      subst hjl
      rw [List.take_length] at *
      have dl : decide (t.ser.length < t.ser.length) = false := decide_eq_false hlt
      generalize topH k (valsT t.ser name) = x at *
      have x0 := (blk_cell BX.out 0).trans rfl; have x1 := (blk_cell BX.out 1).trans rfl; have x2 := (blk_cell BX.out 2).trans rfl; have x3 := (blk_cell BX.out 3).trans rfl; simp only [List.getElem?_toArray, List.getElem?_cons_zero, List.getElem?_cons_succ] at x0 x1 x2 x3
      have r0 := (blk_cell BR.out 0).trans rfl; have r1 := (blk_cell BR.out 1).trans rfl; have r2 := (blk_cell BR.out 2).trans rfl; have r3 := (blk_cell BR.out 3).trans rfl; simp only [List.getElem?_toArray, List.getElem?_cons_zero, List.getElem?_cons_succ] at r0 r1 r2 r3
      have rf0 := blk_frozen BR.out 0; have rf1 := blk_frozen BR.out 1; have rf2 := blk_frozen BR.out 2; have rf3 := blk_frozen BR.out 3
      have nb1 : w.heap.size + 1 ≠ Bx := by have := HS2.out; omega
      have nb2 : Bx ≠ w.heap.size + 1 := fun e => nb1 e.symm
      go_wp2_with fail
      obtain ⟨q0, q1, q2, q3⟩ := K.set4_cells BR.out (.int .i64 x.f0) (.int .i64 x.f1) (.int .i64 x.f2) (.slice Av x.f3.length cv)
      unfold K.set4 at q0 q1 q2 q3
      refine bodyPost_ret (v := .tuple #[.agg #[.int .i64 x.f0, .int .i64 x.f1, .int .i64 x.f2, .slice Av x.f3.length cv], .int .i64 0]) (by simp [results, Tryz.results10, go_sem, q0, q1, q2, q3]) rfl ?_
      rw [HE.out]
      exact ⟨_, rfl, Kd.R_lower (K.set4_R HRR.out (by omega) _ _ _ _) (by omega), K.set4_below HB.out (by omega) _ _ _ _⟩
end Go.Proofs.YtakobehkajphpaaGreat.H
