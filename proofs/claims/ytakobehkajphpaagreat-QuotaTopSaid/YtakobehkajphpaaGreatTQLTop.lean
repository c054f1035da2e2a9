/- The law QuotaTop. -/
import Derived.Test.YtakobehkajphpaaGreatTQTop
import Derived.Test.YtakobehkajphpaaGreatTQRead
import Derived.Test.YtakobehkajphpaaGreatTQAwake
namespace Go.Proofs.YtakobehkajphpaaGreat.H
open Go Go.RowKit Go.Proofs.YtakobehkajphpaaGreatW.PrintWords Go.Proofs.YtakobehkajphpaaGreatW.PrintLast Go.Proofs.YtakobehkajphpaaGreatW.PrintMore Go.Proofs.YtakobehkajphpaaGreat.PAll
set_option linter.unusedVariables false
set_option linter.unusedSimpArgs false

theorem chkL_size {name : ByteArray} : ∀ (p : Option S94) (l : L94), chkL p l = 0 → (getL l name).size ≤ 200
  | _, [], _ => by show (0 : Nat) ≤ 200; omega
  | p, x :: l, h => by
    unfold chkL at h
    split at h
    · exact absurd h (by omega)
    · split at h
      · exact absurd h (by omega)
      · split at h
        · exact absurd h (by omega)
        · rename_i h3
          unfold getL
          by_cases hx : ab x.f0 = ab name
          · rw [if_pos hx]; omega
          · rw [if_neg hx]
            cases p with
            | none => exact chkL_size (some x) l h
            | some q =>
              simp only at h
              split at h
              · exact chkL_size (some x) l h
              · exact absurd h (by omega)
theorem chk_size {name : ByteArray} {l : L94} (h : chk l = 0) : (getL l name).size ≤ 200 := by
  unfold chk at h
  split at h
  · exact absurd h (by omega)
  · exact chkL_size none l h
set_option maxRecDepth 100000 in
set_option maxHeartbeats 16000000 in
theorem QLTop_row (w : World) (t : TV) (A : Option Addr) (c : Nat) (hr : Kd.C kLL w A t.ser.length t.ser) (hc : t.ser.length ≤ c) (name : ByteArray) (k : Int) :
    Calls Tryz.prog 4 #[.agg #[.string t.nm, .int .i64 t.rate, .int .i64 t.burst, .int .i64 t.level, .int .i64 t.clock, .int .i64 t.mx, .slice A t.ser.length c, .int .i64 t.acc, .int .i64 t.rr, .int .i64 t.rs], .string name, .int .i64 k] w fun e w' => e = .returned (.bool true) ∧ Below w.heap.size w w' := by
  have HG := Aside0.mk (fun W (h : Below w.heap.size w W) => show Calls Tryz.prog 5 #[.agg #[.string t.nm, .int .i64 t.rate, .int .i64 t.burst, .int .i64 t.level, .int .i64 t.clock, .int .i64 t.mx, .slice A t.ser.length c, .int .i64 t.acc, .int .i64 t.rr, .int .i64 t.rs]] W (fun e w' => e = .returned (.bool (grT t)) ∧ Below W.heap.size W w') from rGreat_calls t A c W (Kd.C_below hr h) hc)
  have HA := Aside0.mk (fun W => awake_calls W)
  have hu := Tryz.underlying24
  have hu2 := Tryz.underlying55
  have hu3 := Tryz.underlying64
  by_cases hg : grT t = true
  · rw [hg] at HG
    have HB0 := Aside0.mk (below_alloc (Below.refl _ w) (.cells #[.string t.nm, .int .i64 t.rate, .int .i64 t.burst, .int .i64 t.level, .int .i64 t.clock, .int .i64 t.mx, .slice A t.ser.length c, .int .i64 t.acc, .int .i64 t.rr, .int .i64 t.rs] 24))
    have HX0 := Aside0.mk (heap_alloc_new w (.cells #[.string t.nm, .int .i64 t.rate, .int .i64 t.burst, .int .i64 t.level, .int .i64 t.clock, .int .i64 t.mx, .slice A t.ser.length c, .int .i64 t.acc, .int .i64 t.rr, .int .i64 t.rs] 24))
    have y0 := (blk_cell HX0.out 0).trans rfl; have y1 := (blk_cell HX0.out 1).trans rfl; have y2 := (blk_cell HX0.out 2).trans rfl; have y3 := (blk_cell HX0.out 3).trans rfl; have y4 := (blk_cell HX0.out 4).trans rfl; have y5 := (blk_cell HX0.out 5).trans rfl; have y6 := (blk_cell HX0.out 6).trans rfl; have y7 := (blk_cell HX0.out 7).trans rfl; have y8 := (blk_cell HX0.out 8).trans rfl; have y9 := (blk_cell HX0.out 9).trans rfl; simp only [List.getElem?_toArray, List.getElem?_cons_zero, List.getElem?_cons_succ] at y0 y1 y2 y3 y4 y5 y6 y7 y8 y9
    go_enter Tryz.func4, Tryz.ntmps4
    go_wp2_with (first | (go_at_call 5; (with_reducible refine (HG.out _ HB0.out).mono ?_); rintro e w1 ⟨rfl, hb⟩; have HB1 := Aside0.mk (HB0.out.trans (hb.mono HB0.out.size)); have HX1 := Aside0.mk ((hb.block w.heap.size (heap_lt HX0.out)).trans HX0.out); clear y0 y1 y2 y3 y4 y5 y6 y7 y8 y9; clear hb; have y0 := (blk_cell HX1.out 0).trans rfl; have y1 := (blk_cell HX1.out 1).trans rfl; have y2 := (blk_cell HX1.out 2).trans rfl; have y3 := (blk_cell HX1.out 3).trans rfl; have y4 := (blk_cell HX1.out 4).trans rfl; have y5 := (blk_cell HX1.out 5).trans rfl; have y6 := (blk_cell HX1.out 6).trans rfl; have y7 := (blk_cell HX1.out 7).trans rfl; have y8 := (blk_cell HX1.out 8).trans rfl; have y9 := (blk_cell HX1.out 9).trans rfl; simp only [List.getElem?_toArray, List.getElem?_cons_zero, List.getElem?_cons_succ] at y0 y1 y2 y3 y4 y5 y6 y7 y8 y9) | (go_at_call 7; (with_reducible refine (HA.out _).mono ?_); rintro e w9 ⟨rfl, hb⟩; have HB9 := Aside0.mk (HB1.out.trans (hb.mono HB1.out.size)); clear hb))
    go_ret
    exact ⟨rfl, HB9.out⟩
  have hg' : grT t = false := by simpa using hg
  rw [hg'] at HG
  obtain ⟨hS, hlen⟩ := grT_small hg'
  have HC := Aside0.mk (fun W (h : Below w.heap.size w W) => show Calls Tryz.prog 14 #[.agg #[.string t.nm, .int .i64 t.rate, .int .i64 t.burst, .int .i64 t.level, .int .i64 t.clock, .int .i64 t.mx, .slice A t.ser.length c, .int .i64 t.acc, .int .i64 t.rr, .int .i64 t.rs]] W (fun e w' => e = .returned (.int .i64 (chkT t)) ∧ Below W.heap.size W w') from rCheck_calls t hS A c W (Kd.C_below hr h) hc)
  by_cases hv : ValT t
  case neg =>
    rw [chkT_no hv] at HC
    clear hg hg' hv
    have HB0 := Aside0.mk (below_alloc (Below.refl _ w) (.cells #[.string t.nm, .int .i64 t.rate, .int .i64 t.burst, .int .i64 t.level, .int .i64 t.clock, .int .i64 t.mx, .slice A t.ser.length c, .int .i64 t.acc, .int .i64 t.rr, .int .i64 t.rs] 24))
    have HX0 := Aside0.mk (heap_alloc_new w (.cells #[.string t.nm, .int .i64 t.rate, .int .i64 t.burst, .int .i64 t.level, .int .i64 t.clock, .int .i64 t.mx, .slice A t.ser.length c, .int .i64 t.acc, .int .i64 t.rr, .int .i64 t.rs] 24))
    have y0 := (blk_cell HX0.out 0).trans rfl; have y1 := (blk_cell HX0.out 1).trans rfl; have y2 := (blk_cell HX0.out 2).trans rfl; have y3 := (blk_cell HX0.out 3).trans rfl; have y4 := (blk_cell HX0.out 4).trans rfl; have y5 := (blk_cell HX0.out 5).trans rfl; have y6 := (blk_cell HX0.out 6).trans rfl; have y7 := (blk_cell HX0.out 7).trans rfl; have y8 := (blk_cell HX0.out 8).trans rfl; have y9 := (blk_cell HX0.out 9).trans rfl; simp only [List.getElem?_toArray, List.getElem?_cons_zero, List.getElem?_cons_succ] at y0 y1 y2 y3 y4 y5 y6 y7 y8 y9
    go_enter Tryz.func4, Tryz.ntmps4
    go_wp2_with (first | (go_at_call 5; (with_reducible refine (HG.out _ HB0.out).mono ?_); rintro e w1 ⟨rfl, hb⟩; have HB1 := Aside0.mk (HB0.out.trans (hb.mono HB0.out.size)); have HX1 := Aside0.mk ((hb.block w.heap.size (heap_lt HX0.out)).trans HX0.out); clear y0 y1 y2 y3 y4 y5 y6 y7 y8 y9; clear hb; have y0 := (blk_cell HX1.out 0).trans rfl; have y1 := (blk_cell HX1.out 1).trans rfl; have y2 := (blk_cell HX1.out 2).trans rfl; have y3 := (blk_cell HX1.out 3).trans rfl; have y4 := (blk_cell HX1.out 4).trans rfl; have y5 := (blk_cell HX1.out 5).trans rfl; have y6 := (blk_cell HX1.out 6).trans rfl; have y7 := (blk_cell HX1.out 7).trans rfl; have y8 := (blk_cell HX1.out 8).trans rfl; have y9 := (blk_cell HX1.out 9).trans rfl; simp only [List.getElem?_toArray, List.getElem?_cons_zero, List.getElem?_cons_succ] at y0 y1 y2 y3 y4 y5 y6 y7 y8 y9) | (go_at_call 14; (with_reducible refine (HC.out _ HB1.out).mono ?_); rintro e w2 ⟨rfl, hb⟩; have HB2 := Aside0.mk (HB1.out.trans (hb.mono HB1.out.size)); have HX2 := Aside0.mk ((hb.block w.heap.size (heap_lt HX1.out)).trans HX1.out); clear y0 y1 y2 y3 y4 y5 y6 y7 y8 y9; clear hb; have y0 := (blk_cell HX2.out 0).trans rfl; have y1 := (blk_cell HX2.out 1).trans rfl; have y2 := (blk_cell HX2.out 2).trans rfl; have y3 := (blk_cell HX2.out 3).trans rfl; have y4 := (blk_cell HX2.out 4).trans rfl; have y5 := (blk_cell HX2.out 5).trans rfl; have y6 := (blk_cell HX2.out 6).trans rfl; have y7 := (blk_cell HX2.out 7).trans rfl; have y8 := (blk_cell HX2.out 8).trans rfl; have y9 := (blk_cell HX2.out 9).trans rfl; simp only [List.getElem?_toArray, List.getElem?_cons_zero, List.getElem?_cons_succ] at y0 y1 y2 y3 y4 y5 y6 y7 y8 y9) | (go_at_call 7; (with_reducible refine (HA.out _).mono ?_); rintro e w9 ⟨rfl, hb⟩; have HB9 := Aside0.mk (HB2.out.trans (hb.mono HB2.out.size)); clear hb))
    go_ret
    exact ⟨rfl, HB9.out⟩
  rw [chkT_val hv] at HC
  have hvs : ∀ l ∈ t.ser, (getL l name).size ≤ 200 := fun l hl => chk_size (((serL_iff _).1 hv.ser).1 l hl)
  have HT := Aside0.mk (fun W (h : Below w.heap.size w W) => show Calls Tryz.prog 10 #[.agg #[.string t.nm, .int .i64 t.rate, .int .i64 t.burst, .int .i64 t.level, .int .i64 t.clock, .int .i64 t.mx, .slice A t.ser.length c, .int .i64 t.acc, .int .i64 t.rr, .int .i64 t.rs], .string name, .int .i64 k] W (K.RH W (topT t name k)) from Top_calls t hv hS A c name k W (Kd.C_below hr h) hc hvs)
  clear hg hg'
  by_cases hk : k < 2 ∨ 100 < k
  · have e : topT t name k = (K.zH, 2) := if_pos hk
    rw [e] at HT
    clear e
    by_cases hk2 : k < 2
    · have d1 : decide (k < 2) = true := decide_eq_true hk2
      clear hk
      have HB0 := Aside0.mk (below_alloc (Below.refl _ w) (.cells #[.string t.nm, .int .i64 t.rate, .int .i64 t.burst, .int .i64 t.level, .int .i64 t.clock, .int .i64 t.mx, .slice A t.ser.length c, .int .i64 t.acc, .int .i64 t.rr, .int .i64 t.rs] 24))
      have HX0 := Aside0.mk (heap_alloc_new w (.cells #[.string t.nm, .int .i64 t.rate, .int .i64 t.burst, .int .i64 t.level, .int .i64 t.clock, .int .i64 t.mx, .slice A t.ser.length c, .int .i64 t.acc, .int .i64 t.rr, .int .i64 t.rs] 24))
      have y0 := (blk_cell HX0.out 0).trans rfl; have y1 := (blk_cell HX0.out 1).trans rfl; have y2 := (blk_cell HX0.out 2).trans rfl; have y3 := (blk_cell HX0.out 3).trans rfl; have y4 := (blk_cell HX0.out 4).trans rfl; have y5 := (blk_cell HX0.out 5).trans rfl; have y6 := (blk_cell HX0.out 6).trans rfl; have y7 := (blk_cell HX0.out 7).trans rfl; have y8 := (blk_cell HX0.out 8).trans rfl; have y9 := (blk_cell HX0.out 9).trans rfl; simp only [List.getElem?_toArray, List.getElem?_cons_zero, List.getElem?_cons_succ] at y0 y1 y2 y3 y4 y5 y6 y7 y8 y9
      go_enter Tryz.func4, Tryz.ntmps4
      go_wp2_with (first
        | (go_at_call 5; (with_reducible refine (HG.out _ HB0.out).mono ?_); rintro e w1 ⟨rfl, hb⟩; have HB1 := Aside0.mk (HB0.out.trans (hb.mono HB0.out.size)); have HX1 := Aside0.mk ((hb.block w.heap.size (heap_lt HX0.out)).trans HX0.out); clear y0 y1 y2 y3 y4 y5 y6 y7 y8 y9; clear hb; have y0 := (blk_cell HX1.out 0).trans rfl; have y1 := (blk_cell HX1.out 1).trans rfl; have y2 := (blk_cell HX1.out 2).trans rfl; have y3 := (blk_cell HX1.out 3).trans rfl; have y4 := (blk_cell HX1.out 4).trans rfl; have y5 := (blk_cell HX1.out 5).trans rfl; have y6 := (blk_cell HX1.out 6).trans rfl; have y7 := (blk_cell HX1.out 7).trans rfl; have y8 := (blk_cell HX1.out 8).trans rfl; have y9 := (blk_cell HX1.out 9).trans rfl; simp only [List.getElem?_toArray, List.getElem?_cons_zero, List.getElem?_cons_succ] at y0 y1 y2 y3 y4 y5 y6 y7 y8 y9)
        | (go_at_call 14; (with_reducible refine (HC.out _ HB1.out).mono ?_); rintro e w2 ⟨rfl, hb⟩; have HB2 := Aside0.mk (HB1.out.trans (hb.mono HB1.out.size)); have HX2 := Aside0.mk ((hb.block w.heap.size (heap_lt HX1.out)).trans HX1.out); clear y0 y1 y2 y3 y4 y5 y6 y7 y8 y9; clear hb; have y0 := (blk_cell HX2.out 0).trans rfl; have y1 := (blk_cell HX2.out 1).trans rfl; have y2 := (blk_cell HX2.out 2).trans rfl; have y3 := (blk_cell HX2.out 3).trans rfl; have y4 := (blk_cell HX2.out 4).trans rfl; have y5 := (blk_cell HX2.out 5).trans rfl; have y6 := (blk_cell HX2.out 6).trans rfl; have y7 := (blk_cell HX2.out 7).trans rfl; have y8 := (blk_cell HX2.out 8).trans rfl; have y9 := (blk_cell HX2.out 9).trans rfl; simp only [List.getElem?_toArray, List.getElem?_cons_zero, List.getElem?_cons_succ] at y0 y1 y2 y3 y4 y5 y6 y7 y8 y9)
        | (go_at_call 10; (with_reducible refine (HT.out _ HB2.out).mono ?_); rintro e w3 ⟨v3, rfl, hR, hb⟩; obtain ⟨A3, c3, rfl⟩ := Kd.R_slice hR; have HB3 := Aside0.mk (below_alloc (HB2.out.trans (hb.mono HB2.out.size)) (.cells #[.int .i64 K.zH.f0, .int .i64 K.zH.f1, .int .i64 K.zH.f2, .slice A3 K.zH.f3.length c3] 55)); clear hb hR)
        | (go_at_call 7; (with_reducible refine (HA.out _).mono ?_); rintro e w9 ⟨rfl, hb⟩; have HB9 := Aside0.mk (HB3.out.trans (hb.mono HB3.out.size)); clear hb))
      go_ret
      exact ⟨rfl, HB9.out⟩
    · have d1 : decide (k < 2) = false := decide_eq_false hk2
      have d2 : decide (100 < k) = true := decide_eq_true (by omega)
      clear hk hk2
      have HB0 := Aside0.mk (below_alloc (Below.refl _ w) (.cells #[.string t.nm, .int .i64 t.rate, .int .i64 t.burst, .int .i64 t.level, .int .i64 t.clock, .int .i64 t.mx, .slice A t.ser.length c, .int .i64 t.acc, .int .i64 t.rr, .int .i64 t.rs] 24))
      have HX0 := Aside0.mk (heap_alloc_new w (.cells #[.string t.nm, .int .i64 t.rate, .int .i64 t.burst, .int .i64 t.level, .int .i64 t.clock, .int .i64 t.mx, .slice A t.ser.length c, .int .i64 t.acc, .int .i64 t.rr, .int .i64 t.rs] 24))
      have y0 := (blk_cell HX0.out 0).trans rfl; have y1 := (blk_cell HX0.out 1).trans rfl; have y2 := (blk_cell HX0.out 2).trans rfl; have y3 := (blk_cell HX0.out 3).trans rfl; have y4 := (blk_cell HX0.out 4).trans rfl; have y5 := (blk_cell HX0.out 5).trans rfl; have y6 := (blk_cell HX0.out 6).trans rfl; have y7 := (blk_cell HX0.out 7).trans rfl; have y8 := (blk_cell HX0.out 8).trans rfl; have y9 := (blk_cell HX0.out 9).trans rfl; simp only [List.getElem?_toArray, List.getElem?_cons_zero, List.getElem?_cons_succ] at y0 y1 y2 y3 y4 y5 y6 y7 y8 y9
      go_enter Tryz.func4, Tryz.ntmps4
      go_wp2_with (first
        | (go_at_call 5; (with_reducible refine (HG.out _ HB0.out).mono ?_); rintro e w1 ⟨rfl, hb⟩; have HB1 := Aside0.mk (HB0.out.trans (hb.mono HB0.out.size)); have HX1 := Aside0.mk ((hb.block w.heap.size (heap_lt HX0.out)).trans HX0.out); clear y0 y1 y2 y3 y4 y5 y6 y7 y8 y9; clear hb; have y0 := (blk_cell HX1.out 0).trans rfl; have y1 := (blk_cell HX1.out 1).trans rfl; have y2 := (blk_cell HX1.out 2).trans rfl; have y3 := (blk_cell HX1.out 3).trans rfl; have y4 := (blk_cell HX1.out 4).trans rfl; have y5 := (blk_cell HX1.out 5).trans rfl; have y6 := (blk_cell HX1.out 6).trans rfl; have y7 := (blk_cell HX1.out 7).trans rfl; have y8 := (blk_cell HX1.out 8).trans rfl; have y9 := (blk_cell HX1.out 9).trans rfl; simp only [List.getElem?_toArray, List.getElem?_cons_zero, List.getElem?_cons_succ] at y0 y1 y2 y3 y4 y5 y6 y7 y8 y9)
        | (go_at_call 14; (with_reducible refine (HC.out _ HB1.out).mono ?_); rintro e w2 ⟨rfl, hb⟩; have HB2 := Aside0.mk (HB1.out.trans (hb.mono HB1.out.size)); have HX2 := Aside0.mk ((hb.block w.heap.size (heap_lt HX1.out)).trans HX1.out); clear y0 y1 y2 y3 y4 y5 y6 y7 y8 y9; clear hb; have y0 := (blk_cell HX2.out 0).trans rfl; have y1 := (blk_cell HX2.out 1).trans rfl; have y2 := (blk_cell HX2.out 2).trans rfl; have y3 := (blk_cell HX2.out 3).trans rfl; have y4 := (blk_cell HX2.out 4).trans rfl; have y5 := (blk_cell HX2.out 5).trans rfl; have y6 := (blk_cell HX2.out 6).trans rfl; have y7 := (blk_cell HX2.out 7).trans rfl; have y8 := (blk_cell HX2.out 8).trans rfl; have y9 := (blk_cell HX2.out 9).trans rfl; simp only [List.getElem?_toArray, List.getElem?_cons_zero, List.getElem?_cons_succ] at y0 y1 y2 y3 y4 y5 y6 y7 y8 y9)
        | (go_at_call 10; (with_reducible refine (HT.out _ HB2.out).mono ?_); rintro e w3 ⟨v3, rfl, hR, hb⟩; obtain ⟨A3, c3, rfl⟩ := Kd.R_slice hR; have HB3 := Aside0.mk (below_alloc (HB2.out.trans (hb.mono HB2.out.size)) (.cells #[.int .i64 K.zH.f0, .int .i64 K.zH.f1, .int .i64 K.zH.f2, .slice A3 K.zH.f3.length c3] 55)); clear hb hR)
        | (go_at_call 7; (with_reducible refine (HA.out _).mono ?_); rintro e w9 ⟨rfl, hb⟩; have HB9 := Aside0.mk (HB3.out.trans (hb.mono HB3.out.size)); clear hb))
      go_ret
      exact ⟨rfl, HB9.out⟩
  have hk1 : 2 ≤ k := by omega
  have hk2 : k ≤ 100 := by omega
  have e : topT t name k = (topH k (valsT t.ser name), 0) := if_neg hk
  rw [e] at HT
  have HVS : ∀ v ∈ valsT t.ser name, v.size ≤ 200 := fun v hv => by
    unfold valsT at hv
    obtain ⟨l, hl, rfl⟩ := List.mem_map.1 (List.mem_filter.1 hv).1
    exact hvs l hl
  have hvl : (valsT t.ser name).length ≤ 1000 := Nat.le_trans (valsT_len _ _) hS.len
  have HBD := Aside0.mk (fun v (hv : ab v ≠ []) => top_bounds (s := t.ser) (name := name) hk1 hk2 hvl HVS hv)
  have HVL := Aside0.mk (top_of hk1 hk2 hvl HVS)
  have HSM := Aside0.mk hS
  have HCR := Aside0.mk hr
  have HTOT := Aside0.mk (show (topH k (valsT t.ser name)).f1 = (valsT t.ser name).length by rw [HVL.out.all, ones_sum])
  generalize topH k (valsT t.ser name) = x at *
  clear e hk hv hvs HVS hvl hr hS
  have HB0 := Aside0.mk (below_alloc (Below.refl _ w) (.cells #[.string t.nm, .int .i64 t.rate, .int .i64 t.burst, .int .i64 t.level, .int .i64 t.clock, .int .i64 t.mx, .slice A t.ser.length c, .int .i64 t.acc, .int .i64 t.rr, .int .i64 t.rs] 24))
  have HX0 := Aside0.mk (heap_alloc_new w (.cells #[.string t.nm, .int .i64 t.rate, .int .i64 t.burst, .int .i64 t.level, .int .i64 t.clock, .int .i64 t.mx, .slice A t.ser.length c, .int .i64 t.acc, .int .i64 t.rr, .int .i64 t.rs] 24))
  have y0 := (blk_cell HX0.out 0).trans rfl; have y1 := (blk_cell HX0.out 1).trans rfl; have y2 := (blk_cell HX0.out 2).trans rfl; have y3 := (blk_cell HX0.out 3).trans rfl; have y4 := (blk_cell HX0.out 4).trans rfl; have y5 := (blk_cell HX0.out 5).trans rfl; have y6 := (blk_cell HX0.out 6).trans rfl; have y7 := (blk_cell HX0.out 7).trans rfl; have y8 := (blk_cell HX0.out 8).trans rfl; have y9 := (blk_cell HX0.out 9).trans rfl; simp only [List.getElem?_toArray, List.getElem?_cons_zero, List.getElem?_cons_succ] at y0 y1 y2 y3 y4 y5 y6 y7 y8 y9
  go_enter Tryz.func4, Tryz.ntmps4
  go_wp2_with (first
    | (go_at_call 5; (with_reducible refine (HG.out _ HB0.out).mono ?_); rintro e w1 ⟨rfl, hb⟩; have HB1 := Aside0.mk (HB0.out.trans (hb.mono HB0.out.size)); have HX1 := Aside0.mk ((hb.block w.heap.size (heap_lt HX0.out)).trans HX0.out); clear y0 y1 y2 y3 y4 y5 y6 y7 y8 y9; clear hb; have y0 := (blk_cell HX1.out 0).trans rfl; have y1 := (blk_cell HX1.out 1).trans rfl; have y2 := (blk_cell HX1.out 2).trans rfl; have y3 := (blk_cell HX1.out 3).trans rfl; have y4 := (blk_cell HX1.out 4).trans rfl; have y5 := (blk_cell HX1.out 5).trans rfl; have y6 := (blk_cell HX1.out 6).trans rfl; have y7 := (blk_cell HX1.out 7).trans rfl; have y8 := (blk_cell HX1.out 8).trans rfl; have y9 := (blk_cell HX1.out 9).trans rfl; simp only [List.getElem?_toArray, List.getElem?_cons_zero, List.getElem?_cons_succ] at y0 y1 y2 y3 y4 y5 y6 y7 y8 y9)
    | (go_at_call 14; (with_reducible refine (HC.out _ HB1.out).mono ?_); rintro e w2 ⟨rfl, hb⟩; have HB2 := Aside0.mk (HB1.out.trans (hb.mono HB1.out.size)); have HX2 := Aside0.mk ((hb.block w.heap.size (heap_lt HX1.out)).trans HX1.out); clear y0 y1 y2 y3 y4 y5 y6 y7 y8 y9; clear hb; have y0 := (blk_cell HX2.out 0).trans rfl; have y1 := (blk_cell HX2.out 1).trans rfl; have y2 := (blk_cell HX2.out 2).trans rfl; have y3 := (blk_cell HX2.out 3).trans rfl; have y4 := (blk_cell HX2.out 4).trans rfl; have y5 := (blk_cell HX2.out 5).trans rfl; have y6 := (blk_cell HX2.out 6).trans rfl; have y7 := (blk_cell HX2.out 7).trans rfl; have y8 := (blk_cell HX2.out 8).trans rfl; have y9 := (blk_cell HX2.out 9).trans rfl; simp only [List.getElem?_toArray, List.getElem?_cons_zero, List.getElem?_cons_succ] at y0 y1 y2 y3 y4 y5 y6 y7 y8 y9)
    | (go_at_call 10; (with_reducible refine (HT.out _ HB2.out).mono ?_); rintro e w3 ⟨v3, rfl, hR, hb⟩; obtain ⟨Ax, cx, rfl⟩ := Kd.R_slice hR; have HB3 := Aside0.mk (below_alloc (HB2.out.trans (hb.mono HB2.out.size)) (.cells #[.int .i64 x.f0, .int .i64 x.f1, .int .i64 x.f2, .slice Ax x.f3.length cx] 55)); have HX3 := Aside0.mk (heap_alloc_keep (o := (.cells #[.int .i64 x.f0, .int .i64 x.f1, .int .i64 x.f2, .slice Ax x.f3.length cx] 55)) ((hb.block w.heap.size (heap_lt HX2.out)).trans HX2.out)); have HH3 := Aside0.mk (heap_alloc_new w3 (.cells #[.int .i64 x.f0, .int .i64 x.f1, .int .i64 x.f2, .slice Ax x.f3.length cx] 55)); have HO3 := Aside0.mk (Kd.R_below hR (below_alloc (Below.refl _ w3) (.cells #[.int .i64 x.f0, .int .i64 x.f1, .int .i64 x.f2, .slice Ax x.f3.length cx] 55))); clear hb hR y0 y1 y2 y3 y4 y5 y6 y7 y8 y9; have y0 := (blk_cell HX3.out 0).trans rfl; have y1 := (blk_cell HX3.out 1).trans rfl; have y2 := (blk_cell HX3.out 2).trans rfl; have y3 := (blk_cell HX3.out 3).trans rfl; have y4 := (blk_cell HX3.out 4).trans rfl; have y5 := (blk_cell HX3.out 5).trans rfl; have y6 := (blk_cell HX3.out 6).trans rfl; have y7 := (blk_cell HX3.out 7).trans rfl; have y8 := (blk_cell HX3.out 8).trans rfl; have y9 := (blk_cell HX3.out 9).trans rfl; simp only [List.getElem?_toArray, List.getElem?_cons_zero, List.getElem?_cons_succ] at y0 y1 y2 y3 y4 y5 y6 y7 y8 y9))
  obtain ⟨Aq, cq, e6, hcx, hCx⟩ := Kd.R_reads HO3.out
  cases e6
  have HCX := Aside0.mk hCx
  have HXL := Aside0.mk HVL.out.val
  clear hCx
  generalize w3.alloc (.cells #[.int .i64 x.f0, .int .i64 x.f1, .int .i64 x.f2, .slice Ax x.f3.length cx] 55) = W2 at *
  generalize w3.heap.size = BX at *
  go_loopg [9, 48] (t.ser.length) (fun kq v9 v48 w' => ∃ (j : Nat), v9 = .int .i64 ((valsT (t.ser.take j) name).length : Nat) ∧ v48 = .int .i64 j ∧ j ≤ t.ser.length ∧ Aside0 (kq = t.ser.length - j) ∧ Aside0 (Below W2.heap.size W2 w'))
  case atStart => exact ⟨0, rfl, rfl, Nat.zero_le _, ⟨rfl⟩, ⟨Below.refl _ _⟩⟩
  case round =>
    clear y0 y1 y2 y3 y4 y5 y6 y7 y8 y9
    obtain ⟨j, rfl, rfl, hj, HK, HBW⟩ := hrel
    generalize wr = Wr at *
    by_cases hlt : j < t.ser.length
    · obtain ⟨ad, A', c', HE0⟩ : ∃ ad A' c', Aside0 (A = some ad ∧ Wr.cell? (ad.add j) = some (.slice A' t.ser[j].length c') ∧ Calls Tryz.prog 15 #[.slice A' t.ser[j].length c', .string name] Wr (fun e W' => e = .returned (.string (getL t.ser[j] name)) ∧ Below Wr.heap.size Wr W')) := by
        obtain ⟨ad, A', c', e1, hcell, hl', hC⟩ := slice_at (Kd.C_below (Kd.C_below HCR.out HB3.out) HBW.out) j hlt
        exact ⟨ad, A', c', ⟨e1, hcell, Get_calls A' c' t.ser[j] name Wr hC hl' (by have := (HSM.out.ser _ (List.getElem_mem hlt)).1; omega)⟩⟩
      obtain ⟨rfl, hcell, hG⟩ := HE0.out
      have HG2 := Aside0.mk hG
      clear hG HE0
      have dl : decide (j < t.ser.length) = true := decide_eq_true hlt
      have pl : (0 ≤ (j : Int)) = True := eq_true (by omega)
      have HTK := Aside0.mk (show t.ser.take (j + 1) = t.ser.take j ++ [t.ser[j]] from List.take_succ_eq_append_getElem hlt)
      have hal : (valsT (t.ser.take j) name).length ≤ 1000 := Nat.le_trans (valsT_len _ _) (by rw [List.length_take]; have := HSM.out.len; omega)
      by_cases he : ab (getL t.ser[j] name) = []
      · have HE1 := Aside0.mk (show valsT (t.ser.take (j + 1)) name = valsT (t.ser.take j) name by rw [HTK.out]; exact valsT_snoc_no he)
        have hz : getL t.ser[j] name = ⟨#[]⟩ := ab_inj (by rw [he]; rfl)
        rw [hz] at HG2
        clear he hz
        go_wp2_with (go_at_call 15; (with_reducible refine HG2.out.mono ?_); rintro e w4 ⟨rfl, hb⟩; have HB4 := Aside0.mk (HBW.out.trans (hb.mono HBW.out.size)); clear hb hcell)
        go_roundg (t.ser.length - (j + 1))
        case measure => have := HK.out; omega
        case rel => exact ⟨j + 1, by rw [HE1.out], (by first | rw [wrap1 j (by have := HSM.out.len; omega)] | simp), by omega, ⟨rfl⟩, HB4⟩
      · have HE1 := Aside0.mk (show valsT (t.ser.take (j + 1)) name = valsT (t.ser.take j) name ++ [getL t.ser[j] name] by rw [HTK.out]; exact valsT_snoc_yes he)
        have HBG := Aside0.mk (HBD.out (getL t.ser[j] name) he)
        generalize getL t.ser[j] name = g at *
        have hg1 : (g.toList == []) = false := by rw [toList_ab]; simpa using he
        have hg2 : g.toList.isEmpty = false := by rw [toList_ab]; simpa using he
        have hg3 : (g.toList = []) = False := by rw [toList_ab]; simpa using he
        clear he
        go_wp2_with (go_at_call 15; (with_reducible refine HG2.out.mono ?_); rintro e w4 ⟨rfl, hb⟩; have HB4 := Aside0.mk (HBW.out.trans (hb.mono HBW.out.size)); have HX4 := Aside0.mk ((HB4.out.block w.heap.size (heap_lt HX3.out)).trans HX3.out); clear hb hcell; have y0 := (blk_cell HX4.out 0).trans rfl; have y1 := (blk_cell HX4.out 1).trans rfl; have y2 := (blk_cell HX4.out 2).trans rfl; have y3 := (blk_cell HX4.out 3).trans rfl; have y4 := (blk_cell HX4.out 4).trans rfl; have y5 := (blk_cell HX4.out 5).trans rfl; have y6 := (blk_cell HX4.out 6).trans rfl; have y7 := (blk_cell HX4.out 7).trans rfl; have y8 := (blk_cell HX4.out 8).trans rfl; have y9 := (blk_cell HX4.out 9).trans rfl; simp only [List.getElem?_toArray, List.getElem?_cons_zero, List.getElem?_cons_succ] at y0 y1 y2 y3 y4 y5 y6 y7 y8 y9)
        go_loopg [13, 62] (t.ser.length) (fun kq v13 v62 w' => ∃ (i : Nat), v13 = .int .i64 ((cntN (t.ser.take i) name g : Nat) : Int) ∧ v62 = .int .i64 i ∧ i ≤ t.ser.length ∧ Aside0 (kq = t.ser.length - i) ∧ Aside0 (Below W2.heap.size W2 w'))
        case atStart => exact ⟨0, rfl, rfl, Nat.zero_le _, ⟨rfl⟩, HB4⟩
        case round =>
          clear HB4 HX4 y0 y1 y2 y3 y4 y5 y6 y7 y8 y9
          obtain ⟨i, rfl, rfl, hi, HK2, HB5⟩ := hrel
          generalize wr = Wi at *
          have hcb : cntN (t.ser.take i) name g ≤ 1000 := Nat.le_trans (List.length_filter_le _ _) (by rw [List.length_take]; have := HSM.out.len; omega)
          by_cases hlt2 : i < t.ser.length
          · obtain ⟨A2, c2, HE2⟩ : ∃ A2 c2, Aside0 (Wi.cell? (ad.add i) = some (.slice A2 t.ser[i].length c2) ∧ Calls Tryz.prog 16 #[.slice A2 t.ser[i].length c2, .string name] Wi (fun e W' => e = .returned (.string (getL t.ser[i] name)) ∧ Drawn0 Wi W')) := by
              obtain ⟨ad', A2, c2, e1, hcell, hl', hC⟩ := slice_at (Kd.C_below (Kd.C_below HCR.out HB3.out) HB5.out) i hlt2
              cases e1
              exact ⟨A2, c2, ⟨hcell, rGet_calls A2 c2 t.ser[i] name Wi hC hl' (by have := (HSM.out.ser _ (List.getElem_mem hlt2)).1; omega)⟩⟩
            obtain ⟨hcell, hG⟩ := HE2.out
            have HG3 := Aside0.mk hG
            clear hG HE2
            have dl2 : decide (i < t.ser.length) = true := decide_eq_true hlt2
            have pl2 : (0 ≤ (i : Int)) = True := eq_true (by omega)
            have HCN := Aside0.mk (show cntN (t.ser.take (i + 1)) name g = if ab (getL t.ser[i] name) = ab g then cntN (t.ser.take i) name g + 1 else cntN (t.ser.take i) name g by rw [List.take_succ_eq_append_getElem hlt2, cntN_snoc])
            by_cases hh : ab (getL t.ser[i] name) = ab g
            · have HE3 := Aside0.mk (show cntN (t.ser.take (i + 1)) name g = cntN (t.ser.take i) name g + 1 by rw [HCN.out, if_pos hh])
              rw [ab_inj hh] at HG3
              clear hh HCN
              have hgg : (g.toList == g.toList) = true := by simp
              go_wp2_with (go_at_call 16; (with_reducible refine HG3.out.mono ?_); rintro e w5 ⟨rfl, ⟨m, rfl⟩⟩; have HB6 := Aside0.mk (show Below W2.heap.size W2 (Wi.drewN m) from pw_below_drewN HB5.out m); clear hcell)
              go_roundg (t.ser.length - (i + 1))
              case measure => have := HK2.out; omega
              case rel => exact ⟨i + 1, (by rw [HE3.out]; first | rw [wrap1 _ (by omega)] | simp), (by first | rw [wrap1 i (by have := HSM.out.len; omega)] | simp), by omega, ⟨rfl⟩, HB6⟩
            · have HE3 := Aside0.mk (show cntN (t.ser.take (i + 1)) name g = cntN (t.ser.take i) name g by rw [HCN.out, if_neg hh])
              clear HCN
              generalize getL t.ser[i] name = q at *
              have hgg : (q.toList == g.toList) = false := by rw [toList_ab, toList_ab]; simpa using hh
              have hgg2 : (q.toList = g.toList) = False := by rw [toList_ab, toList_ab]; simpa using hh
              clear hh
              go_wp2_with (go_at_call 16; (with_reducible refine HG3.out.mono ?_); rintro e w5 ⟨rfl, ⟨m, rfl⟩⟩; have HB6 := Aside0.mk (show Below W2.heap.size W2 (Wi.drewN m) from pw_below_drewN HB5.out m); clear hcell)
              go_roundg (t.ser.length - (i + 1))
              case measure => have := HK2.out; omega
              case rel => exact ⟨i + 1, by rw [HE3.out], (by first | rw [wrap1 i (by have := HSM.out.len; omega)] | simp), by omega, ⟨rfl⟩, HB6⟩
          · have hil : i = t.ser.length := by omega
            subst hil
            rw [List.take_length] at *
            have dl2 : decide (t.ser.length < t.ser.length) = false := decide_eq_false hlt2
            have HHi := Aside0.mk ((HB5.out.block BX (heap_lt HH3.out)).trans HH3.out)
            have x0 := (blk_cell HHi.out 0).trans rfl; have x1 := (blk_cell HHi.out 1).trans rfl; have x2 := (blk_cell HHi.out 2).trans rfl; have x3 := (blk_cell HHi.out 3).trans rfl; simp only [List.getElem?_toArray, List.getElem?_cons_zero, List.getElem?_cons_succ] at x0 x1 x2 x3
            go_wp2_with fail
            go_loopg [14, 77] (x.f3.length) (fun kq v14 v77 w' => ∃ (u : Nat), v14 = .int .i64 (lastC (x.f3.take u) g 0) ∧ v77 = .int .i64 u ∧ u ≤ x.f3.length ∧ Aside0 (kq = x.f3.length - u) ∧ Aside0 (Below W2.heap.size W2 w'))
            case atStart => exact ⟨0, rfl, rfl, Nat.zero_le _, ⟨rfl⟩, HB5⟩
            case round =>
              clear HB5 HHi x0 x1 x2 x3
              obtain ⟨u, rfl, rfl, hu9, HK3, HB7⟩ := hrel
              generalize wr = Wj at *
              have hxl : x.f3.length ≤ 1000 := by have h1 := HXL.out.len; have h2 := HXL.out.k1; omega
              by_cases hlt3 : u < x.f3.length
              · obtain ⟨ad3, HE3⟩ : ∃ ad3, Aside0 (Ax = some ad3 ∧ Wj.cell? (ad3.add (u * 2)) = some (.string x.f3[u].f0) ∧ Wj.cell? ⟨(ad3.add (u * 2)).block, (ad3.add (u * 2)).off + 1, none⟩ = some (.int .i64 x.f3[u].f1)) := by
                  obtain ⟨ad3, e1, hc0, hc1⟩ := at_T64 (Kd.C_below HCX.out HB7.out) (u : Int) (by omega) (by omega)
                  have hg : rd_T64 x.f3 (u : Int) = x.f3[u] := by simp [rd_T64, List.getD_eq_getElem?_getD, List.getElem?_eq_getElem hlt3]
                  rw [hg] at hc0 hc1
                  exact ⟨ad3, ⟨e1, hc0, hc1⟩⟩
                obtain ⟨rfl, hc0, hc1⟩ := HE3.out
                clear HE3
                have dl3 : decide (u < x.f3.length) = true := decide_eq_true hlt3
                have pl3 : (0 ≤ (u : Int)) = True := eq_true (by omega)
                have HLC := Aside0.mk (show lastC (x.f3.take (u + 1)) g 0 = if x.f3[u].f0 = g then x.f3[u].f1 else lastC (x.f3.take u) g 0 by rw [List.take_succ_eq_append_getElem hlt3, lastC_snoc])
                have HB8 := Aside0.mk (below_alloc HB7.out (.cells #[.string x.f3[u].f0, .int .i64 x.f3[u].f1] 64))
                generalize x.f3[u] = y at *
                by_cases hh : y.f0 = g
                · have HE4 := Aside0.mk (show lastC (x.f3.take (u + 1)) g 0 = y.f1 by rw [HLC.out, if_pos hh])
                  have hgg : (y.f0.toList == g.toList) = true := by rw [hh]; simp
                  clear hh HLC
                  go_wp2_with fail
                  go_roundg (x.f3.length - (u + 1))
                  case measure => have := HK3.out; omega
                  case rel => exact ⟨u + 1, by rw [HE4.out], (by first | rw [wrap1 u (by omega)] | simp), by omega, ⟨rfl⟩, HB8⟩
                · have HE4 := Aside0.mk (show lastC (x.f3.take (u + 1)) g 0 = lastC (x.f3.take u) g 0 by rw [HLC.out, if_neg hh])
                  have hgg : (y.f0.toList == g.toList) = false := by rw [toList_ab, toList_ab]; simpa [ab_iff] using hh
                  have hgg2 : (y.f0.toList = g.toList) = False := by rw [toList_ab, toList_ab]; simpa [ab_iff] using hh
                  clear hh HLC
                  go_wp2_with fail
                  go_roundg (x.f3.length - (u + 1))
                  case measure => have := HK3.out; omega
                  case rel => exact ⟨u + 1, by rw [HE4.out], (by first | rw [wrap1 u (by omega)] | simp), by omega, ⟨rfl⟩, HB8⟩
              · have hul : u = x.f3.length := by omega
                subst hul
                rw [List.take_length] at *
                have dl3 : decide (x.f3.length < x.f3.length) = false := decide_eq_false hlt3
                have HHj := Aside0.mk ((HB7.out.block BX (heap_lt HH3.out)).trans HH3.out)
                have x0 := (blk_cell HHj.out 0).trans rfl; have x1 := (blk_cell HHj.out 1).trans rfl; have x2 := (blk_cell HHj.out 2).trans rfl; have x3 := (blk_cell HHj.out 3).trans rfl; simp only [List.getElem?_toArray, List.getElem?_cons_zero, List.getElem?_cons_succ] at x0 x1 x2 x3
                obtain ⟨b1, b2, b3⟩ := HBG.out
                have hl0 := HXL.out.l0
                have hl1 := HXL.out.l1
                generalize lastC x.f3 g 0 = lc at *
                generalize cntN t.ser name g = nc at *
                have q1 : decide ((nc : Int) < lc) = false := decide_eq_false (by omega)
                have q2 : decide (lc < (nc : Int) - x.f2) = false := decide_eq_false (by omega)
                go_wp2_with fail
                go_roundg (t.ser.length - (j + 1))
                case measure => have := HK.out; omega
                case rel => exact ⟨j + 1, (by rw [HE1.out, List.length_append]; first | (rw [wrap1 _ (by omega)]; rfl) | simp), (by first | rw [wrap1 j (by have := HSM.out.len; omega)] | simp), by omega, ⟨rfl⟩, HB7⟩
    · have hjl : j = t.ser.length := by omega
      subst hjl
      have dl : decide (t.ser.length < t.ser.length) = false := decide_eq_false hlt
      rw [List.take_length]
      have HHr := Aside0.mk ((HBW.out.block BX (heap_lt HH3.out)).trans HH3.out)
      have HBr := Aside0.mk (HB3.out.trans (HBW.out.mono HB3.out.size))
      have x0 := (blk_cell HHr.out 0).trans rfl; have x1 := (blk_cell HHr.out 1).trans rfl; have x2 := (blk_cell HHr.out 2).trans rfl; have x3 := (blk_cell HHr.out 3).trans rfl; simp only [List.getElem?_toArray, List.getElem?_cons_zero, List.getElem?_cons_succ] at x0 x1 x2 x3
      rw [HTOT.out] at x1
      go_wp2_with (go_at_call 7; (with_reducible refine (HA.out _).mono ?_); rintro e w9 ⟨rfl, hb⟩; have HB9 := Aside0.mk (HBr.out.trans (hb.mono HBr.out.size)); clear hb)
      go_ret
      exact ⟨rfl, HB9.out⟩
theorem QLTop_rowc (w : World) (t : TV) (A : Option Addr) (c : Nat) (hr : Kd.C kLL w A t.ser.length t.ser) (hc : t.ser.length ≤ c) (name : ByteArray) (_ : name.size ≤ maxLen) (k : Int) (_ : (Lit.int .i64 k).wf = true) :
    Calls Tryz.prog 4 #[.agg #[.string t.nm, .int .i64 t.rate, .int .i64 t.burst, .int .i64 t.level, .int .i64 t.clock, .int .i64 t.mx, .slice A t.ser.length c, .int .i64 t.acc, .int .i64 t.rr, .int .i64 t.rs], .string name, .int .i64 k] w fun e w' => e = .returned (.bool true) ∧ Below w.heap.size w w' := QLTop_row w t A c hr hc name k
end Go.Proofs.YtakobehkajphpaaGreat.H
