/- quota.Check. -/
import Derived.Test.YtakobehkajphpaaGreatTQPure
import Derived.Handy
namespace Go.Proofs.YtakobehkajphpaaGreat.H
open Go Go.RowKit Go.Proofs.YtakobehkajphpaaGreatW.PrintWords Go.Proofs.YtakobehkajphpaaGreatW.PrintLast Go.Proofs.YtakobehkajphpaaGreatW.PrintMore Go.Proofs.YtakobehkajphpaaGreat.PAll
set_option linter.unusedVariables false
set_option linter.unusedSimpArgs false

abbrev kLL : Kd L94 := Kd.slice 94 k94
theorem slice_at {α : Type} {d : Kd α} {e : Nat} {w : World} {A : Option Addr} {ls : List (List α)} (h : Kd.C (Kd.slice e d) w A ls.length ls) (j : Nat) (hj : j < ls.length) :
    ∃ ad A' c', A = some ad ∧ w.cell? (ad.add j) = some (.slice A' ls[j].length c') ∧ ls[j].length ≤ c' ∧ Kd.C d w A' ls[j].length ls[j] := by
  obtain ⟨ad, c, e1, _, ⟨A', c', rfl, hl, hC⟩, hc0⟩ := Kd.C_get h [] (j : Int) (by omega) (by omega)
  have hg : ls.getD (j : Int).toNat [] = ls[j] := by simp [List.getD_eq_getElem?_getD, List.getElem?_eq_getElem hj]
  rw [hg] at hC hl hc0
  refine ⟨ad, A', c', e1, ?_, hl, hC⟩
  have := hc0 0 _ rfl
  simpa [Kd.slice] using this
/-- A tenant as a value. -/
abbrev tv (t : TV) (v : Value) : Value := .agg #[.string t.nm, .int .i64 t.rate, .int .i64 t.burst, .int .i64 t.level, .int .i64 t.clock, .int .i64 t.mx, v, .int .i64 t.acc, .int .i64 t.rr, .int .i64 t.rs]
theorem qisName_calls (s : ByteArray) (hs : s.size ≤ 1000) (w : World) : Calls Tryz.prog 42 #[.string s] w fun e w' => e = .returned (.bool (isNm (ab s))) ∧ Below w.heap.size w w' := by
  refine quota_isName.calls 2000 s _ w ?_
  unfold quota_isName.f
  rw [Check_f _ 1000 _ (by omega) (by simp) (fun x hx => by simp at hx; subst hx; exact ⟨hs, by show (1 : Nat) ≤ 1000; omega⟩) (by simp)]
  simp only [Option.bind_some]
  rw [← isNm_chk]
  congr 1
theorem inRange_calls (a b c d : Int) (w : World) : Calls Tryz.prog 43 #[.int .i64 a, .int .i64 b, .int .i64 c, .int .i64 d] w fun e w' => e = .returned (.bool (rngB a b c d)) ∧ Drawn0 w w' := by
  refine quota_inRange.calls a b c d _ w ?_
  unfold quota_inRange.f rngB
  by_cases h1 : a < 0
  · rw [if_pos h1]; simp; omega
  · rw [if_neg h1]
    by_cases h2 : a > 1000000
    · rw [if_pos h2]; simp; omega
    · rw [if_neg h2]
      by_cases h3 : b < 1
      · rw [if_pos h3]; simp; omega
      · rw [if_neg h3]
        by_cases h4 : b > 1000000
        · rw [if_pos h4]; simp; omega
        · rw [if_neg h4]
          by_cases h5 : c ≥ 0
          · rw [if_pos h5]
            by_cases h6 : c ≤ 1000
            · rw [if_pos h6]
              by_cases h7 : d ≥ 1
              · rw [if_pos h7]; congr 1; rw [decide_eq_decide]; omega
              · rw [if_neg h7]; simp; omega
            · rw [if_neg h6]; simp; omega
          · rw [if_neg h5]; simp; omega
theorem LCheck_calls (A0 : Option Addr) (c0 : Nat) (l : L94) (w : World) (hr : Kd.C k94 w A0 l.length l) (hc : l.length ≤ c0) (hl : l.length ≤ 1000) (hS : Sz 1000 l) :
    Calls Tryz.prog 44 #[.slice A0 l.length c0] w fun e w' => e = .returned (.int .i64 (chk l)) ∧ Below w.heap.size w w' :=
  labels_Check.calls 3000 A0 c0 l _ w hr hc (Check_f l 1000 _ (by omega) (by omega) hS (by omega))

set_option maxRecDepth 100000 in
set_option maxHeartbeats 8000000 in
theorem QCheck_calls (t : TV) (hS : SmallT t) (A : Option Addr) (c : Nat) (w : World) (hr : Kd.C kLL w A t.ser.length t.ser) (hc : t.ser.length ≤ c) :
    Calls Tryz.prog 25 #[tv t (.slice A t.ser.length c)] w fun e w' => e = .returned (.int .i64 (chkT t)) ∧ Below w.heap.size w w' := by
  have HV := Aside0.mk (val_iff t)
  have HNO := Aside0.mk (fun h => chkT_no (t := t) h)
  have HYES := Aside0.mk (fun h => chkT_val (t := t) h)
  obtain ⟨nm, rate, burst, level, clock, mx, ser, acc, rr, rs⟩ := t
  have HSM := Aside0.mk hS
  have hsl := hS.len
  have HR := Aside0.mk hr
  simp only [tv] at *
  have HNM := Aside0.mk (fun W => qisName_calls nm hS.nm W)
  have HRN := Aside0.mk (fun W => inRange_calls rate burst mx clock W)
  have hu := Tryz.underlying24
  have hu2 := Tryz.underlying25
  have hbx := heap_alloc_new w (.cells #[.string nm, .int .i64 rate, .int .i64 burst, .int .i64 level, .int .i64 clock, .int .i64 mx, .slice A ser.length c, .int .i64 acc, .int .i64 rr, .int .i64 rs] 24)
  have HBX := Aside0.mk hbx
  have HW0 := Aside0.mk (below_alloc (Below.refl _ w) (.cells #[.string nm, .int .i64 rate, .int .i64 burst, .int .i64 level, .int .i64 clock, .int .i64 mx, .slice A ser.length c, .int .i64 acc, .int .i64 rr, .int .i64 rs] 24))
  have HSZ := Aside0.mk (show w.heap.size < (w.alloc (.cells #[.string nm, .int .i64 rate, .int .i64 burst, .int .i64 level, .int .i64 clock, .int .i64 mx, .slice A ser.length c, .int .i64 acc, .int .i64 rr, .int .i64 rs] 24)).heap.size by simp)
  have x0 := (blk_cell hbx 0).trans rfl; have x1 := (blk_cell hbx 1).trans rfl; have x2 := (blk_cell hbx 2).trans rfl; have x3 := (blk_cell hbx 3).trans rfl; have x4 := (blk_cell hbx 4).trans rfl; have x5 := (blk_cell hbx 5).trans rfl; have x6 := (blk_cell hbx 6).trans rfl; have x7 := (blk_cell hbx 7).trans rfl; have x8 := (blk_cell hbx 8).trans rfl; have x9 := (blk_cell hbx 9).trans rfl; simp only [List.getElem?_toArray, List.getElem?_cons_zero, List.getElem?_cons_succ] at x0 x1 x2 x3 x4 x5 x6 x7 x8 x9
  clear hbx hr hS
  by_cases h1 : isNm (ab nm) = true
  case neg =>
    have h1' : isNm (ab nm) = false := by simpa using h1
    rw [h1'] at HNM
    have HN := Aside0.mk (HNO.out (fun v => h1 v.nm))
    clear h1 h1' HNO HYES HV
    go_enter Tryz.func25, Tryz.ntmps25
    go_wp2_with (go_at_call 42; (with_reducible refine (HNM.out _).mono ?_); rintro e w1 ⟨rfl, hb⟩; have HB1 := Aside0.mk (HW0.out.trans (hb.mono HW0.out.size)); clear hb)
    go_ret
    exact ⟨by rw [HN.out]; rfl, HB1.out⟩
  case pos =>
    rw [h1] at HNM
    have H1 := Aside0.mk h1
    clear h1
    have ARM : True := trivial
    by_cases h2 : rngB rate burst mx clock = true
    case neg =>
      have h2' : rngB rate burst mx clock = false := by simpa using h2
      rw [h2'] at HRN
      have HN := Aside0.mk (HNO.out (fun v => h2 (rng_iff.2 ⟨v.r0, v.r1, v.b0, v.b1, v.m0, v.m1, v.c0, v.c1⟩)))
      clear h2 h2' HNO HYES HV
      go_enter Tryz.func25, Tryz.ntmps25
      go_wp2_with (first
        | (go_at_call 42; (with_reducible refine (HNM.out _).mono ?_); rintro e w1 ⟨rfl, hb⟩; have HB1 := Aside0.mk (HW0.out.trans (hb.mono HW0.out.size)); have hx1 := (hb.block w.heap.size HSZ.out).trans HBX.out; clear x0 x1 x2 x3 x4 x5 x6 x7 x8 x9; have x0 := (blk_cell hx1 0).trans rfl; have x1 := (blk_cell hx1 1).trans rfl; have x2 := (blk_cell hx1 2).trans rfl; have x3 := (blk_cell hx1 3).trans rfl; have x4 := (blk_cell hx1 4).trans rfl; have x5 := (blk_cell hx1 5).trans rfl; have x6 := (blk_cell hx1 6).trans rfl; have x7 := (blk_cell hx1 7).trans rfl; have x8 := (blk_cell hx1 8).trans rfl; have x9 := (blk_cell hx1 9).trans rfl; simp only [List.getElem?_toArray, List.getElem?_cons_zero, List.getElem?_cons_succ] at x0 x1 x2 x3 x4 x5 x6 x7 x8 x9; clear hb hx1)
        | (go_at_call 43; (with_reducible refine (HRN.out _).mono ?_); rintro e w2 ⟨rfl, ⟨q2, rfl⟩⟩))
      go_ret
      exact ⟨by rw [HN.out]; rfl, pw_below_drewN HB1.out _⟩
    case pos =>
      rw [h2] at HRN
      obtain ⟨r0, r1, b0, b1, m0, m1, c0', c1'⟩ := rng_iff.1 h2
      have H2 := Aside0.mk (And.intro r0 (And.intro r1 (And.intro b0 (And.intro b1 (And.intro m0 (And.intro m1 (And.intro c0' c1')))))))
      clear h2 r0 r1 c0' c1'
      by_cases h3 : level < 0 ∨ 1000 * burst < level ∨ mx < (ser.length : Int)
      case pos =>
        have HN := Aside0.mk (HNO.out (fun v => by have a := v.l0; have b := v.l1; have d := v.len; simp only at a b d; omega))
        clear HNO HYES HV
        by_cases g1 : level < 0
        case pos =>
          have d1 := decide_eq_true g1
          clear h3 g1
          go_enter Tryz.func25, Tryz.ntmps25
          go_wp2_with (first
            | (go_at_call 42; (with_reducible refine (HNM.out _).mono ?_); rintro e w1 ⟨rfl, hb⟩; have HB1 := Aside0.mk (HW0.out.trans (hb.mono HW0.out.size)); have hx1 := (hb.block w.heap.size HSZ.out).trans HBX.out; clear x0 x1 x2 x3 x4 x5 x6 x7 x8 x9; have x0 := (blk_cell hx1 0).trans rfl; have x1 := (blk_cell hx1 1).trans rfl; have x2 := (blk_cell hx1 2).trans rfl; have x3 := (blk_cell hx1 3).trans rfl; have x4 := (blk_cell hx1 4).trans rfl; have x5 := (blk_cell hx1 5).trans rfl; have x6 := (blk_cell hx1 6).trans rfl; have x7 := (blk_cell hx1 7).trans rfl; have x8 := (blk_cell hx1 8).trans rfl; have x9 := (blk_cell hx1 9).trans rfl; simp only [List.getElem?_toArray, List.getElem?_cons_zero, List.getElem?_cons_succ] at x0 x1 x2 x3 x4 x5 x6 x7 x8 x9; clear hb hx1)
            | (go_at_call 43; (with_reducible refine (HRN.out _).mono ?_); rintro e w2 ⟨rfl, ⟨q2, rfl⟩⟩))
          go_ret
          exact ⟨by rw [HN.out]; rfl, pw_below_drewN HB1.out _⟩
        case neg =>
          have d1 := decide_eq_false g1
          by_cases g2 : 1000 * burst < level
          case pos =>
            have d2 := decide_eq_true g2
            clear h3 g1 g2
            go_enter Tryz.func25, Tryz.ntmps25
            go_wp2_with (first
              | (go_at_call 42; (with_reducible refine (HNM.out _).mono ?_); rintro e w1 ⟨rfl, hb⟩; have HB1 := Aside0.mk (HW0.out.trans (hb.mono HW0.out.size)); have hx1 := (hb.block w.heap.size HSZ.out).trans HBX.out; clear x0 x1 x2 x3 x4 x5 x6 x7 x8 x9; have x0 := (blk_cell hx1 0).trans rfl; have x1 := (blk_cell hx1 1).trans rfl; have x2 := (blk_cell hx1 2).trans rfl; have x3 := (blk_cell hx1 3).trans rfl; have x4 := (blk_cell hx1 4).trans rfl; have x5 := (blk_cell hx1 5).trans rfl; have x6 := (blk_cell hx1 6).trans rfl; have x7 := (blk_cell hx1 7).trans rfl; have x8 := (blk_cell hx1 8).trans rfl; have x9 := (blk_cell hx1 9).trans rfl; simp only [List.getElem?_toArray, List.getElem?_cons_zero, List.getElem?_cons_succ] at x0 x1 x2 x3 x4 x5 x6 x7 x8 x9; clear hb hx1)
              | (go_at_call 43; (with_reducible refine (HRN.out _).mono ?_); rintro e w2 ⟨rfl, ⟨q2, rfl⟩⟩))
            go_ret
            exact ⟨by rw [HN.out]; rfl, pw_below_drewN HB1.out _⟩
          case neg =>
            have d2 := decide_eq_false g2
            have d3 : decide (mx < (ser.length : Int)) = true := decide_eq_true (by omega)
            clear h3 g1 g2
            go_enter Tryz.func25, Tryz.ntmps25
            go_wp2_with (first
              | (go_at_call 42; (with_reducible refine (HNM.out _).mono ?_); rintro e w1 ⟨rfl, hb⟩; have HB1 := Aside0.mk (HW0.out.trans (hb.mono HW0.out.size)); have hx1 := (hb.block w.heap.size HSZ.out).trans HBX.out; clear x0 x1 x2 x3 x4 x5 x6 x7 x8 x9; have x0 := (blk_cell hx1 0).trans rfl; have x1 := (blk_cell hx1 1).trans rfl; have x2 := (blk_cell hx1 2).trans rfl; have x3 := (blk_cell hx1 3).trans rfl; have x4 := (blk_cell hx1 4).trans rfl; have x5 := (blk_cell hx1 5).trans rfl; have x6 := (blk_cell hx1 6).trans rfl; have x7 := (blk_cell hx1 7).trans rfl; have x8 := (blk_cell hx1 8).trans rfl; have x9 := (blk_cell hx1 9).trans rfl; simp only [List.getElem?_toArray, List.getElem?_cons_zero, List.getElem?_cons_succ] at x0 x1 x2 x3 x4 x5 x6 x7 x8 x9; clear hb hx1)
              | (go_at_call 43; (with_reducible refine (HRN.out _).mono ?_); rintro e w2 ⟨rfl, ⟨q2, rfl⟩⟩))
            go_ret
            exact ⟨by rw [HN.out]; rfl, pw_below_drewN HB1.out _⟩
      case neg =>
        have d1 : decide (level < 0) = false := decide_eq_false (by omega)
        have d2 : decide (1000 * burst < level) = false := decide_eq_false (by omega)
        have d3 : decide (mx < (ser.length : Int)) = false := decide_eq_false (by omega)
        have H3 := Aside0.mk (show 0 ≤ level ∧ level ≤ 1000 * burst ∧ (ser.length : Int) ≤ mx by omega)
        clear h3
        go_enter Tryz.func25, Tryz.ntmps25
        go_wp2_with (first
          | (go_at_call 42; (with_reducible refine (HNM.out _).mono ?_); rintro e w1 ⟨rfl, hb⟩; have HB1 := Aside0.mk (HW0.out.trans (hb.mono HW0.out.size)); have hx1 := (hb.block w.heap.size HSZ.out).trans HBX.out; have HX1 := Aside0.mk hx1; clear x0 x1 x2 x3 x4 x5 x6 x7 x8 x9; have x0 := (blk_cell hx1 0).trans rfl; have x1 := (blk_cell hx1 1).trans rfl; have x2 := (blk_cell hx1 2).trans rfl; have x3 := (blk_cell hx1 3).trans rfl; have x4 := (blk_cell hx1 4).trans rfl; have x5 := (blk_cell hx1 5).trans rfl; have x6 := (blk_cell hx1 6).trans rfl; have x7 := (blk_cell hx1 7).trans rfl; have x8 := (blk_cell hx1 8).trans rfl; have x9 := (blk_cell hx1 9).trans rfl; simp only [List.getElem?_toArray, List.getElem?_cons_zero, List.getElem?_cons_succ] at x0 x1 x2 x3 x4 x5 x6 x7 x8 x9; clear hb hx1)
          | (go_at_call 43; (with_reducible refine (HRN.out _).mono ?_); rintro e w2 ⟨rfl, ⟨q2, rfl⟩⟩))
        have HB2 := Aside0.mk (pw_below_drewN HB1.out q2)
        have HX2 := Aside0.mk (show (w1.drewN q2).heap[w.heap.size]? = some (.cells #[.string nm, .int .i64 rate, .int .i64 burst, .int .i64 level, .int .i64 clock, .int .i64 mx, .slice A ser.length c, .int .i64 acc, .int .i64 rr, .int .i64 rs] 24 (0, 0)) from HX1.out)
        clear HNM HRN d1 d2 d3
        clear x0 x1 x2 x3 x4 x5 x6 x7 x8 x9
        generalize w1.drewN q2 = w2 at *
        go_loopg [45] (ser.length) (fun kq v45 w' => ∃ i : Nat, v45 = .int .i64 i ∧ i ≤ ser.length ∧ Aside0 (kq = ser.length - i) ∧ Aside0 (Below w2.heap.size w2 w') ∧ Aside0 (serL none ser = serL (pvS ser i) (ser.drop i)))
        case atStart => exact ⟨0, rfl, by omega, ⟨rfl⟩, ⟨Below.refl _ _⟩, ⟨rfl⟩⟩
        case round =>
          obtain ⟨i, rfl, hi, HK, HB, HE⟩ := hrel
          have HWR := Aside0.mk (HB2.out.trans (HB.out.mono HB2.out.size))
          have hxr := (HB.out.block w.heap.size (heap_lt HX2.out)).trans HX2.out
          have x0 := (blk_cell hxr 0).trans rfl; have x1 := (blk_cell hxr 1).trans rfl; have x2 := (blk_cell hxr 2).trans rfl; have x3 := (blk_cell hxr 3).trans rfl; have x4 := (blk_cell hxr 4).trans rfl; have x5 := (blk_cell hxr 5).trans rfl; have x6 := (blk_cell hxr 6).trans rfl; have x7 := (blk_cell hxr 7).trans rfl; have x8 := (blk_cell hxr 8).trans rfl; have x9 := (blk_cell hxr 9).trans rfl; simp only [List.getElem?_toArray, List.getElem?_cons_zero, List.getElem?_cons_succ] at x0 x1 x2 x3 x4 x5 x6 x7 x8 x9
          have HXR := Aside0.mk hxr
          clear hxr
          by_cases hlt : i < ser.length
          · obtain ⟨ad, A1, c1, e1, hcell, hle, hC⟩ := slice_at (Kd.C_below HR.out HWR.out) i hlt
            cases e1
            have pl : (0 ≤ (i : Int)) = True := eq_true (by omega)
            have dl : decide (i < ser.length) = true := decide_eq_true hlt
            obtain ⟨hq1, hq2⟩ := HSM.out.ser ser[i] (List.getElem_mem hlt)
            have HCK := Aside0.mk (LCheck_calls A1 c1 ser[i] wr hC hle hq1 hq2)
            have HST := Aside0.mk (serL_at ser i hlt)
            have HEE := Aside0.mk (HE.out.trans HST.out)
            by_cases hck : chk ser[i] = 0
            · rw [hck] at HCK
              by_cases hi0 : i = 0
              · have HOK := Aside0.mk (show serL none ser = serL (pvS ser (i + 1)) (ser.drop (i + 1)) by
                  rw [HEE.out, show hdB (pvS ser i) ser[i] = true by rw [show pvS ser i = none from if_pos hi0]; exact decide_eq_true hck]; rfl)
                have di : decide (0 < i) = false := decide_eq_false (by omega)
                have di' : decide (0 < (i : Int)) = false := decide_eq_false (by omega)
                clear hck hC hq1 hq2 hi0
                generalize ser[i] = l at *
                go_wp2_with (go_at_call 44; (with_reducible refine HCK.out.mono ?_); rintro e w3 ⟨rfl, hb⟩; have HB3 := Aside0.mk (HB.out.trans (hb.mono HB.out.size)); clear hb)
                go_roundg (ser.length - (i + 1))
                case measure => have := HK.out; omega
                case rel => exact ⟨i + 1, by simp, by omega, ⟨rfl⟩, HB3, HOK⟩
              · obtain ⟨j, hj⟩ : ∃ j, i = j + 1 := ⟨i - 1, by omega⟩
                have hjl : j < ser.length := by omega
                obtain ⟨ad', A2, c2, e2, hcell2, hle2, hC2⟩ := slice_at (Kd.C_below HR.out HWR.out) j hjl
                cases e2
                have HCM := Aside0.mk (fun W (h : Below wr.heap.size wr W) => Compare_calls A2 A1 c2 c1 ser[j] ser[i] W (Kd.C_below hC2 h) hle2 (Kd.C_below hC h) hle (by have := (HSM.out.ser ser[j] (List.getElem_mem hjl)).1; omega))
                have HHD := Aside0.mk (show hdB (pvS ser i) ser[i] = decide (cmpLL ser[j] ser[i] < 0) by
                  unfold pvS
                  rw [if_neg hi0, show i - 1 = j by omega, List.getElem?_eq_getElem hjl]
                  simp [hdB, hck])
                have HCL2 := Aside0.mk hcell2
                have pj : (0 ≤ (j : Int)) = True := eq_true (by omega)
                have dj : decide (j < ser.length) = true := decide_eq_true hjl
                have di : decide (0 < i) = true := decide_eq_true (by omega)
                have di' : decide (0 < (i : Int)) = true := decide_eq_true (by omega)
                have hij : (i : Int) - 1 = (j : Int) := by omega
                clear hck hC hC2 hq1 hq2 hi0 hcell2 hj
                by_cases hcm : cmpLL ser[j] ser[i] < 0
                · have HOK := Aside0.mk (show serL none ser = serL (pvS ser (i + 1)) (ser.drop (i + 1)) by
                    rw [HEE.out, HHD.out, decide_eq_true hcm]; rfl)
                  have d9 : decide (0 ≤ cmpLL ser[j] ser[i]) = false := decide_eq_false (by omega)
                  clear hcm
                  generalize cmpLL ser[j] ser[i] = cm at *
                  generalize ser[i] = l at *
                  generalize ser[j] = m at *
                  go_wp2_with (first
                    | (go_at_call 44; (with_reducible refine HCK.out.mono ?_); rintro e w3 ⟨rfl, hb⟩; have HB3 := Aside0.mk (HB.out.trans (hb.mono HB.out.size)); have hx3 := (hb.block w.heap.size (heap_lt HXR.out)).trans HXR.out; have hc3 := pw_cell_below hb HCL2.out; have HBC := Aside0.mk hb; clear x0 x1 x2 x3 x4 x5 x6 x7 x8 x9; have x0 := (blk_cell hx3 0).trans rfl; have x1 := (blk_cell hx3 1).trans rfl; have x2 := (blk_cell hx3 2).trans rfl; have x3 := (blk_cell hx3 3).trans rfl; have x4 := (blk_cell hx3 4).trans rfl; have x5 := (blk_cell hx3 5).trans rfl; have x6 := (blk_cell hx3 6).trans rfl; have x7 := (blk_cell hx3 7).trans rfl; have x8 := (blk_cell hx3 8).trans rfl; have x9 := (blk_cell hx3 9).trans rfl; simp only [List.getElem?_toArray, List.getElem?_cons_zero, List.getElem?_cons_succ] at x0 x1 x2 x3 x4 x5 x6 x7 x8 x9; clear hb hx3)
                    | (go_at_call 45; (with_reducible refine (HCM.out _ HBC.out).mono ?_); rintro e w4 ⟨rfl, hb⟩; have HB4 := Aside0.mk (HB3.out.trans (hb.mono HB3.out.size)); clear hb))
                  go_roundg (ser.length - (i + 1))
                  case measure => have := HK.out; omega
                  case rel => exact ⟨i + 1, by simp, by omega, ⟨rfl⟩, HB4, HOK⟩
                · have HN := Aside0.mk (HNO.out (fun v => by have := v.ser; simp only at this; rw [HEE.out, HHD.out, decide_eq_false hcm] at this; cases this))
                  have d9 : decide (0 ≤ cmpLL ser[j] ser[i]) = true := decide_eq_true (by omega)
                  clear hcm HNO HYES HV HHD HEE HST
                  generalize cmpLL ser[j] ser[i] = cm at *
                  generalize ser[i] = l at *
                  generalize ser[j] = m at *
                  go_wp2_with (first
                    | (go_at_call 44; (with_reducible refine HCK.out.mono ?_); rintro e w3 ⟨rfl, hb⟩; have HB3 := Aside0.mk (HB.out.trans (hb.mono HB.out.size)); have hx3 := (hb.block w.heap.size (heap_lt HXR.out)).trans HXR.out; have hc3 := pw_cell_below hb HCL2.out; have HBC := Aside0.mk hb; clear x0 x1 x2 x3 x4 x5 x6 x7 x8 x9; have x0 := (blk_cell hx3 0).trans rfl; have x1 := (blk_cell hx3 1).trans rfl; have x2 := (blk_cell hx3 2).trans rfl; have x3 := (blk_cell hx3 3).trans rfl; have x4 := (blk_cell hx3 4).trans rfl; have x5 := (blk_cell hx3 5).trans rfl; have x6 := (blk_cell hx3 6).trans rfl; have x7 := (blk_cell hx3 7).trans rfl; have x8 := (blk_cell hx3 8).trans rfl; have x9 := (blk_cell hx3 9).trans rfl; simp only [List.getElem?_toArray, List.getElem?_cons_zero, List.getElem?_cons_succ] at x0 x1 x2 x3 x4 x5 x6 x7 x8 x9; clear hb hx3)
                    | (go_at_call 45; (with_reducible refine (HCM.out _ HBC.out).mono ?_); rintro e w4 ⟨rfl, hb⟩; have HB4 := Aside0.mk (HB3.out.trans (hb.mono HB3.out.size)); clear hb))
                  go_ret
                  exact ⟨by rw [HN.out]; rfl, HB2.out.trans (HB4.out.mono HB2.out.size)⟩
            · have hd0 : hdB (pvS ser i) ser[i] = false := by
                cases pvS ser i <;> simp [hdB, hck]
              have HN := Aside0.mk (HNO.out (fun v => by have := v.ser; simp only at this; rw [HEE.out, hd0] at this; cases this))
              have b1' : (chk ser[i] == 0) = false := by simpa using hck
              have b2' : (chk ser[i] != 0) = true := by simpa using hck
              clear hck hd0 hC hq1 hq2 HNO HYES HV HEE HST
              generalize chk ser[i] = ck at *
              generalize ser[i] = l at *
              go_wp2_with (go_at_call 44; (with_reducible refine HCK.out.mono ?_); rintro e w3 ⟨rfl, hb⟩; have HB3 := Aside0.mk (HB.out.trans (hb.mono HB.out.size)); clear hb)
              go_ret
              exact ⟨by rw [HN.out]; rfl, HB2.out.trans (HB3.out.mono HB2.out.size)⟩
          · have hil : i = ser.length := by omega
            subst hil
            have dl : decide (ser.length < ser.length) = false := decide_eq_false hlt
            have HSO := Aside0.mk (show serL none ser = true by rw [HE.out, serL_end ser _ (Nat.le_refl _)])
            have HBA := Aside0.mk (below_alloc HWR.out (.cells #[.int .i64 acc, .int .i64 rr, .int .i64 rs] 3))
            have hbn := heap_alloc_new wr (.cells #[.int .i64 acc, .int .i64 rr, .int .i64 rs] 3)
            have y0 := (blk_cell hbn 0).trans rfl; have y1 := (blk_cell hbn 1).trans rfl; have y2 := (blk_cell hbn 2).trans rfl; simp only [List.getElem?_toArray, List.getElem?_cons_zero, List.getElem?_cons_succ] at y0 y1 y2
            clear hbn
            by_cases n0 : acc < 0
            case pos =>
              have e0 : decide (acc < 0) = true := decide_eq_true n0
              have HN := Aside0.mk (HNO.out (fun v => by have a := v.a0; have b := v.a1; simp only at a b; omega))
              clear HNO HYES HV
              go_wp2
              go_rounds 1
              go_ret
              exact ⟨by rw [HN.out]; rfl, HBA.out⟩
            case neg =>
              have e0 : decide (acc < 0) = false := decide_eq_false n0
              by_cases m0 : 1152921504606846976 < acc
              case pos =>
                have f0 : decide (1152921504606846976 < acc) = true := decide_eq_true m0
                have HN := Aside0.mk (HNO.out (fun v => by have a := v.a0; have b := v.a1; simp only at a b; omega))
                clear HNO HYES HV
                go_wp2
                go_rounds 1
                go_ret
                exact ⟨by rw [HN.out]; rfl, HBA.out⟩
              case neg =>
                have f0 : decide (1152921504606846976 < acc) = false := decide_eq_false m0
                have HN0 := Aside0.mk (show 0 ≤ acc ∧ acc ≤ 1152921504606846976 by omega)
                clear n0 m0
                by_cases n1 : rr < 0
                case pos =>
                  have e1 : decide (rr < 0) = true := decide_eq_true n1
                  have HN := Aside0.mk (HNO.out (fun v => by have a := v.rr0; have b := v.rr1; simp only at a b; omega))
                  clear HNO HYES HV
                  go_wp2
                  go_rounds 2
                  go_ret
                  exact ⟨by rw [HN.out]; rfl, HBA.out⟩
                case neg =>
                  have e1 : decide (rr < 0) = false := decide_eq_false n1
                  by_cases m1 : 1152921504606846976 < rr
                  case pos =>
                    have f1 : decide (1152921504606846976 < rr) = true := decide_eq_true m1
                    have HN := Aside0.mk (HNO.out (fun v => by have a := v.rr0; have b := v.rr1; simp only at a b; omega))
                    clear HNO HYES HV
                    go_wp2
                    go_rounds 2
                    go_ret
                    exact ⟨by rw [HN.out]; rfl, HBA.out⟩
                  case neg =>
                    have f1 : decide (1152921504606846976 < rr) = false := decide_eq_false m1
                    have HN1 := Aside0.mk (show 0 ≤ rr ∧ rr ≤ 1152921504606846976 by omega)
                    clear n1 m1
                    by_cases n2 : rs < 0
                    case pos =>
                      have e2 : decide (rs < 0) = true := decide_eq_true n2
                      have HN := Aside0.mk (HNO.out (fun v => by have a := v.rs0; have b := v.rs1; simp only at a b; omega))
                      clear HNO HYES HV
                      go_wp2
                      go_rounds 3
                      go_ret
                      exact ⟨by rw [HN.out]; rfl, HBA.out⟩
                    case neg =>
                      have e2 : decide (rs < 0) = false := decide_eq_false n2
                      by_cases m2 : 1152921504606846976 < rs
                      case pos =>
                        have f2 : decide (1152921504606846976 < rs) = true := decide_eq_true m2
                        have HN := Aside0.mk (HNO.out (fun v => by have a := v.rs0; have b := v.rs1; simp only at a b; omega))
                        clear HNO HYES HV
                        go_wp2
                        go_rounds 3
                        go_ret
                        exact ⟨by rw [HN.out]; rfl, HBA.out⟩
                      case neg =>
                        have f2 : decide (1152921504606846976 < rs) = false := decide_eq_false m2
                        have HN2 := Aside0.mk (show 0 ≤ rs ∧ rs ≤ 1152921504606846976 by omega)
                        clear n2 m2
                        have HY := Aside0.mk (HYES.out ⟨H1.out, H2.out.1, H2.out.2.1, H2.out.2.2.1, H2.out.2.2.2.1, H2.out.2.2.2.2.1, H2.out.2.2.2.2.2.1, H2.out.2.2.2.2.2.2.1, H2.out.2.2.2.2.2.2.2, H3.out.1, H3.out.2.1, H3.out.2.2, HSO.out, HN0.out.1, HN0.out.2, HN1.out.1, HN1.out.2, HN2.out.1, HN2.out.2⟩)
                        clear HNO HYES HV
                        go_wp2
                        go_rounds 4
                        go_ret
                        exact ⟨by rw [HY.out]; rfl, HBA.out⟩
end Go.Proofs.YtakobehkajphpaaGreat.H
