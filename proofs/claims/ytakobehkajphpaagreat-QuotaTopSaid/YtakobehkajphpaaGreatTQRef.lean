/- The reference's Check. -/
import Derived.Test.YtakobehkajphpaaGreatTQChk
namespace Go.Proofs.YtakobehkajphpaaGreat.H
open Go Go.RowKit Go.Proofs.YtakobehkajphpaaGreatW.PrintWords Go.Proofs.YtakobehkajphpaaGreatW.PrintLast Go.Proofs.YtakobehkajphpaaGreatW.PrintMore Go.Proofs.YtakobehkajphpaaGreat.PAll
set_option linter.unusedVariables false
set_option linter.unusedSimpArgs false

theorem r05Name_calls (s : ByteArray) (hs : s.size ≤ 1000) (w : World) : Calls Tryz.prog 39 #[.string s] w fun e w' => e = .returned (.bool (isNm (ab s))) ∧ Drawn0 w w' :=
  lookoutref05_Name.calls 2000 s _ w (Name_f s _ (by omega) (by omega))
theorem between_calls (n a b : Int) (w : World) (r : Bool) (hr : r = decide (a ≤ n ∧ n ≤ b)) : Calls Tryz.prog 30 #[.int .i64 n, .int .i64 a, .int .i64 b] w fun e w' => e = .returned (.bool r) ∧ Drawn0 w w' := by
  refine lookoutref55_between.calls n a b _ w ?_
  unfold lookoutref55_between.f
  subst hr
  by_cases h : n ≥ a
  · rw [if_pos h]; congr 1; rw [decide_eq_decide]; omega
  · rw [if_neg h]; congr 1; symm; rw [decide_eq_false_iff_not]; omega
theorem r05Check_calls (A0 : Option Addr) (c0 : Nat) (l : L94) (w : World) (hr : Kd.C k94 w A0 l.length l) (hc : l.length ≤ c0) (hl : l.length ≤ 1000) (hS : Sz 1000 l) :
    Calls Tryz.prog 40 #[.slice A0 l.length c0] w fun e w' => e = .returned (.int .i64 (chk l)) ∧ Drawn0 w w' :=
  lookoutref05_Check.calls 3000 A0 c0 l _ w hr hc (rCheck_f l 1000 _ (by omega) (by omega) hS (by omega))

set_option maxRecDepth 100000 in
set_option maxHeartbeats 16000000 in
theorem rCheck_calls (t : TV) (hS : SmallT t) (A : Option Addr) (c : Nat) (w : World) (hr : Kd.C kLL w A t.ser.length t.ser) (hc : t.ser.length ≤ c) :
    Calls Tryz.prog 14 #[tv t (.slice A t.ser.length c)] w fun e w' => e = .returned (.int .i64 (chkT t)) ∧ Below w.heap.size w w' := by
  have HV := Aside0.mk (val_iff t)
  have HNO := Aside0.mk (fun h => chkT_no (t := t) h)
  have HYES := Aside0.mk (fun h => chkT_val (t := t) h)
  obtain ⟨nm, rate, burst, level, clock, mx, ser, acc, rr, rs⟩ := t
  have HSM := Aside0.mk hS
  have hsl := hS.len
  have HR := Aside0.mk hr
  simp only [tv] at *
  have HNM := Aside0.mk (fun W => r05Name_calls nm hS.nm W)
  have hu := Tryz.underlying24
  have hu2 := Tryz.underlying25
  have hbx := heap_alloc_new w (.cells #[.string nm, .int .i64 rate, .int .i64 burst, .int .i64 level, .int .i64 clock, .int .i64 mx, .slice A ser.length c, .int .i64 acc, .int .i64 rr, .int .i64 rs] 24)
  have HBX := Aside0.mk hbx
  have HW0 := Aside0.mk (below_alloc (Below.refl _ w) (.cells #[.string nm, .int .i64 rate, .int .i64 burst, .int .i64 level, .int .i64 clock, .int .i64 mx, .slice A ser.length c, .int .i64 acc, .int .i64 rr, .int .i64 rs] 24))
  have x0 := (blk_cell hbx 0).trans rfl; have x1 := (blk_cell hbx 1).trans rfl; have x2 := (blk_cell hbx 2).trans rfl; have x3 := (blk_cell hbx 3).trans rfl; have x4 := (blk_cell hbx 4).trans rfl; have x5 := (blk_cell hbx 5).trans rfl; have x6 := (blk_cell hbx 6).trans rfl; have x7 := (blk_cell hbx 7).trans rfl; have x8 := (blk_cell hbx 8).trans rfl; have x9 := (blk_cell hbx 9).trans rfl; simp only [List.getElem?_toArray, List.getElem?_cons_zero, List.getElem?_cons_succ] at x0 x1 x2 x3 x4 x5 x6 x7 x8 x9
  clear hbx hr hS
  by_cases h0 : isNm (ab nm) = true
  case neg =>
    have h0' : isNm (ab nm) = false := by simpa using h0
    rw [h0'] at HNM
    have HN := Aside0.mk (HNO.out (fun v => h0 v.nm))
    clear h0 h0' HNO HYES HV
    go_enter Tryz.func14, Tryz.ntmps14
    go_wp2_with (first
      | (go_at_call 39; (with_reducible refine (HNM.out _).mono ?_); rintro e w1 ⟨rfl, ⟨q1, rfl⟩⟩))
    go_ret
    exact ⟨by rw [HN.out]; rfl, by repeat (first | exact HW0.out | apply pw_below_drewN)⟩
  case pos =>
    rw [h0] at HNM
    have H0 := Aside0.mk h0
    clear h0
    by_cases h1 : 0 ≤ rate ∧ rate ≤ 1000000
    case neg =>
      have HN := Aside0.mk (HNO.out (fun v => h1 ⟨v.r0, v.r1⟩))
      have HB1 := Aside0.mk (fun W => between_calls rate 0 1000000 W false (by rw [decide_eq_false h1]))
      clear h1 HNO HYES HV
      go_enter Tryz.func14, Tryz.ntmps14
      go_wp2_with (first
        | (go_at_call 39; (with_reducible refine (HNM.out _).mono ?_); rintro e w1 ⟨rfl, ⟨q1, rfl⟩⟩)
        | (go_at_call 30; (with_reducible refine (HB1.out _).mono ?_); rintro e w2 ⟨rfl, ⟨q2, rfl⟩⟩))
      go_ret
      exact ⟨by rw [HN.out]; rfl, by repeat (first | exact HW0.out | apply pw_below_drewN)⟩
    case pos =>
      have HB1 := Aside0.mk (fun W => between_calls rate 0 1000000 W true (by rw [decide_eq_true h1]))
      have H1 := Aside0.mk h1
      clear h1
      by_cases h2 : 1 ≤ burst ∧ burst ≤ 1000000
      case neg =>
        have HN := Aside0.mk (HNO.out (fun v => h2 ⟨v.b0, v.b1⟩))
        have HB2 := Aside0.mk (fun W => between_calls burst 1 1000000 W false (by rw [decide_eq_false h2]))
        clear h2 HNO HYES HV
        go_enter Tryz.func14, Tryz.ntmps14
        go_wp2_with (first
          | (go_at_call 39; (with_reducible refine (HNM.out _).mono ?_); rintro e w1 ⟨rfl, ⟨q1, rfl⟩⟩)
          | (go_at_call 30; (with_reducible refine (HB1.out _).mono ?_); rintro e w2 ⟨rfl, ⟨q2, rfl⟩⟩)
          | (go_at_call 30; (with_reducible refine (HB2.out _).mono ?_); rintro e w2 ⟨rfl, ⟨q2, rfl⟩⟩))
        go_ret
        exact ⟨by rw [HN.out]; rfl, by repeat (first | exact HW0.out | apply pw_below_drewN)⟩
      case pos =>
        have HB2 := Aside0.mk (fun W => between_calls burst 1 1000000 W true (by rw [decide_eq_true h2]))
        have H2 := Aside0.mk h2
        have hb0 : 1 ≤ burst := H2.out.1
        have hb1 : burst ≤ 1000000 := H2.out.2
        clear h2
        by_cases h3 : 0 ≤ level ∧ level ≤ (1000 * burst)
        case neg =>
          have HN := Aside0.mk (HNO.out (fun v => h3 ⟨v.l0, v.l1⟩))
          have HB3 := Aside0.mk (fun W => between_calls level 0 (1000 * burst) W false (by rw [decide_eq_false h3]))
          clear h3 HNO HYES HV
          go_enter Tryz.func14, Tryz.ntmps14
          go_wp2_with (first
            | (go_at_call 39; (with_reducible refine (HNM.out _).mono ?_); rintro e w1 ⟨rfl, ⟨q1, rfl⟩⟩)
            | (go_at_call 30; (with_reducible refine (HB1.out _).mono ?_); rintro e w2 ⟨rfl, ⟨q2, rfl⟩⟩)
            | (go_at_call 30; (with_reducible refine (HB2.out _).mono ?_); rintro e w2 ⟨rfl, ⟨q2, rfl⟩⟩)
            | (go_at_call 30; (with_reducible refine (HB3.out _).mono ?_); rintro e w2 ⟨rfl, ⟨q2, rfl⟩⟩))
          go_ret
          exact ⟨by rw [HN.out]; rfl, by repeat (first | exact HW0.out | apply pw_below_drewN)⟩
        case pos =>
          have HB3 := Aside0.mk (fun W => between_calls level 0 (1000 * burst) W true (by rw [decide_eq_true h3]))
          have H3 := Aside0.mk h3
          clear h3
          by_cases h4 : 1 ≤ clock ∧ clock ≤ 1099511627776
          case neg =>
            have HN := Aside0.mk (HNO.out (fun v => h4 ⟨v.c0, v.c1⟩))
            have HB4 := Aside0.mk (fun W => between_calls clock 1 1099511627776 W false (by rw [decide_eq_false h4]))
            clear h4 HNO HYES HV
            go_enter Tryz.func14, Tryz.ntmps14
            go_wp2_with (first
              | (go_at_call 39; (with_reducible refine (HNM.out _).mono ?_); rintro e w1 ⟨rfl, ⟨q1, rfl⟩⟩)
              | (go_at_call 30; (with_reducible refine (HB1.out _).mono ?_); rintro e w2 ⟨rfl, ⟨q2, rfl⟩⟩)
              | (go_at_call 30; (with_reducible refine (HB2.out _).mono ?_); rintro e w2 ⟨rfl, ⟨q2, rfl⟩⟩)
              | (go_at_call 30; (with_reducible refine (HB3.out _).mono ?_); rintro e w2 ⟨rfl, ⟨q2, rfl⟩⟩)
              | (go_at_call 30; (with_reducible refine (HB4.out _).mono ?_); rintro e w2 ⟨rfl, ⟨q2, rfl⟩⟩))
            go_ret
            exact ⟨by rw [HN.out]; rfl, by repeat (first | exact HW0.out | apply pw_below_drewN)⟩
          case pos =>
            have HB4 := Aside0.mk (fun W => between_calls clock 1 1099511627776 W true (by rw [decide_eq_true h4]))
            have H4 := Aside0.mk h4
            clear h4
            by_cases h5 : 0 ≤ mx ∧ mx ≤ 1000
            case neg =>
              have HN := Aside0.mk (HNO.out (fun v => h5 ⟨v.m0, v.m1⟩))
              have HB5 := Aside0.mk (fun W => between_calls mx 0 1000 W false (by rw [decide_eq_false h5]))
              clear h5 HNO HYES HV
              go_enter Tryz.func14, Tryz.ntmps14
              go_wp2_with (first
                | (go_at_call 39; (with_reducible refine (HNM.out _).mono ?_); rintro e w1 ⟨rfl, ⟨q1, rfl⟩⟩)
                | (go_at_call 30; (with_reducible refine (HB1.out _).mono ?_); rintro e w2 ⟨rfl, ⟨q2, rfl⟩⟩)
                | (go_at_call 30; (with_reducible refine (HB2.out _).mono ?_); rintro e w2 ⟨rfl, ⟨q2, rfl⟩⟩)
                | (go_at_call 30; (with_reducible refine (HB3.out _).mono ?_); rintro e w2 ⟨rfl, ⟨q2, rfl⟩⟩)
                | (go_at_call 30; (with_reducible refine (HB4.out _).mono ?_); rintro e w2 ⟨rfl, ⟨q2, rfl⟩⟩)
                | (go_at_call 30; (with_reducible refine (HB5.out _).mono ?_); rintro e w2 ⟨rfl, ⟨q2, rfl⟩⟩))
              go_ret
              exact ⟨by rw [HN.out]; rfl, by repeat (first | exact HW0.out | apply pw_below_drewN)⟩
            case pos =>
              have HB5 := Aside0.mk (fun W => between_calls mx 0 1000 W true (by rw [decide_eq_true h5]))
              have H5 := Aside0.mk h5
              clear h5
              by_cases h6 : mx < (ser.length : Int)
              case pos =>
                have HN := Aside0.mk (HNO.out (fun v => by have a := v.len; simp only at a; omega))
                have d6 : decide (mx < (ser.length : Int)) = true := decide_eq_true h6
                clear h6 HNO HYES HV
                go_enter Tryz.func14, Tryz.ntmps14
                go_wp2_with (first
                  | (go_at_call 39; (with_reducible refine (HNM.out _).mono ?_); rintro e w1 ⟨rfl, ⟨q1, rfl⟩⟩)
                  | (go_at_call 30; (with_reducible refine (HB1.out _).mono ?_); rintro e w2 ⟨rfl, ⟨q2, rfl⟩⟩)
                  | (go_at_call 30; (with_reducible refine (HB2.out _).mono ?_); rintro e w2 ⟨rfl, ⟨q2, rfl⟩⟩)
                  | (go_at_call 30; (with_reducible refine (HB3.out _).mono ?_); rintro e w2 ⟨rfl, ⟨q2, rfl⟩⟩)
                  | (go_at_call 30; (with_reducible refine (HB4.out _).mono ?_); rintro e w2 ⟨rfl, ⟨q2, rfl⟩⟩)
                  | (go_at_call 30; (with_reducible refine (HB5.out _).mono ?_); rintro e w2 ⟨rfl, ⟨q2, rfl⟩⟩))
                go_ret
                exact ⟨by rw [HN.out]; rfl, by repeat (first | exact HW0.out | apply pw_below_drewN)⟩
              case neg =>
                have d6 : decide (mx < (ser.length : Int)) = false := decide_eq_false h6
                have H6 := Aside0.mk (show (ser.length : Int) ≤ mx by omega)
                clear h6
                by_cases h7 : 0 ≤ acc ∧ acc ≤ 1152921504606846976
                case neg =>
                  have HN := Aside0.mk (HNO.out (fun v => h7 ⟨v.a0, v.a1⟩))
                  have HB7 := Aside0.mk (fun W => between_calls acc 0 1152921504606846976 W false (by rw [decide_eq_false h7]))
                  clear h7 HNO HYES HV
                  go_enter Tryz.func14, Tryz.ntmps14
                  go_wp2_with (first
                    | (go_at_call 39; (with_reducible refine (HNM.out _).mono ?_); rintro e w1 ⟨rfl, ⟨q1, rfl⟩⟩)
                    | (go_at_call 30; (with_reducible refine (HB1.out _).mono ?_); rintro e w2 ⟨rfl, ⟨q2, rfl⟩⟩)
                    | (go_at_call 30; (with_reducible refine (HB2.out _).mono ?_); rintro e w2 ⟨rfl, ⟨q2, rfl⟩⟩)
                    | (go_at_call 30; (with_reducible refine (HB3.out _).mono ?_); rintro e w2 ⟨rfl, ⟨q2, rfl⟩⟩)
                    | (go_at_call 30; (with_reducible refine (HB4.out _).mono ?_); rintro e w2 ⟨rfl, ⟨q2, rfl⟩⟩)
                    | (go_at_call 30; (with_reducible refine (HB5.out _).mono ?_); rintro e w2 ⟨rfl, ⟨q2, rfl⟩⟩)
                    | (go_at_call 30; (with_reducible refine (HB7.out _).mono ?_); rintro e w2 ⟨rfl, ⟨q2, rfl⟩⟩))
                  go_ret
                  exact ⟨by rw [HN.out]; rfl, by repeat (first | exact HW0.out | apply pw_below_drewN)⟩
                case pos =>
                  have HB7 := Aside0.mk (fun W => between_calls acc 0 1152921504606846976 W true (by rw [decide_eq_true h7]))
                  have H7 := Aside0.mk h7
                  clear h7
                  by_cases h8 : 0 ≤ rr ∧ rr ≤ 1152921504606846976
                  case neg =>
                    have HN := Aside0.mk (HNO.out (fun v => h8 ⟨v.rr0, v.rr1⟩))
                    have HB8 := Aside0.mk (fun W => between_calls rr 0 1152921504606846976 W false (by rw [decide_eq_false h8]))
                    clear h8 HNO HYES HV
                    go_enter Tryz.func14, Tryz.ntmps14
                    go_wp2_with (first
                      | (go_at_call 39; (with_reducible refine (HNM.out _).mono ?_); rintro e w1 ⟨rfl, ⟨q1, rfl⟩⟩)
                      | (go_at_call 30; (with_reducible refine (HB1.out _).mono ?_); rintro e w2 ⟨rfl, ⟨q2, rfl⟩⟩)
                      | (go_at_call 30; (with_reducible refine (HB2.out _).mono ?_); rintro e w2 ⟨rfl, ⟨q2, rfl⟩⟩)
                      | (go_at_call 30; (with_reducible refine (HB3.out _).mono ?_); rintro e w2 ⟨rfl, ⟨q2, rfl⟩⟩)
                      | (go_at_call 30; (with_reducible refine (HB4.out _).mono ?_); rintro e w2 ⟨rfl, ⟨q2, rfl⟩⟩)
                      | (go_at_call 30; (with_reducible refine (HB5.out _).mono ?_); rintro e w2 ⟨rfl, ⟨q2, rfl⟩⟩)
                      | (go_at_call 30; (with_reducible refine (HB7.out _).mono ?_); rintro e w2 ⟨rfl, ⟨q2, rfl⟩⟩)
                      | (go_at_call 30; (with_reducible refine (HB8.out _).mono ?_); rintro e w2 ⟨rfl, ⟨q2, rfl⟩⟩))
                    go_ret
                    exact ⟨by rw [HN.out]; rfl, by repeat (first | exact HW0.out | apply pw_below_drewN)⟩
                  case pos =>
                    have HB8 := Aside0.mk (fun W => between_calls rr 0 1152921504606846976 W true (by rw [decide_eq_true h8]))
                    have H8 := Aside0.mk h8
                    clear h8
                    by_cases h9 : 0 ≤ rs ∧ rs ≤ 1152921504606846976
                    case neg =>
                      have HN := Aside0.mk (HNO.out (fun v => h9 ⟨v.rs0, v.rs1⟩))
                      have HB9 := Aside0.mk (fun W => between_calls rs 0 1152921504606846976 W false (by rw [decide_eq_false h9]))
                      clear h9 HNO HYES HV
                      go_enter Tryz.func14, Tryz.ntmps14
                      go_wp2_with (first
                        | (go_at_call 39; (with_reducible refine (HNM.out _).mono ?_); rintro e w1 ⟨rfl, ⟨q1, rfl⟩⟩)
                        | (go_at_call 30; (with_reducible refine (HB1.out _).mono ?_); rintro e w2 ⟨rfl, ⟨q2, rfl⟩⟩)
                        | (go_at_call 30; (with_reducible refine (HB2.out _).mono ?_); rintro e w2 ⟨rfl, ⟨q2, rfl⟩⟩)
                        | (go_at_call 30; (with_reducible refine (HB3.out _).mono ?_); rintro e w2 ⟨rfl, ⟨q2, rfl⟩⟩)
                        | (go_at_call 30; (with_reducible refine (HB4.out _).mono ?_); rintro e w2 ⟨rfl, ⟨q2, rfl⟩⟩)
                        | (go_at_call 30; (with_reducible refine (HB5.out _).mono ?_); rintro e w2 ⟨rfl, ⟨q2, rfl⟩⟩)
                        | (go_at_call 30; (with_reducible refine (HB7.out _).mono ?_); rintro e w2 ⟨rfl, ⟨q2, rfl⟩⟩)
                        | (go_at_call 30; (with_reducible refine (HB8.out _).mono ?_); rintro e w2 ⟨rfl, ⟨q2, rfl⟩⟩)
                        | (go_at_call 30; (with_reducible refine (HB9.out _).mono ?_); rintro e w2 ⟨rfl, ⟨q2, rfl⟩⟩))
                      go_ret
                      exact ⟨by rw [HN.out]; rfl, by repeat (first | exact HW0.out | apply pw_below_drewN)⟩
                    case pos =>
                      have HB9 := Aside0.mk (fun W => between_calls rs 0 1152921504606846976 W true (by rw [decide_eq_true h9]))
                      have H9 := Aside0.mk h9
                      clear h9
                      go_enter Tryz.func14, Tryz.ntmps14
                      go_wp2_with (first
                        | (go_at_call 39; (with_reducible refine (HNM.out _).mono ?_); rintro e w1 ⟨rfl, ⟨q1, rfl⟩⟩)
                        | (go_at_call 30; (with_reducible refine (HB1.out _).mono ?_); rintro e w2 ⟨rfl, ⟨q2, rfl⟩⟩)
                        | (go_at_call 30; (with_reducible refine (HB2.out _).mono ?_); rintro e w2 ⟨rfl, ⟨q2, rfl⟩⟩)
                        | (go_at_call 30; (with_reducible refine (HB3.out _).mono ?_); rintro e w2 ⟨rfl, ⟨q2, rfl⟩⟩)
                        | (go_at_call 30; (with_reducible refine (HB4.out _).mono ?_); rintro e w2 ⟨rfl, ⟨q2, rfl⟩⟩)
                        | (go_at_call 30; (with_reducible refine (HB5.out _).mono ?_); rintro e w2 ⟨rfl, ⟨q2, rfl⟩⟩)
                        | (go_at_call 30; (with_reducible refine (HB7.out _).mono ?_); rintro e w2 ⟨rfl, ⟨q2, rfl⟩⟩)
                        | (go_at_call 30; (with_reducible refine (HB8.out _).mono ?_); rintro e w2 ⟨rfl, ⟨q2, rfl⟩⟩)
                        | (go_at_call 30; (with_reducible refine (HB9.out _).mono ?_); rintro e w2 ⟨rfl, ⟨q2, rfl⟩⟩))
                      have HW1 := Aside0.mk (show Below w.heap.size w _ by first | exact HW0.out | exact pw_below_drewN HW0.out _)
                      go_loopg [3] (ser.length) (fun kq v3 w' => ∃ i : Nat, v3 = .int .i64 i ∧ i ≤ ser.length ∧ Aside0 (kq = ser.length - i) ∧ Aside0 (Below w.heap.size w w') ∧ Aside0 (w'.heap[w.heap.size]? = some (.cells #[.string nm, .int .i64 rate, .int .i64 burst, .int .i64 level, .int .i64 clock, .int .i64 mx, .slice A ser.length c, .int .i64 acc, .int .i64 rr, .int .i64 rs] 24 (0, 0))) ∧ Aside0 (serL none ser = serL (pvS ser i) (ser.drop i)))
                      case atStart => exact ⟨0, rfl, by omega, ⟨rfl⟩, ⟨by repeat (first | exact HW0.out | apply pw_below_drewN)⟩, ⟨HBX.out⟩, ⟨rfl⟩⟩
                      case round =>
                        obtain ⟨i, rfl, hi, HK, HB, HX, HE⟩ := hrel
                        have x0 := (blk_cell HX.out 0).trans rfl; have x1 := (blk_cell HX.out 1).trans rfl; have x2 := (blk_cell HX.out 2).trans rfl; have x3 := (blk_cell HX.out 3).trans rfl; have x4 := (blk_cell HX.out 4).trans rfl; have x5 := (blk_cell HX.out 5).trans rfl; have x6 := (blk_cell HX.out 6).trans rfl; have x7 := (blk_cell HX.out 7).trans rfl; have x8 := (blk_cell HX.out 8).trans rfl; have x9 := (blk_cell HX.out 9).trans rfl; simp only [List.getElem?_toArray, List.getElem?_cons_zero, List.getElem?_cons_succ] at x0 x1 x2 x3 x4 x5 x6 x7 x8 x9
                        by_cases hlt : i < ser.length
                        · obtain ⟨ad, A1, c1, e1, hcell, hle, hC⟩ := slice_at (Kd.C_below HR.out HB.out) i hlt
                          cases e1
                          have pl : (0 ≤ (i : Int)) = True := eq_true (by omega)
                          have dl : decide (i < ser.length) = true := decide_eq_true hlt
                          have dl2 : ((i : Int) < (ser.length : Int)) = True := eq_true (by omega)
                          obtain ⟨hq1, hq2⟩ := HSM.out.ser ser[i] (List.getElem_mem hlt)
                          have HCK := Aside0.mk (fun W (h : Below wr.heap.size wr W) => r05Check_calls A1 c1 ser[i] W (Kd.C_below hC h) hle hq1 hq2)
                          have HEE := Aside0.mk (HE.out.trans (serL_at ser i hlt))
                          by_cases hck : chk ser[i] = 0
                          · rw [hck] at HCK
                            by_cases hi0 : i = 0
                            · have HOK := Aside0.mk (show serL none ser = serL (pvS ser (i + 1)) (ser.drop (i + 1)) by
                                rw [HEE.out, show hdB (pvS ser i) ser[i] = true by rw [show pvS ser i = none from if_pos hi0]; exact decide_eq_true hck]; rfl)
                              have di : decide (0 < i) = false := decide_eq_false (by omega)
                              have di' : decide (0 < (i : Int)) = false := decide_eq_false (by omega)
                              clear hck hC hq1 hq2 hi0
                              generalize ser[i] = l at *
                              go_wp2_with fail
                              go_quiet ((go_at_call 40; (with_reducible refine (HCK.out _ (by repeat (first | exact Below.refl _ _ | apply pw_below_drewN | apply below_drew))).mono ?_); rintro e w' ⟨rfl, ⟨nd, rfl⟩⟩; (first | exact ⟨rfl, _, World.drewN_drewN _ _ _⟩ | exact ⟨rfl, _, Eq.trans (World.drewN_drewN _ _ _) (congrArg (World.drewN _) (Nat.add_assoc _ _ _))⟩)))
                              go_wp2
                              go_roundg (ser.length - (i + 1))
                              case measure => have := HK.out; omega
                              case rel => exact ⟨i + 1, by simp, by omega, ⟨rfl⟩, ⟨by repeat (first | exact HB.out | apply pw_below_drewN | apply below_drew)⟩, ⟨HX.out⟩, HOK⟩
                            · obtain ⟨j, hj⟩ : ∃ j, i = j + 1 := ⟨i - 1, by omega⟩
                              have hjl : j < ser.length := by omega
                              obtain ⟨ad', A2, c2, e2, hcell2, hle2, hC2⟩ := slice_at (Kd.C_below HR.out HB.out) j hjl
                              cases e2
                              have HCM := Aside0.mk (fun W (h : Below wr.heap.size wr W) => rCompare_calls A2 A1 c2 c1 ser[j] ser[i] W (Kd.C_below hC2 h) hle2 (Kd.C_below hC h) hle (by have := (HSM.out.ser ser[j] (List.getElem_mem hjl)).1; omega))
                              have HHD := Aside0.mk (show hdB (pvS ser i) ser[i] = decide (cmpLL ser[j] ser[i] < 0) by
                                unfold pvS
                                rw [if_neg hi0, show i - 1 = j by omega, List.getElem?_eq_getElem hjl]
                                simp [hdB, hck])
                              have pj : (0 ≤ (j : Int)) = True := eq_true (by omega)
                              have dj : decide (j < ser.length) = true := decide_eq_true hjl
                              have dj2 : ((j : Int) < (ser.length : Int)) = True := eq_true (by omega)
                              have di : decide (0 < i) = true := decide_eq_true (by omega)
                              have di' : decide (0 < (i : Int)) = true := decide_eq_true (by omega)
                              have hij : (i : Int) - 1 = (j : Int) := by omega
                              have hiw : IntKind.i64.wrap ((i : Int) - 1) = (j : Int) := by rw [IntKind.wrap_i64]; omega
                              clear hck hC hC2 hq1 hq2 hi0 hj
                              by_cases hcm : cmpLL ser[j] ser[i] < 0
                              · have HOK := Aside0.mk (show serL none ser = serL (pvS ser (i + 1)) (ser.drop (i + 1)) by
                                  rw [HEE.out, HHD.out, decide_eq_true hcm]; rfl)
                                have d9 : decide (0 ≤ cmpLL ser[j] ser[i]) = false := decide_eq_false (by omega)
                                clear hcm
                                generalize cmpLL ser[j] ser[i] = cm at *
                                generalize ser[i] = l at *
                                generalize ser[j] = m at *
                                go_wp2_with fail
                                go_quiet ((first | (go_at_call 40; (with_reducible refine (HCK.out _ (by repeat (first | exact Below.refl _ _ | apply pw_below_drewN | apply below_drew))).mono ?_); rintro e w' ⟨rfl, ⟨nd, rfl⟩⟩; (first | exact ⟨rfl, _, World.drewN_drewN _ _ _⟩ | exact ⟨rfl, _, Eq.trans (World.drewN_drewN _ _ _) (congrArg (World.drewN _) (Nat.add_assoc _ _ _))⟩)) | (go_at_call 38; (with_reducible refine (HCM.out _ (by repeat (first | exact Below.refl _ _ | apply pw_below_drewN | apply below_drew))).mono ?_); rintro e w' ⟨rfl, ⟨nd, rfl⟩⟩; (first | exact ⟨rfl, _, World.drewN_drewN _ _ _⟩ | exact ⟨rfl, _, Eq.trans (World.drewN_drewN _ _ _) (congrArg (World.drewN _) (Nat.add_assoc _ _ _))⟩))))
                                go_wp2
                                go_roundg (ser.length - (i + 1))
                                case measure => have := HK.out; omega
                                case rel => exact ⟨i + 1, by simp, by omega, ⟨rfl⟩, ⟨by repeat (first | exact HB.out | apply pw_below_drewN | apply below_drew)⟩, ⟨HX.out⟩, HOK⟩
                              · have HN := Aside0.mk (HNO.out (fun v => by have := v.ser; simp only at this; rw [HEE.out, HHD.out, decide_eq_false hcm] at this; cases this))
                                have d9 : decide (0 ≤ cmpLL ser[j] ser[i]) = true := decide_eq_true (by omega)
                                clear hcm HNO HYES HV HHD HEE
                                generalize cmpLL ser[j] ser[i] = cm at *
                                generalize ser[i] = l at *
                                generalize ser[j] = m at *
                                go_wp2_with fail
                                go_quiet ((first | (go_at_call 40; (with_reducible refine (HCK.out _ (by repeat (first | exact Below.refl _ _ | apply pw_below_drewN | apply below_drew))).mono ?_); rintro e w' ⟨rfl, ⟨nd, rfl⟩⟩; (first | exact ⟨rfl, _, World.drewN_drewN _ _ _⟩ | exact ⟨rfl, _, Eq.trans (World.drewN_drewN _ _ _) (congrArg (World.drewN _) (Nat.add_assoc _ _ _))⟩)) | (go_at_call 38; (with_reducible refine (HCM.out _ (by repeat (first | exact Below.refl _ _ | apply pw_below_drewN | apply below_drew))).mono ?_); rintro e w' ⟨rfl, ⟨nd, rfl⟩⟩; (first | exact ⟨rfl, _, World.drewN_drewN _ _ _⟩ | exact ⟨rfl, _, Eq.trans (World.drewN_drewN _ _ _) (congrArg (World.drewN _) (Nat.add_assoc _ _ _))⟩))))
                                go_wp2
                                go_ret
                                exact ⟨by rw [HN.out]; rfl, by repeat (first | exact HB.out | apply pw_below_drewN | apply below_drew)⟩
                          · have hd0 : hdB (pvS ser i) ser[i] = false := by
                              cases pvS ser i <;> simp [hdB, hck]
                            have HN := Aside0.mk (HNO.out (fun v => by have := v.ser; simp only at this; rw [HEE.out, hd0] at this; cases this))
                            have b1' : (chk ser[i] == 0) = false := by simpa using hck
                            have b2' : (chk ser[i] != 0) = true := by simpa using hck
                            clear hck hd0 hC hq1 hq2 HNO HYES HV HEE
                            generalize chk ser[i] = ck at *
                            generalize ser[i] = l at *
                            go_wp2_with fail
                            go_quiet ((go_at_call 40; (with_reducible refine (HCK.out _ (by repeat (first | exact Below.refl _ _ | apply pw_below_drewN | apply below_drew))).mono ?_); rintro e w' ⟨rfl, ⟨nd, rfl⟩⟩; (first | exact ⟨rfl, _, World.drewN_drewN _ _ _⟩ | exact ⟨rfl, _, Eq.trans (World.drewN_drewN _ _ _) (congrArg (World.drewN _) (Nat.add_assoc _ _ _))⟩)))
                            go_wp2
                            go_ret
                            exact ⟨by rw [HN.out]; rfl, by repeat (first | exact HB.out | apply pw_below_drewN | apply below_drew)⟩
                        · have hil : i = ser.length := by omega
                          subst hil
                          have dl : decide (ser.length < ser.length) = false := decide_eq_false hlt
                          have HY := Aside0.mk (HYES.out ⟨H0.out, H1.out.1, H1.out.2, H2.out.1, H2.out.2, H5.out.1, H5.out.2, H4.out.1, H4.out.2, H3.out.1, H3.out.2, H6.out, by show serL none ser = true; rw [HE.out, serL_end ser _ (Nat.le_refl _)], H7.out.1, H7.out.2, H8.out.1, H8.out.2, H9.out.1, H9.out.2⟩)
                          clear HNO HYES HV
                          go_wp2
                          go_ret
                          exact ⟨by rw [HY.out]; rfl, HB.out⟩
end Go.Proofs.YtakobehkajphpaaGreat.H
