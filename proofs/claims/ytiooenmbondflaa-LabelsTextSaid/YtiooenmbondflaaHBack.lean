/- The walk of LabelsBack. -/
import Derived.Test.YtiooenmbondflaaHGreat
import Derived.Test.YtiooenmbondflaaHText
namespace Go.Proofs.Ytiooenmbondflaa.H
open Go Go.RowKit Go.Proofs.YtiooenmbondflaaW.PrintWords Go.Proofs.YtiooenmbondflaaW.PrintLast Go.Proofs.YtiooenmbondflaaW.PrintMore Go.Proofs.Ytiooenmbondflaa.PAll
set_option linter.unusedVariables false
set_option linter.unusedSimpArgs false

theorem fmtL_len {l : L32} (hl : l.length ≤ 17) (hS : Sz 1000 l) : (fmtL l).length ≤ 60000 := by
  have := bodyT_len 1000 l true hS
  have : l.length * (3 * 1000 + 4) ≤ 17 * 3004 := Nat.mul_le_mul_right _ hl
  simp [fmtL]; omega
theorem prsL_sz {s : List UInt8} (h : s.length ≤ 1000) : (prsL s).length ≤ 1000 ∧ Sz 1000 (prsL s) := by
  unfold prsL
  split
  · exact ⟨by simp, fun x hx => by cases hx⟩
  · rename_i l hl
    obtain ⟨h1, h2⟩ := parseT_sz hl
    split
    · exact ⟨by omega, fun x hx => by have := h2 x hx; omega⟩
    · exact ⟨by simp, fun x hx => by cases hx⟩

set_option maxRecDepth 100000 in
set_option maxHeartbeats 8000000 in
theorem LabelsBack_walk (w : World) (A0 : Option Addr) (l : L32) (c0 : Nat) (hr0 : Kd.C k32 w A0 l.length l) (hc0 : l.length ≤ c0) (s : ByteArray) :
    Calls Try.prog 3 #[.slice A0 l.length c0, .string s] w fun e w' => e = .returned (.bool true) ∧ Below w.heap.size w w' := by
  have HG := Aside0.mk (fun W n hn (h : Below w.heap.size w W) => great1 W n hn A0 c0 l (Kd.C_below hr0 h) hc0)
  have HR0 := Aside0.mk hr0
  have HCC := Aside0.mk hc0
  have HA := Aside0.mk (fun W => awake_calls W)
  have HB2 := Aside0.mk (Below.refl w.heap.size w)
  clear hr0 hc0
  cases hg : greatB l with
  | true =>
    rw [hg] at HG
    clear hg
    go_enter Try.func3, Try.ntmps3
    go_wp2_with (first
      | (go_at_call 10; refine (HG.out _ _ rfl (by repeat (first | exact HB2.out | apply below_alloc | apply pw_below_drewN | apply below_drew))).mono ?_; rintro e w1 ⟨rfl, ⟨q, rfl⟩⟩)
      | (go_at_call 11; refine (HA.out _).mono ?_; rintro e w2 ⟨rfl, hb⟩; have n1_ := Aside0.mk ((show Below w.heap.size w _ by repeat (first | exact HB2.out | apply below_alloc | apply pw_below_drewN | apply below_drew)).trans (hb.mono (by have := HB2.out.size; simp; try omega))); clear HB2 hb; have HB2 := n1_; clear n1_))
    go_ret
    exact ⟨rfl, HB2.out⟩
  | false =>
    obtain ⟨hl17, _, hSz⟩ := small_of hg
    rw [hg] at HG
    clear hg
    by_cases hs : s.size ≤ 300
    · have q1 : (300 < (s.size : Int)) = False := eq_false (by omega)
      have HS := Aside0.mk hs
      have HF := Aside0.mk (fun W (h : Below w.heap.size w W) => Format_calls A0 c0 l W (Kd.C_below HR0.out h) HCC.out (by omega) hSz)
      have HK := Aside0.mk (fun W (h : Below w.heap.size w W) => Check_calls A0 c0 l W (Kd.C_below HR0.out h) HCC.out 1000 (by omega) (by omega) hSz)
      have HP1 := Aside0.mk (fun W => Parse_calls (ofB (fmtL l)) W (by rw [ofB_size]; have := fmtL_len hl17 hSz; omega))
      rw [ab_ofB] at HP1
      have HP2 := Aside0.mk (fun W => Parse_calls s W (by omega))
      obtain ⟨hm1, hm2⟩ := prsL_sz (s := ab s) (by rw [ab_length]; omega)
      have HL17 := Aside0.mk hl17
      have HM1 := Aside0.mk hm1
      have HM2 := Aside0.mk hm2
      have HX2 := Aside0.mk (back2 (ab s))
      have hsp : Aside0 (∀ W A c, prsE (ab s) = 0 → Kd.C k32 W A (prsL (ab s)).length (prsL (ab s)) → (prsL (ab s)).length ≤ c → Calls Try.prog 13 #[.slice A (prsL (ab s)).length c] W fun e w' => e = .returned (.string s) ∧ Below W.heap.size W w') := ⟨fun W A c he hC hc => by
        have h := Format_calls A c (prsL (ab s)) W hC hc hm1 hm2
        rw [(back2 (ab s) he).1, ofB_ab] at h
        exact h⟩
      have hck : Aside0 (∀ W A c, prsE (ab s) = 0 → Kd.C k32 W A (prsL (ab s)).length (prsL (ab s)) → (prsL (ab s)).length ≤ c → Calls Try.prog 14 #[.slice A (prsL (ab s)).length c] W fun e w' => e = .returned (.int .i64 0) ∧ Below W.heap.size W w') := ⟨fun W A c he hC hc => by
        have h := Check_calls A c (prsL (ab s)) W hC hc 1000 (by omega) (by omega) hm2
        rw [(back2 (ab s) he).2] at h
        exact h⟩
      generalize prsL (ab s) = m at *
      generalize prsE (ab s) = e2 at *
      clear hs hm1 hm2 HM1 HM2 HX2
      have hx : chk l = 0 ∧ prsL (fmtL l) = l ∧ prsE (fmtL l) = 0 ∨ chk l ≠ 0 := by
        by_cases h : chk l = 0
        · exact .inl ⟨h, back1 l h⟩
        · exact .inr h
      clear hl17 hSz
      rcases hx with ⟨h0, hpl, hpe⟩ | h0
      · rw [hpl, hpe] at HP1
        rw [h0] at HK
        have HE1 := Aside0.mk (fun W A c (hC : Kd.C k32 W A l.length l) (hc : l.length ≤ c) (h : Below w.heap.size w W) => Equal_calls A0 A c0 c l l W (Kd.C_below HR0.out h) HCC.out hC hc (by have := HL17.out; omega))
        rw [eqLB_refl] at HE1
        clear h0 hpl hpe
        by_cases he : e2 = 0
        · have HE := Aside0.mk he
          have de : decide (e2 = 0) = true := decide_eq_true he
          have pe : (e2 == 0) = true := by simpa using he
          clear he
          go_enter Try.func3, Try.ntmps3
          go_wp2_with (first
            | (go_at_call 10; refine (HG.out _ _ rfl (by repeat (first | exact HB2.out | apply below_alloc | apply pw_below_drewN | apply below_drew))).mono ?_; rintro e w1 ⟨rfl, ⟨q, rfl⟩⟩)
            | (go_at_call 13; refine (HF.out _ (by repeat (first | exact HB2.out | apply below_alloc | apply pw_below_drewN | apply below_drew))).mono ?_; clear HF; rintro e w3 ⟨rfl, hb⟩; have n1_ := Aside0.mk ((show Below w.heap.size w _ by repeat (first | exact HB2.out | apply below_alloc | apply pw_below_drewN | apply below_drew)).trans (hb.mono (by have := HB2.out.size; simp; try omega))); clear HB2 hb; have HB2 := n1_; clear n1_)
            | (go_at_call 12; refine (HP1.out _).mono ?_; clear HP1; rintro e w4 ⟨v, rfl, hR, hb⟩; obtain ⟨A1, c1, rfl, hlc, hC⟩ := Kd.R_reads hR; have HC1 := Aside0.mk (And.intro hlc hC); have n0_ := Aside0.mk (Below.refl w4.heap.size w4); clear hR hlc hC; have n1_ := Aside0.mk ((show Below w.heap.size w _ by repeat (first | exact HB2.out | apply below_alloc | apply pw_below_drewN | apply below_drew)).trans (hb.mono (by have := HB2.out.size; simp; try omega))); clear HB2 hb; have HB2 := n1_; clear n1_; have HB4 := n0_; clear n0_)
            | (go_at_call 12; refine (HP2.out _).mono ?_; clear HP2; rintro e w7 ⟨v, rfl, hR, hb⟩; obtain ⟨A2, c2, rfl, hlc, hC⟩ := Kd.R_reads hR; have HC2 := Aside0.mk (And.intro hlc hC); have n0_ := Aside0.mk (Below.refl w7.heap.size w7); clear hR hlc hC; have n1_ := Aside0.mk ((show Below w.heap.size w _ by repeat (first | exact HB2.out | apply below_alloc | apply pw_below_drewN | apply below_drew)).trans (hb.mono (by have := HB2.out.size; simp; try omega))); clear HB2 hb; have HB2 := n1_; clear n1_; have HB7 := n0_; clear n0_)
            | (go_at_call 14; refine (HK.out _ (by repeat (first | exact HB2.out | apply below_alloc | apply pw_below_drewN | apply below_drew))).mono ?_; clear HK; rintro e w5 ⟨rfl, hb⟩; have n4_ := Aside0.mk ((show Below w4.heap.size w4 _ by repeat (first | exact HB4.out | apply below_alloc | apply pw_below_drewN | apply below_drew)).trans (hb.mono (by have := HB4.out.size; simp; try omega))); clear HB4; have HB4 := n4_; clear n4_; have n1_ := Aside0.mk ((show Below w.heap.size w _ by repeat (first | exact HB2.out | apply below_alloc | apply pw_below_drewN | apply below_drew)).trans (hb.mono (by have := HB2.out.size; simp; try omega))); clear HB2 hb; have HB2 := n1_; clear n1_)
            | (go_at_call 15; refine (HE1.out _ _ _ (Kd.C_below HC1.out.2 (by repeat (first | exact HB4.out | apply below_alloc | apply pw_below_drewN | apply below_drew))) HC1.out.1 (by repeat (first | exact HB2.out | apply below_alloc | apply pw_below_drewN | apply below_drew))).mono ?_; clear HE1; rintro e w6 ⟨rfl, ⟨q6, rfl⟩⟩)
            | (go_at_call 13; refine (hsp.out _ _ _ HE.out (Kd.C_below HC2.out.2 (by repeat (first | exact HB7.out | apply below_alloc | apply pw_below_drewN | apply below_drew))) HC2.out.1).mono ?_; clear hsp; rintro e w8 ⟨rfl, hb⟩; have n7_ := Aside0.mk ((show Below w7.heap.size w7 _ by repeat (first | exact HB7.out | apply below_alloc | apply pw_below_drewN | apply below_drew)).trans (hb.mono (by have := HB7.out.size; simp; try omega))); clear HB7; have HB7 := n7_; clear n7_; have n1_ := Aside0.mk ((show Below w.heap.size w _ by repeat (first | exact HB2.out | apply below_alloc | apply pw_below_drewN | apply below_drew)).trans (hb.mono (by have := HB2.out.size; simp; try omega))); clear HB2 hb; have HB2 := n1_; clear n1_)
            | (go_at_call 14; refine (hck.out _ _ _ HE.out (Kd.C_below HC2.out.2 (by repeat (first | exact HB7.out | apply below_alloc | apply pw_below_drewN | apply below_drew))) HC2.out.1).mono ?_; clear hck; rintro e w9 ⟨rfl, hb⟩; have n1_ := Aside0.mk ((show Below w.heap.size w _ by repeat (first | exact HB2.out | apply below_alloc | apply pw_below_drewN | apply below_drew)).trans (hb.mono (by have := HB2.out.size; simp; try omega))); clear HB2 hb; have HB2 := n1_; clear n1_)
            | (go_at_call 11; refine (HA.out _).mono ?_; rintro e w2 ⟨rfl, hb⟩; have n1_ := Aside0.mk ((show Below w.heap.size w _ by repeat (first | exact HB2.out | apply below_alloc | apply pw_below_drewN | apply below_drew)).trans (hb.mono (by have := HB2.out.size; simp; try omega))); clear HB2 hb; have HB2 := n1_; clear n1_))
          go_ret
          exact ⟨rfl, HB2.out⟩
        · have de : decide (e2 = 0) = false := decide_eq_false he
          have pe : (e2 == 0) = false := by simpa using he
          clear he
          go_enter Try.func3, Try.ntmps3
          go_wp2_with (first
            | (go_at_call 10; refine (HG.out _ _ rfl (by repeat (first | exact HB2.out | apply below_alloc | apply pw_below_drewN | apply below_drew))).mono ?_; rintro e w1 ⟨rfl, ⟨q, rfl⟩⟩)
            | (go_at_call 13; refine (HF.out _ (by repeat (first | exact HB2.out | apply below_alloc | apply pw_below_drewN | apply below_drew))).mono ?_; clear HF; rintro e w3 ⟨rfl, hb⟩; have n1_ := Aside0.mk ((show Below w.heap.size w _ by repeat (first | exact HB2.out | apply below_alloc | apply pw_below_drewN | apply below_drew)).trans (hb.mono (by have := HB2.out.size; simp; try omega))); clear HB2 hb; have HB2 := n1_; clear n1_)
            | (go_at_call 12; refine (HP1.out _).mono ?_; clear HP1; rintro e w4 ⟨v, rfl, hR, hb⟩; obtain ⟨A1, c1, rfl, hlc, hC⟩ := Kd.R_reads hR; have HC1 := Aside0.mk (And.intro hlc hC); have n0_ := Aside0.mk (Below.refl w4.heap.size w4); clear hR hlc hC; have n1_ := Aside0.mk ((show Below w.heap.size w _ by repeat (first | exact HB2.out | apply below_alloc | apply pw_below_drewN | apply below_drew)).trans (hb.mono (by have := HB2.out.size; simp; try omega))); clear HB2 hb; have HB2 := n1_; clear n1_; have HB4 := n0_; clear n0_)
            | (go_at_call 12; refine (HP2.out _).mono ?_; clear HP2; rintro e w7 ⟨v, rfl, hR, hb⟩; obtain ⟨A2, c2, rfl, hlc, hC⟩ := Kd.R_reads hR; have HC2 := Aside0.mk (And.intro hlc hC); have n0_ := Aside0.mk (Below.refl w7.heap.size w7); clear hR hlc hC; have n1_ := Aside0.mk ((show Below w.heap.size w _ by repeat (first | exact HB2.out | apply below_alloc | apply pw_below_drewN | apply below_drew)).trans (hb.mono (by have := HB2.out.size; simp; try omega))); clear HB2 hb; have HB2 := n1_; clear n1_; have HB7 := n0_; clear n0_)
            | (go_at_call 14; refine (HK.out _ (by repeat (first | exact HB2.out | apply below_alloc | apply pw_below_drewN | apply below_drew))).mono ?_; clear HK; rintro e w5 ⟨rfl, hb⟩; have n4_ := Aside0.mk ((show Below w4.heap.size w4 _ by repeat (first | exact HB4.out | apply below_alloc | apply pw_below_drewN | apply below_drew)).trans (hb.mono (by have := HB4.out.size; simp; try omega))); clear HB4; have HB4 := n4_; clear n4_; have n1_ := Aside0.mk ((show Below w.heap.size w _ by repeat (first | exact HB2.out | apply below_alloc | apply pw_below_drewN | apply below_drew)).trans (hb.mono (by have := HB2.out.size; simp; try omega))); clear HB2 hb; have HB2 := n1_; clear n1_)
            | (go_at_call 15; refine (HE1.out _ _ _ (Kd.C_below HC1.out.2 (by repeat (first | exact HB4.out | apply below_alloc | apply pw_below_drewN | apply below_drew))) HC1.out.1 (by repeat (first | exact HB2.out | apply below_alloc | apply pw_below_drewN | apply below_drew))).mono ?_; clear HE1; rintro e w6 ⟨rfl, ⟨q6, rfl⟩⟩)
            | (go_at_call 11; refine (HA.out _).mono ?_; rintro e w2 ⟨rfl, hb⟩; have n1_ := Aside0.mk ((show Below w.heap.size w _ by repeat (first | exact HB2.out | apply below_alloc | apply pw_below_drewN | apply below_drew)).trans (hb.mono (by have := HB2.out.size; simp; try omega))); clear HB2 hb; have HB2 := n1_; clear n1_))
          go_ret
          exact ⟨rfl, HB2.out⟩
      · have dk : decide (chk l = 0) = false := decide_eq_false h0
        have pk : (chk l == 0) = false := by simpa using h0
        generalize chk l = ck at *
        generalize prsL (fmtL l) = m1 at *
        generalize prsE (fmtL l) = e1 at *
        clear h0
        by_cases he : e2 = 0
        · have HE := Aside0.mk he
          have de : decide (e2 = 0) = true := decide_eq_true he
          have pe : (e2 == 0) = true := by simpa using he
          clear he
          go_enter Try.func3, Try.ntmps3
          go_wp2_with (first
            | (go_at_call 10; refine (HG.out _ _ rfl (by repeat (first | exact HB2.out | apply below_alloc | apply pw_below_drewN | apply below_drew))).mono ?_; rintro e w1 ⟨rfl, ⟨q, rfl⟩⟩)
            | (go_at_call 13; refine (HF.out _ (by repeat (first | exact HB2.out | apply below_alloc | apply pw_below_drewN | apply below_drew))).mono ?_; clear HF; rintro e w3 ⟨rfl, hb⟩; have n1_ := Aside0.mk ((show Below w.heap.size w _ by repeat (first | exact HB2.out | apply below_alloc | apply pw_below_drewN | apply below_drew)).trans (hb.mono (by have := HB2.out.size; simp; try omega))); clear HB2 hb; have HB2 := n1_; clear n1_)
            | (go_at_call 12; refine (HP1.out _).mono ?_; clear HP1; rintro e w4 ⟨v, rfl, hR, hb⟩; obtain ⟨A1, c1, rfl, hlc, hC⟩ := Kd.R_reads hR; have HC1 := Aside0.mk (And.intro hlc hC); have n0_ := Aside0.mk (Below.refl w4.heap.size w4); clear hR hlc hC; have n1_ := Aside0.mk ((show Below w.heap.size w _ by repeat (first | exact HB2.out | apply below_alloc | apply pw_below_drewN | apply below_drew)).trans (hb.mono (by have := HB2.out.size; simp; try omega))); clear HB2 hb; have HB2 := n1_; clear n1_; have HB4 := n0_; clear n0_)
            | (go_at_call 12; refine (HP2.out _).mono ?_; clear HP2; rintro e w7 ⟨v, rfl, hR, hb⟩; obtain ⟨A2, c2, rfl, hlc, hC⟩ := Kd.R_reads hR; have HC2 := Aside0.mk (And.intro hlc hC); have n0_ := Aside0.mk (Below.refl w7.heap.size w7); clear hR hlc hC; have n1_ := Aside0.mk ((show Below w.heap.size w _ by repeat (first | exact HB2.out | apply below_alloc | apply pw_below_drewN | apply below_drew)).trans (hb.mono (by have := HB2.out.size; simp; try omega))); clear HB2 hb; have HB2 := n1_; clear n1_; have HB7 := n0_; clear n0_)
            | (go_at_call 14; refine (HK.out _ (by repeat (first | exact HB2.out | apply below_alloc | apply pw_below_drewN | apply below_drew))).mono ?_; clear HK; rintro e w5 ⟨rfl, hb⟩; have n1_ := Aside0.mk ((show Below w.heap.size w _ by repeat (first | exact HB2.out | apply below_alloc | apply pw_below_drewN | apply below_drew)).trans (hb.mono (by have := HB2.out.size; simp; try omega))); clear HB2 hb; have HB2 := n1_; clear n1_)
            | (go_at_call 13; refine (hsp.out _ _ _ HE.out (Kd.C_below HC2.out.2 (by repeat (first | exact HB7.out | apply below_alloc | apply pw_below_drewN | apply below_drew))) HC2.out.1).mono ?_; clear hsp; rintro e w8 ⟨rfl, hb⟩; have n7_ := Aside0.mk ((show Below w7.heap.size w7 _ by repeat (first | exact HB7.out | apply below_alloc | apply pw_below_drewN | apply below_drew)).trans (hb.mono (by have := HB7.out.size; simp; try omega))); clear HB7; have HB7 := n7_; clear n7_; have n1_ := Aside0.mk ((show Below w.heap.size w _ by repeat (first | exact HB2.out | apply below_alloc | apply pw_below_drewN | apply below_drew)).trans (hb.mono (by have := HB2.out.size; simp; try omega))); clear HB2 hb; have HB2 := n1_; clear n1_)
            | (go_at_call 14; refine (hck.out _ _ _ HE.out (Kd.C_below HC2.out.2 (by repeat (first | exact HB7.out | apply below_alloc | apply pw_below_drewN | apply below_drew))) HC2.out.1).mono ?_; clear hck; rintro e w9 ⟨rfl, hb⟩; have n1_ := Aside0.mk ((show Below w.heap.size w _ by repeat (first | exact HB2.out | apply below_alloc | apply pw_below_drewN | apply below_drew)).trans (hb.mono (by have := HB2.out.size; simp; try omega))); clear HB2 hb; have HB2 := n1_; clear n1_)
            | (go_at_call 11; refine (HA.out _).mono ?_; rintro e w2 ⟨rfl, hb⟩; have n1_ := Aside0.mk ((show Below w.heap.size w _ by repeat (first | exact HB2.out | apply below_alloc | apply pw_below_drewN | apply below_drew)).trans (hb.mono (by have := HB2.out.size; simp; try omega))); clear HB2 hb; have HB2 := n1_; clear n1_))
          go_ret
          exact ⟨rfl, HB2.out⟩
        · have de : decide (e2 = 0) = false := decide_eq_false he
          have pe : (e2 == 0) = false := by simpa using he
          clear he
          go_enter Try.func3, Try.ntmps3
          go_wp2_with (first
            | (go_at_call 10; refine (HG.out _ _ rfl (by repeat (first | exact HB2.out | apply below_alloc | apply pw_below_drewN | apply below_drew))).mono ?_; rintro e w1 ⟨rfl, ⟨q, rfl⟩⟩)
            | (go_at_call 13; refine (HF.out _ (by repeat (first | exact HB2.out | apply below_alloc | apply pw_below_drewN | apply below_drew))).mono ?_; clear HF; rintro e w3 ⟨rfl, hb⟩; have n1_ := Aside0.mk ((show Below w.heap.size w _ by repeat (first | exact HB2.out | apply below_alloc | apply pw_below_drewN | apply below_drew)).trans (hb.mono (by have := HB2.out.size; simp; try omega))); clear HB2 hb; have HB2 := n1_; clear n1_)
            | (go_at_call 12; refine (HP1.out _).mono ?_; clear HP1; rintro e w4 ⟨v, rfl, hR, hb⟩; obtain ⟨A1, c1, rfl, hlc, hC⟩ := Kd.R_reads hR; have HC1 := Aside0.mk (And.intro hlc hC); have n0_ := Aside0.mk (Below.refl w4.heap.size w4); clear hR hlc hC; have n1_ := Aside0.mk ((show Below w.heap.size w _ by repeat (first | exact HB2.out | apply below_alloc | apply pw_below_drewN | apply below_drew)).trans (hb.mono (by have := HB2.out.size; simp; try omega))); clear HB2 hb; have HB2 := n1_; clear n1_; have HB4 := n0_; clear n0_)
            | (go_at_call 12; refine (HP2.out _).mono ?_; clear HP2; rintro e w7 ⟨v, rfl, hR, hb⟩; obtain ⟨A2, c2, rfl, hlc, hC⟩ := Kd.R_reads hR; have HC2 := Aside0.mk (And.intro hlc hC); have n0_ := Aside0.mk (Below.refl w7.heap.size w7); clear hR hlc hC; have n1_ := Aside0.mk ((show Below w.heap.size w _ by repeat (first | exact HB2.out | apply below_alloc | apply pw_below_drewN | apply below_drew)).trans (hb.mono (by have := HB2.out.size; simp; try omega))); clear HB2 hb; have HB2 := n1_; clear n1_; have HB7 := n0_; clear n0_)
            | (go_at_call 14; refine (HK.out _ (by repeat (first | exact HB2.out | apply below_alloc | apply pw_below_drewN | apply below_drew))).mono ?_; clear HK; rintro e w5 ⟨rfl, hb⟩; have n1_ := Aside0.mk ((show Below w.heap.size w _ by repeat (first | exact HB2.out | apply below_alloc | apply pw_below_drewN | apply below_drew)).trans (hb.mono (by have := HB2.out.size; simp; try omega))); clear HB2 hb; have HB2 := n1_; clear n1_)
            | (go_at_call 11; refine (HA.out _).mono ?_; rintro e w2 ⟨rfl, hb⟩; have n1_ := Aside0.mk ((show Below w.heap.size w _ by repeat (first | exact HB2.out | apply below_alloc | apply pw_below_drewN | apply below_drew)).trans (hb.mono (by have := HB2.out.size; simp; try omega))); clear HB2 hb; have HB2 := n1_; clear n1_))
          go_ret
          exact ⟨rfl, HB2.out⟩
    · have q1 : (300 < (s.size : Int)) = True := eq_true (by omega)
      clear hs
      go_enter Try.func3, Try.ntmps3
      go_wp2_with (first
        | (go_at_call 10; refine (HG.out _ _ rfl (by repeat (first | exact HB2.out | apply below_alloc | apply pw_below_drewN | apply below_drew))).mono ?_; rintro e w1 ⟨rfl, ⟨q, rfl⟩⟩)
        | (go_at_call 11; refine (HA.out _).mono ?_; rintro e w2 ⟨rfl, hb⟩; have n1_ := Aside0.mk ((show Below w.heap.size w _ by repeat (first | exact HB2.out | apply below_alloc | apply pw_below_drewN | apply below_drew)).trans (hb.mono (by have := HB2.out.size; simp; try omega))); clear HB2 hb; have HB2 := n1_; clear n1_))
      go_ret
      exact ⟨rfl, HB2.out⟩

theorem LabelsBack_row (w : World) (A0 : Option Addr) (l : L32) (c0 : Nat) (hr0 : Kd.C k32 w A0 l.length l) (hc0 : l.length ≤ c0) (_ : ∀ x ∈ l, x.f0.size ≤ maxLen ∧ x.f1.size ≤ maxLen) (s : ByteArray) (_ : s.size ≤ maxLen) :
    Calls Try.prog 3 #[.slice A0 l.length c0, .string s] w fun e w' => e = .returned (.bool true) ∧ Below w.heap.size w w' := LabelsBack_walk w A0 l c0 hr0 hc0 s
end Go.Proofs.Ytiooenmbondflaa.H
