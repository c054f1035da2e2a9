/- The walk of LabelsText. -/
import Derived.Test.YtiooenmbondflaaHBack
namespace Go.Proofs.Ytiooenmbondflaa.H
open Go Go.RowKit Go.Proofs.YtiooenmbondflaaW.PrintWords Go.Proofs.YtiooenmbondflaaW.PrintLast Go.Proofs.YtiooenmbondflaaW.PrintMore Go.Proofs.Ytiooenmbondflaa.PAll
set_option linter.unusedVariables false
set_option linter.unusedSimpArgs false

theorem rParse_f (s : ByteArray) (hs : s.size ≤ 90000) : lookoutref05_Parse.f (20 * s.size + 100) s = some (prsL (ab s), prsE (ab s)) := by
  have hl := ab_length s
  obtain ⟨r, h1, h2, h3⟩ := list_f s hs (20 * s.size + 100) (by omega)
  unfold lookoutref05_Parse.f prsL prsE
  rw [h1]
  simp only [Option.bind_some]
  cases hp : parseT (ab s) with
  | none =>
    rw [hp] at h2
    rw [if_neg (by rw [h2]; decide)]
  | some l =>
    rw [hp] at h2
    rw [if_pos (by rw [h2]; rfl), h3 l hp]
    obtain ⟨h4, h5⟩ := parseT_sz hp
    rw [rCheck_f l (ab s).length _ (by omega) (by omega) h5 (by omega)]
    simp only [Option.bind_some]
    by_cases hc : chk l = 0
    · rw [if_pos hc]
      show _ = some (if _ then _ else _, _)
      rw [if_pos hc, hc]
    · rw [if_neg hc]
      show _ = some (if _ then _ else _, _)
      rw [if_neg hc]
theorem rParse_calls (s : ByteArray) (w : World) (hs : s.size ≤ 90000) :
    Calls Try.prog 16 #[.string s] w fun e w' => ∃ v, e = .returned (.tuple #[v, .int .i64 (prsE (ab s))]) ∧ Kd.R k32 32 w' w.heap.size (fun _ => True) v (prsL (ab s)) ∧ Below w.heap.size w w' :=
  lookoutref05_Parse.calls _ s _ _ w (rParse_f s hs)
theorem rFormat_calls (A0 : Option Addr) (c0 : Nat) (l : L32) (w : World) (hr0 : Kd.C k32 w A0 l.length l) (hc0 : l.length ≤ c0) (hl : l.length ≤ 1000) (hS : Sz 1000 l) :
    Calls Try.prog 17 #[.slice A0 l.length c0] w fun e w' => e = .returned (.string (ofB (fmtL l))) ∧ Below w.heap.size w w' :=
  lookoutref05_Format.calls 3000 A0 c0 l _ w hr0 hc0 (rFormat_f l 3000 hl hS (by omega))
theorem rHash_calls (A0 : Option Addr) (c0 : Nat) (l : L32) (w : World) (hr0 : Kd.C k32 w A0 l.length l) (hc0 : l.length ≤ c0) (hl : l.length ≤ 1000) (hS : Sz 1000 l) :
    Calls Try.prog 19 #[.slice A0 l.length c0] w fun e w' => e = .returned (.int .i64 (hsh (fmtL l))) ∧ Below w.heap.size w w' :=
  lookoutref05_Hash.calls (4000000 + 3000) A0 c0 l _ w hr0 hc0 (by
    have hb := bodyT_len 1000 l true hS
    have hm : l.length * (3 * 1000 + 4) ≤ 1000 * 3004 := Nat.mul_le_mul_right _ hl
    have hz : (ofB (fmtL l)).size ≤ 3004002 := by rw [ofB_size]; simp [fmtL]; omega
    unfold lookoutref05_Hash.f
    rw [rFormat_f l _ hl hS (by omega)]
    simp only [Option.bind_some]
    rw [rHashString_f _ _ (by omega) (by omega), ab_ofB, hsh_wrap]
    rfl)
theorem rHashString_calls (s : ByteArray) (w : World) (hs : s.size ≤ 1000000) : Calls Try.prog 21 #[.string s] w fun e w' => e = .returned (.int .i64 (hsh (ab s))) ∧ Drawn0 w w' :=
  lookoutref05_HashString.calls (s.size + 1) s (hsh (ab s)) w (by rw [rHashString_f s _ (by omega) (by omega), hsh_wrap])

set_option maxRecDepth 100000 in
set_option maxHeartbeats 8000000 in
theorem LabelsText_row (w : World) (A0 : Option Addr) (l : L32) (c0 : Nat) (hr0 : Kd.C k32 w A0 l.length l) (hc0 : l.length ≤ c0) (_ : ∀ x ∈ l, x.f0.size ≤ maxLen ∧ x.f1.size ≤ maxLen) (s : ByteArray) (_ : s.size ≤ maxLen) :
    Calls Try.prog 4 #[.slice A0 l.length c0, .string s] w fun e w' => e = .returned (.bool true) ∧ Below w.heap.size w w' := by
  have HG := Aside0.mk (fun W n hn (h : Below w.heap.size w W) => great1 W n hn A0 c0 l (Kd.C_below hr0 h) hc0)
  have HR0 := Aside0.mk hr0
  have HCC := Aside0.mk hc0
  have HA := Aside0.mk (fun W => awake_calls W)
  have HB2 := Aside0.mk (Below.refl w.heap.size w)
  clear hr0 hc0
  cases hg : greatB l with
  | true =>
    rw [hg] at HG
    clear hg
    go_enter Try.func4, Try.ntmps4
    go_wp2_with (first
      | (go_at_call 10; refine (HG.out _ _ rfl (by repeat (first | exact HB2.out | apply below_alloc | apply pw_below_drewN | apply below_drew))).mono ?_; rintro e w1 ⟨rfl, ⟨q, rfl⟩⟩)
      | (go_at_call 11; refine (HA.out _).mono ?_; rintro e w2 ⟨rfl, hb⟩; have n1_ := Aside0.mk ((show Below w.heap.size w _ by repeat (first | exact HB2.out | apply below_alloc | apply pw_below_drewN | apply below_drew)).trans (hb.mono (by have := HB2.out.size; simp; try omega))); clear HB2; have HB2 := n1_; clear n1_; clear hb))
    go_ret
    exact ⟨rfl, HB2.out⟩
  | false =>
    obtain ⟨hl17, _, hSz⟩ := small_of hg
    rw [hg] at HG
    clear hg
    by_cases hs : s.size ≤ 300
    · have q1 : (300 < (s.size : Int)) = False := eq_false (by omega)
      have HF := Aside0.mk (fun W (h : Below w.heap.size w W) => Format_calls A0 c0 l W (Kd.C_below HR0.out h) HCC.out (by omega) hSz)
      have HRF := Aside0.mk (fun W (h : Below w.heap.size w W) => rFormat_calls A0 c0 l W (Kd.C_below HR0.out h) HCC.out (by omega) hSz)
      have HH := Aside0.mk (fun W (h : Below w.heap.size w W) => Hash_calls A0 c0 l W (Kd.C_below HR0.out h) HCC.out (by omega) hSz)
      have HRH := Aside0.mk (fun W (h : Below w.heap.size w W) => rHash_calls A0 c0 l W (Kd.C_below HR0.out h) HCC.out (by omega) hSz)
      have HT1 := Aside0.mk (fun W => HashString_calls s W (by omega))
      have HT2 := Aside0.mk (fun W => rHashString_calls s W (by omega))
      have HP1 := Aside0.mk (fun W => Parse_calls s W (by omega))
      have HP2 := Aside0.mk (fun W => rParse_calls s W (by omega))
      obtain ⟨hm1, hm2⟩ := prsL_sz (s := ab s) (by rw [ab_length]; omega)
      have HE1 := Aside0.mk (fun W A c A' c' (h1 : Kd.C k32 W A (prsL (ab s)).length (prsL (ab s))) (h2 : (prsL (ab s)).length ≤ c) (h3 : Kd.C k32 W A' (prsL (ab s)).length (prsL (ab s))) (h4 : (prsL (ab s)).length ≤ c') => Equal_calls A A' c c' (prsL (ab s)) (prsL (ab s)) W h1 h2 h3 h4 (by omega))
      rw [eqLB_refl] at HE1
      generalize hsh (ab s) = n1 at *
      generalize hsh (fmtL l) = n2 at *
      generalize ofB (fmtL l) = t1 at *
      generalize prsL (ab s) = m at *
      generalize prsE (ab s) = e2 at *
      clear hs hm1 hm2 hl17 hSz
      go_enter Try.func4, Try.ntmps4
      go_wp2_with (first
        | (go_at_call 10; refine (HG.out _ _ rfl (by repeat (first | exact HB2.out | apply below_alloc | apply pw_below_drewN | apply below_drew))).mono ?_; rintro e w1 ⟨rfl, ⟨q, rfl⟩⟩)
        | (go_at_call 12; refine (HP1.out _).mono ?_; clear HP1; rintro e w4 ⟨v, rfl, hR, hb⟩; obtain ⟨A1, c1, rfl, hlc, hC⟩ := Kd.R_reads hR; have HC1 := Aside0.mk (And.intro hlc hC); have Bw4 := Aside0.mk (Below.refl w4.heap.size w4); clear hR hlc hC; have n1_ := Aside0.mk ((show Below w.heap.size w _ by repeat (first | exact HB2.out | apply below_alloc | apply pw_below_drewN | apply below_drew)).trans (hb.mono (by have := HB2.out.size; simp; try omega))); clear HB2; have HB2 := n1_; clear n1_; clear hb)
        | (go_at_call 16; refine (HP2.out _).mono ?_; clear HP2; rintro e w5 ⟨v, rfl, hR, hb⟩; obtain ⟨A2, c2, rfl, hlc, hC⟩ := Kd.R_reads hR; have n2_ := Aside0.mk ((show Below w4.heap.size w4 _ by repeat (first | exact Bw4.out | apply below_alloc | apply pw_below_drewN | apply below_drew)).trans (hb.mono (by have := Bw4.out.size; simp; try omega))); clear Bw4; have Bw4 := n2_; clear n2_; have HC2 := Aside0.mk (And.intro (Kd.C_below HC1.out.2 Bw4.out) hC); have HL2 := Aside0.mk (And.intro HC1.out.1 hlc); have Bw5 := Aside0.mk (Below.refl w5.heap.size w5); clear hR hlc hC HC1 Bw4; have n1_ := Aside0.mk ((show Below w.heap.size w _ by repeat (first | exact HB2.out | apply below_alloc | apply pw_below_drewN | apply below_drew)).trans (hb.mono (by have := HB2.out.size; simp; try omega))); clear HB2; have HB2 := n1_; clear n1_; clear hb)
        | (go_at_call 13; refine (HF.out _ (by repeat (first | exact HB2.out | apply below_alloc | apply pw_below_drewN | apply below_drew))).mono ?_; clear HF; rintro e w6 ⟨rfl, hb⟩; (try (have n2_ := Aside0.mk ((show Below w5.heap.size w5 _ by repeat (first | exact Bw5.out | apply below_alloc | apply pw_below_drewN | apply below_drew)).trans (hb.mono (by have := Bw5.out.size; simp; try omega))); clear Bw5; have Bw5 := n2_; clear n2_)); have n1_ := Aside0.mk ((show Below w.heap.size w _ by repeat (first | exact HB2.out | apply below_alloc | apply pw_below_drewN | apply below_drew)).trans (hb.mono (by have := HB2.out.size; simp; try omega))); clear HB2; have HB2 := n1_; clear n1_; clear hb)
        | (go_at_call 17; refine (HRF.out _ (by repeat (first | exact HB2.out | apply below_alloc | apply pw_below_drewN | apply below_drew))).mono ?_; clear HRF; rintro e w7 ⟨rfl, hb⟩; (try (have n2_ := Aside0.mk ((show Below w5.heap.size w5 _ by repeat (first | exact Bw5.out | apply below_alloc | apply pw_below_drewN | apply below_drew)).trans (hb.mono (by have := Bw5.out.size; simp; try omega))); clear Bw5; have Bw5 := n2_; clear n2_)); have n1_ := Aside0.mk ((show Below w.heap.size w _ by repeat (first | exact HB2.out | apply below_alloc | apply pw_below_drewN | apply below_drew)).trans (hb.mono (by have := HB2.out.size; simp; try omega))); clear HB2; have HB2 := n1_; clear n1_; clear hb)
        | (go_at_call 15; refine (HE1.out _ _ _ _ _ (Kd.C_below HC2.out.1 (show Below w5.heap.size w5 _ by repeat (first | exact Bw5.out | apply below_alloc | apply pw_below_drewN | apply below_drew))) HL2.out.1 (Kd.C_below HC2.out.2 (show Below w5.heap.size w5 _ by repeat (first | exact Bw5.out | apply below_alloc | apply pw_below_drewN | apply below_drew))) HL2.out.2).mono ?_; clear HE1 HC2 Bw5; rintro e w10 ⟨rfl, ⟨q10, rfl⟩⟩)
        | (go_at_call 18; refine (HH.out _ (by repeat (first | exact HB2.out | apply below_alloc | apply pw_below_drewN | apply below_drew))).mono ?_; clear HH; rintro e w8 ⟨rfl, hb⟩; (try (have n2_ := Aside0.mk ((show Below w5.heap.size w5 _ by repeat (first | exact Bw5.out | apply below_alloc | apply pw_below_drewN | apply below_drew)).trans (hb.mono (by have := Bw5.out.size; simp; try omega))); clear Bw5; have Bw5 := n2_; clear n2_)); have n1_ := Aside0.mk ((show Below w.heap.size w _ by repeat (first | exact HB2.out | apply below_alloc | apply pw_below_drewN | apply below_drew)).trans (hb.mono (by have := HB2.out.size; simp; try omega))); clear HB2; have HB2 := n1_; clear n1_; clear hb)
        | (go_at_call 19; refine (HRH.out _ (by repeat (first | exact HB2.out | apply below_alloc | apply pw_below_drewN | apply below_drew))).mono ?_; clear HRH; rintro e w9 ⟨rfl, hb⟩; (try (have n2_ := Aside0.mk ((show Below w5.heap.size w5 _ by repeat (first | exact Bw5.out | apply below_alloc | apply pw_below_drewN | apply below_drew)).trans (hb.mono (by have := Bw5.out.size; simp; try omega))); clear Bw5; have Bw5 := n2_; clear n2_)); have n1_ := Aside0.mk ((show Below w.heap.size w _ by repeat (first | exact HB2.out | apply below_alloc | apply pw_below_drewN | apply below_drew)).trans (hb.mono (by have := HB2.out.size; simp; try omega))); clear HB2; have HB2 := n1_; clear n1_; clear hb)
        | (go_at_call 20; refine (HT1.out _).mono ?_; rintro e w11 ⟨rfl, ⟨q11, rfl⟩⟩)
        | (go_at_call 21; refine (HT2.out _).mono ?_; rintro e w12 ⟨rfl, ⟨q12, rfl⟩⟩)
        | (go_at_call 11; refine (HA.out _).mono ?_; rintro e w2 ⟨rfl, hb⟩; have n1_ := Aside0.mk ((show Below w.heap.size w _ by repeat (first | exact HB2.out | apply below_alloc | apply pw_below_drewN | apply below_drew)).trans (hb.mono (by have := HB2.out.size; simp; try omega))); clear HB2; have HB2 := n1_; clear n1_; clear hb))
      go_ret
      exact ⟨rfl, HB2.out⟩
    · have q1 : (300 < (s.size : Int)) = True := eq_true (by omega)
      clear hs
      go_enter Try.func4, Try.ntmps4
      go_wp2_with (first
        | (go_at_call 10; refine (HG.out _ _ rfl (by repeat (first | exact HB2.out | apply below_alloc | apply pw_below_drewN | apply below_drew))).mono ?_; rintro e w1 ⟨rfl, ⟨q, rfl⟩⟩)
        | (go_at_call 11; refine (HA.out _).mono ?_; rintro e w2 ⟨rfl, hb⟩; have n1_ := Aside0.mk ((show Below w.heap.size w _ by repeat (first | exact HB2.out | apply below_alloc | apply pw_below_drewN | apply below_drew)).trans (hb.mono (by have := HB2.out.size; simp; try omega))); clear HB2; have HB2 := n1_; clear n1_; clear hb))
      go_ret
      exact ⟨rfl, HB2.out⟩
end Go.Proofs.Ytiooenmbondflaa.H
