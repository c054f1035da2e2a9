/- The walk of LabelsHash. -/
import Derived.Test.YtiooenmbondflaaHGreat
namespace Go.Proofs.Ytiooenmbondflaa.H
open Go Go.RowKit Go.Proofs.YtiooenmbondflaaW.PrintWords Go.Proofs.YtiooenmbondflaaW.PrintLast Go.Proofs.YtiooenmbondflaaW.PrintMore Go.Proofs.Ytiooenmbondflaa.PAll
set_option linter.unusedVariables false
set_option linter.unusedSimpArgs false

theorem ab_cat (s : ByteArray) (c : UInt8) : ab (s ++ ofB [c]) = ab s ++ [c] := by
  rw [← ofB_ab s, ofB_append, ab_ofB, ab_ofB]

set_option maxRecDepth 100000 in
set_option maxHeartbeats 8000000 in
theorem LabelsHash_walk (w : World) (s : ByteArray) (c : UInt8) (A0 : Option Addr) (l : L32) (c0 : Nat) (hr0 : Kd.C k32 w A0 l.length l) (hc0 : l.length ≤ c0) :
    Calls Try.prog 6 #[.string s, .int .u8 (c.toNat : Int), .slice A0 l.length c0] w fun e w' => e = .returned (.bool true) ∧ Below w.heap.size w w' := by
  have HG := Aside0.mk (fun W n hn (h : Below w.heap.size w W) => great1 W n hn A0 c0 l (Kd.C_below hr0 h) hc0)
  have HR0 := Aside0.mk hr0
  have HCC := Aside0.mk hc0
  clear hr0 hc0
  by_cases hs : s.size ≤ 300
  · have d1 : decide (300 < s.size) = false := decide_eq_false (by omega)
    have q1 : (300 < (s.size : Int)) = False := eq_false (by omega)
    have HS := Aside0.mk hs
    clear hs
    cases hg : greatB l with
    | true =>
      rw [hg] at HG
      have HA := Aside0.mk (fun W => awake_calls W)
      clear hg
      go_enter Try.func6, Try.ntmps6
      go_wp2_with (first
        | (go_at_call 10; refine (HG.out _ _ rfl (by repeat (first | exact Below.refl _ _ | apply below_alloc | apply pw_below_drewN))).mono ?_; rintro e w1 ⟨rfl, ⟨q, rfl⟩⟩)
        | (go_at_call 11; refine (HA.out _).mono ?_; rintro e w2 ⟨rfl, hb⟩; have HB := Aside0.mk ((show Below w.heap.size w _ by repeat (first | exact Below.refl _ _ | apply below_alloc | apply pw_below_drewN)).trans (hb.mono (by simp))); clear hb))
      go_ret
      exact ⟨rfl, HB.out⟩
    | false =>
      obtain ⟨hl17, _, hSz⟩ := small_of hg
      rw [hg] at HG
      have HA := Aside0.mk (fun W => awake_calls W)
      have HF := Aside0.mk (fun W (h : Below w.heap.size w W) => Format_calls A0 c0 l W (Kd.C_below HR0.out h) HCC.out (by omega) hSz)
      have HH := Aside0.mk (fun W (h : Below w.heap.size w W) => Hash_calls A0 c0 l W (Kd.C_below HR0.out h) HCC.out (by omega) hSz)
      have HT1 := Aside0.mk (fun W => HashString_calls s W (by have := HS.out; omega))
      have HT2 := Aside0.mk (fun W => HashString_calls (s ++ ofB [c]) W (by have := HS.out; rw [← ab_length, ab_cat, List.length_append, ab_length]; simp; omega))
      have HT3 := Aside0.mk (fun W => HashString_calls (ofB (fmtL l)) W (by
        have := bodyT_len 1000 l true hSz
        have : l.length * (3 * 1000 + 4) ≤ 17 * 3004 := Nat.mul_le_mul_right _ hl17
        rw [ofB_size]; simp [fmtL]; omega))
      rw [ab_ofB] at HT3
      rw [ab_cat, hsh_snoc] at HT2
      have hr1 := hsh_range (ab s)
      obtain ⟨h2, hst⟩ : ∃ h2, hstep (hsh (ab s)) c = h2 := ⟨_, rfl⟩
      rw [hst] at HT2
      generalize hsh (ab s) = h1 at *
      have hst2 : (Go.bits .xor .u32 h1 ((c.toNat : Int) % 4294967296) * 16777619) % 4294967296 = h2 := hst
      have hr2 : 0 ≤ h2 ∧ h2 < 4294967296 := by rw [← hst2]; omega
      clear hst
      generalize hhf : hsh (fmtL l) = h3 at *
      have kcv : ∀ (m : Nat), (convert 41 9 (.slice (some ⟨w.heap.size + 1, 0, none⟩) 1 1)).run Try.prog (((w.alloc (.cells #[.slice A0 l.length c0] 22)).drewN m).alloc (.cells #[.int .u8 (c.toNat : Int)] 5)) = .ok (.string (ofB [c])) (((w.alloc (.cells #[.slice A0 l.length c0] 22)).drewN m).alloc (.cells #[.int .u8 (c.toNat : Int)] 5)) := by
        intro m
        rw [← str_ints]
        refine Kd.C_string Try.underlying41 Try.underlying5 Try.underlying9 ?_
        refine ⟨rfl, by simp, fun _ => ⟨_, rfl, fun j p hj => ?_⟩⟩
        rcases j with _ | j
        · simp [ints] at hj; subst hj
          refine ⟨[.int .u8 (c.toNat : Int)], rfl, rfl, fun i u hu => ?_⟩
          rcases i with _ | i
          · simp at hu; subst hu
            rw [add_plain]
            exact cell_of_heap (heap_alloc_at (by simp)) _ _ (by simp [Kd.int, Kd.scalar])
          · simp at hu
        · simp [ints] at hj
      have hcat : (9223372036854775807 < s.size + (ofB [c]).size) = False := eq_false (by have := HS.out; rw [ofB_size]; simp; omega)
      have HB2 := Aside0.mk (Below.refl w.heap.size w)
      clear hg hl17 hSz
      have hmo : Try.prog.follows .mixedOrders = true := by kernel_rfl
      go_enter Try.func6, Try.ntmps6
      go_wp2_with (first
        | (go_at_call 10; refine (HG.out _ _ rfl (by repeat (first | exact Below.refl _ _ | apply below_alloc | apply pw_below_drewN))).mono ?_; rintro e w1 ⟨rfl, ⟨q, rfl⟩⟩)
        | (go_at_call 20; first | (with_reducible refine (HT1.out _).mono ?_; rintro e w2 ⟨rfl, ⟨q2, rfl⟩⟩) | (with_reducible refine (HT2.out _).mono ?_; rintro e w2 ⟨rfl, ⟨q4, rfl⟩⟩) | (with_reducible refine (HT3.out _).mono ?_; rintro e w2 ⟨rfl, ⟨q5, rfl⟩⟩))
        | (go_at_call 18; refine (HH.out _ (by repeat (first | exact HB2.out | apply below_alloc | apply pw_below_drewN | apply below_drew))).mono ?_; rintro e w3 ⟨rfl, hb⟩; have n1_ := Aside0.mk ((show Below w.heap.size w _ by repeat (first | exact HB2.out | apply below_alloc | apply pw_below_drewN | apply below_drew)).trans (hb.mono (by simp; try omega))); clear HB2 hb; have HB2 := n1_; clear n1_)
        | (go_at_call 13; refine (HF.out _ (by repeat (first | exact HB2.out | apply below_alloc | apply pw_below_drewN | apply below_drew))).mono ?_; rintro e w3 ⟨rfl, hb⟩; have n1_ := Aside0.mk ((show Below w.heap.size w _ by repeat (first | exact HB2.out | apply below_alloc | apply pw_below_drewN | apply below_drew)).trans (hb.mono (by have := HB2.out.size; simp; try omega))); clear HB2 hb; have HB2 := n1_; clear n1_)
        | (go_at_call 11; refine (HA.out _).mono ?_; rintro e w2 ⟨rfl, hb⟩; have n1_ := Aside0.mk ((show Below w.heap.size w _ by repeat (first | exact HB2.out | apply below_alloc | apply pw_below_drewN | apply below_drew)).trans (hb.mono (by have := HB2.out.size; simp; try omega))); clear HB2 hb; have HB2 := n1_; clear n1_))
      go_ret
      exact ⟨rfl, HB2.out⟩
  · have q1 : (300 < (s.size : Int)) = True := eq_true (by omega)
    have d1 : decide (300 < s.size) = true := decide_eq_true (by omega)
    clear hs
    have HA := Aside0.mk (fun W => awake_calls W)
    go_enter Try.func6, Try.ntmps6
    go_wp2_with (go_at_call 11; refine (HA.out _).mono ?_; rintro e w2 ⟨rfl, hb⟩; have HB := Aside0.mk ((show Below w.heap.size w _ by repeat (first | exact Below.refl _ _ | apply below_alloc | apply pw_below_drewN)).trans (hb.mono (by simp))); clear hb)
    go_ret
    exact ⟨rfl, HB.out⟩

theorem LabelsHash_row (w : World) (s : ByteArray) (_ : s.size ≤ maxLen) (c : Int) (hc : (Lit.int .u8 c).wf = true) (A0 : Option Addr) (l : L32) (c0 : Nat) (hr0 : Kd.C k32 w A0 l.length l) (hc0 : l.length ≤ c0) (_ : ∀ x ∈ l, x.f0.size ≤ maxLen ∧ x.f1.size ≤ maxLen) :
    Calls Try.prog 6 #[.string s, .int .u8 c, .slice A0 l.length c0] w fun e w' => e = .returned (.bool true) ∧ Below w.heap.size w w' := by
  have hh' : IntKind.u8.min ≤ c ∧ c ≤ IntKind.u8.max := by simpa [Lit.wf] using hc
  have hh0 : 0 ≤ c := hh'.1
  have hh1 : c ≤ 255 := hh'.2
  have h := LabelsHash_walk w s (UInt8.ofNat c.toNat) A0 l c0 hr0 hc0
  have e : (((UInt8.ofNat c.toNat).toNat : Nat) : Int) = c := by simp; omega
  rw [e] at h
  exact h
end Go.Proofs.Ytiooenmbondflaa.H
