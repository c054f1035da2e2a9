/- The contracts of series.Remove and slices.Contains. -/
import Derived.Test.YtjgkcgfbkcbjfaaSPlain
namespace Go.Proofs.Ytjgkcgfbkcbjfaa.H
open Go Go.RowKit Go.Proofs.YtjgkcgfbkcbjfaaW.PrintWords Go.Proofs.YtjgkcgfbkcbjfaaW.PrintLast Go.Proofs.YtjgkcgfbkcbjfaaW.PrintMore Go.Proofs.Ytjgkcgfbkcbjfaa.PAll
set_option linter.unusedVariables false
set_option linter.unusedSimpArgs false

set_option maxRecDepth 100000 in
set_option maxHeartbeats 8000000 in
theorem Remove_S (A : Option Addr) (c : Nat) (l : L29) (t : Int) (w : World) (hr : Kd.C k29 w A l.length l) (hc : l.length ≤ c) (hl : l.length ≤ 1000000) :
    Calls Try.prog 23 #[.slice A l.length c, .int .i64 t] w (RT w (remS l t).1 (remS l t).2) := by
  have HCK := Aside0.mk (fun W (h : Below w.heap.size w W) => Check_calls 1 A c l W (Kd.C_below hr h) hc hl)
  have HB2 := Aside0.mk (Below.refl w.heap.size w)
  by_cases h1 : chkK 1 l = 0
  · rw [h1] at HCK
    have hasc : Asc l := ((chkK_iff 1 l).1 h1).2.2.2
    have HFD := Aside0.mk (fun W (h : Below w.heap.size w W) => find_calls A c l t W (Kd.C_below hr h) hc hl hasc)
    by_cases h3 : hasT l t = true
    · have hlt : plc l t < l.length := by
        unfold hasT at h3
        rcases Nat.lt_or_ge (plc l t) l.length with h | h
        · exact h
        · rw [List.getElem?_eq_none h] at h3; cases h3
      have HF : remS l t = (delL l (plc l t), 0) := by unfold remS; rw [if_pos h1, if_pos h3]
      rw [HF]
      rw [h3] at HFD
      have HCL := Aside0.mk (fun W (h : Below w.heap.size w W) => Clone_calls A c l W (Kd.C_below hr h) hc (by omega))
      clear hr h1 h3 hasc HF
      generalize plc l t = p at *
      have HDL := Aside0.mk (fun v W (ho : W.ownsRow w.heap.size 29 2 v l.length (lcells l)) => Delete_calls w.heap.size p v l W hlt (by omega) ho)
      have hw1 : IntKind.i64.wrap ((p : Int) + 1) = (p : Int) + 1 := by rw [IntKind.wrap_i64]; omega
      generalize delL l p = d at *
      go_enter Try.func23, Try.ntmps23
      go_wp2_with (first
        | (go_at_call 15; refine (HCK.out _ (by repeat (first | exact HB2.out | apply below_alloc | apply pw_below_drewN | apply below_drew))).mono ?_; rintro e w1 ⟨rfl, hb⟩; have n1_ := Aside0.mk ((show Below w.heap.size w _ by repeat (first | exact HB2.out | apply below_alloc | apply pw_below_drewN | apply below_drew)).trans (hb.mono (by have := HB2.out.size; simp; try omega))); clear HB2; have HB2 := n1_; clear n1_; clear hb)
        | (go_at_call 39; refine (HFD.out _ (by repeat (first | exact HB2.out | apply below_alloc | apply pw_below_drewN | apply below_drew))).mono ?_; rintro e w3 ⟨rfl, hb⟩; have n1_ := Aside0.mk ((show Below w.heap.size w _ by repeat (first | exact HB2.out | apply below_alloc | apply pw_below_drewN | apply below_drew)).trans (hb.mono (by have := HB2.out.size; simp; try omega))); clear HB2; have HB2 := n1_; clear n1_; clear hb)
        | (go_at_call 41; refine (HCL.out _ (by repeat (first | exact HB2.out | apply below_alloc | apply pw_below_drewN | apply below_drew))).mono ?_; rintro e w5 ⟨v5, rfl, hO, hb⟩; have HO := Aside0.mk (own_less hO (HB2.out.size)); have n1_ := Aside0.mk ((show Below w.heap.size w _ by repeat (first | exact HB2.out | apply below_alloc | apply pw_below_drewN | apply below_drew)).trans (hb.mono (by have := HB2.out.size; simp; try omega))); clear HB2; have HB2 := n1_; clear n1_; clear hb hO)
        | (go_at_call 42; refine (HDL.out _ _ HO.out).mono ?_; rintro e w6 ⟨v6, rfl, hb, hO6⟩; have HO6 := Aside0.mk hO6; have HB6 := Aside0.mk (HB2.out.trans hb); clear hb hO6))
      go_ret2
      exact ⟨_, rfl, R_of_lcells HO6.out, HB6.out⟩
    · have HF : remS l t = ([], 7) := by unfold remS; rw [if_pos h1, if_neg h3]
      have h3' : hasT l t = false := by simpa using h3
      rw [h3'] at HFD
      rw [HF]
      clear hr h1 h3 h3' hasc HF
      generalize plc l t = p at *
      go_enter Try.func23, Try.ntmps23
      go_wp2_with (first
        | (go_at_call 15; refine (HCK.out _ (by repeat (first | exact HB2.out | apply below_alloc | apply pw_below_drewN | apply below_drew))).mono ?_; rintro e w1 ⟨rfl, hb⟩; have n1_ := Aside0.mk ((show Below w.heap.size w _ by repeat (first | exact HB2.out | apply below_alloc | apply pw_below_drewN | apply below_drew)).trans (hb.mono (by have := HB2.out.size; simp; try omega))); clear HB2; have HB2 := n1_; clear n1_; clear hb)
        | (go_at_call 39; refine (HFD.out _ (by repeat (first | exact HB2.out | apply below_alloc | apply pw_below_drewN | apply below_drew))).mono ?_; rintro e w3 ⟨rfl, hb⟩; have n1_ := Aside0.mk ((show Below w.heap.size w _ by repeat (first | exact HB2.out | apply below_alloc | apply pw_below_drewN | apply below_drew)).trans (hb.mono (by have := HB2.out.size; simp; try omega))); clear HB2; have HB2 := n1_; clear n1_; clear hb))
      go_ret2
      exact RT_nil HB2.out
  · have HF : remS l t = ([], 1) := by unfold remS; rw [if_neg h1]
    have dc : (chkK 1 l == 0) = false := by simpa using h1
    have dc2 : (chkK 1 l != 0) = true := by simpa using h1
    rw [HF]
    generalize chkK 1 l = ck at *
    clear hr h1 HF
    go_enter Try.func23, Try.ntmps23
    go_wp2_with (first
      | (go_at_call 15; refine (HCK.out _ (by repeat (first | exact HB2.out | apply below_alloc | apply pw_below_drewN | apply below_drew))).mono ?_; rintro e w1 ⟨rfl, hb⟩; have n1_ := Aside0.mk ((show Below w.heap.size w _ by repeat (first | exact HB2.out | apply below_alloc | apply pw_below_drewN | apply below_drew)).trans (hb.mono (by have := HB2.out.size; simp; try omega))); clear HB2; have HB2 := n1_; clear n1_; clear hb))
    go_ret2
    exact RT_nil HB2.out

/-- Is a sample in a list? -/
def memB (l : L29) (x : S29) : Bool := l.any fun z => x.f0 == z.f0 && (x.f1 == z.f1)
theorem memB_iff (l : L29) (x : S29) : memB l x = true ↔ x ∈ l := by
  unfold memB
  simp only [List.any_eq_true, Bool.and_eq_true, beq_iff_eq]
  constructor
  · rintro ⟨z, hz, h0, h1⟩; rw [S_ext h0 h1]; exact hz
  · intro h; exact ⟨x, h, rfl, rfl⟩
theorem Index_l0 (l : L29) (x : S29) (hl : l.length ≤ 4611686018427387904) : ∀ (n k j : Nat), l.length - j = n → n < k →
    ∃ r : Int, api_Sample_43.l0 k l (l.length : Int) (j : Int) x.f0 x.f1 = some r ∧ decide (r ≥ 0) = memB (l.drop j) x := by
  intro n
  induction n with
  | zero =>
    intro k j hn hk
    obtain ⟨k, rfl⟩ : ∃ m, k = m + 1 := ⟨k - 1, by omega⟩
    simp only [api_Sample_43.l0]
    rw [if_neg (by omega), List.drop_eq_nil_of_le (by omega)]
    exact ⟨-1, rfl, rfl⟩
  | succ n ih =>
    intro k j hn hk
    obtain ⟨k, rfl⟩ : ∃ m, k = m + 1 := ⟨k - 1, by omega⟩
    have hj : j < l.length := by omega
    simp only [api_Sample_43.l0]
    rw [if_pos (by omega), if_pos (by omega), if_pos (by omega), rdT_get l j hj, List.drop_eq_getElem_cons hj, wrap1 j (by omega)]
    obtain ⟨r, h1, h2⟩ := ih k (j + 1) (by omega) (by omega)
    generalize l.drop (j + 1) = t at *
    generalize l[j] = y
    simp only [memB, List.any_cons]
    by_cases h : (x.f0 == y.f0 && (x.f1 == y.f1)) = true
    · rw [if_pos h, h]
      refine ⟨j, rfl, ?_⟩
      have : (j : Int) ≥ 0 := by omega
      simp
    · rw [if_neg h]
      refine ⟨r, h1, ?_⟩
      have h3 : (x.f0 == y.f0 && (x.f1 == y.f1)) = false := by simpa using h
      rw [h3, h2]; rfl
theorem Contains_calls (A : Option Addr) (c : Nat) (l : L29) (x : S29) (w : World) (hr : Kd.C k29 w A l.length l) (hc : l.length ≤ c) (hl : l.length ≤ 1000000) :
    Calls Try.prog 24 #[.slice A l.length c, .agg #[Value.int .i64 x.f0, Value.int .i64 x.f1]] w fun e w' => e = .returned (.bool (memB l x)) ∧ Below w.heap.size w w' :=
  api_Sample_24.calls (l.length + 1) A c l x.f0 x.f1 _ w hr hc (by
    obtain ⟨r, h1, h2⟩ := Index_l0 l x (by omega) l.length (l.length + 1) 0 (by omega) (by omega)
    unfold api_Sample_24.f api_Sample_43.f
    rw [show ((0 : Nat) : Int) = 0 from rfl] at h1
    rw [h1]
    simp only [Option.bind_some]
    rw [h2]; rfl)
end Go.Proofs.Ytjgkcgfbkcbjfaa.H
