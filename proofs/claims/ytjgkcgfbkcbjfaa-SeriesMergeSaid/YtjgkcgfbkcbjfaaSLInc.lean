/- The walk of SeriesIncrease. -/
import Derived.Test.YtjgkcgfbkcbjfaaSGreat
import Derived.Test.YtjgkcgfbkcbjfaaSAwake
import Derived.IntWalk
namespace Go.Proofs.Ytjgkcgfbkcbjfaa.H
open Go Go.RowKit Go.Proofs.YtjgkcgfbkcbjfaaW.PrintWords Go.Proofs.YtjgkcgfbkcbjfaaW.PrintLast Go.Proofs.YtjgkcgfbkcbjfaaW.PrintMore Go.Proofs.Ytjgkcgfbkcbjfaa.PAll
set_option linter.unusedVariables false
set_option linter.unusedSimpArgs false

theorem rCheck_calls (kind : Int) (A : Option Addr) (c : Nat) (l : L29) (w : World) (hr : Kd.C k29 w A l.length l) (hc : l.length ≤ c) (hl : l.length ≤ 1000000) :
    Calls Try.prog 11 #[.int .i64 kind, .slice A l.length c] w fun e w' => e = .returned (.int .i64 (chkK kind l)) ∧ Below w.heap.size w w' :=
  lookoutref11_Check.calls (2 * l.length + 3) kind A c l _ w hr hc (rCheck_f kind l _ (by omega) (by omega))

theorem incL_cut : ∀ (l : L29) (k : Nat), k < l.length → incL l = incL (l.take (k + 1)) + incL (l.drop k)
  | [], k, h => by simp at h
  | x :: l, 0, _ => by simp [incL]
  | [x], k + 1, h => by simp at h
  | x :: y :: l, k + 1, h => by
    have ih := incL_cut (y :: l) k (by simpa using h)
    simp only [List.take_succ_cons, List.drop_succ_cons] at *
    simp only [incL]
    omega
theorem rstL_cut : ∀ (l : L29) (k : Nat), k < l.length → rstL l = rstL (l.take (k + 1)) + rstL (l.drop k)
  | [], k, h => by simp at h
  | x :: l, 0, _ => by simp [rstL]
  | [x], k + 1, h => by simp at h
  | x :: y :: l, k + 1, h => by
    have ih := rstL_cut (y :: l) k (by simpa using h)
    simp only [List.take_succ_cons, List.drop_succ_cons] at *
    simp only [rstL]
    omega
theorem chkK_sub {kind : Int} {l m : L29} (h : chkK kind l = 0) (hs : m.Sublist l) : chkK kind m = 0 := by
  rw [chkK_iff] at *
  exact ⟨h.1, Nat.le_trans hs.length_le h.2.1, fun x hx => h.2.2.1 x (hs.subset hx), h.2.2.2.sublist hs⟩
theorem incL_ends : ∀ (l : L29) (x y : S29), Cnt l → l.head? = some x → l.getLast? = some y → y.f1 - x.f1 ≤ incL l ∧ (rstL l = 0 → incL l = y.f1 - x.f1)
  | [], _, _, _, h, _ => by simp at h
  | [a], x, y, _, h1, h2 => by
    simp at h1 h2
    subst h1 h2
    simp [incL]
  | a :: b :: l, x, y, h, h1, h2 => by
    simp at h1
    subst h1
    have ih := incL_ends (b :: l) b y h.tail rfl (by simpa [List.getLast?_cons_cons] using h2)
    have b1 := h a (by simp)
    have b2 := h b (by simp)
    have rb := rstL_bd (b :: l)
    simp only [incL, rstL]
    unfold stp
    split <;> rename_i hh
    · exact ⟨by omega, fun hz => by omega⟩
    · exact ⟨by omega, fun hz => by have := ih.2 (by omega); omega⟩
theorem rstL_lt : ∀ l : L29, l ≠ [] → rstL l < l.length
  | [], h => absurd rfl h
  | [x], _ => by simp [rstL]
  | x :: y :: l, _ => by
    have ih := rstL_lt (y :: l) (by simp)
    simp only [rstL, List.length_cons] at *
    split <;> omega
theorem inc_of {l : L29} (h : chkK 2 l = 0) : inc l = incL l := by unfold inc; rw [if_pos h]
theorem rst_of {l : L29} (h : chkK 2 l = 0) : rst l = rstL l := by unfold rst; rw [if_pos h]

set_option maxRecDepth 100000 in
set_option maxHeartbeats 8000000 in
theorem SeriesIncrease_row (w : World) (A : Option Addr) (l : L29) (c0 : Nat) (hr0 : Kd.C k29 w A l.length l) (hc0 : l.length ≤ c0) (_ : ∀ x ∈ l, (Lit.int .i64 x.f0).wf = true ∧ (Lit.int .i64 x.f1).wf = true) (a : Int) (ha : (Lit.int .u8 a).wf = true) :
    Calls Try.prog 3 #[.slice A l.length c0, .int .u8 a] w fun e w' => e = .returned (.bool true) ∧ Below w.heap.size w w' := by
  have HG := Aside0.mk (fun W n hn (h : Below w.heap.size w W) => great1 W n hn A c0 l (Kd.C_below hr0 h) hc0)
  have HA := Aside0.mk (fun W => awake_calls W)
  have HB2 := Aside0.mk (Below.refl w.heap.size w)
  cases hg : greatB l with
  | true =>
    rw [hg] at HG
    clear hg hr0 hc0 ha
    go_enter Try.func3, Try.ntmps3
    go_wp2_with (first
      | (go_at_call 10; refine (HG.out _ _ rfl (by repeat (first | exact HB2.out | apply below_alloc | apply pw_below_drewN | apply below_drew))).mono ?_; rintro e w1 ⟨rfl, ⟨q, rfl⟩⟩)
      | (go_at_call 12; refine (HA.out _).mono ?_; rintro e w2 ⟨rfl, hb⟩; have n1_ := Aside0.mk ((show Below w.heap.size w _ by repeat (first | exact HB2.out | apply below_alloc | apply pw_below_drewN | apply below_drew)).trans (hb.mono (by have := HB2.out.size; simp; try omega))); clear HB2; have HB2 := n1_; clear n1_; clear hb))
    go_ret
    exact ⟨rfl, HB2.out⟩
  | false =>
    have hl24 : l.length ≤ 24 := by simpa [greatB] using hg
    rw [hg] at HG
    clear hg
    have HCK := Aside0.mk (fun W (h : Below w.heap.size w W) => rCheck_calls 2 A c0 l W (Kd.C_below hr0 h) hc0 (by omega))
    by_cases hck : chkK 2 l = 0
    · rw [hck] at HCK
      by_cases hne : l.length = 0
      · have dn : ((l.length : Int) == 0) = true := by simp [hne]
        have dn2 : (l.length == 0) = true := by simp [hne]
        have hne' : l = [] := List.eq_nil_of_length_eq_zero hne
        subst hne'
        clear hr0 hc0 ha hck
        go_enter Try.func3, Try.ntmps3
        go_wp2_with (first
          | (go_at_call 10; refine (HG.out _ _ rfl (by repeat (first | exact HB2.out | apply below_alloc | apply pw_below_drewN | apply below_drew))).mono ?_; rintro e w1 ⟨rfl, ⟨q, rfl⟩⟩)
          | (go_at_call 11; refine (HCK.out _ (by repeat (first | exact HB2.out | apply below_alloc | apply pw_below_drewN | apply below_drew))).mono ?_; rintro e w2 ⟨rfl, hb⟩; have n1_ := Aside0.mk ((show Below w.heap.size w _ by repeat (first | exact HB2.out | apply below_alloc | apply pw_below_drewN | apply below_drew)).trans (hb.mono (by have := HB2.out.size; simp; try omega))); clear HB2; have HB2 := n1_; clear n1_; clear hb)
          | (go_at_call 12; refine (HA.out _).mono ?_; rintro e w2 ⟨rfl, hb⟩; have n1_ := Aside0.mk ((show Below w.heap.size w _ by repeat (first | exact HB2.out | apply below_alloc | apply pw_below_drewN | apply below_drew)).trans (hb.mono (by have := HB2.out.size; simp; try omega))); clear HB2; have HB2 := n1_; clear n1_; clear hb))
        go_ret
        exact ⟨rfl, HB2.out⟩
      · have ha0 : 0 ≤ a ∧ a ≤ 255 := by
          have h : IntKind.u8.min ≤ a ∧ a ≤ IntKind.u8.max := by simpa [Lit.wf] using ha
          simp [IntKind.min, IntKind.max, IntKind.signed, IntKind.bits] at h
          omega
        obtain ⟨k, hk⟩ : ∃ k : Nat, a % (l.length : Int) = (k : Int) := ⟨(a % (l.length : Int)).toNat, by have := Int.emod_nonneg a (show (l.length : Int) ≠ 0 by omega); omega⟩
        have hkl : k < l.length := by have := Int.emod_lt_of_pos a (show 0 < (l.length : Int) by omega); omega
        have dn : ((l.length : Int) == 0) = false := by rw [beq_eq_false_iff_ne]; omega
        have dn2 : (l.length == 0) = false := by rw [beq_eq_false_iff_ne]; omega
        have hc1 : chkK 2 (l.take (k + 1)) = 0 := chkK_sub hck (List.take_sublist _ _)
        have hc2 : chkK 2 (l.drop k) = 0 := chkK_sub hck (List.drop_sublist _ _)
        have ht : (l.take (k + 1)).length = k + 1 := by rw [List.length_take]; omega
        have hd : (l.drop k).length = l.length - k := List.length_drop
        obtain ⟨ad, e1, hd0, hd1⟩ := at_T29 hr0 0 (by omega) (by omega)
        cases e1
        obtain ⟨m, hm⟩ : ∃ m : Nat, l.length = m + 1 := ⟨l.length - 1, by omega⟩
        obtain ⟨ad, e1, hf0, hf1⟩ := at_T29 hr0 (m : Int) (by omega) (by omega)
        cases e1
        have hrd0 : rd_T29 l 0 = l[0] := rdT_get l 0 (by omega)
        rw [hrd0] at hd0 hd1
        rw [rdT_get l m (by omega)] at hf0 hf1
        simp only [Int.toNat_natCast, Int.toNat_zero, Nat.zero_mul] at hd0 hd1 hf0 hf1
        have hends := incL_ends l l[0] l[m] (Cnt_of hck).1 (by rw [List.head?_eq_getElem?, List.getElem?_eq_getElem (by omega)]) (by rw [List.getLast?_eq_getElem?, show l.length - 1 = m by omega, List.getElem?_eq_getElem (by omega)])
        have hcx := (Cnt_of hck).1 l[0] (List.getElem_mem _)
        have hcy := (Cnt_of hck).1 l[m] (List.getElem_mem _)
        have hrl := rstL_lt l (by intro e; rw [e] at hne; exact hne rfl)
        have hcut := incL_cut l k hkl
        have rcut := rstL_cut l k hkl
        have ib1 := incL_bd _ (Cnt_of hc1).1
        have ib2 := incL_bd _ (Cnt_of hc2).1
        have rb1 := rstL_bd (l.take (k + 1))
        have rb2 := rstL_bd (l.drop k)
        have HI0 := Aside0.mk (fun W (h : Below w.heap.size w W) => Increase_calls (some ad) c0 l W (Kd.C_below hr0 h) hc0 (by omega))
        have HR0 := Aside0.mk (fun W (h : Below w.heap.size w W) => Resets_calls (some ad) c0 l W (Kd.C_below hr0 h) hc0 (by omega))
        have HI1 := Aside0.mk (fun W (h : Below w.heap.size w W) => Increase_calls (some ad) c0 (l.take (k + 1)) W (Kd.C_below (Kd.C_take hr0 (by omega)) h) (by omega) (by omega))
        have HR1 := Aside0.mk (fun W (h : Below w.heap.size w W) => Resets_calls (some ad) c0 (l.take (k + 1)) W (Kd.C_below (Kd.C_take hr0 (by omega)) h) (by omega) (by omega))
        have hdr := Kd.C_drop hr0 (show k ≤ l.length by omega) hc0
        rw [if_neg (show ¬ c0 = k by omega)] at hdr
        have hdr' : Kd.C k29 w (some (ad.add (k * 2))) (l.drop k).length (l.drop k) := hdr
        have HI2 := Aside0.mk (fun W (h : Below w.heap.size w W) => Increase_calls (some (ad.add (k * 2))) (c0 - k) (l.drop k) W (Kd.C_below hdr' h) (by omega) (by omega))
        have HR2 := Aside0.mk (fun W (h : Below w.heap.size w W) => Resets_calls (some (ad.add (k * 2))) (c0 - k) (l.drop k) W (Kd.C_below hdr' h) (by omega) (by omega))
        rw [ht] at HI1 HR1 ib1 rb1
        rw [hd] at HI2 HR2 ib2 rb2
        rw [inc_of hck, hcut] at HI0
        rw [rst_of hck, rcut] at HR0
        rw [inc_of hc1] at HI1
        rw [rst_of hc1] at HR1
        rw [inc_of hc2] at HI2
        rw [rst_of hc2] at HR2
        rw [hcut, rcut] at hends
        rw [rcut] at hrl
        have hsub : IntKind.i64.wrap ((l.length : Int) - 1) = (m : Int) := by rw [IntKind.wrap_i64]; omega
        have hsub2 : (l.length : Int) - 1 = (m : Int) := by omega
        have hml : m < l.length := by omega
        have h0l : 0 < l.length := by omega
        have hck0 : ¬ c0 = k := by omega
        have hkc : k + 1 ≤ c0 := by omega
        have hkc2 : (k : Int) + 1 ≤ (c0 : Int) := by omega
        have hw1 : IntKind.i64.wrap ((k : Int) + 1) = (k : Int) + 1 := by rw [IntKind.wrap_i64]; omega
        have hb1 : (0 : Int) ≤ (k : Int) + 1 := by omega
        have htn : ((k : Int) + 1).toNat = k + 1 := by omega
        have hb2 : (0 : Int) ≤ (k : Int) := by omega
        have hkl3 : k ≤ l.length := by omega
        have hkl2 : (k : Int) ≤ (l.length : Int) := by omega
        clear hr0 hck hc1 hc2 ht hd hcut rcut hdr hdr' ha
        generalize l[0] = x at *
        generalize l[m] = y at *
        clear hm hrd0
        generalize incL (l.take (k + 1)) = I1 at *
        generalize incL (l.drop k) = I2 at *
        generalize rstL (l.take (k + 1)) = R1 at *
        generalize rstL (l.drop k) = R2 at *
        obtain ⟨he1, he2⟩ := hends
        have i1 : 0 ≤ I1 ∧ I1 ≤ 1125899906842624 := by omega
        have i2 : 0 ≤ I2 ∧ I2 ≤ 1125899906842624 := by omega
        have r1 : 0 ≤ R1 ∧ R1 ≤ 100 := by omega
        have r2 : 0 ≤ R2 ∧ R2 ≤ 100 := by omega
        have q1 : (I1 + I2 < 0) = False := eq_false (by omega)
        have q2 : (I1 + I2 < y.f1 - x.f1) = False := eq_false (by omega)
        have q3 : (R1 + R2 < (l.length : Int)) = True := eq_true hrl
        have q4 : (0 ≤ R1 + R2) = True := eq_true (by omega)
        have hsw : IntKind.i64.wrap (I1 + I2) = I1 + I2 := by rw [IntKind.wrap_i64]; omega
        have hyx : IntKind.i64.wrap (y.f1 - x.f1) = y.f1 - x.f1 := by rw [IntKind.wrap_i64]; omega
        have hrw : IntKind.i64.wrap (R1 + R2) = R1 + R2 := by rw [IntKind.wrap_i64]; omega
        have hmix : Try.prog.follows .mixedOrders = true := by kernel_rfl
        clear hrl he1 ib1 ib2 rb1 rb2
        have hz : 0 < R1 + R2 ∨ (R1 + R2 = 0 ∧ I1 + I2 = y.f1 - x.f1) := by
          by_cases h : R1 + R2 = 0
          · exact .inr ⟨h, he2 h⟩
          · exact .inl (by omega)
        clear he2
        obtain ⟨i1a, i1b⟩ := i1
        obtain ⟨i2a, i2b⟩ := i2
        obtain ⟨r1a, r1b⟩ := r1
        obtain ⟨r2a, r2b⟩ := r2
        obtain ⟨cxa, cxb⟩ := hcx
        obtain ⟨cya, cyb⟩ := hcy
        have HZ := Aside0.mk hz
        clear hz
        go_enter Try.func3, Try.ntmps3
        go_wp2_with (first
          | (go_at_call 10; refine (HG.out _ _ rfl (by repeat (first | exact HB2.out | apply below_alloc | apply pw_below_drewN | apply below_drew))).mono ?_; rintro e w1 ⟨rfl, ⟨q, rfl⟩⟩)
          | (go_at_call 11; refine (HCK.out _ (by repeat (first | exact HB2.out | apply below_alloc | apply pw_below_drewN | apply below_drew))).mono ?_; rintro e w2 ⟨rfl, hb⟩; have n1_ := Aside0.mk ((show Below w.heap.size w _ by repeat (first | exact HB2.out | apply below_alloc | apply pw_below_drewN | apply below_drew)).trans (hb.mono (by have := HB2.out.size; simp; try omega))); clear HB2; have HB2 := n1_; clear n1_; clear hb)
          | (go_at_call 13; refine (HI0.out _ (by repeat (first | exact HB2.out | apply below_alloc | apply pw_below_drewN | apply below_drew))).mono ?_; rintro e w3 ⟨rfl, hb⟩; have n1_ := Aside0.mk ((show Below w.heap.size w _ by repeat (first | exact HB2.out | apply below_alloc | apply pw_below_drewN | apply below_drew)).trans (hb.mono (by have := HB2.out.size; simp; try omega))); clear HB2; have HB2 := n1_; clear n1_; clear hb)
          | (go_at_call 14; refine (HR0.out _ (by repeat (first | exact HB2.out | apply below_alloc | apply pw_below_drewN | apply below_drew))).mono ?_; rintro e w4 ⟨rfl, hb⟩; have n1_ := Aside0.mk ((show Below w.heap.size w _ by repeat (first | exact HB2.out | apply below_alloc | apply pw_below_drewN | apply below_drew)).trans (hb.mono (by have := HB2.out.size; simp; try omega))); clear HB2; have HB2 := n1_; clear n1_; clear hb))
        have hz0 : ad.add 0 = ad := by simp [Addr.add]
        rw [hz0] at hd0 hd1
        clear hz0
        replace hd0 := (HB2.out.cell (World.block_lt_of_cell? _ _ hd0)).trans hd0
        replace hd1 := (HB2.out.cell (World.block_lt_of_cell? _ _ hd1)).trans hd1
        replace hf0 := (HB2.out.cell (World.block_lt_of_cell? _ _ hf0)).trans hf0
        replace hf1 := (HB2.out.cell (World.block_lt_of_cell? _ _ hf1)).trans hf1
        go_quiet (fail)
        go_wp2
        clear hd0 hd1 hf0 hf1
        go_region_held3 (fun w' => True) (go_keep)
          (first
          | (go_at_call 13; first
            | ((with_reducible refine (HI1.out _ (by repeat (first | exact HB2.out | apply below_alloc | apply pw_below_drewN | apply below_drew))).mono ?_); rintro e w5 ⟨rfl, hb⟩; have n1_ := Aside0.mk ((show Below w.heap.size w _ by repeat (first | exact HB2.out | apply below_alloc | apply pw_below_drewN | apply below_drew)).trans (hb.mono (by have := HB2.out.size; simp; try omega))); clear HB2; have HB2 := n1_; clear n1_; clear hb)
            | ((with_reducible refine (HI2.out _ (by repeat (first | exact HB2.out | apply below_alloc | apply pw_below_drewN | apply below_drew))).mono ?_); rintro e w6 ⟨rfl, hb⟩; have n1_ := Aside0.mk ((show Below w.heap.size w _ by repeat (first | exact HB2.out | apply below_alloc | apply pw_below_drewN | apply below_drew)).trans (hb.mono (by have := HB2.out.size; simp; try omega))); clear HB2; have HB2 := n1_; clear n1_; clear hb))
          | (go_at_call 14; first
            | ((with_reducible refine (HR1.out _ (by repeat (first | exact HB2.out | apply below_alloc | apply pw_below_drewN | apply below_drew))).mono ?_); rintro e w5 ⟨rfl, hb⟩; have n1_ := Aside0.mk ((show Below w.heap.size w _ by repeat (first | exact HB2.out | apply below_alloc | apply pw_below_drewN | apply below_drew)).trans (hb.mono (by have := HB2.out.size; simp; try omega))); clear HB2; have HB2 := n1_; clear n1_; clear hb)
            | ((with_reducible refine (HR2.out _ (by repeat (first | exact HB2.out | apply below_alloc | apply pw_below_drewN | apply below_drew))).mono ?_); rintro e w6 ⟨rfl, hb⟩; have n1_ := Aside0.mk ((show Below w.heap.size w _ by repeat (first | exact HB2.out | apply below_alloc | apply pw_below_drewN | apply below_drew)).trans (hb.mono (by have := HB2.out.size; simp; try omega))); clear HB2; have HB2 := n1_; clear n1_; clear hb)))
        rcases HZ.out with h | ⟨h1, h2⟩
        · have q5 : (0 < R1 + R2) = True := eq_true h
          clear h HZ
          go_wp2_with (go_at_call 12; refine (HA.out _).mono ?_; rintro e w2 ⟨rfl, hb⟩; have n1_ := Aside0.mk ((show Below w.heap.size w _ by repeat (first | exact HB2.out | apply below_alloc | apply pw_below_drewN | apply below_drew)).trans (hb.mono (by have := HB2.out.size; simp; try omega))); clear HB2; have HB2 := n1_; clear n1_; clear hb)
          go_ret
          exact ⟨rfl, HB2.out⟩
        · have q5 : (0 < R1 + R2) = False := eq_false (by omega)
          have d5 : (I1 + I2 == y.f1 - x.f1) = true := by rw [beq_iff_eq]; exact h2
          clear h1 h2 HZ
          go_wp2_with (go_at_call 12; refine (HA.out _).mono ?_; rintro e w2 ⟨rfl, hb⟩; have n1_ := Aside0.mk ((show Below w.heap.size w _ by repeat (first | exact HB2.out | apply below_alloc | apply pw_below_drewN | apply below_drew)).trans (hb.mono (by have := HB2.out.size; simp; try omega))); clear HB2; have HB2 := n1_; clear n1_; clear hb)
          go_ret
          exact ⟨rfl, HB2.out⟩
    · have dc : (chkK 2 l == 0) = false := by simpa using hck
      have dc2 : (chkK 2 l != 0) = true := by simpa using hck
      generalize chkK 2 l = ck at *
      clear hr0 hc0 ha hck
      go_enter Try.func3, Try.ntmps3
      go_wp2_with (first
        | (go_at_call 10; refine (HG.out _ _ rfl (by repeat (first | exact HB2.out | apply below_alloc | apply pw_below_drewN | apply below_drew))).mono ?_; rintro e w1 ⟨rfl, ⟨q, rfl⟩⟩)
        | (go_at_call 11; refine (HCK.out _ (by repeat (first | exact HB2.out | apply below_alloc | apply pw_below_drewN | apply below_drew))).mono ?_; rintro e w2 ⟨rfl, hb⟩; have n1_ := Aside0.mk ((show Below w.heap.size w _ by repeat (first | exact HB2.out | apply below_alloc | apply pw_below_drewN | apply below_drew)).trans (hb.mono (by have := HB2.out.size; simp; try omega))); clear HB2; have HB2 := n1_; clear n1_; clear hb)
        | (go_at_call 12; refine (HA.out _).mono ?_; rintro e w2 ⟨rfl, hb⟩; have n1_ := Aside0.mk ((show Below w.heap.size w _ by repeat (first | exact HB2.out | apply below_alloc | apply pw_below_drewN | apply below_drew)).trans (hb.mono (by have := HB2.out.size; simp; try omega))); clear HB2; have HB2 := n1_; clear n1_; clear hb))
      go_ret
      exact ⟨rfl, HB2.out⟩
end Go.Proofs.Ytjgkcgfbkcbjfaa.H
