/- The walk of SeriesBetween. -/
import Derived.Test.YtjgkcgfbkcbjfaaSLInc
import Derived.Test.YtjgkcgfbkcbjfaaGConcat
namespace Go.Proofs.Ytjgkcgfbkcbjfaa.H
open Go Go.RowKit Go.Proofs.YtjgkcgfbkcbjfaaW.PrintWords Go.Proofs.YtjgkcgfbkcbjfaaW.PrintLast Go.Proofs.YtjgkcgfbkcbjfaaW.PrintMore Go.Proofs.Ytjgkcgfbkcbjfaa.PAll
set_option linter.unusedVariables false
set_option linter.unusedSimpArgs false

theorem between (l : L29) : ∀ (j : Nat) (h : j + 2 < l.length), l[j].f1 ≤ l[j + 1].f1 → l[j + 1].f1 ≤ l[j + 2].f1 →
    incL (l.take (j + 1) ++ l.drop (j + 2)) = incL l ∧ rstL (l.take (j + 1) ++ l.drop (j + 2)) = rstL l := by
  induction l with
  | nil => intro j h; simp at h
  | cons a l ih =>
    intro j h h1 h2
    cases j with
    | zero =>
      match l, h, h1, h2 with
      | [y], h, _, _ => simp at h
      | y :: z :: t, h, h1, h2 =>
        simp only [List.getElem_cons_zero, List.getElem_cons_succ] at h1 h2
        simp only [List.take_succ_cons, List.take_zero, List.drop_succ_cons, List.drop_zero, List.singleton_append, incL, rstL]
        unfold stp
        rw [if_neg (by omega), if_neg (by omega), if_neg (by omega), if_neg (by omega), if_neg (by omega), if_neg (by omega)]
        exact ⟨by omega, by omega⟩
    | succ j =>
      match l, h, h1, h2, ih with
      | [], h, _, _, _ => simp at h
      | b :: l, h, h1, h2, ih =>
        have hih := ih j (by simp at h ⊢; omega) (by simpa using h1) (by simpa using h2)
        simp only [List.take_succ_cons, List.drop_succ_cons, List.cons_append] at hih ⊢
        simp only [incL, rstL]
        exact ⟨by rw [hih.1], by rw [hih.2]⟩

set_option maxRecDepth 100000 in
set_option maxHeartbeats 8000000 in
theorem SeriesBetween_row (w : World) (A : Option Addr) (l : L29) (c0 : Nat) (hr0 : Kd.C k29 w A l.length l) (hc0 : l.length ≤ c0) (_ : ∀ x ∈ l, (Lit.int .i64 x.f0).wf = true ∧ (Lit.int .i64 x.f1).wf = true) (a : Int) (ha : (Lit.int .u8 a).wf = true) :
    Calls Try.prog 5 #[.slice A l.length c0, .int .u8 a] w fun e w' => e = .returned (.bool true) ∧ Below w.heap.size w w' := by
  have HG := Aside0.mk (fun W n hn (h : Below w.heap.size w W) => great1 W n hn A c0 l (Kd.C_below hr0 h) hc0)
  have HA := Aside0.mk (fun W => awake_calls W)
  have HB2 := Aside0.mk (Below.refl w.heap.size w)
  cases hg : greatB l with
  | true =>
    rw [hg] at HG
    clear hg hr0 hc0 ha
    go_enter Try.func5, Try.ntmps5
    go_wp2_with (first
      | (go_at_call 10; refine (HG.out _ _ rfl (by repeat (first | exact HB2.out | apply below_alloc | apply pw_below_drewN | apply below_drew))).mono ?_; rintro e w1 ⟨rfl, ⟨q, rfl⟩⟩)
      | (go_at_call 12; refine (HA.out _).mono ?_; rintro e w2 ⟨rfl, hb⟩; have n1_ := Aside0.mk ((show Below w.heap.size w _ by repeat (first | exact HB2.out | apply below_alloc | apply pw_below_drewN | apply below_drew)).trans (hb.mono (by have := HB2.out.size; simp; try omega))); clear HB2; have HB2 := n1_; clear n1_; clear hb))
    go_ret
    exact ⟨rfl, HB2.out⟩
  | false =>
    have hl24 : l.length ≤ 24 := by simpa [greatB] using hg
    rw [hg] at HG
    clear hg
    have HCK := Aside0.mk (fun W (h : Below w.heap.size w W) => rCheck_calls 2 A c0 l W (Kd.C_below hr0 h) hc0 (by omega))
    by_cases hck : chkK 2 l = 0
    · rw [hck] at HCK
      by_cases hne : l.length < 3
      · have dn : ((l.length : Int) < 3) = True := eq_true (by omega)
        have dn2 : (l.length < 3) = True := eq_true hne
        clear hr0 hc0 ha hck
        go_enter Try.func5, Try.ntmps5
        go_wp2_with (first
          | (go_at_call 10; refine (HG.out _ _ rfl (by repeat (first | exact HB2.out | apply below_alloc | apply pw_below_drewN | apply below_drew))).mono ?_; rintro e w1 ⟨rfl, ⟨q, rfl⟩⟩)
          | (go_at_call 11; refine (HCK.out _ (by repeat (first | exact HB2.out | apply below_alloc | apply pw_below_drewN | apply below_drew))).mono ?_; rintro e w2 ⟨rfl, hb⟩; have n1_ := Aside0.mk ((show Below w.heap.size w _ by repeat (first | exact HB2.out | apply below_alloc | apply pw_below_drewN | apply below_drew)).trans (hb.mono (by have := HB2.out.size; simp; try omega))); clear HB2; have HB2 := n1_; clear n1_; clear hb)
          | (go_at_call 12; refine (HA.out _).mono ?_; rintro e w2 ⟨rfl, hb⟩; have n1_ := Aside0.mk ((show Below w.heap.size w _ by repeat (first | exact HB2.out | apply below_alloc | apply pw_below_drewN | apply below_drew)).trans (hb.mono (by have := HB2.out.size; simp; try omega))); clear HB2; have HB2 := n1_; clear n1_; clear hb))
        go_ret
        exact ⟨rfl, HB2.out⟩
      · have dn : ((l.length : Int) < 3) = False := eq_false (by omega)
        have dn2 : (l.length < 3) = False := eq_false hne
        have ha0 : 0 ≤ a ∧ a ≤ 255 := by
          have h : IntKind.u8.min ≤ a ∧ a ≤ IntKind.u8.max := by simpa [Lit.wf] using ha
          simp [IntKind.min, IntKind.max, IntKind.signed, IntKind.bits] at h
          omega
        obtain ⟨ha1, ha2⟩ := ha0
        obtain ⟨n2, hn2⟩ : ∃ n2 : Nat, l.length = n2 + 2 := ⟨l.length - 2, by omega⟩
        have hsub0 : IntKind.i64.wrap ((l.length : Int) - 2) = (n2 : Int) := by rw [IntKind.wrap_i64]; omega
        have hsub0' : (l.length : Int) - 2 = (n2 : Int) := by omega
        have hn20 : (0 : Int) < (n2 : Int) := by omega
        obtain ⟨j, hj⟩ : ∃ j : Nat, a % (n2 : Int) = (j : Int) := ⟨(a % (n2 : Int)).toNat, by have := Int.emod_nonneg a (show (n2 : Int) ≠ 0 by omega); omega⟩
        have hjl : j + 2 < l.length := by have := Int.emod_lt_of_pos a (show 0 < (n2 : Int) by omega); omega
        obtain ⟨k, hk⟩ : ∃ k : Nat, k = j + 1 := ⟨_, rfl⟩
        obtain ⟨m, hm⟩ : ∃ m : Nat, m = j + 2 := ⟨_, rfl⟩
        have hbt := between l j hjl
        have g0 := Kd.C_below hr0 (Below.refl _ _)
        obtain ⟨ad, e1, hd0, hd1⟩ := at_T29 hr0 (j : Int) (by omega) (by omega)
        cases e1
        obtain ⟨ad, e1, he0, he1⟩ := at_T29 hr0 (k : Int) (by omega) (by omega)
        cases e1
        obtain ⟨ad, e1, hf0, hf1⟩ := at_T29 hr0 (m : Int) (by omega) (by omega)
        cases e1
        rw [rdT_get l j (by omega)] at hd0 hd1
        rw [rdT_get l k (by omega)] at he0 he1
        rw [rdT_get l m (by omega)] at hf0 hf1
        simp only [Int.toNat_natCast] at hd0 hd1 he0 he1 hf0 hf1
        have hbt' : l[j].f1 ≤ l[k].f1 → l[k].f1 ≤ l[m].f1 → incL (l.take k ++ l.drop m) = incL l ∧ rstL (l.take k ++ l.drop m) = rstL l := by
          subst hk hm
          exact hbt
        have hLs : (l.take k ++ l.drop m).Sublist l := by
          have : l = l.take k ++ l.drop k := (List.take_append_drop k l).symm
          conv => rhs; rw [this]
          refine List.Sublist.append (List.Sublist.refl _) ?_
          rw [show m = k + 1 by omega, ← List.drop_drop]
          exact List.drop_sublist _ _
        have hlc := chkK_sub hck hLs
        have ht : (l.take k).length = k := by rw [List.length_take]; omega
        have hd : (l.drop m).length = l.length - m := List.length_drop
        have hck0 : ¬ c0 = m := by omega
        have hdr := Kd.C_drop hr0 (show m ≤ l.length by omega) hc0
        rw [if_neg hck0] at hdr
        have hdr' : Kd.C k29 w (some (ad.add (m * 2))) (l.drop m).length (l.drop m) := hdr
        have htr := Kd.C_take hr0 (show k ≤ l.length by omega)
        have HCS := Aside0.mk (fun W (h : Below w.heap.size w W) => C_slices (d := k29) 29 22 W W.heap.size rfl #[.slice (some ad) k c0, .slice (some (ad.add (m * 2))) (l.length - m) (c0 - m)] [l.take k, l.drop m] (by simp) (fun i x hx => by
          rcases i with _ | _ | i
          · simp at hx; subst hx; exact ⟨some ad, c0, by simp [ht], by rw [ht]; omega, Kd.C_below htr h⟩
          · simp at hx; subst hx; exact ⟨_, c0 - m, by simp [hd], by rw [hd]; omega, Kd.C_below hdr' h⟩
          · simp at hx))
        have HCC := Aside0.mk (fun W n (hC : Kd.C (Kd.slice 29 k29) W (some ⟨n, 0, none⟩) 2 [l.take k, l.drop m]) => Concat_calls (some ⟨n, 0, none⟩) 2 [l.take k, l.drop m] W hC (by simp) (by simp [ht, hd]; omega) (by simp))
        simp only [List.flatten_cons, List.flatten_nil, List.append_nil] at HCC
        have HI0 := Aside0.mk (fun W (h : Below w.heap.size w W) => Increase_calls (some ad) c0 l W (Kd.C_below hr0 h) hc0 (by omega))
        have HR0 := Aside0.mk (fun W (h : Below w.heap.size w W) => Resets_calls (some ad) c0 l W (Kd.C_below hr0 h) hc0 (by omega))
        have hlen : (l.take k ++ l.drop m).length ≤ 1000000 := by rw [List.length_append, ht, hd]; omega
        have HI1 := Aside0.mk (fun v W0 W b (hR : Kd.R k29 29 W0 b (fun _ => True) v (l.take k ++ l.drop m)) (h : Below W0.heap.size W0 W) => show Calls Try.prog 13 #[v] W fun e W' => e = .returned (.int .i64 (inc (l.take k ++ l.drop m))) ∧ Below W.heap.size W W' by
          obtain ⟨A, c, rfl, hc, hC⟩ := Kd.R_reads hR
          exact Increase_calls A c _ W (Kd.C_below hC h) hc hlen)
        have HR1 := Aside0.mk (fun v W0 W b (hR : Kd.R k29 29 W0 b (fun _ => True) v (l.take k ++ l.drop m)) (h : Below W0.heap.size W0 W) => show Calls Try.prog 14 #[v] W fun e W' => e = .returned (.int .i64 (rst (l.take k ++ l.drop m))) ∧ Below W.heap.size W W' by
          obtain ⟨A, c, rfl, hc, hC⟩ := Kd.R_reads hR
          exact Resets_calls A c _ W (Kd.C_below hC h) hc hlen)
        rw [inc_of hlc] at HI1
        rw [rst_of hlc] at HR1
        rw [inc_of hck] at HI0
        rw [rst_of hck] at HR0
        have hw1 : IntKind.i64.wrap (1 + (j : Int)) = (k : Int) := by rw [IntKind.wrap_i64]; omega
        have hw1' : 1 + (j : Int) = (k : Int) := by omega
        have hw2 : IntKind.i64.wrap ((k : Int) - 1) = (j : Int) := by rw [IntKind.wrap_i64]; omega
        have hw2' : (k : Int) - 1 = (j : Int) := by omega
        have hw3 : IntKind.i64.wrap ((k : Int) + 1) = (m : Int) := by rw [IntKind.wrap_i64]; omega
        have hw3' : (k : Int) + 1 = (m : Int) := by omega
        have hw4 : IntKind.i64.wrap (m : Int) = (m : Int) := by rw [IntKind.wrap_i64]; omega
        have hw5 : IntKind.i64.wrap (k : Int) = (k : Int) := by rw [IntKind.wrap_i64]; omega
        have hw6 : IntKind.i64.wrap (j : Int) = (j : Int) := by rw [IntKind.wrap_i64]; omega
        have b1 : j < l.length := by omega
        have b2 : k < l.length := by omega
        have b3 : m < l.length := by omega
        have b4 : k ≤ c0 := by omega
        have b5 : m ≤ l.length := by omega
        have b6 : (0 : Int) ≤ (k : Int) := by omega
        have b7 : (0 : Int) ≤ (m : Int) := by omega
        have b8 : (k : Int) ≤ (c0 : Int) := by omega
        have b9 : (m : Int) ≤ (l.length : Int) := by omega
        have b10 : (0 : Int) ≤ (j : Int) := by omega
        have hmix : Try.prog.follows .mixedOrders = true := by kernel_rfl
        clear hbt hLs hlc hck ht hd hdr hdr' htr hr0 g0 ha
        generalize l[j] = x at *
        generalize l[k] = y at *
        generalize l[m] = z at *
        clear hk hm hn2
        clear hd0 he0 hf0
        by_cases hxy : y.f1 < x.f1
        · have q1 : (y.f1 < x.f1) = True := eq_true hxy
          clear hxy hbt'
          go_enter Try.func5, Try.ntmps5
          go_wp2_with (first
            | (go_at_call 10; refine (HG.out _ _ rfl (by repeat (first | exact HB2.out | apply below_alloc | apply pw_below_drewN | apply below_drew))).mono ?_; rintro e w1 ⟨rfl, ⟨q, rfl⟩⟩)
            | (go_at_call 11; refine (HCK.out _ (by repeat (first | exact HB2.out | apply below_alloc | apply pw_below_drewN | apply below_drew))).mono ?_; rintro e w2 ⟨rfl, hb⟩; have n1_ := Aside0.mk ((show Below w.heap.size w _ by repeat (first | exact HB2.out | apply below_alloc | apply pw_below_drewN | apply below_drew)).trans (hb.mono (by have := HB2.out.size; simp; try omega))); clear HB2; have HB2 := n1_; clear n1_; clear hb))
          replace hd1 := (HB2.out.cell (World.block_lt_of_cell? _ _ hd1)).trans hd1
          replace he1 := (HB2.out.cell (World.block_lt_of_cell? _ _ he1)).trans he1
          replace hf1 := (HB2.out.cell (World.block_lt_of_cell? _ _ hf1)).trans hf1
          go_quiet (fail)
          clear hd1 he1 hf1
          go_wp2_with (go_at_call 12; refine (HA.out _).mono ?_; rintro e w2 ⟨rfl, hb⟩; have n1_ := Aside0.mk ((show Below w.heap.size w _ by repeat (first | exact HB2.out | apply below_alloc | apply pw_below_drewN | apply below_drew)).trans (hb.mono (by have := HB2.out.size; simp; try omega))); clear HB2; have HB2 := n1_; clear n1_; clear hb)
          go_ret
          exact ⟨rfl, HB2.out⟩
        · have q1 : (y.f1 < x.f1) = False := eq_false hxy
          by_cases hyz : z.f1 < y.f1
          · have q2 : (z.f1 < y.f1) = True := eq_true hyz
            clear hxy hyz hbt'
            go_enter Try.func5, Try.ntmps5
            go_wp2_with (first
              | (go_at_call 10; refine (HG.out _ _ rfl (by repeat (first | exact HB2.out | apply below_alloc | apply pw_below_drewN | apply below_drew))).mono ?_; rintro e w1 ⟨rfl, ⟨q, rfl⟩⟩)
              | (go_at_call 11; refine (HCK.out _ (by repeat (first | exact HB2.out | apply below_alloc | apply pw_below_drewN | apply below_drew))).mono ?_; rintro e w2 ⟨rfl, hb⟩; have n1_ := Aside0.mk ((show Below w.heap.size w _ by repeat (first | exact HB2.out | apply below_alloc | apply pw_below_drewN | apply below_drew)).trans (hb.mono (by have := HB2.out.size; simp; try omega))); clear HB2; have HB2 := n1_; clear n1_; clear hb))
            replace hd1 := (HB2.out.cell (World.block_lt_of_cell? _ _ hd1)).trans hd1
            replace he1 := (HB2.out.cell (World.block_lt_of_cell? _ _ he1)).trans he1
            replace hf1 := (HB2.out.cell (World.block_lt_of_cell? _ _ hf1)).trans hf1
            go_quiet (fail)
            clear hd1 he1 hf1
            go_wp2_with (go_at_call 12; refine (HA.out _).mono ?_; rintro e w2 ⟨rfl, hb⟩; have n1_ := Aside0.mk ((show Below w.heap.size w _ by repeat (first | exact HB2.out | apply below_alloc | apply pw_below_drewN | apply below_drew)).trans (hb.mono (by have := HB2.out.size; simp; try omega))); clear HB2; have HB2 := n1_; clear n1_; clear hb)
            go_ret
            exact ⟨rfl, HB2.out⟩
          · have q2 : (z.f1 < y.f1) = False := eq_false hyz
            obtain ⟨g1, g2⟩ := hbt' (by omega) (by omega)
            rw [g1] at HI1
            rw [g2] at HR1
            clear hxy hyz hbt' g1 g2
            generalize incL l = I at *
            generalize rstL l = R at *
            generalize l.take k ++ l.drop m = less at *
            go_enter Try.func5, Try.ntmps5
            go_wp2_with (first
              | (go_at_call 10; refine (HG.out _ _ rfl (by repeat (first | exact HB2.out | apply below_alloc | apply pw_below_drewN | apply below_drew))).mono ?_; rintro e w1 ⟨rfl, ⟨q, rfl⟩⟩)
              | (go_at_call 11; refine (HCK.out _ (by repeat (first | exact HB2.out | apply below_alloc | apply pw_below_drewN | apply below_drew))).mono ?_; rintro e w2 ⟨rfl, hb⟩; have n1_ := Aside0.mk ((show Below w.heap.size w _ by repeat (first | exact HB2.out | apply below_alloc | apply pw_below_drewN | apply below_drew)).trans (hb.mono (by have := HB2.out.size; simp; try omega))); clear HB2; have HB2 := n1_; clear n1_; clear hb))
            replace hd1 := (HB2.out.cell (World.block_lt_of_cell? _ _ hd1)).trans hd1
            replace he1 := (HB2.out.cell (World.block_lt_of_cell? _ _ he1)).trans he1
            replace hf1 := (HB2.out.cell (World.block_lt_of_cell? _ _ hf1)).trans hf1
            go_quiet (fail)
            clear hd1 he1 hf1
            go_wp2
            have n1_ := Aside0.mk (show Below w.heap.size w (w2.drewN nq) from (by repeat (first | exact HB2.out | apply below_alloc | apply pw_below_drewN | apply below_drew)))
            obtain ⟨W5, hW5⟩ : ∃ W5, w2.drewN nq = W5 := ⟨_, rfl⟩
            rw [hW5] at n1_ ⊢
            clear HB2
            have HB2 := n1_
            clear n1_ hW5
            have HC2 := Aside0.mk (HCS.out W5 HB2.out)
            have BN := Aside0.mk (Below.refl (W5.alloc (.cells #[.slice (some ad) k c0, .slice (some (ad.add (m * 2))) (l.length - m) (c0 - m)] 22)).heap.size (W5.alloc (.cells #[.slice (some ad) k c0, .slice (some (ad.add (m * 2))) (l.length - m) (c0 - m)] 22)))
            go_region_held3 (fun w' => True) (go_keep)
              (first
              | (go_at_call 21; refine (HCC.out _ _ (Kd.C_below HC2.out (by repeat (first | exact BN.out | apply below_alloc | apply pw_below_drewN | apply below_drew)))).mono ?_; rintro e w6 ⟨v6, rfl, hO, hb⟩; have HR6 := Aside0.mk (R_of_lcells hO); have n1_ := Aside0.mk ((show Below w.heap.size w _ by repeat (first | exact HB2.out | apply below_alloc | apply pw_below_drewN | apply below_drew)).trans (hb.mono (by have := HB2.out.size; simp; try omega))); clear HB2; have HB2 := n1_; clear n1_; clear hb hO; have B6 := Aside0.mk (Below.refl w6.heap.size w6)))
            all_goals
              go_wp2_with (first
                | (go_at_call 13; first
                  | ((with_reducible refine (HI0.out _ (by repeat (first | exact HB2.out | apply below_alloc | apply pw_below_drewN | apply below_drew))).mono ?_); rintro e w7 ⟨rfl, hb⟩; have n1_ := Aside0.mk ((show Below w.heap.size w _ by repeat (first | exact HB2.out | apply below_alloc | apply pw_below_drewN | apply below_drew)).trans (hb.mono (by have := HB2.out.size; simp; try omega))); clear HB2; have HB2 := n1_; clear n1_; have n1_ := Aside0.mk ((show Below w6.heap.size w6 _ by repeat (first | exact B6.out | apply below_alloc | apply pw_below_drewN | apply below_drew)).trans (hb.mono (by have := B6.out.size; simp; try omega))); clear B6; have B6 := n1_; clear n1_; clear hb)
                  | ((with_reducible refine (HI1.out _ _ _ _ HR6.out (by repeat (first | exact B6.out | apply below_alloc | apply pw_below_drewN | apply below_drew))).mono ?_); rintro e w8 ⟨rfl, hb⟩; have n1_ := Aside0.mk ((show Below w.heap.size w _ by repeat (first | exact HB2.out | apply below_alloc | apply pw_below_drewN | apply below_drew)).trans (hb.mono (by have := HB2.out.size; simp; try omega))); clear HB2; have HB2 := n1_; clear n1_; have n1_ := Aside0.mk ((show Below w6.heap.size w6 _ by repeat (first | exact B6.out | apply below_alloc | apply pw_below_drewN | apply below_drew)).trans (hb.mono (by have := B6.out.size; simp; try omega))); clear B6; have B6 := n1_; clear n1_; clear hb))
                | (go_at_call 14; first
                  | ((with_reducible refine (HR0.out _ (by repeat (first | exact HB2.out | apply below_alloc | apply pw_below_drewN | apply below_drew))).mono ?_); rintro e w9 ⟨rfl, hb⟩; have n1_ := Aside0.mk ((show Below w.heap.size w _ by repeat (first | exact HB2.out | apply below_alloc | apply pw_below_drewN | apply below_drew)).trans (hb.mono (by have := HB2.out.size; simp; try omega))); clear HB2; have HB2 := n1_; clear n1_; have n1_ := Aside0.mk ((show Below w6.heap.size w6 _ by repeat (first | exact B6.out | apply below_alloc | apply pw_below_drewN | apply below_drew)).trans (hb.mono (by have := B6.out.size; simp; try omega))); clear B6; have B6 := n1_; clear n1_; clear hb)
                  | ((with_reducible refine (HR1.out _ _ _ _ HR6.out (by repeat (first | exact B6.out | apply below_alloc | apply pw_below_drewN | apply below_drew))).mono ?_); rintro e w10 ⟨rfl, hb⟩; have n1_ := Aside0.mk ((show Below w.heap.size w _ by repeat (first | exact HB2.out | apply below_alloc | apply pw_below_drewN | apply below_drew)).trans (hb.mono (by have := HB2.out.size; simp; try omega))); clear HB2; have HB2 := n1_; clear n1_; have n1_ := Aside0.mk ((show Below w6.heap.size w6 _ by repeat (first | exact B6.out | apply below_alloc | apply pw_below_drewN | apply below_drew)).trans (hb.mono (by have := B6.out.size; simp; try omega))); clear B6; have B6 := n1_; clear n1_; clear hb))
                | (go_at_call 12; refine (HA.out _).mono ?_; rintro e w2 ⟨rfl, hb⟩; have n1_ := Aside0.mk ((show Below w.heap.size w _ by repeat (first | exact HB2.out | apply below_alloc | apply pw_below_drewN | apply below_drew)).trans (hb.mono (by have := HB2.out.size; simp; try omega))); clear HB2; have HB2 := n1_; clear n1_; clear hb))
              go_ret
              exact ⟨rfl, HB2.out⟩
    · have dc : (chkK 2 l == 0) = false := by simpa using hck
      have dc2 : (chkK 2 l != 0) = true := by simpa using hck
      generalize chkK 2 l = ck at *
      clear hr0 hc0 ha hck
      go_enter Try.func5, Try.ntmps5
      go_wp2_with (first
        | (go_at_call 10; refine (HG.out _ _ rfl (by repeat (first | exact HB2.out | apply below_alloc | apply pw_below_drewN | apply below_drew))).mono ?_; rintro e w1 ⟨rfl, ⟨q, rfl⟩⟩)
        | (go_at_call 11; refine (HCK.out _ (by repeat (first | exact HB2.out | apply below_alloc | apply pw_below_drewN | apply below_drew))).mono ?_; rintro e w2 ⟨rfl, hb⟩; have n1_ := Aside0.mk ((show Below w.heap.size w _ by repeat (first | exact HB2.out | apply below_alloc | apply pw_below_drewN | apply below_drew)).trans (hb.mono (by have := HB2.out.size; simp; try omega))); clear HB2; have HB2 := n1_; clear n1_; clear hb)
        | (go_at_call 12; refine (HA.out _).mono ?_; rintro e w2 ⟨rfl, hb⟩; have n1_ := Aside0.mk ((show Below w.heap.size w _ by repeat (first | exact HB2.out | apply below_alloc | apply pw_below_drewN | apply below_drew)).trans (hb.mono (by have := HB2.out.size; simp; try omega))); clear HB2; have HB2 := n1_; clear n1_; clear hb))
      go_ret
      exact ⟨rfl, HB2.out⟩
end Go.Proofs.Ytjgkcgfbkcbjfaa.H
