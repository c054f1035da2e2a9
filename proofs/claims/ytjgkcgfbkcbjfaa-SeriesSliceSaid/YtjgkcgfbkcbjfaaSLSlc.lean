/- The walk of SeriesSlice. -/
import Derived.Test.YtjgkcgfbkcbjfaaSMM
namespace Go.Proofs.Ytjgkcgfbkcbjfaa.H
open Go Go.RowKit Go.Proofs.YtjgkcgfbkcbjfaaW.PrintWords Go.Proofs.YtjgkcgfbkcbjfaaW.PrintLast Go.Proofs.YtjgkcgfbkcbjfaaW.PrintMore Go.Proofs.Ytjgkcgfbkcbjfaa.PAll
set_option linter.unusedVariables false
set_option linter.unusedSimpArgs false

theorem rValid_calls (A : Option Addr) (c : Nat) (l : L29) (w : World) (hr : Kd.C k29 w A l.length l) (hc : l.length ≤ c) (hl : l.length ≤ 1000000) :
    Calls Try.prog 25 #[.slice A l.length c] w fun e w' => e = .returned (.bool (chkK 1 l == 0)) ∧ Below w.heap.size w w' :=
  lookoutref11_Valid.calls (2 * l.length + 3) A c l _ w hr hc (rValid_f l _ (by omega) (by omega))

set_option maxRecDepth 100000 in
set_option maxHeartbeats 16000000 in
theorem SeriesSlice_row (w : World) (A : Option Addr) (a : L29) (c : Nat) (hrA : Kd.C k29 w A a.length a) (hc : a.length ≤ c) (_ : ∀ x ∈ a, (Lit.int .i64 x.f0).wf = true ∧ (Lit.int .i64 x.f1).wf = true)
    (B : Option Addr) (b : L29) (d : Nat) (hrB : Kd.C k29 w B b.length b) (hd : b.length ≤ d) (_ : ∀ x ∈ b, (Lit.int .i64 x.f0).wf = true ∧ (Lit.int .i64 x.f1).wf = true)
    (s : Int) (_ : (Lit.int .i64 s).wf = true) (t : Int) (_ : (Lit.int .i64 t).wf = true) :
    Calls Try.prog 8 #[.slice A a.length c, .slice B b.length d, .int .i64 s, .int .i64 t] w fun e w' => e = .returned (.bool true) ∧ Below w.heap.size w w' := by
  have HA := Aside0.mk (fun W => awake_calls W)
  have HB2 := Aside0.mk (Below.refl w.heap.size w)
  have HG := Aside0.mk (fun W n hn (h : Below w.heap.size w W) => great2 W n hn A B c d a b (Kd.C_below hrA h) hc (Kd.C_below hrB h) hd)
  cases hg : (greatB a || greatB b) with
  | true =>
    rw [hg] at HG
    clear hg hrA hrB hc hd
    go_enter Try.func8, Try.ntmps8
    go_wp2_with (first
      | (go_at_call 10; refine (HG.out _ _ rfl (by repeat (first | exact HB2.out | apply below_alloc | apply pw_below_drewN | apply below_drew))).mono ?_; rintro e w1 ⟨rfl, ⟨q, rfl⟩⟩)
      | (go_at_call 12; refine (HA.out _).mono ?_; rintro e wa ⟨rfl, hb⟩; have n1_ := Aside0.mk ((show Below w.heap.size w _ by repeat (first | exact HB2.out | apply below_alloc | apply pw_below_drewN | apply below_drew)).trans (hb.mono (by have := HB2.out.size; simp; try omega))); clear HB2; have HB2 := n1_; clear n1_; clear hb))
    go_ret
    exact ⟨rfl, HB2.out⟩
  | false =>
    have hl24 : a.length ≤ 24 ∧ b.length ≤ 24 := by simpa [greatB] using hg
    obtain ⟨hla, hlb⟩ := hl24
    rw [hg] at HG
    clear hg
    have HVA := Aside0.mk (fun W (h : Below w.heap.size w W) => rValid_calls A c a W (Kd.C_below hrA h) hc (by omega))
    have HVB := Aside0.mk (fun W (h : Below w.heap.size w W) => rValid_calls B d b W (Kd.C_below hrB h) hd (by omega))
    by_cases ha : chkK 1 a = 0
    · by_cases hb : chkK 1 b = 0
      · have e1 : (chkK 1 a == 0) = true := by simpa using ha
        have e2 : (chkK 1 b == 0) = true := by simpa using hb
        rw [e1] at HVA
        rw [e2] at HVB
        have HM := Aside0.mk (fun W (h : Below w.heap.size w W) => Merge_calls A B c d a b W (Kd.C_below hrA h) hc (Kd.C_below hrB h) hd (by omega) (by omega))
        have HPP := Aside0.mk (slc_parts ha t)
        have HP0 := slc_len a 0 t
        have HP1 := slc_len a t 1099511627776
        have HSL := Aside0.mk (fun u v W (h : Below w.heap.size w W) => Slice_calls A c a u v W (Kd.C_below hrA h) hc (by omega))
        have HSB := Aside0.mk (fun u v W (h : Below w.heap.size w W) => Slice_calls B d b u v W (Kd.C_below hrB h) hd (by omega))
        have HS0 := Aside0.mk (fun W h => HSL.out 0 t W h)
        have HS1 := Aside0.mk (fun W h => HSL.out t 1099511627776 W h)
        have HS2 := Aside0.mk (fun W h => HSL.out s t W h)
        have HSS := Aside0.mk (fun v b W W' (h1 : Kd.R k29 29 W b (fun _ => True) v a) (h2 : Below W.heap.size W W') (h3 : Below w.heap.size w W') => show Calls Try.prog 16 #[v, .slice A a.length c] W' fun e w' => e = .returned (.bool true) ∧ Drawn0 W' w' by
          obtain ⟨A', c', rfl, hc', hC⟩ := Kd.R_reads h1
          have h := Same_calls A' A c' c a a W' (Kd.C_below hC h2) hc' (Kd.C_below hrA h3) hc (by omega)
          rw [sameB_refl] at h
          exact h)
        have hML := mrgS_len a b
        have hSMl := slc_len (mrgS a b).1 s t
        have HSM := Aside0.mk (fun v b0 W W' (h1 : Kd.R k29 29 W b0 (fun _ => True) v (mrgS a b).1) (h2 : Below W.heap.size W W') => show Calls Try.prog 17 #[v, .int .i64 s, .int .i64 t] W' fun e w' => ∃ v, e = .returned v ∧ Kd.R k29 29 w' W'.heap.size (fun _ => True) v (slc (mrgS a b).1 s t) ∧ Below W'.heap.size W' w' by
          obtain ⟨A', c', rfl, hc', hC⟩ := Kd.R_reads h1
          exact Slice_calls A' c' _ s t W' (Kd.C_below hC h2) hc' (by omega))
        have HSP := Aside0.mk (fun v v' b0 b' W W' h1 h2 h3 => Same_R v v' b0 b' (fun _ => True) (fun _ => True) (slc (mrgS a b).1 s t) (slc (mrgS a b).1 s t) W W' h1 h2 h3 (by omega))
        rw [sameB_refl] at HSP
        have hqa := slc_len a s t
        have hqb := slc_len b s t
        have HM3 := Aside0.mk (fun (hz : (mrgS a b).2 = 0) A' B' c' d' W hA' hc' hB' hd' => show Calls Try.prog 26 #[.slice A' (slc a s t).length c', .slice B' (slc b s t).length d'] W (RT W (slc (mrgS a b).1 s t) 0) by
          have h := Merge_calls A' B' c' d' (slc a s t) (slc b s t) W hA' hc' hB' hd' (by omega) (by omega)
          rw [slc_mrg ha hb (by omega) hz] at h
          exact h)
        have HPS := Aside0.mk (fun z => (mem_slc a s t z).1)
        have HSB2 := Aside0.mk (fun W h => HSB.out s t W h)
        have HS3 := HS2
        have HCT := Aside0.mk (fun x W (hx : x ∈ a) (h : Below w.heap.size w W) => show Calls Try.prog 24 #[.slice A a.length c, .agg #[Value.int .i64 x.f0, Value.int .i64 x.f1]] W fun e w' => e = .returned (.bool true) ∧ Below W.heap.size W w' by
          have h := Contains_calls A c a x W (Kd.C_below hrA h) hc (by omega)
          rw [(memB_iff _ _).2 hx] at h
          exact h)
        clear hrA hrB hc hd hML hSMl ha hb e1 e2 HSL HSB
        generalize slc (mrgS a b).1 s t = pm at *
        generalize mrgS a b = M at *
        generalize slc a s t = ps at *
        generalize slc b s t = pb at *
        generalize hp0 : slc a 0 t = p0 at *
        generalize hp1 : slc a t 1099511627776 = p1 at *
        clear hp0 hp1
        go_enter Try.func8, Try.ntmps8
        go_wp2_with (first
          | (go_at_call 10; refine (HG.out _ _ rfl (by repeat (first | exact HB2.out | apply below_alloc | apply pw_below_drewN | apply below_drew))).mono ?_; rintro e w1 ⟨rfl, ⟨q, rfl⟩⟩; clear HG)
          | (go_at_call 25; refine (HVA.out _ (by repeat (first | exact HB2.out | apply below_alloc | apply pw_below_drewN | apply below_drew))).mono ?_; rintro e w2 ⟨rfl, hb⟩; have n1_ := Aside0.mk ((show Below w.heap.size w _ by repeat (first | exact HB2.out | apply below_alloc | apply pw_below_drewN | apply below_drew)).trans (hb.mono (by have := HB2.out.size; simp; try omega))); clear HB2; have HB2 := n1_; clear n1_; clear hb HVA)
          | (go_at_call 25; refine (HVB.out _ (by repeat (first | exact HB2.out | apply below_alloc | apply pw_below_drewN | apply below_drew))).mono ?_; rintro e w3 ⟨rfl, hb⟩; have n1_ := Aside0.mk ((show Below w.heap.size w _ by repeat (first | exact HB2.out | apply below_alloc | apply pw_below_drewN | apply below_drew)).trans (hb.mono (by have := HB2.out.size; simp; try omega))); clear HB2; have HB2 := n1_; clear n1_; clear hb HVB)
          | (go_at_call 17; refine (HS0.out _ (by repeat (first | exact HB2.out | apply below_alloc | apply pw_below_drewN | apply below_drew))).mono ?_; rintro e w4 ⟨v4, rfl, hR, hb⟩; obtain ⟨A4, c4, rfl, hc4, hC4⟩ := Kd.R_reads hR; have HC4 := Aside0.mk hC4; have n1_ := Aside0.mk ((show Below w.heap.size w _ by repeat (first | exact HB2.out | apply below_alloc | apply pw_below_drewN | apply below_drew)).trans (hb.mono (by have := HB2.out.size; simp; try omega))); clear HB2; have HB2 := n1_; clear n1_; clear hb hR hC4 HS0)
          | (go_at_call 17; refine (HS1.out _ (by repeat (first | exact HB2.out | apply below_alloc | apply pw_below_drewN | apply below_drew))).mono ?_; rintro e w5 ⟨v5, rfl, hR, hb⟩; obtain ⟨A5, c5, rfl, hc5, hC5⟩ := Kd.R_reads hR; have HC5 := Aside0.mk hC5; have HB45 := Aside0.mk hb; have n1_ := Aside0.mk ((show Below w.heap.size w _ by repeat (first | exact HB2.out | apply below_alloc | apply pw_below_drewN | apply below_drew)).trans (hb.mono (by have := HB2.out.size; simp; try omega))); clear HB2; have HB2 := n1_; clear n1_; clear hb hR hC5 HS1)
          | (go_at_call 21; refine (Concat_calls (some ⟨_, 0, none⟩) 2 [p0, p1] _ (C_slices (d := k29) 29 22 w5 w5.heap.size rfl #[.slice A4 p0.length c4, .slice A5 p1.length c5] [p0, p1] (by simp) (fun i x hx => by
              rcases i with _ | _ | i
              · simp at hx; subst hx; exact ⟨A4, c4, rfl, hc4, Kd.C_below HC4.out HB45.out⟩
              · simp at hx; subst hx; exact ⟨A5, c5, rfl, hc5, HC5.out⟩
              · simp at hx)) (by simp) (by simp; omega) (by simp)).mono ?_; rintro e w6 ⟨v6, rfl, ho, hb⟩; simp only [List.flatten_cons, List.flatten_nil, List.append_nil, HPP.out] at ho; have HR6 := Aside0.mk (R_of_lcells ho); have n1_ := Aside0.mk ((show Below w.heap.size w _ by repeat (first | exact HB2.out | apply below_alloc | apply pw_below_drewN | apply below_drew)).trans (hb.mono (by have := HB2.out.size; simp; try omega))); clear HB2; have HB2 := n1_; clear n1_; clear hb ho HC4 HC5 HB45)
          | (go_at_call 16; refine (HSS.out _ _ _ _ HR6.out (Below.refl _ _) (by repeat (first | exact HB2.out | apply below_alloc | apply pw_below_drewN | apply below_drew))).mono ?_; rintro e w7 ⟨rfl, ⟨q7, rfl⟩⟩; clear HSS HR6)
          | (go_at_call 17; refine (HS2.out _ (by repeat (first | exact HB2.out | apply below_alloc | apply pw_below_drewN | apply below_drew))).mono ?_; rintro e w8 ⟨v8, rfl, hR, hb⟩; obtain ⟨A8, c8, rfl, hc8, hC8⟩ := Kd.R_reads hR; have HC8 := Aside0.mk hC8; have n1_ := Aside0.mk ((show Below w.heap.size w _ by repeat (first | exact HB2.out | apply below_alloc | apply pw_below_drewN | apply below_drew)).trans (hb.mono (by have := HB2.out.size; simp; try omega))); clear HB2; have HB2 := n1_; clear n1_; clear hb hR hC8 HS2))
        go_loopg [54] (ps.length) (fun kq v54 w' => ∃ j : Nat, v54 = .int .i64 j ∧ j ≤ ps.length ∧ Aside0 (kq = ps.length - j) ∧ Aside0 (Below w8.heap.size w8 w'))
        case atStart => exact ⟨0, rfl, by omega, ⟨rfl⟩, ⟨Below.refl _ _⟩⟩
        case round =>
          obtain ⟨j, rfl, hj, HK, HB⟩ := hrel
          have HB3 := Aside0.mk (HB2.out.trans (HB.out.mono HB2.out.size))
          clear HB2
          by_cases hlt : j < ps.length
          · obtain ⟨ad, e1, hd0, hd1⟩ := at_T29 (Kd.C_below HC8.out HB.out) (j : Int) (by omega) (by omega)
            subst e1
            rw [rdT_get ps j hlt] at hd0 hd1
            simp only [Int.toNat_natCast] at hd0 hd1
            obtain ⟨x1, x2, x3⟩ := HPS.out _ (List.getElem_mem hlt)
            have dl : decide (j < ps.length) = true := decide_eq_true hlt
            have hlt2 : (j : Int) < (ps.length : Int) := by omega
            have hj0 : (0 : Int) ≤ (j : Int) := by omega
            generalize ps[j] = x at *
            have f1 : (x.f0 ≤ s) = False := eq_false (by omega)
            have f2 : (x.f0 > t) = False := eq_false (by omega)
            have f3 : (t < x.f0) = False := eq_false (by omega)
            have hX := heap_alloc_new wr (.cells #[Value.int .i64 x.f0, Value.int .i64 x.f1] 29)
            have hx0 := cell_of_heap hX 0 _ rfl
            have hx1 := cell_of_heap hX 1 _ rfl
            go_wp2_with (go_at_call 24; refine (HCT.out x _ x1 (by repeat (first | exact HB3.out | apply below_alloc | apply pw_below_drewN | apply below_drew))).mono ?_; rintro e w9 ⟨rfl, hb⟩; have HB9 := Aside0.mk ((show Below w8.heap.size w8 _ from (by repeat (first | exact HB.out | apply below_alloc | apply pw_below_drewN | apply below_drew))).trans (hb.mono (by have := HB.out.size; simp; omega))); clear hb)
            go_roundg (ps.length - (j + 1))
            case measure => have := HK.out; omega
            case rel => exact ⟨j + 1, by simp, by omega, ⟨rfl⟩, HB9⟩
          · have hjl : j = ps.length := by omega
            subst hjl
            have dl : decide (ps.length < ps.length) = false := decide_eq_false hlt
            by_cases hz : M.2 = 0
            · have HM4 := Aside0.mk (HM3.out hz)
              rw [hz] at HM
              clear HM3 hz
              generalize M.1 = m at *
              generalize M.2 = k at *
              go_wp2_with (first
                | (go_at_call 26; refine (HM.out _ (by repeat (first | exact HB3.out | apply below_alloc | apply pw_below_drewN | apply below_drew))).mono ?_; rintro e w10 ⟨v10, rfl, hR, hb⟩; have HR10 := Aside0.mk hR; have HB10 := Aside0.mk (Below.refl w10.heap.size w10); have n1_ := Aside0.mk ((show Below w.heap.size w _ by repeat (first | exact HB3.out | apply below_alloc | apply pw_below_drewN | apply below_drew)).trans (hb.mono (by have := HB3.out.size; simp; try omega))); clear HB3; have HB3 := n1_; clear n1_; clear hb hR HM)
                | (go_at_call 17; refine (HS3.out _ (by repeat (first | exact HB3.out | apply below_alloc | apply pw_below_drewN | apply below_drew))).mono ?_; rintro e w11 ⟨v11, rfl, hR, hb⟩; obtain ⟨A11, c11, rfl, hc11, hC11⟩ := Kd.R_reads hR; have HC11 := Aside0.mk hC11; have n1_ := Aside0.mk ((show Below w.heap.size w _ by repeat (first | exact HB3.out | apply below_alloc | apply pw_below_drewN | apply below_drew)).trans (hb.mono (by have := HB3.out.size; simp; try omega))); clear HB3; have HB3 := n1_; clear n1_; have n1_ := Aside0.mk ((show Below w10.heap.size w10 _ by repeat (first | exact HB10.out | apply below_alloc | apply pw_below_drewN | apply below_drew)).trans (hb.mono (by have := HB10.out.size; simp; try omega))); clear HB10; have HB10 := n1_; clear n1_; clear hb hR hC11 HS3)
                | (go_at_call 17; refine (HSB2.out _ (by repeat (first | exact HB3.out | apply below_alloc | apply pw_below_drewN | apply below_drew))).mono ?_; rintro e w12 ⟨v12, rfl, hR, hb⟩; obtain ⟨A12, c12, rfl, hc12, hC12⟩ := Kd.R_reads hR; have HC12 := Aside0.mk hC12; have HC11b := Aside0.mk (Kd.C_below HC11.out hb); have n1_ := Aside0.mk ((show Below w.heap.size w _ by repeat (first | exact HB3.out | apply below_alloc | apply pw_below_drewN | apply below_drew)).trans (hb.mono (by have := HB3.out.size; simp; try omega))); clear HB3; have HB3 := n1_; clear n1_; have n1_ := Aside0.mk ((show Below w10.heap.size w10 _ by repeat (first | exact HB10.out | apply below_alloc | apply pw_below_drewN | apply below_drew)).trans (hb.mono (by have := HB10.out.size; simp; try omega))); clear HB10; have HB10 := n1_; clear n1_; clear hb hR hC12 HSB2 HC11)
                | (go_at_call 26; refine (HM4.out _ _ _ _ _ HC11b.out hc11 HC12.out hc12).mono ?_; rintro e w13 ⟨v13, rfl, hR, hb⟩; have HR13 := Aside0.mk hR; have HB13 := Aside0.mk (Below.refl w13.heap.size w13); have n1_ := Aside0.mk ((show Below w.heap.size w _ by repeat (first | exact HB3.out | apply below_alloc | apply pw_below_drewN | apply below_drew)).trans (hb.mono (by have := HB3.out.size; simp; try omega))); clear HB3; have HB3 := n1_; clear n1_; have n1_ := Aside0.mk ((show Below w10.heap.size w10 _ by repeat (first | exact HB10.out | apply below_alloc | apply pw_below_drewN | apply below_drew)).trans (hb.mono (by have := HB10.out.size; simp; try omega))); clear HB10; have HB10 := n1_; clear n1_; clear hb hR HM4)
                | (go_at_call 17; refine (HSM.out _ _ _ _ HR10.out (by repeat (first | exact HB10.out | apply below_alloc | apply pw_below_drewN | apply below_drew))).mono ?_; rintro e w14 ⟨v14, rfl, hR, hb⟩; have HR14 := Aside0.mk hR; have HB14 := Aside0.mk (Below.refl w14.heap.size w14); have HR13b := Aside0.mk (Kd.R_below HR13.out hb); have n1_ := Aside0.mk ((show Below w.heap.size w _ by repeat (first | exact HB3.out | apply below_alloc | apply pw_below_drewN | apply below_drew)).trans (hb.mono (by have := HB3.out.size; simp; try omega))); clear HB3; have HB3 := n1_; clear n1_; clear hb hR HR10 HSM)
                | (go_at_call 16; refine (HSP.out _ _ _ _ _ _ HR14.out HR13b.out (by repeat (first | exact HB14.out | apply below_alloc | apply pw_below_drewN | apply below_drew))).mono ?_; rintro e w15 ⟨rfl, ⟨q15, rfl⟩⟩; clear HSP)
                | (go_at_call 12; refine (HA.out _).mono ?_; rintro e wa ⟨rfl, hb⟩; have n1_ := Aside0.mk ((show Below w.heap.size w _ by repeat (first | exact HB3.out | apply below_alloc | apply pw_below_drewN | apply below_drew)).trans (hb.mono (by have := HB3.out.size; simp; try omega))); clear HB3; have HB3 := n1_; clear n1_; clear hb))
              go_ret
              exact ⟨rfl, HB3.out⟩
            · have hz1 : (M.2 == 0) = false := by simpa using hz
              have hz2 : (M.2 != 0) = true := by simpa using hz
              clear HM3 hz
              generalize M.1 = m at *
              generalize M.2 = k at *
              go_wp2_with (first
                | (go_at_call 26; refine (HM.out _ (by repeat (first | exact HB3.out | apply below_alloc | apply pw_below_drewN | apply below_drew))).mono ?_; rintro e w10 ⟨v10, rfl, hR, hb⟩; have n1_ := Aside0.mk ((show Below w.heap.size w _ by repeat (first | exact HB3.out | apply below_alloc | apply pw_below_drewN | apply below_drew)).trans (hb.mono (by have := HB3.out.size; simp; try omega))); clear HB3; have HB3 := n1_; clear n1_; clear hb hR HM)
                | (go_at_call 12; refine (HA.out _).mono ?_; rintro e wa ⟨rfl, hb⟩; have n1_ := Aside0.mk ((show Below w.heap.size w _ by repeat (first | exact HB3.out | apply below_alloc | apply pw_below_drewN | apply below_drew)).trans (hb.mono (by have := HB3.out.size; simp; try omega))); clear HB3; have HB3 := n1_; clear n1_; clear hb))
              go_ret
              exact ⟨rfl, HB3.out⟩
      · have e1 : (chkK 1 a == 0) = true := by simpa using ha
        have e2 : (chkK 1 b == 0) = false := by simpa using hb
        rw [e1] at HVA
        rw [e2] at HVB
        clear ha hb hrA hrB hc hd
        go_enter Try.func8, Try.ntmps8
        go_wp2_with (first
          | (go_at_call 10; refine (HG.out _ _ rfl (by repeat (first | exact HB2.out | apply below_alloc | apply pw_below_drewN | apply below_drew))).mono ?_; rintro e w1 ⟨rfl, ⟨q, rfl⟩⟩; clear HG)
          | (go_at_call 25; refine (HVA.out _ (by repeat (first | exact HB2.out | apply below_alloc | apply pw_below_drewN | apply below_drew))).mono ?_; rintro e w2 ⟨rfl, hb⟩; have n1_ := Aside0.mk ((show Below w.heap.size w _ by repeat (first | exact HB2.out | apply below_alloc | apply pw_below_drewN | apply below_drew)).trans (hb.mono (by have := HB2.out.size; simp; try omega))); clear HB2; have HB2 := n1_; clear n1_; clear hb HVA)
          | (go_at_call 25; refine (HVB.out _ (by repeat (first | exact HB2.out | apply below_alloc | apply pw_below_drewN | apply below_drew))).mono ?_; rintro e w3 ⟨rfl, hb⟩; have n1_ := Aside0.mk ((show Below w.heap.size w _ by repeat (first | exact HB2.out | apply below_alloc | apply pw_below_drewN | apply below_drew)).trans (hb.mono (by have := HB2.out.size; simp; try omega))); clear HB2; have HB2 := n1_; clear n1_; clear hb HVB)
          | (go_at_call 12; refine (HA.out _).mono ?_; rintro e wa ⟨rfl, hb⟩; have n1_ := Aside0.mk ((show Below w.heap.size w _ by repeat (first | exact HB2.out | apply below_alloc | apply pw_below_drewN | apply below_drew)).trans (hb.mono (by have := HB2.out.size; simp; try omega))); clear HB2; have HB2 := n1_; clear n1_; clear hb))
        go_ret
        exact ⟨rfl, HB2.out⟩
    · have e1 : (chkK 1 a == 0) = false := by simpa using ha
      rw [e1] at HVA
      clear ha hrA hrB hc hd
      go_enter Try.func8, Try.ntmps8
      go_wp2_with (first
        | (go_at_call 10; refine (HG.out _ _ rfl (by repeat (first | exact HB2.out | apply below_alloc | apply pw_below_drewN | apply below_drew))).mono ?_; rintro e w1 ⟨rfl, ⟨q, rfl⟩⟩; clear HG)
        | (go_at_call 25; refine (HVA.out _ (by repeat (first | exact HB2.out | apply below_alloc | apply pw_below_drewN | apply below_drew))).mono ?_; rintro e w2 ⟨rfl, hb⟩; have n1_ := Aside0.mk ((show Below w.heap.size w _ by repeat (first | exact HB2.out | apply below_alloc | apply pw_below_drewN | apply below_drew)).trans (hb.mono (by have := HB2.out.size; simp; try omega))); clear HB2; have HB2 := n1_; clear n1_; clear hb HVA)
        | (go_at_call 12; refine (HA.out _).mono ?_; rintro e wa ⟨rfl, hb⟩; have n1_ := Aside0.mk ((show Below w.heap.size w _ by repeat (first | exact HB2.out | apply below_alloc | apply pw_below_drewN | apply below_drew)).trans (hb.mono (by have := HB2.out.size; simp; try omega))); clear HB2; have HB2 := n1_; clear n1_; clear hb))
      go_ret
      exact ⟨rfl, HB2.out⟩
end Go.Proofs.Ytjgkcgfbkcbjfaa.H
