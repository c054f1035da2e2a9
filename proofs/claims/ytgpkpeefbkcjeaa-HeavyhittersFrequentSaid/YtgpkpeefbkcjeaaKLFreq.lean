/- The walk of HeavyhittersFrequent. -/
import Derived.Test.YtgpkpeefbkcjeaaKFreq
namespace Go.Proofs.Ytgpkpeefbkcjeaa.H
open Go Go.RowKit Go.Proofs.YtgpkpeefbkcjeaaW.PrintWords Go.Proofs.YtgpkpeefbkcjeaaW.PrintLast Go.Proofs.YtgpkpeefbkcjeaaW.PrintMore Go.Proofs.Ytgpkpeefbkcjeaa.PAll
set_option linter.unusedVariables false
set_option linter.unusedSimpArgs false

/-- What Above comes to at a summary of keys that were added. -/
theorem abvH_of {K : Int} {x : HV} {l : List S49} (h : Of K x l) (n : Int) : ∃ may sure r, abvH x n = (may, sure, r) ∧ may.length ≤ x.f3.length ∧ sure.length ≤ x.f3.length ∧
    ((r = 2 ∧ ¬ x.f2 < n) ∨ (r = 0 ∧ x.f2 < n ∧ (∀ k, n ≤ truth l k → k ∈ may) ∧ (∀ k, truth l k < n → k ∉ sure))) := by
  have hc : chkH x = 0 := (chkH_iff x).2 h.val
  unfold abvH
  rw [if_neg (by rw [hc]; simp)]
  by_cases hn : n ≤ x.f2
  · rw [if_pos hn]
    exact ⟨_, _, _, rfl, by simp, by simp, .inl ⟨rfl, by omega⟩⟩
  · rw [if_neg hn]
    exact ⟨_, _, _, rfl, abv_len _ _, abv_len _ _, .inr ⟨rfl, by omega, fun k hk => h.may (by omega) hk, fun k hk => h.sure hk⟩⟩

theorem has_of {K : Int} {x : HV} {l : List S49} (h : Of K x l) (k : ByteArray) (ht : x.f1 < truth l k * K) : x.f3.any (hasKy k) = true := by
  obtain ⟨y, hy, e⟩ := h.frequent k ht
  exact List.any_eq_true.2 ⟨y, hy, by simp [hasKy, e]⟩

set_option maxRecDepth 100000 in
set_option maxHeartbeats 16000000 in
theorem Freq_row (w : World) (k : Nat) (hk : k < 256) (ls : List L49) (A : Option Addr) (c : Nat) (hr : Kd.C kLM w A ls.length ls) (hc : ls.length ≤ c) (n : Int) (hnw : (Lit.int .i64 n).wf = true) :
    Calls Try.prog 9 #[.int .u8 (k : Int), .slice A ls.length c, .int .i64 n] w fun e w' => e = .returned (.bool true) ∧ Below w.heap.size w w' := by
  have HFI := Aside0.mk (fits_calls A c ls w hr hc)
  have HA := Aside0.mk (fun W => awake_calls W)
  have hu := Try.underlying45
  have hu2 := Try.underlying24
  have hu3 := Try.underlying49
  have hn : IntKind.i64.wrap (k : Int) = (k : Int) := by rw [IntKind.wrap_i64]; omega
  clear hnw
  cases hfi : fitsL ls
  · rw [hfi] at HFI
    clear hfi hr
    go_enter Try.func9, Try.ntmps9
    go_wp2_with (first
      | (go_at_call 26; (with_reducible refine HFI.out.mono ?_); rintro e w1 ⟨rfl, hb⟩; have HB1 := Aside0.mk hb; clear hb)
      | (go_at_call 11; (with_reducible refine (HA.out _).mono ?_); rintro e w2 ⟨rfl, hb⟩; have HB2 := Aside0.mk (HB1.out.trans (hb.mono HB1.out.size)); clear hb))
    go_ret
    exact ⟨rfl, HB2.out⟩
  · rw [hfi] at HFI
    have HF := Aside0.mk (fits_of hfi)
    clear hfi
    have HTR := Aside0.mk (fun W (h : Below w.heap.size w W) => tree_calls (2 + (k : Int) % 11) (by omega) (by omega) ls HF.out A c W (Kd.C_below hr h) hc)
    have hk0 : 2 ≤ 2 + (k : Int) % 11 := by omega
    have hk1 : 2 + (k : Int) % 11 ≤ 12 := by omega
    have HFL := Aside0.mk (flat_few ls HF.out.2.2)
    have HPT := Aside0.mk (show ∀ m ∈ ls.flatten, 0 ≤ m.f1 ∧ m.f1 ≤ 1000000 from fun m hm => by
      obtain ⟨l, hl, hml⟩ := List.mem_flatten.1 hm
      exact ((HF.out.2.2 l hl).2 m hml).2)
    have hfl := HFL.out.2.2
    have hls := HF.out.2.1
    have hfn : ls.flatten.length ≤ 100 := by omega
    have HSM := Aside0.mk (show 0 ≤ sumN ls.flatten ∧ sumN ls.flatten ≤ 100000000 by have := HFL.out; omega)
    clear hr hfl hls HF HFL
    generalize ls.flatten = all at *
    go_enter Try.func9, Try.ntmps9
    go_wp2_with (first
      | (go_at_call 26; (with_reducible refine HFI.out.mono ?_); rintro e w1 ⟨rfl, hb⟩; have HB1 := Aside0.mk hb; clear hb)
      | (go_at_call 27; (refine (HTR.out _ HB1.out).mono ?_); rintro e w2 ⟨x, v, va, rfl, hof, ⟨A2, c2, rfl, hl2, hC2⟩, hown, hb⟩; have HB2 := Aside0.mk (HB1.out.trans (hb.mono HB1.out.size)); obtain ⟨Aa, ca, rfl⟩ := own_slice hown; have HOF := Aside0.mk hof; have hC := Kd.C_below hC2 (below_alloc (Below.refl _ w2) (.cells #[.int .i64 x.f0, .int .i64 x.f1, .int .i64 x.f2, .slice A2 x.f3.length c2] 24)); have HCX := Aside0.mk hC; have HL2 := Aside0.mk hl2; have HRA := Aside0.mk (Kd.R_reads' (mR_of_lcells hown)); have hxt := hof.val.t1; have hxn := hof.val.len; have hx1 := hof.val.k1; have HLN := Aside0.mk (show x.f3.length ≤ 100 by omega); have hbx := heap_alloc_new w2 (.cells #[.int .i64 x.f0, .int .i64 x.f1, .int .i64 x.f2, .slice A2 x.f3.length c2] 24); have HBX := Aside0.mk hbx; have x0 := (blk_cell hbx 0).trans rfl; have x1 := (blk_cell hbx 1).trans rfl; have x2 := (blk_cell hbx 2).trans rfl; have x3 := (blk_cell hbx 3).trans rfl; simp only [List.getElem?_toArray, List.getElem?_cons_zero, List.getElem?_cons_succ] at x0 x1 x2 x3; clear hb hof hC hC2 hl2 hown HTR hxn hx1 hbx))
    have HWA0 := Aside0.mk (below_alloc HB2.out (.cells #[.int .i64 x.f0, .int .i64 x.f1, .int .i64 x.f2, .slice A2 x.f3.length c2] 24))
    have HS2 := Aside0.mk (show w2.heap.size < (w2.alloc (.cells #[.int .i64 x.f0, .int .i64 x.f1, .int .i64 x.f2, .slice A2 x.f3.length c2] 24)).heap.size by simp)
    have HRB := Aside0.mk (Kd.C_below HRA.out.2.2 (below_alloc (Below.refl _ w2) (.cells #[.int .i64 x.f0, .int .i64 x.f1, .int .i64 x.f2, .slice A2 x.f3.length c2] 24)))
    generalize hWW : w2.alloc (.cells #[.int .i64 x.f0, .int .i64 x.f1, .int .i64 x.f2, .slice A2 x.f3.length c2] 24) = W2 at *
    clear hWW
    obtain ⟨may, sure, r, hab, hm1, hm2, hr⟩ := abvH_of HOF.out n
    have HAB := Aside0.mk (Above_calls x n A2 c2 W2 HCX.out HL2.out (by have := HLN.out; simp only [LB]; omega))
    rw [hab] at HAB
    have HM1 := Aside0.mk hm1
    have HM2 := Aside0.mk hm2
    clear hab hm1 hm2
    rcases hr with ⟨rfl, hr⟩ | ⟨rfl, hr, hmay, hsure⟩
    · have dn : decide (x.f2 < n) = false := decide_eq_false hr
      have HMS := Aside0.mk (show False → (∀ k, n ≤ truth all k → k ∈ may) ∧ (∀ k, truth all k < n → k ∉ sure) from fun h => h.elim)
      clear hr
      go_wp2_with (go_at_call 21; (with_reducible refine HAB.out.mono ?_); rintro e w3 ⟨v0, v1, rfl, h0, h1, hb⟩; have H0 := Aside0.mk h0; have H1 := Aside0.mk h1; have HB3 := Aside0.mk hb; have hb3 := (hb.block w2.heap.size HS2.out).trans HBX.out; have HX3 := Aside0.mk hb3; clear HAB x0 x1 x2 x3 h0 h1 hb; have x0 := (blk_cell hb3 0).trans rfl; have x1 := (blk_cell hb3 1).trans rfl; have x2 := (blk_cell hb3 2).trans rfl; have x3 := (blk_cell hb3 3).trans rfl; simp only [List.getElem?_toArray, List.getElem?_cons_zero, List.getElem?_cons_succ] at x0 x1 x2 x3; clear hb3)
      go_loopg [51] (all.length) (fun kq v51 w' => ∃ j : Nat, v51 = .int .i64 j ∧ j ≤ all.length ∧ Aside0 (kq = all.length - j) ∧ Aside0 (Below w3.heap.size w3 w'))
      case atStart => exact ⟨0, rfl, by omega, ⟨rfl⟩, ⟨Below.refl _ _⟩⟩
      case round =>
        obtain ⟨j, rfl, hj, HKQ, HBR⟩ := hrel
        have hs3 : w2.heap.size < w3.heap.size := heap_lt HX3.out
        have hxr := (HBR.out.block w2.heap.size hs3).trans HX3.out
        have HWR := Aside0.mk (HB3.out.trans (HBR.out.mono HB3.out.size))
        clear x0 x1 x2 x3
        by_cases hlt : j < all.length
        · obtain ⟨ad, e1, g0, g1⟩ := at_T49 (Kd.C_below HRB.out HWR.out) (j : Int) (by omega) (by omega)
          cases e1
          rw [rdM_get all j hlt] at g0 g1
          simp only [Int.toNat_natCast] at g0 g1
          have pl : (0 ≤ (j : Int)) = True := eq_true (by omega)
          have dl : decide (j < all.length) = true := decide_eq_true hlt
          generalize all[j] = m at *
          have HT' := Aside0.mk (fun W (h : Below W2.heap.size W2 W) => truth_calls all m.f0 _ ca W (Kd.C_below HRB.out h) HRA.out.2.1 (by simp only [LB]; omega) HPT.out)
          have ht0 := truth_nonneg (l := all) (fun m hm => (HPT.out m hm).1) m.f0
          have ht1 := truth_le (l := all) (fun m hm => (HPT.out m hm).1) m.f0
          have ht2 := HSM.out.2
          have HHS := Aside0.mk (has_of HOF.out m.f0)
          have HMM := Aside0.mk (fun q => (HMS.out q).1 m.f0)
          have HMU := Aside0.mk (fun q => (HMS.out q).2 m.f0)
          have HCK := Aside0.mk (fun W (h : Below W2.heap.size W2 W) (hB : wr.heap.size < W.heap.size) (hy : W.cell? ⟨wr.heap.size, 0, none⟩ = some (.string m.f0)) => ContainsK_calls m.f0 wr.heap.size A2 c2 x.f3 W hB hy (Kd.C_below HCX.out h) HL2.out (by have := HLN.out; omega))
          have hq1 : truth all m.f0 * (2 + (k : Int) % 11) ≤ 100000000 * 12 := Int.mul_le_mul (by omega) hk1 (by omega) (by omega)
          have hq0 : 0 ≤ truth all m.f0 * (2 + (k : Int) % 11) := Int.mul_nonneg ht0 (by omega)
          generalize x.f3.any (hasKy m.f0) = hs at *
          generalize truth all m.f0 = tr at *
          have hq2 : tr * (2 + (k : Int) % 11) ≤ 1200000000 := by omega
          have ht3 : tr ≤ 100000000 := by omega
          clear hq1 ht1 ht2
          have hxn := heap_alloc_keep (o := (.cells #[.string m.f0, .int .i64 m.f1] 49)) hxr
          have hmn := heap_alloc_new wr (.cells #[.string m.f0, .int .i64 m.f1] 49)
          have x0 := (blk_cell hxn 0).trans rfl; have x1 := (blk_cell hxn 1).trans rfl; have x2 := (blk_cell hxn 2).trans rfl; have x3 := (blk_cell hxn 3).trans rfl; simp only [List.getElem?_toArray, List.getElem?_cons_zero, List.getElem?_cons_succ] at x0 x1 x2 x3
          have n0 := (blk_cell hmn 0).trans rfl; have n1 := (blk_cell hmn 1).trans rfl; simp only [List.getElem?_toArray, List.getElem?_cons_zero, List.getElem?_cons_succ] at n0 n1
          have HXN := Aside0.mk hxn
          have HMN := Aside0.mk hmn
          have HWA := Aside0.mk (below_alloc HWR.out (.cells #[.string m.f0, .int .i64 m.f1] 49))
          have HWZ := Aside0.mk (show wr.heap.size < (wr.alloc (.cells #[.string m.f0, .int .i64 m.f1] 49)).heap.size by simp)
          have HX2 := Aside0.mk (show w2.heap.size < (wr.alloc (.cells #[.string m.f0, .int .i64 m.f1] 49)).heap.size by have := heap_lt hxr; simp; omega)
          have HRZ := Aside0.mk (below_alloc HBR.out (.cells #[.string m.f0, .int .i64 m.f1] 49))
          clear hxn hmn hxr
          by_cases ht : x.f1 < tr * (2 + (k : Int) % 11)
          · have d1 := decide_eq_true ht; obtain rfl := HHS.out ht
            by_cases hnt : n ≤ tr
            · have d2 := decide_eq_true hnt; have d3 : decide (tr < n) = false := decide_eq_false (by omega); have HCM := Aside0.mk (fun q W (h : CS W v0 may) => ContainsS_calls may m.f0 v0 W h (by have := HM1.out; have := HLN.out; simp only [LB]; omega) true ⟨fun _ => HMM.out q hnt, fun _ => rfl⟩)
              clear ht hnt HHS HMM HMU
              go_wp2_with (first
                | (go_at_call 28; (with_reducible refine (HT'.out _ HWA.out).mono ?_); rintro e w6 ⟨rfl, hb⟩; have hm6 := (hb.block wr.heap.size HWZ.out).trans HMN.out; have hx6 := (hb.block w2.heap.size HX2.out).trans HXN.out; have HM6 := Aside0.mk hm6; have HX6 := Aside0.mk hx6; have HW6 := Aside0.mk (HWA.out.trans (hb.mono HWA.out.size)); have HR6 := Aside0.mk (HRZ.out.trans (hb.mono HRZ.out.size)); have HS6 := Aside0.mk (Nat.lt_of_lt_of_le HWZ.out hb.size); clear hb n0 n1 x0 x1 x2 x3; have n0 := (blk_cell hm6 0).trans rfl; have n1 := (blk_cell hm6 1).trans rfl; simp only [List.getElem?_toArray, List.getElem?_cons_zero, List.getElem?_cons_succ] at n0 n1; have x0 := (blk_cell hx6 0).trans rfl; have x1 := (blk_cell hx6 1).trans rfl; have x2 := (blk_cell hx6 2).trans rfl; have x3 := (blk_cell hx6 3).trans rfl; simp only [List.getElem?_toArray, List.getElem?_cons_zero, List.getElem?_cons_succ] at x0 x1 x2 x3; have hy6 := n0; clear hm6 hx6)
                | (go_at_call 31; (with_reducible refine (HCK.out _ HW6.out HS6.out hy6).mono ?_); rintro e w7 ⟨rfl, hb⟩; have hm7 := (hb.block wr.heap.size HS6.out).trans HM6.out; have hx7 := (hb.block w2.heap.size (heap_lt HX6.out)).trans HX6.out; have HR7 := Aside0.mk (HR6.out.trans (hb.mono HR6.out.size)); clear hb n0 n1 x0 x1 x2 x3 hy6; have n0 := (blk_cell hm7 0).trans rfl; have n1 := (blk_cell hm7 1).trans rfl; simp only [List.getElem?_toArray, List.getElem?_cons_zero, List.getElem?_cons_succ] at n0 n1; have x0 := (blk_cell hx7 0).trans rfl; have x1 := (blk_cell hx7 1).trans rfl; have x2 := (blk_cell hx7 2).trans rfl; have x3 := (blk_cell hx7 3).trans rfl; simp only [List.getElem?_toArray, List.getElem?_cons_zero, List.getElem?_cons_succ] at x0 x1 x2 x3; clear hm7 hx7)
                | (go_at_call 33; (with_reducible refine (HCM.out trivial _ (H0.out.below HR7.out)).mono ?_); rintro e w8 ⟨rfl, ⟨qq, rfl⟩⟩)
                | (go_at_call 33; (with_reducible refine (HCM.out trivial _ (H1.out.below HR7.out)).mono ?_); rintro e w8 ⟨rfl, ⟨qq, rfl⟩⟩))
              go_roundg (all.length - (j + 1))
              case measure => have := HKQ.out; omega
              case rel => exact ⟨j + 1, by simp, by omega, ⟨rfl⟩, ⟨by first | exact HR7.out | exact pw_below_drewN HR7.out _⟩⟩
            · have d2 := decide_eq_false hnt; have d3 : decide (tr < n) = true := decide_eq_true (by omega); have HCM := Aside0.mk (fun q W (h : CS W v1 sure) => ContainsS_calls sure m.f0 v1 W h (by have := HM2.out; have := HLN.out; simp only [LB]; omega) false ⟨fun h => (by cases h), fun h => absurd h (HMU.out q (by omega))⟩)
              clear ht hnt HHS HMM HMU
              go_wp2_with (first
                | (go_at_call 28; (with_reducible refine (HT'.out _ HWA.out).mono ?_); rintro e w6 ⟨rfl, hb⟩; have hm6 := (hb.block wr.heap.size HWZ.out).trans HMN.out; have hx6 := (hb.block w2.heap.size HX2.out).trans HXN.out; have HM6 := Aside0.mk hm6; have HX6 := Aside0.mk hx6; have HW6 := Aside0.mk (HWA.out.trans (hb.mono HWA.out.size)); have HR6 := Aside0.mk (HRZ.out.trans (hb.mono HRZ.out.size)); have HS6 := Aside0.mk (Nat.lt_of_lt_of_le HWZ.out hb.size); clear hb n0 n1 x0 x1 x2 x3; have n0 := (blk_cell hm6 0).trans rfl; have n1 := (blk_cell hm6 1).trans rfl; simp only [List.getElem?_toArray, List.getElem?_cons_zero, List.getElem?_cons_succ] at n0 n1; have x0 := (blk_cell hx6 0).trans rfl; have x1 := (blk_cell hx6 1).trans rfl; have x2 := (blk_cell hx6 2).trans rfl; have x3 := (blk_cell hx6 3).trans rfl; simp only [List.getElem?_toArray, List.getElem?_cons_zero, List.getElem?_cons_succ] at x0 x1 x2 x3; have hy6 := n0; clear hm6 hx6)
                | (go_at_call 31; (with_reducible refine (HCK.out _ HW6.out HS6.out hy6).mono ?_); rintro e w7 ⟨rfl, hb⟩; have hm7 := (hb.block wr.heap.size HS6.out).trans HM6.out; have hx7 := (hb.block w2.heap.size (heap_lt HX6.out)).trans HX6.out; have HR7 := Aside0.mk (HR6.out.trans (hb.mono HR6.out.size)); clear hb n0 n1 x0 x1 x2 x3 hy6; have n0 := (blk_cell hm7 0).trans rfl; have n1 := (blk_cell hm7 1).trans rfl; simp only [List.getElem?_toArray, List.getElem?_cons_zero, List.getElem?_cons_succ] at n0 n1; have x0 := (blk_cell hx7 0).trans rfl; have x1 := (blk_cell hx7 1).trans rfl; have x2 := (blk_cell hx7 2).trans rfl; have x3 := (blk_cell hx7 3).trans rfl; simp only [List.getElem?_toArray, List.getElem?_cons_zero, List.getElem?_cons_succ] at x0 x1 x2 x3; clear hm7 hx7)
                | (go_at_call 33; (with_reducible refine (HCM.out trivial _ (H0.out.below HR7.out)).mono ?_); rintro e w8 ⟨rfl, ⟨qq, rfl⟩⟩)
                | (go_at_call 33; (with_reducible refine (HCM.out trivial _ (H1.out.below HR7.out)).mono ?_); rintro e w8 ⟨rfl, ⟨qq, rfl⟩⟩))
              go_roundg (all.length - (j + 1))
              case measure => have := HKQ.out; omega
              case rel => exact ⟨j + 1, by simp, by omega, ⟨rfl⟩, ⟨by first | exact HR7.out | exact pw_below_drewN HR7.out _⟩⟩
          · have d1 := decide_eq_false ht
            by_cases hnt : n ≤ tr
            · have d2 := decide_eq_true hnt; have d3 : decide (tr < n) = false := decide_eq_false (by omega); have HCM := Aside0.mk (fun q W (h : CS W v0 may) => ContainsS_calls may m.f0 v0 W h (by have := HM1.out; have := HLN.out; simp only [LB]; omega) true ⟨fun _ => HMM.out q hnt, fun _ => rfl⟩)
              clear ht hnt HHS HMM HMU
              go_wp2_with (first
                | (go_at_call 28; (with_reducible refine (HT'.out _ HWA.out).mono ?_); rintro e w6 ⟨rfl, hb⟩; have hm6 := (hb.block wr.heap.size HWZ.out).trans HMN.out; have hx6 := (hb.block w2.heap.size HX2.out).trans HXN.out; have HM6 := Aside0.mk hm6; have HX6 := Aside0.mk hx6; have HW6 := Aside0.mk (HWA.out.trans (hb.mono HWA.out.size)); have HR6 := Aside0.mk (HRZ.out.trans (hb.mono HRZ.out.size)); have HS6 := Aside0.mk (Nat.lt_of_lt_of_le HWZ.out hb.size); clear hb n0 n1 x0 x1 x2 x3; have n0 := (blk_cell hm6 0).trans rfl; have n1 := (blk_cell hm6 1).trans rfl; simp only [List.getElem?_toArray, List.getElem?_cons_zero, List.getElem?_cons_succ] at n0 n1; have x0 := (blk_cell hx6 0).trans rfl; have x1 := (blk_cell hx6 1).trans rfl; have x2 := (blk_cell hx6 2).trans rfl; have x3 := (blk_cell hx6 3).trans rfl; simp only [List.getElem?_toArray, List.getElem?_cons_zero, List.getElem?_cons_succ] at x0 x1 x2 x3; have hy6 := n0; clear hm6 hx6)
                | (go_at_call 31; (with_reducible refine (HCK.out _ HW6.out HS6.out hy6).mono ?_); rintro e w7 ⟨rfl, hb⟩; have hm7 := (hb.block wr.heap.size HS6.out).trans HM6.out; have hx7 := (hb.block w2.heap.size (heap_lt HX6.out)).trans HX6.out; have HR7 := Aside0.mk (HR6.out.trans (hb.mono HR6.out.size)); clear hb n0 n1 x0 x1 x2 x3 hy6; have n0 := (blk_cell hm7 0).trans rfl; have n1 := (blk_cell hm7 1).trans rfl; simp only [List.getElem?_toArray, List.getElem?_cons_zero, List.getElem?_cons_succ] at n0 n1; have x0 := (blk_cell hx7 0).trans rfl; have x1 := (blk_cell hx7 1).trans rfl; have x2 := (blk_cell hx7 2).trans rfl; have x3 := (blk_cell hx7 3).trans rfl; simp only [List.getElem?_toArray, List.getElem?_cons_zero, List.getElem?_cons_succ] at x0 x1 x2 x3; clear hm7 hx7)
                | (go_at_call 33; (with_reducible refine (HCM.out trivial _ (H0.out.below HR7.out)).mono ?_); rintro e w8 ⟨rfl, ⟨qq, rfl⟩⟩)
                | (go_at_call 33; (with_reducible refine (HCM.out trivial _ (H1.out.below HR7.out)).mono ?_); rintro e w8 ⟨rfl, ⟨qq, rfl⟩⟩))
              go_roundg (all.length - (j + 1))
              case measure => have := HKQ.out; omega
              case rel => exact ⟨j + 1, by simp, by omega, ⟨rfl⟩, ⟨by first | exact HR7.out | exact pw_below_drewN HR7.out _⟩⟩
            · have d2 := decide_eq_false hnt; have d3 : decide (tr < n) = true := decide_eq_true (by omega); have HCM := Aside0.mk (fun q W (h : CS W v1 sure) => ContainsS_calls sure m.f0 v1 W h (by have := HM2.out; have := HLN.out; simp only [LB]; omega) false ⟨fun h => (by cases h), fun h => absurd h (HMU.out q (by omega))⟩)
              clear ht hnt HHS HMM HMU
              go_wp2_with (first
                | (go_at_call 28; (with_reducible refine (HT'.out _ HWA.out).mono ?_); rintro e w6 ⟨rfl, hb⟩; have hm6 := (hb.block wr.heap.size HWZ.out).trans HMN.out; have hx6 := (hb.block w2.heap.size HX2.out).trans HXN.out; have HM6 := Aside0.mk hm6; have HX6 := Aside0.mk hx6; have HW6 := Aside0.mk (HWA.out.trans (hb.mono HWA.out.size)); have HR6 := Aside0.mk (HRZ.out.trans (hb.mono HRZ.out.size)); have HS6 := Aside0.mk (Nat.lt_of_lt_of_le HWZ.out hb.size); clear hb n0 n1 x0 x1 x2 x3; have n0 := (blk_cell hm6 0).trans rfl; have n1 := (blk_cell hm6 1).trans rfl; simp only [List.getElem?_toArray, List.getElem?_cons_zero, List.getElem?_cons_succ] at n0 n1; have x0 := (blk_cell hx6 0).trans rfl; have x1 := (blk_cell hx6 1).trans rfl; have x2 := (blk_cell hx6 2).trans rfl; have x3 := (blk_cell hx6 3).trans rfl; simp only [List.getElem?_toArray, List.getElem?_cons_zero, List.getElem?_cons_succ] at x0 x1 x2 x3; have hy6 := n0; clear hm6 hx6)
                | (go_at_call 31; (with_reducible refine (HCK.out _ HW6.out HS6.out hy6).mono ?_); rintro e w7 ⟨rfl, hb⟩; have hm7 := (hb.block wr.heap.size HS6.out).trans HM6.out; have hx7 := (hb.block w2.heap.size (heap_lt HX6.out)).trans HX6.out; have HR7 := Aside0.mk (HR6.out.trans (hb.mono HR6.out.size)); clear hb n0 n1 x0 x1 x2 x3 hy6; have n0 := (blk_cell hm7 0).trans rfl; have n1 := (blk_cell hm7 1).trans rfl; simp only [List.getElem?_toArray, List.getElem?_cons_zero, List.getElem?_cons_succ] at n0 n1; have x0 := (blk_cell hx7 0).trans rfl; have x1 := (blk_cell hx7 1).trans rfl; have x2 := (blk_cell hx7 2).trans rfl; have x3 := (blk_cell hx7 3).trans rfl; simp only [List.getElem?_toArray, List.getElem?_cons_zero, List.getElem?_cons_succ] at x0 x1 x2 x3; clear hm7 hx7)
                | (go_at_call 33; (with_reducible refine (HCM.out trivial _ (H0.out.below HR7.out)).mono ?_); rintro e w8 ⟨rfl, ⟨qq, rfl⟩⟩)
                | (go_at_call 33; (with_reducible refine (HCM.out trivial _ (H1.out.below HR7.out)).mono ?_); rintro e w8 ⟨rfl, ⟨qq, rfl⟩⟩))
              go_roundg (all.length - (j + 1))
              case measure => have := HKQ.out; omega
              case rel => exact ⟨j + 1, by simp, by omega, ⟨rfl⟩, ⟨by first | exact HR7.out | exact pw_below_drewN HR7.out _⟩⟩
        · have hjl : j = all.length := by omega
          subst hjl
          have dl : decide (all.length < all.length) = false := decide_eq_false (by omega)
          clear hxr
          go_wp2_with (go_at_call 11; (with_reducible refine (HA.out _).mono ?_); rintro e w8 ⟨rfl, hb⟩; have HB8 := Aside0.mk ((HWA0.out.trans (HWR.out.mono HWA0.out.size)).trans (hb.mono (HWA0.out.trans (HWR.out.mono HWA0.out.size)).size)); clear hb)
          go_ret
          exact ⟨rfl, HB8.out⟩
    · have dn : decide (x.f2 < n) = true := decide_eq_true hr
      have HMS := Aside0.mk (show True → (∀ k, n ≤ truth all k → k ∈ may) ∧ (∀ k, truth all k < n → k ∉ sure) from fun h => ⟨hmay, hsure⟩)
      clear hr hmay hsure
      go_wp2_with (go_at_call 21; (with_reducible refine HAB.out.mono ?_); rintro e w3 ⟨v0, v1, rfl, h0, h1, hb⟩; have H0 := Aside0.mk h0; have H1 := Aside0.mk h1; have HB3 := Aside0.mk hb; have hb3 := (hb.block w2.heap.size HS2.out).trans HBX.out; have HX3 := Aside0.mk hb3; clear HAB x0 x1 x2 x3 h0 h1 hb; have x0 := (blk_cell hb3 0).trans rfl; have x1 := (blk_cell hb3 1).trans rfl; have x2 := (blk_cell hb3 2).trans rfl; have x3 := (blk_cell hb3 3).trans rfl; simp only [List.getElem?_toArray, List.getElem?_cons_zero, List.getElem?_cons_succ] at x0 x1 x2 x3; clear hb3)
      go_loopg [51] (all.length) (fun kq v51 w' => ∃ j : Nat, v51 = .int .i64 j ∧ j ≤ all.length ∧ Aside0 (kq = all.length - j) ∧ Aside0 (Below w3.heap.size w3 w'))
      case atStart => exact ⟨0, rfl, by omega, ⟨rfl⟩, ⟨Below.refl _ _⟩⟩
      case round =>
        obtain ⟨j, rfl, hj, HKQ, HBR⟩ := hrel
        have hs3 : w2.heap.size < w3.heap.size := heap_lt HX3.out
        have hxr := (HBR.out.block w2.heap.size hs3).trans HX3.out
        have HWR := Aside0.mk (HB3.out.trans (HBR.out.mono HB3.out.size))
        clear x0 x1 x2 x3
        by_cases hlt : j < all.length
        · obtain ⟨ad, e1, g0, g1⟩ := at_T49 (Kd.C_below HRB.out HWR.out) (j : Int) (by omega) (by omega)
          cases e1
          rw [rdM_get all j hlt] at g0 g1
          simp only [Int.toNat_natCast] at g0 g1
          have pl : (0 ≤ (j : Int)) = True := eq_true (by omega)
          have dl : decide (j < all.length) = true := decide_eq_true hlt
          generalize all[j] = m at *
          have HT' := Aside0.mk (fun W (h : Below W2.heap.size W2 W) => truth_calls all m.f0 _ ca W (Kd.C_below HRB.out h) HRA.out.2.1 (by simp only [LB]; omega) HPT.out)
          have ht0 := truth_nonneg (l := all) (fun m hm => (HPT.out m hm).1) m.f0
          have ht1 := truth_le (l := all) (fun m hm => (HPT.out m hm).1) m.f0
          have ht2 := HSM.out.2
          have HHS := Aside0.mk (has_of HOF.out m.f0)
          have HMM := Aside0.mk (fun q => (HMS.out q).1 m.f0)
          have HMU := Aside0.mk (fun q => (HMS.out q).2 m.f0)
          have HCK := Aside0.mk (fun W (h : Below W2.heap.size W2 W) (hB : wr.heap.size < W.heap.size) (hy : W.cell? ⟨wr.heap.size, 0, none⟩ = some (.string m.f0)) => ContainsK_calls m.f0 wr.heap.size A2 c2 x.f3 W hB hy (Kd.C_below HCX.out h) HL2.out (by have := HLN.out; omega))
          have hq1 : truth all m.f0 * (2 + (k : Int) % 11) ≤ 100000000 * 12 := Int.mul_le_mul (by omega) hk1 (by omega) (by omega)
          have hq0 : 0 ≤ truth all m.f0 * (2 + (k : Int) % 11) := Int.mul_nonneg ht0 (by omega)
          generalize x.f3.any (hasKy m.f0) = hs at *
          generalize truth all m.f0 = tr at *
          have hq2 : tr * (2 + (k : Int) % 11) ≤ 1200000000 := by omega
          have ht3 : tr ≤ 100000000 := by omega
          clear hq1 ht1 ht2
          have hxn := heap_alloc_keep (o := (.cells #[.string m.f0, .int .i64 m.f1] 49)) hxr
          have hmn := heap_alloc_new wr (.cells #[.string m.f0, .int .i64 m.f1] 49)
          have x0 := (blk_cell hxn 0).trans rfl; have x1 := (blk_cell hxn 1).trans rfl; have x2 := (blk_cell hxn 2).trans rfl; have x3 := (blk_cell hxn 3).trans rfl; simp only [List.getElem?_toArray, List.getElem?_cons_zero, List.getElem?_cons_succ] at x0 x1 x2 x3
          have n0 := (blk_cell hmn 0).trans rfl; have n1 := (blk_cell hmn 1).trans rfl; simp only [List.getElem?_toArray, List.getElem?_cons_zero, List.getElem?_cons_succ] at n0 n1
          have HXN := Aside0.mk hxn
          have HMN := Aside0.mk hmn
          have HWA := Aside0.mk (below_alloc HWR.out (.cells #[.string m.f0, .int .i64 m.f1] 49))
          have HWZ := Aside0.mk (show wr.heap.size < (wr.alloc (.cells #[.string m.f0, .int .i64 m.f1] 49)).heap.size by simp)
          have HX2 := Aside0.mk (show w2.heap.size < (wr.alloc (.cells #[.string m.f0, .int .i64 m.f1] 49)).heap.size by have := heap_lt hxr; simp; omega)
          have HRZ := Aside0.mk (below_alloc HBR.out (.cells #[.string m.f0, .int .i64 m.f1] 49))
          clear hxn hmn hxr
          by_cases ht : x.f1 < tr * (2 + (k : Int) % 11)
          · have d1 := decide_eq_true ht; obtain rfl := HHS.out ht
            by_cases hnt : n ≤ tr
            · have d2 := decide_eq_true hnt; have d3 : decide (tr < n) = false := decide_eq_false (by omega); have HCM := Aside0.mk (fun q W (h : CS W v0 may) => ContainsS_calls may m.f0 v0 W h (by have := HM1.out; have := HLN.out; simp only [LB]; omega) true ⟨fun _ => HMM.out q hnt, fun _ => rfl⟩)
              clear ht hnt HHS HMM HMU
              go_wp2_with (first
                | (go_at_call 28; (with_reducible refine (HT'.out _ HWA.out).mono ?_); rintro e w6 ⟨rfl, hb⟩; have hm6 := (hb.block wr.heap.size HWZ.out).trans HMN.out; have hx6 := (hb.block w2.heap.size HX2.out).trans HXN.out; have HM6 := Aside0.mk hm6; have HX6 := Aside0.mk hx6; have HW6 := Aside0.mk (HWA.out.trans (hb.mono HWA.out.size)); have HR6 := Aside0.mk (HRZ.out.trans (hb.mono HRZ.out.size)); have HS6 := Aside0.mk (Nat.lt_of_lt_of_le HWZ.out hb.size); clear hb n0 n1 x0 x1 x2 x3; have n0 := (blk_cell hm6 0).trans rfl; have n1 := (blk_cell hm6 1).trans rfl; simp only [List.getElem?_toArray, List.getElem?_cons_zero, List.getElem?_cons_succ] at n0 n1; have x0 := (blk_cell hx6 0).trans rfl; have x1 := (blk_cell hx6 1).trans rfl; have x2 := (blk_cell hx6 2).trans rfl; have x3 := (blk_cell hx6 3).trans rfl; simp only [List.getElem?_toArray, List.getElem?_cons_zero, List.getElem?_cons_succ] at x0 x1 x2 x3; have hy6 := n0; clear hm6 hx6)
                | (go_at_call 31; (with_reducible refine (HCK.out _ HW6.out HS6.out hy6).mono ?_); rintro e w7 ⟨rfl, hb⟩; have hm7 := (hb.block wr.heap.size HS6.out).trans HM6.out; have hx7 := (hb.block w2.heap.size (heap_lt HX6.out)).trans HX6.out; have HR7 := Aside0.mk (HR6.out.trans (hb.mono HR6.out.size)); clear hb n0 n1 x0 x1 x2 x3 hy6; have n0 := (blk_cell hm7 0).trans rfl; have n1 := (blk_cell hm7 1).trans rfl; simp only [List.getElem?_toArray, List.getElem?_cons_zero, List.getElem?_cons_succ] at n0 n1; have x0 := (blk_cell hx7 0).trans rfl; have x1 := (blk_cell hx7 1).trans rfl; have x2 := (blk_cell hx7 2).trans rfl; have x3 := (blk_cell hx7 3).trans rfl; simp only [List.getElem?_toArray, List.getElem?_cons_zero, List.getElem?_cons_succ] at x0 x1 x2 x3; clear hm7 hx7)
                | (go_at_call 33; (with_reducible refine (HCM.out trivial _ (H0.out.below HR7.out)).mono ?_); rintro e w8 ⟨rfl, ⟨qq, rfl⟩⟩)
                | (go_at_call 33; (with_reducible refine (HCM.out trivial _ (H1.out.below HR7.out)).mono ?_); rintro e w8 ⟨rfl, ⟨qq, rfl⟩⟩))
              go_roundg (all.length - (j + 1))
              case measure => have := HKQ.out; omega
              case rel => exact ⟨j + 1, by simp, by omega, ⟨rfl⟩, ⟨by first | exact HR7.out | exact pw_below_drewN HR7.out _⟩⟩
            · have d2 := decide_eq_false hnt; have d3 : decide (tr < n) = true := decide_eq_true (by omega); have HCM := Aside0.mk (fun q W (h : CS W v1 sure) => ContainsS_calls sure m.f0 v1 W h (by have := HM2.out; have := HLN.out; simp only [LB]; omega) false ⟨fun h => (by cases h), fun h => absurd h (HMU.out q (by omega))⟩)
              clear ht hnt HHS HMM HMU
              go_wp2_with (first
                | (go_at_call 28; (with_reducible refine (HT'.out _ HWA.out).mono ?_); rintro e w6 ⟨rfl, hb⟩; have hm6 := (hb.block wr.heap.size HWZ.out).trans HMN.out; have hx6 := (hb.block w2.heap.size HX2.out).trans HXN.out; have HM6 := Aside0.mk hm6; have HX6 := Aside0.mk hx6; have HW6 := Aside0.mk (HWA.out.trans (hb.mono HWA.out.size)); have HR6 := Aside0.mk (HRZ.out.trans (hb.mono HRZ.out.size)); have HS6 := Aside0.mk (Nat.lt_of_lt_of_le HWZ.out hb.size); clear hb n0 n1 x0 x1 x2 x3; have n0 := (blk_cell hm6 0).trans rfl; have n1 := (blk_cell hm6 1).trans rfl; simp only [List.getElem?_toArray, List.getElem?_cons_zero, List.getElem?_cons_succ] at n0 n1; have x0 := (blk_cell hx6 0).trans rfl; have x1 := (blk_cell hx6 1).trans rfl; have x2 := (blk_cell hx6 2).trans rfl; have x3 := (blk_cell hx6 3).trans rfl; simp only [List.getElem?_toArray, List.getElem?_cons_zero, List.getElem?_cons_succ] at x0 x1 x2 x3; have hy6 := n0; clear hm6 hx6)
                | (go_at_call 31; (with_reducible refine (HCK.out _ HW6.out HS6.out hy6).mono ?_); rintro e w7 ⟨rfl, hb⟩; have hm7 := (hb.block wr.heap.size HS6.out).trans HM6.out; have hx7 := (hb.block w2.heap.size (heap_lt HX6.out)).trans HX6.out; have HR7 := Aside0.mk (HR6.out.trans (hb.mono HR6.out.size)); clear hb n0 n1 x0 x1 x2 x3 hy6; have n0 := (blk_cell hm7 0).trans rfl; have n1 := (blk_cell hm7 1).trans rfl; simp only [List.getElem?_toArray, List.getElem?_cons_zero, List.getElem?_cons_succ] at n0 n1; have x0 := (blk_cell hx7 0).trans rfl; have x1 := (blk_cell hx7 1).trans rfl; have x2 := (blk_cell hx7 2).trans rfl; have x3 := (blk_cell hx7 3).trans rfl; simp only [List.getElem?_toArray, List.getElem?_cons_zero, List.getElem?_cons_succ] at x0 x1 x2 x3; clear hm7 hx7)
                | (go_at_call 33; (with_reducible refine (HCM.out trivial _ (H0.out.below HR7.out)).mono ?_); rintro e w8 ⟨rfl, ⟨qq, rfl⟩⟩)
                | (go_at_call 33; (with_reducible refine (HCM.out trivial _ (H1.out.below HR7.out)).mono ?_); rintro e w8 ⟨rfl, ⟨qq, rfl⟩⟩))
              go_roundg (all.length - (j + 1))
              case measure => have := HKQ.out; omega
              case rel => exact ⟨j + 1, by simp, by omega, ⟨rfl⟩, ⟨by first | exact HR7.out | exact pw_below_drewN HR7.out _⟩⟩
          · have d1 := decide_eq_false ht
            by_cases hnt : n ≤ tr
            · have d2 := decide_eq_true hnt; have d3 : decide (tr < n) = false := decide_eq_false (by omega); have HCM := Aside0.mk (fun q W (h : CS W v0 may) => ContainsS_calls may m.f0 v0 W h (by have := HM1.out; have := HLN.out; simp only [LB]; omega) true ⟨fun _ => HMM.out q hnt, fun _ => rfl⟩)
              clear ht hnt HHS HMM HMU
              go_wp2_with (first
                | (go_at_call 28; (with_reducible refine (HT'.out _ HWA.out).mono ?_); rintro e w6 ⟨rfl, hb⟩; have hm6 := (hb.block wr.heap.size HWZ.out).trans HMN.out; have hx6 := (hb.block w2.heap.size HX2.out).trans HXN.out; have HM6 := Aside0.mk hm6; have HX6 := Aside0.mk hx6; have HW6 := Aside0.mk (HWA.out.trans (hb.mono HWA.out.size)); have HR6 := Aside0.mk (HRZ.out.trans (hb.mono HRZ.out.size)); have HS6 := Aside0.mk (Nat.lt_of_lt_of_le HWZ.out hb.size); clear hb n0 n1 x0 x1 x2 x3; have n0 := (blk_cell hm6 0).trans rfl; have n1 := (blk_cell hm6 1).trans rfl; simp only [List.getElem?_toArray, List.getElem?_cons_zero, List.getElem?_cons_succ] at n0 n1; have x0 := (blk_cell hx6 0).trans rfl; have x1 := (blk_cell hx6 1).trans rfl; have x2 := (blk_cell hx6 2).trans rfl; have x3 := (blk_cell hx6 3).trans rfl; simp only [List.getElem?_toArray, List.getElem?_cons_zero, List.getElem?_cons_succ] at x0 x1 x2 x3; have hy6 := n0; clear hm6 hx6)
                | (go_at_call 31; (with_reducible refine (HCK.out _ HW6.out HS6.out hy6).mono ?_); rintro e w7 ⟨rfl, hb⟩; have hm7 := (hb.block wr.heap.size HS6.out).trans HM6.out; have hx7 := (hb.block w2.heap.size (heap_lt HX6.out)).trans HX6.out; have HR7 := Aside0.mk (HR6.out.trans (hb.mono HR6.out.size)); clear hb n0 n1 x0 x1 x2 x3 hy6; have n0 := (blk_cell hm7 0).trans rfl; have n1 := (blk_cell hm7 1).trans rfl; simp only [List.getElem?_toArray, List.getElem?_cons_zero, List.getElem?_cons_succ] at n0 n1; have x0 := (blk_cell hx7 0).trans rfl; have x1 := (blk_cell hx7 1).trans rfl; have x2 := (blk_cell hx7 2).trans rfl; have x3 := (blk_cell hx7 3).trans rfl; simp only [List.getElem?_toArray, List.getElem?_cons_zero, List.getElem?_cons_succ] at x0 x1 x2 x3; clear hm7 hx7)
                | (go_at_call 33; (with_reducible refine (HCM.out trivial _ (H0.out.below HR7.out)).mono ?_); rintro e w8 ⟨rfl, ⟨qq, rfl⟩⟩)
                | (go_at_call 33; (with_reducible refine (HCM.out trivial _ (H1.out.below HR7.out)).mono ?_); rintro e w8 ⟨rfl, ⟨qq, rfl⟩⟩))
              go_roundg (all.length - (j + 1))
              case measure => have := HKQ.out; omega
              case rel => exact ⟨j + 1, by simp, by omega, ⟨rfl⟩, ⟨by first | exact HR7.out | exact pw_below_drewN HR7.out _⟩⟩
            · have d2 := decide_eq_false hnt; have d3 : decide (tr < n) = true := decide_eq_true (by omega); have HCM := Aside0.mk (fun q W (h : CS W v1 sure) => ContainsS_calls sure m.f0 v1 W h (by have := HM2.out; have := HLN.out; simp only [LB]; omega) false ⟨fun h => (by cases h), fun h => absurd h (HMU.out q (by omega))⟩)
              clear ht hnt HHS HMM HMU
              go_wp2_with (first
                | (go_at_call 28; (with_reducible refine (HT'.out _ HWA.out).mono ?_); rintro e w6 ⟨rfl, hb⟩; have hm6 := (hb.block wr.heap.size HWZ.out).trans HMN.out; have hx6 := (hb.block w2.heap.size HX2.out).trans HXN.out; have HM6 := Aside0.mk hm6; have HX6 := Aside0.mk hx6; have HW6 := Aside0.mk (HWA.out.trans (hb.mono HWA.out.size)); have HR6 := Aside0.mk (HRZ.out.trans (hb.mono HRZ.out.size)); have HS6 := Aside0.mk (Nat.lt_of_lt_of_le HWZ.out hb.size); clear hb n0 n1 x0 x1 x2 x3; have n0 := (blk_cell hm6 0).trans rfl; have n1 := (blk_cell hm6 1).trans rfl; simp only [List.getElem?_toArray, List.getElem?_cons_zero, List.getElem?_cons_succ] at n0 n1; have x0 := (blk_cell hx6 0).trans rfl; have x1 := (blk_cell hx6 1).trans rfl; have x2 := (blk_cell hx6 2).trans rfl; have x3 := (blk_cell hx6 3).trans rfl; simp only [List.getElem?_toArray, List.getElem?_cons_zero, List.getElem?_cons_succ] at x0 x1 x2 x3; have hy6 := n0; clear hm6 hx6)
                | (go_at_call 31; (with_reducible refine (HCK.out _ HW6.out HS6.out hy6).mono ?_); rintro e w7 ⟨rfl, hb⟩; have hm7 := (hb.block wr.heap.size HS6.out).trans HM6.out; have hx7 := (hb.block w2.heap.size (heap_lt HX6.out)).trans HX6.out; have HR7 := Aside0.mk (HR6.out.trans (hb.mono HR6.out.size)); clear hb n0 n1 x0 x1 x2 x3 hy6; have n0 := (blk_cell hm7 0).trans rfl; have n1 := (blk_cell hm7 1).trans rfl; simp only [List.getElem?_toArray, List.getElem?_cons_zero, List.getElem?_cons_succ] at n0 n1; have x0 := (blk_cell hx7 0).trans rfl; have x1 := (blk_cell hx7 1).trans rfl; have x2 := (blk_cell hx7 2).trans rfl; have x3 := (blk_cell hx7 3).trans rfl; simp only [List.getElem?_toArray, List.getElem?_cons_zero, List.getElem?_cons_succ] at x0 x1 x2 x3; clear hm7 hx7)
                | (go_at_call 33; (with_reducible refine (HCM.out trivial _ (H0.out.below HR7.out)).mono ?_); rintro e w8 ⟨rfl, ⟨qq, rfl⟩⟩)
                | (go_at_call 33; (with_reducible refine (HCM.out trivial _ (H1.out.below HR7.out)).mono ?_); rintro e w8 ⟨rfl, ⟨qq, rfl⟩⟩))
              go_roundg (all.length - (j + 1))
              case measure => have := HKQ.out; omega
              case rel => exact ⟨j + 1, by simp, by omega, ⟨rfl⟩, ⟨by first | exact HR7.out | exact pw_below_drewN HR7.out _⟩⟩
        · have hjl : j = all.length := by omega
          subst hjl
          have dl : decide (all.length < all.length) = false := decide_eq_false (by omega)
          clear hxr
          go_wp2_with (go_at_call 11; (with_reducible refine (HA.out _).mono ?_); rintro e w8 ⟨rfl, hb⟩; have HB8 := Aside0.mk ((HWA0.out.trans (HWR.out.mono HWA0.out.size)).trans (hb.mono (HWA0.out.trans (HWR.out.mono HWA0.out.size)).size)); clear hb)
          go_ret
          exact ⟨rfl, HB8.out⟩

theorem Freq_rowc (w : World) (a : Int) (ha : (Lit.int .u8 a).wf = true) (A : Option Addr) (ls : List L49) (c : Nat) (hr : Kd.C kLM w A ls.length ls) (hc : ls.length ≤ c) (_ : ∀ l ∈ ls, ∀ x ∈ l, x.f0.size ≤ maxLen ∧ (Lit.int .i64 x.f1).wf = true) (n : Int) (hn : (Lit.int .i64 n).wf = true) :
    Calls Try.prog 9 #[.int .u8 a, .slice A ls.length c, .int .i64 n] w fun e w' => e = .returned (.bool true) ∧ Below w.heap.size w w' := by
  have h : IntKind.u8.min ≤ a ∧ a ≤ IntKind.u8.max := by simpa [Lit.wf] using ha
  simp [IntKind.min, IntKind.max, IntKind.signed, IntKind.bits] at h
  obtain ⟨k, rfl⟩ : ∃ k : Nat, a = (k : Int) := ⟨a.toNat, by omega⟩
  exact Freq_row w k (by omega) ls A c hr hc n hn
end Go.Proofs.Ytgpkpeefbkcjeaa.H
