/- The walk of HeavyhittersBounds. -/
import Derived.Test.YtgpkpeefbkcjeaaKTree
import Derived.Test.YtgpkpeefbkcjeaaKAwake
namespace Go.Proofs.Ytgpkpeefbkcjeaa.H
open Go Go.RowKit Go.Proofs.YtgpkpeefbkcjeaaW.PrintWords Go.Proofs.YtgpkpeefbkcjeaaW.PrintLast Go.Proofs.YtgpkpeefbkcjeaaW.PrintMore Go.Proofs.Ytgpkpeefbkcjeaa.PAll
set_option linter.unusedVariables false
set_option linter.unusedSimpArgs false

set_option maxRecDepth 100000 in
set_option maxHeartbeats 16000000 in
theorem Bounds_row (w : World) (k : Nat) (hk : k < 256) (ls : List L49) (A : Option Addr) (c : Nat) (hr : Kd.C kLM w A ls.length ls) (hc : ls.length ≤ c) (key : ByteArray) (hkm : key.size ≤ maxLen) :
    Calls Try.prog 7 #[.int .u8 (k : Int), .slice A ls.length c, .string key] w fun e w' => e = .returned (.bool true) ∧ Below w.heap.size w w' := by
  have HFI := Aside0.mk (fits_calls A c ls w hr hc)
  have HA := Aside0.mk (fun W => awake_calls W)
  have hu := Try.underlying45
  have hu2 := Try.underlying24
  have hu3 := Try.underlying49
  have hn : IntKind.i64.wrap (k : Int) = (k : Int) := by rw [IntKind.wrap_i64]; omega
  unfold maxLen at hkm
  cases hfi : fitsL ls
  · rw [hfi] at HFI
    clear hfi hr
    go_enter Try.func7, Try.ntmps7
    go_wp2_with (first
      | (go_at_call 26; (with_reducible refine HFI.out.mono ?_); rintro e w1 ⟨rfl, hb⟩; have HB1 := Aside0.mk hb; clear hb)
      | (go_at_call 11; (with_reducible refine (HA.out _).mono ?_); rintro e w2 ⟨rfl, hb⟩; have HB2 := Aside0.mk (HB1.out.trans (hb.mono HB1.out.size)); clear hb))
    go_ret
    exact ⟨rfl, HB2.out⟩
  · rw [hfi] at HFI
    have HF := Aside0.mk (fits_of hfi)
    clear hfi
    by_cases hks : 20 < key.size
    · have d1 : decide (20 < (key.size : Int)) = true := decide_eq_true (by omega)
      clear hr
      go_enter Try.func7, Try.ntmps7
      go_wp2_with (first
        | (go_at_call 26; (with_reducible refine HFI.out.mono ?_); rintro e w1 ⟨rfl, hb⟩; have HB1 := Aside0.mk hb; clear hb)
        | (go_at_call 11; (with_reducible refine (HA.out _).mono ?_); rintro e w2 ⟨rfl, hb⟩; have HB2 := Aside0.mk (HB1.out.trans (hb.mono HB1.out.size)); clear hb))
      go_ret
      exact ⟨rfl, HB2.out⟩
    · have d1 : decide (20 < (key.size : Int)) = false := decide_eq_false (by omega)
      have HTR := Aside0.mk (fun W (h : Below w.heap.size w W) => tree_calls (2 + (k : Int) % 11) (by omega) (by omega) ls HF.out A c W (Kd.C_below hr h) hc)
      have hk0 : 2 ≤ 2 + (k : Int) % 11 := by omega
      have hk1 : 2 + (k : Int) % 11 ≤ 12 := by omega
      have HFL := Aside0.mk (flat_few ls HF.out.2.2)
      have HPT := Aside0.mk (show ∀ m ∈ ls.flatten, 0 ≤ m.f1 ∧ m.f1 ≤ 1000000 from fun m hm => by
        obtain ⟨l, hl, hml⟩ := List.mem_flatten.1 hm
        exact ((HF.out.2.2 l hl).2 m hml).2)
      have hfl := HFL.out.2.2
      have hls := HF.out.2.1
      have hfn : ls.flatten.length ≤ 100 := by omega
      have HSM := Aside0.mk (show 0 ≤ sumN ls.flatten ∧ sumN ls.flatten ≤ 100000000 by have := HFL.out; omega)
      clear hr hfl hls HF HFL
      generalize ls.flatten = all at *
      go_enter Try.func7, Try.ntmps7
      go_wp2_with (first
        | (go_at_call 26; (with_reducible refine HFI.out.mono ?_); rintro e w1 ⟨rfl, hb⟩; have HB1 := Aside0.mk hb; clear hb)
        | (go_at_call 27; (refine (HTR.out _ HB1.out).mono ?_); rintro e w2 ⟨x, v, va, rfl, hof, ⟨A2, c2, rfl, hl2, hC2⟩, hown, hb⟩; have HB2 := Aside0.mk (HB1.out.trans (hb.mono HB1.out.size)); obtain ⟨Aa, ca, rfl⟩ := own_slice hown; have HOF := Aside0.mk hof; have hC := Kd.C_below hC2 (below_alloc (Below.refl _ w2) (.cells #[.int .i64 x.f0, .int .i64 x.f1, .int .i64 x.f2, .slice A2 x.f3.length c2] 24)); have HCX := Aside0.mk hC2; have HL2 := Aside0.mk hl2; have HRA := Aside0.mk (Kd.R_reads' (mR_of_lcells hown)); have hxk := hof.k; have hxs := hof.val.sum; have hx2 := hof.val.l0; have hxt := hof.val.t1; have hxn := hof.val.len; have hx1 := hof.val.k1; have HLN := Aside0.mk (show x.f3.length ≤ 100 by omega); have hp := sumI_nonneg hof.val.pos; rw [hxk, Int.mul_comm] at hxs; have hm0 : 0 ≤ x.f2 * (2 + (k : Int) % 11) := Int.mul_nonneg hx2 (by omega); have hml : x.f2 * (2 + (k : Int) % 11) ≤ x.f1 := (by omega); have hmt : x.f2 * (2 + (k : Int) % 11) ≤ 1099511627776 := (by omega); have dml : decide (x.f1 < x.f2 * (2 + (k : Int) % 11)) = false := decide_eq_false (by omega); have HCK := Aside0.mk (fun W (h : Below (w2.alloc (.cells #[.int .i64 x.f0, .int .i64 x.f1, .int .i64 x.f2, .slice A2 x.f3.length c2] 24)).heap.size (w2.alloc (.cells #[.int .i64 x.f0, .int .i64 x.f1, .int .i64 x.f2, .slice A2 x.f3.length c2] 24)) W) => Check_calls x A2 c2 W (Kd.C_below hC h) hl2 (by simp only [LB]; omega)); rw [(chkH_iff x).2 hof.val] at HCK; have hbx := heap_alloc_new w2 (.cells #[.int .i64 x.f0, .int .i64 x.f1, .int .i64 x.f2, .slice A2 x.f3.length c2] 24); have HBX := Aside0.mk hbx; have x0 := (blk_cell hbx 0).trans rfl; have x1 := (blk_cell hbx 1).trans rfl; have x2 := (blk_cell hbx 2).trans rfl; have x3 := (blk_cell hbx 3).trans rfl; simp only [List.getElem?_toArray, List.getElem?_cons_zero, List.getElem?_cons_succ] at x0 x1 x2 x3; clear hb hof hC hC2 hl2 hown HTR hxk hxs hx2 hxn hx1 hp hbx)
        | (go_at_call 16; (with_reducible refine (HCK.out _ (Below.refl _ _)).mono ?_); rintro e w3 ⟨rfl, hb⟩; have HB3 := Aside0.mk hb; have hb3 := (hb.block w2.heap.size (by simp)).trans HBX.out; have hb4 := heap_alloc_keep (o := (.cells #[.string key, .int .i64 0] 49)) hb3; have HX4 := Aside0.mk hb4; clear HCK x0 x1 x2 x3 hb; have x0 := (blk_cell hb3 0).trans rfl; have x1 := (blk_cell hb3 1).trans rfl; have x2 := (blk_cell hb3 2).trans rfl; have x3 := (blk_cell hb3 3).trans rfl; simp only [List.getElem?_toArray, List.getElem?_cons_zero, List.getElem?_cons_succ] at x0 x1 x2 x3; have z0 := (blk_cell hb4 0).trans rfl; have z1 := (blk_cell hb4 1).trans rfl; have z2 := (blk_cell hb4 2).trans rfl; have z3 := (blk_cell hb4 3).trans rfl; simp only [List.getElem?_toArray, List.getElem?_cons_zero, List.getElem?_cons_succ] at z0 z1 z2 z3; clear hb3 hb4)
        | (at_builtin; refine wpM_append rfl _ _ rfl w3.heap.size _ [⟨key, 0⟩] rfl (World.ownsRow_lit w3 _ 1 (Nat.le_refl _) (by decide) rfl) Aa ca all rfl (Kd.C_below HRA.out.2.2 ((below_alloc (Below.refl _ w2) (.cells #[.int .i64 x.f0, .int .i64 x.f1, .int .i64 x.f2, .slice A2 x.f3.length c2] 24)).trans ((below_alloc HB3.out (.cells #[.string key, .int .i64 0] 49)).mono (by simp)))) (by simp; omega) (by simp) ?_; intro v5 w5 hown5 hg5; obtain ⟨A5, c5, rfl⟩ := own_slice hown5; have HR5 := Aside0.mk (Kd.R_reads' (mR_of_lcells hown5)); have hlt2 : w2.heap.size < w3.heap.size := Nat.lt_of_lt_of_le (by simp) HB3.out.size; have HX5 := Aside0.mk (blk_grown HX4.out hg5 (fun e => by injection e with e; exact absurd e (Nat.ne_of_lt hlt2))); have HBB := Aside0.mk ((below_alloc ((below_alloc (Below.refl w2.heap.size w2) (.cells #[.int .i64 x.f0, .int .i64 x.f1, .int .i64 x.f2, .slice A2 x.f3.length c2] 24)).trans (HB3.out.mono (by simp))) (.cells #[.string key, .int .i64 0] 49)).grown hg5 (by simp; omega) (fun k hk => by cases hk; exact Nat.le_of_lt hlt2)); clear hown5 hg5 hlt2))
      have HBX5 := Aside0.mk (HB2.out.trans (HBB.out.mono HB2.out.size))
      clear x0 x1 x2 x3 z0 z1 z2 z3
      generalize hL : (([⟨key, 0⟩] : L49) ++ all) = L at *
      have HLS := Aside0.mk (show sumN L = sumN all by rw [← hL, sumN_append]; simp [sumN])
      have HLB := Aside0.mk (show ∀ m ∈ L, 0 ≤ m.f1 ∧ m.f1 ≤ 1000000 by
        intro m hm
        rw [← hL] at hm
        rcases List.mem_append.1 hm with hm | hm
        · have : m = ⟨key, 0⟩ := by simpa using hm
          subst this; exact ⟨Int.le_refl _, by show (0 : Int) ≤ 1000000; omega⟩
        · exact HPT.out m hm)
      have hLe : L.length = all.length + 1 := by rw [← hL]; simp
      have hLl : L.length ≤ 101 := by omega
      have HLE := Aside0.mk hLe
      clear hLe
      clear hL
      have HBD := Aside0.mk (fun kk W (h : Below w2.heap.size w2 W) (hC : Kd.C k58 W A2 x.f3.length x.f3) => Bounds_calls x kk A2 c2 W hC HL2.out (by have := HLN.out; omega))
      have HBE := Aside0.mk (fun kk => show bndH x kk = (tot x.f3 kk, hiH x kk, 0) by unfold bndH; rw [if_neg (by rw [(chkH_iff x).2 HOF.out.val]; simp)])
      have HOB := Aside0.mk (fun kk => HOF.out.bounds (fun m hm => (HPT.out m hm).1) kk)
      have HTC := Aside0.mk (fun kk W (h : Below w2.heap.size w2 W) => truth_calls all kk Aa ca W (Kd.C_below HRA.out.2.2 h) HRA.out.2.1 (by simp only [LB]; omega) HPT.out)
      go_loopg [11, 60] (L.length) (fun kq v11 v60 w' => ∃ j : Nat, v11 = .int .i64 (sumN (L.take j)) ∧ v60 = .int .i64 j ∧ j ≤ L.length ∧ Aside0 (kq = L.length - j) ∧ Aside0 (Below w5.heap.size w5 w'))
      case atStart => exact ⟨0, by simp [sumN], rfl, by omega, ⟨rfl⟩, ⟨Below.refl _ _⟩⟩
      case round =>
        obtain ⟨j, rfl, rfl, hj, HKQ, HBR⟩ := hrel
        have hs5 : w2.heap.size < w5.heap.size := heap_lt HX5.out
        have hxr := (HBR.out.block w2.heap.size hs5).trans HX5.out
        have HWR := Aside0.mk (HBB.out.trans (HBR.out.mono HBB.out.size))
        by_cases hlt : j < L.length
        · obtain ⟨ad, e1, g0, g1⟩ := at_T49 (Kd.C_below HR5.out.2.2 HBR.out) (j : Int) (by omega) (by omega)
          cases e1
          rw [rdM_get L j hlt] at g0 g1
          simp only [Int.toNat_natCast] at g0 g1
          have pl : (0 ≤ (j : Int)) = True := eq_true (by omega)
          have dl : decide (j < L.length) = true := decide_eq_true hlt
          have dl2 : decide ((j : Int) < (all.length : Int) + 1) = true := decide_eq_true (by have := HLE.out; omega)
          have pl2 : ((j : Int) < (all.length : Int) + 1) = True := eq_true (by have := HLE.out; omega)
          have pl3 : (j < all.length + 1) = True := eq_true (by have := HLE.out; omega)
          have pl4 : (j ≤ all.length) = True := eq_true (by have := HLE.out; omega)
          have dl3 : decide (j < all.length + 1) = true := decide_eq_true (by have := HLE.out; omega)
          have hmb := HLB.out L[j] (List.getElem_mem hlt)
          have hnx : sumN (L.take (j + 1)) = sumN (L.take j) + L[j].f1 := by rw [List.take_succ_eq_append_getElem hlt, sumN_append]; simp [sumN]
          have hq0 := sumN_nonneg (l := L.take j) (fun m hm => (HLB.out m (List.mem_of_mem_take hm)).1)
          have hq1 := sumN_le (l := L.take j) (fun m hm => (HLB.out m (List.mem_of_mem_take hm)).2)
          rw [List.length_take] at hq1
          have hq2 : sumN (L.take j) ≤ 200000000 := by omega
          clear hq1
          generalize L[j] = m at *
          have HNX := Aside0.mk hnx
          clear hnx
          obtain ⟨S, hS⟩ : ∃ S, sumN (L.take j) = S := ⟨_, rfl⟩
          rw [hS] at HNX hq0 hq2
          rw [hS]
          clear hS
          have hbb := HBE.out m.f0
          obtain ⟨ho1, ho2⟩ := HOB.out m.f0
          have HB' := Aside0.mk (fun W (h : Below w2.heap.size w2 W) => HBD.out m.f0 W h)
          rw [hbb] at HB'
          have HT' := Aside0.mk (fun W (h : Below w2.heap.size w2 W) => HTC.out m.f0 W h)
          clear hbb
          generalize tot x.f3 m.f0 = lo at *
          generalize hiH x m.f0 = hi at *
          generalize truth all m.f0 = tr at *
          have dt1 : decide (tr < lo) = false := decide_eq_false (by omega)
          have dt2 : decide (hi < tr) = false := decide_eq_false (by omega)
          clear ho1 ho2
          have hxn := heap_alloc_keep (o := (.cells #[.string m.f0, .int .i64 m.f1] 49)) hxr
          have hmn := heap_alloc_new wr (.cells #[.string m.f0, .int .i64 m.f1] 49)
          have z0 := (blk_cell hxn 0).trans rfl
          have z1 := (blk_cell hxn 1).trans rfl
          have z2 := (blk_cell hxn 2).trans rfl
          have z3 := (blk_cell hxn 3).trans rfl
          simp only [List.getElem?_toArray, List.getElem?_cons_zero, List.getElem?_cons_succ] at z0 z1 z2 z3
          have n0 := (blk_cell hmn 0).trans rfl
          have n1 := (blk_cell hmn 1).trans rfl
          simp only [List.getElem?_toArray, List.getElem?_cons_zero, List.getElem?_cons_succ] at n0 n1
          have HMN := Aside0.mk hmn
          have HWA := Aside0.mk (below_alloc HWR.out (.cells #[.string m.f0, .int .i64 m.f1] 49))
          have hw2 : w2.heap.size ≤ w5.heap.size := Nat.le_of_lt hs5
          have HCW := Aside0.mk (Kd.C_below HCX.out ((below_alloc HWR.out (.cells #[.string m.f0, .int .i64 m.f1] 49))))
          clear hxn hmn hxr
          go_wp2_with (first
            | (go_at_call 19; (with_reducible refine (HB'.out _ HWA.out HCW.out).mono ?_); rintro e w6 ⟨rfl, hb⟩; have hm6 := (hb.block wr.heap.size (by simp)).trans HMN.out; have HM6 := Aside0.mk hm6; have HW6 := Aside0.mk (HWA.out.trans (hb.mono HWA.out.size)); have HC6 := Aside0.mk (HWA.out); have HR6 := Aside0.mk ((below_alloc HBR.out (.cells #[.string m.f0, .int .i64 m.f1] 49)).trans (hb.mono (by have := HBR.out.size; simp; omega))); have HS6 := Aside0.mk (Nat.lt_of_lt_of_le (show wr.heap.size < (wr.alloc (.cells #[.string m.f0, .int .i64 m.f1] 49)).heap.size by simp) hb.size); clear hb n0 n1 z0 z1 z2 z3; have n0 := (blk_cell hm6 0).trans rfl; have n1 := (blk_cell hm6 1).trans rfl; simp only [List.getElem?_toArray, List.getElem?_cons_zero, List.getElem?_cons_succ] at n0 n1; clear hm6)
            | (go_at_call 28; (with_reducible refine (HT'.out _ HW6.out).mono ?_); rintro e w7 ⟨rfl, hb⟩; have hm7 := (hb.block wr.heap.size HS6.out).trans HM6.out; have HR7 := Aside0.mk (HR6.out.trans (hb.mono HR6.out.size)); clear hb n0 n1; have n0 := (blk_cell hm7 0).trans rfl; have n1 := (blk_cell hm7 1).trans rfl; simp only [List.getElem?_toArray, List.getElem?_cons_zero, List.getElem?_cons_succ] at n0 n1; clear hm7))
          go_roundg (L.length - (j + 1))
          case measure => have := HKQ.out; omega
          case rel => exact ⟨j + 1, by rw [HNX.out], by simp, by omega, ⟨rfl⟩, HR7⟩
        · have hjl : j = L.length := by omega
          subst hjl
          have dl : decide (L.length < L.length) = false := decide_eq_false (by omega)
          have dl2 : decide ((L.length : Int) < (all.length : Int) + 1) = false := decide_eq_false (by have := HLE.out; omega)
          have dl3 : decide (L.length < all.length + 1) = false := decide_eq_false (by have := HLE.out; omega)
          have hst : sumN (L.take L.length) = x.f1 := by rw [List.take_length, HLS.out]; exact HOF.out.all.symm
          have bq : (x.f1 == x.f1) = true := by simp
          rw [hst]
          have z0 := (blk_cell hxr 0).trans rfl
          have z1 := (blk_cell hxr 1).trans rfl
          have z2 := (blk_cell hxr 2).trans rfl
          have z3 := (blk_cell hxr 3).trans rfl
          simp only [List.getElem?_toArray, List.getElem?_cons_zero, List.getElem?_cons_succ] at z0 z1 z2 z3
          have HBW := Aside0.mk (HBX5.out.trans (HBR.out.mono HBX5.out.size))
          clear hst hxr
          go_wp2_with (go_at_call 11; (with_reducible refine (HA.out _).mono ?_); rintro e w8 ⟨rfl, hb⟩; have HB8 := Aside0.mk (HBW.out.trans (hb.mono HBW.out.size)); clear hb)
          go_ret
          exact ⟨rfl, HB8.out⟩
theorem Bounds_rowc (w : World) (a : Int) (ha : (Lit.int .u8 a).wf = true) (A : Option Addr) (ls : List L49) (c : Nat) (hr : Kd.C kLM w A ls.length ls) (hc : ls.length ≤ c) (_ : ∀ l ∈ ls, ∀ x ∈ l, x.f0.size ≤ maxLen ∧ (Lit.int .i64 x.f1).wf = true) (key : ByteArray) (hkm : key.size ≤ maxLen) :
    Calls Try.prog 7 #[.int .u8 a, .slice A ls.length c, .string key] w fun e w' => e = .returned (.bool true) ∧ Below w.heap.size w w' := by
  have h : IntKind.u8.min ≤ a ∧ a ≤ IntKind.u8.max := by simpa [Lit.wf] using ha
  simp [IntKind.min, IntKind.max, IntKind.signed, IntKind.bits] at h
  obtain ⟨k, rfl⟩ : ∃ k : Nat, a = (k : Int) := ⟨a.toNat, by omega⟩
  exact Bounds_row w k (by omega) ls A c hr hc key hkm
end Go.Proofs.Ytgpkpeefbkcjeaa.H
