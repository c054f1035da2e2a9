/- The walk of LabelsSets. -/
import Derived.Test.YtiooenmbondflaaHGreat
import Derived.Test.YtiooenmbondflaaHGet
import Derived.Test.YtiooenmbondflaaHOrd
namespace Go.Proofs.Ytiooenmbondflaa.H
open Go Go.RowKit Go.Proofs.YtiooenmbondflaaW.PrintWords Go.Proofs.YtiooenmbondflaaW.PrintLast Go.Proofs.YtiooenmbondflaaW.PrintMore Go.Proofs.Ytiooenmbondflaa.PAll
set_option linter.unusedVariables false
set_option linter.unusedSimpArgs false

theorem withL_len (l : L32) (name value : ByteArray) : (withL l name value).length ≤ l.length + 1 := by
  have hs : (sel [name] false l).length ≤ l.length := List.length_filter_le _ _
  unfold withL
  split
  · omega
  · rw [insL_length]; omega
/-- Equal of two rows that hold the same. -/
theorem Equal_same (v v' : Value) (b b' : Nat) (m : L32) (W W' : World) (h1 : Kd.R k32 32 W b (fun _ => True) v m) (h2 : Kd.R k32 32 W' b' (fun _ => True) v' m) (hb : Below W.heap.size W W') (hm : m.length ≤ 1000000) :
    Calls Try.prog 15 #[v, v'] W' fun e w' => e = .returned (.bool true) ∧ Drawn0 W' w' := by
  obtain ⟨A, c, rfl, hc, hC⟩ := Kd.R_reads h1
  obtain ⟨A', c', rfl, hc', hC'⟩ := Kd.R_reads h2
  have h := Equal_calls A A' c c' m m W' (Kd.C_below hC hb) hc hC' hc' (by omega)
  rw [eqLB_refl] at h
  exact h

set_option maxRecDepth 100000 in
set_option maxHeartbeats 8000000 in
theorem LabelsSets_row (w : World) (A0 : Option Addr) (l : L32) (c0 : Nat) (hr0 : Kd.C k32 w A0 l.length l) (hc0 : l.length ≤ c0) (_ : ∀ x ∈ l, x.f0.size ≤ maxLen ∧ x.f1.size ≤ maxLen) (An : Option Addr) (names : List ByteArray) (cn : Nat) (hrn : Kd.C Kd.string w An names.length names) (hcn : names.length ≤ cn) (_ : ∀ x ∈ names, x.size ≤ maxLen) (value : ByteArray) (hy : value.size ≤ maxLen) :
    Calls Try.prog 8 #[.slice A0 l.length c0, .slice An names.length cn, .string value] w fun e w' => e = .returned (.bool true) ∧ Below w.heap.size w w' := by
  have HG := Aside0.mk (fun W n hn (h : Below w.heap.size w W) => great1 W n hn A0 c0 l (Kd.C_below hr0 h) hc0)
  have HR0 := Aside0.mk hr0
  have HCC := Aside0.mk hc0
  have HRN := Aside0.mk hrn
  have HCN := Aside0.mk hcn
  have HA := Aside0.mk (fun W => awake_calls W)
  have HB2 := Aside0.mk (Below.refl w.heap.size w)
  have hmN := Kd.C_max hrn
  clear hr0 hc0 hrn hcn hy
  cases hg : greatB l with
  | true =>
    rw [hg] at HG
    clear hg
    go_enter Try.func8, Try.ntmps8
    go_wp2_with (first
      | (go_at_call 10; refine (HG.out _ _ rfl (by repeat (first | exact HB2.out | apply below_alloc | apply pw_below_drewN | apply below_drew))).mono ?_; rintro e w1 ⟨rfl, ⟨q, rfl⟩⟩)
      | (go_at_call 11; refine (HA.out _).mono ?_; rintro e w2 ⟨rfl, hb⟩; have n1_ := Aside0.mk ((show Below w.heap.size w _ by repeat (first | exact HB2.out | apply below_alloc | apply pw_below_drewN | apply below_drew)).trans (hb.mono (by have := HB2.out.size; simp; try omega))); clear HB2; have HB2 := n1_; clear n1_; clear hb))
    go_ret
    exact ⟨rfl, HB2.out⟩
  | false =>
    obtain ⟨hl17, _, hSz⟩ := small_of hg
    rw [hg] at HG
    clear hg
    by_cases hs : names.length ≤ 10
    · have q1 : (10 < (names.length : Int)) = False := eq_false (by omega)
      by_cases hv : value.size ≤ 201
      · have q2 : (201 < (value.size : Int)) = False := eq_false (by omega)
        have HGE := Aside0.mk (fun W s (h : Below w.heap.size w W) => Get_calls A0 c0 l s W (Kd.C_below HR0.out h) HCC.out (by omega))
        have HRG := Aside0.mk (fun W s (h : Below w.heap.size w W) => rGet_calls A0 c0 l s W (Kd.C_below HR0.out h) HCC.out (by omega))
        have HWT := Aside0.mk (fun W s (h : Below w.heap.size w W) => With_calls A0 c0 l s value W (Kd.C_below HR0.out h) HCC.out (by omega))
        have HRW := Aside0.mk (fun W s (h : Below w.heap.size w W) => rWith_calls A0 c0 l s value W (Kd.C_below HR0.out h) HCC.out (by omega))
        have HKP := Aside0.mk (fun W (h : Below w.heap.size w W) => Keep_calls A0 An c0 cn l names W HCC.out HCN.out (by omega) (by omega) (Kd.C_below HR0.out h) (Kd.C_below HRN.out h))
        have HDP := Aside0.mk (fun W (h : Below w.heap.size w W) => Drop_calls A0 An c0 cn l names W HCC.out HCN.out (by omega) (by omega) (Kd.C_below HR0.out h) (Kd.C_below HRN.out h))
        have HRK := Aside0.mk (fun W (h : Below w.heap.size w W) => rKeep_calls A0 An c0 cn l names W (Kd.C_below HR0.out h) HCC.out (Kd.C_below HRN.out h) HCN.out (by omega) (by omega))
        have HRD := Aside0.mk (fun W (h : Below w.heap.size w W) => rDrop_calls A0 An c0 cn l names W (Kd.C_below HR0.out h) HCC.out (Kd.C_below HRN.out h) HCN.out (by omega) (by omega))
        have HCK := Aside0.mk (fun W (h : Below w.heap.size w W) => Check_calls A0 c0 l W (Kd.C_below HR0.out h) HCC.out 1000 (by omega) (by omega) hSz)
        have HRC := Aside0.mk (fun W (h : Below w.heap.size w W) => rCheck_calls A0 c0 l W (Kd.C_below HR0.out h) HCC.out 1000 (by omega) (by omega) hSz)
        have HLW := Aside0.mk (fun s => show (withL l s value).length ≤ 1000000 from Nat.le_trans (withL_len l s value) (by omega))
        have HLK := Aside0.mk (fun b => show (sel names b l).length ≤ 1000000 from Nat.le_trans (List.length_filter_le _ _) (by omega))
        clear hv hSz
        generalize chk l = ck at *
        go_enter Try.func8, Try.ntmps8
        go_wp2_with (first
          | (go_at_call 10; refine (HG.out _ _ rfl (by repeat (first | exact HB2.out | apply below_alloc | apply pw_below_drewN | apply below_drew))).mono ?_; rintro e w1 ⟨rfl, ⟨q, rfl⟩⟩))
        have HB3 := Aside0.mk (show Below w.heap.size w _ by repeat (first | exact HB2.out | apply below_alloc | apply pw_below_drewN | apply below_drew))
        go_loopg [25] (names.length) (fun kq v25 w' => ∃ j : Nat, v25 = .int .i64 j ∧ j ≤ names.length ∧ Aside0 (kq = names.length - j) ∧ Aside0 (Below w.heap.size w w'))
        case atStart => exact ⟨0, rfl, by omega, ⟨rfl⟩, ⟨(by repeat (first | exact HB2.out | apply below_alloc | apply pw_below_drewN | apply below_drew))⟩⟩
        case round =>
          clear HB2 HB3
          obtain ⟨j, rfl, hj, HK, HB2⟩ := hrel
          by_cases hlt : j < names.length
          · obtain ⟨ad, e1, hcs⟩ := Kd.at_string (Kd.C_below HRN.out HB2.out) (j : Int) (by omega) (by omega)
            cases e1
            have dl : decide (j < names.length) = true := decide_eq_true hlt
            have ql : ((j : Int) < (names.length : Int)) = True := eq_true (by omega)
            have pl : (0 ≤ (j : Int)) = True := eq_true (by omega)
            simp only [Int.toNat_natCast] at hcs
            generalize rdOf ByteArray.empty names (j : Int) = s at *
            have HGE' := Aside0.mk (fun W => HGE.out W s)
            have HRG' := Aside0.mk (fun W => HRG.out W s)
            generalize getL l s = g at *
            go_wp2_with (first
              | (go_at_call 27; refine (HGE'.out _ (by repeat (first | exact HB2.out | apply below_alloc | apply pw_below_drewN | apply below_drew))).mono ?_; rintro e w3 ⟨rfl, hb⟩; have n1_ := Aside0.mk ((show Below w.heap.size w _ by repeat (first | exact HB2.out | apply below_alloc | apply pw_below_drewN | apply below_drew)).trans (hb.mono (by have := HB2.out.size; simp; try omega))); clear HB2; have HB2 := n1_; clear n1_; clear hb)
              | (go_at_call 28; refine (HRG'.out _ (by repeat (first | exact HB2.out | apply below_alloc | apply pw_below_drewN | apply below_drew))).mono ?_; rintro e w4 ⟨rfl, ⟨q4, rfl⟩⟩)
              | (go_at_call 29; refine (HWT.out _ _ (by repeat (first | exact HB2.out | apply below_alloc | apply pw_below_drewN | apply below_drew))).mono ?_; rintro e w5 ⟨v5, rfl, hR, hb⟩; have HR5 := Aside0.mk hR; clear hR; have n1_ := Aside0.mk ((show Below w.heap.size w _ by repeat (first | exact HB2.out | apply below_alloc | apply pw_below_drewN | apply below_drew)).trans (hb.mono (by have := HB2.out.size; simp; try omega))); clear HB2; have HB2 := n1_; clear n1_; clear hb; have B5 := Aside0.mk (Below.refl w5.heap.size w5))
              | (go_at_call 30; refine (HRW.out _ _ (by repeat (first | exact HB2.out | apply below_alloc | apply pw_below_drewN | apply below_drew))).mono ?_; rintro e w6 ⟨v6, rfl, hR, hb⟩; have HR6 := Aside0.mk hR; clear hR; have n1_ := Aside0.mk ((show Below w.heap.size w _ by repeat (first | exact HB2.out | apply below_alloc | apply pw_below_drewN | apply below_drew)).trans (hb.mono (by have := HB2.out.size; simp; try omega))); clear HB2; have HB2 := n1_; clear n1_; have n1_ := Aside0.mk ((show Below w5.heap.size w5 _ by repeat (first | exact B5.out | apply below_alloc | apply pw_below_drewN | apply below_drew)).trans (hb.mono (by have := B5.out.size; simp; try omega))); clear B5; have B5 := n1_; clear n1_; clear hb)
              | (go_at_call 15; refine (Equal_same _ _ _ _ _ _ _ HR5.out HR6.out B5.out (HLW.out _)).mono ?_; rintro e w7 ⟨rfl, ⟨q7, rfl⟩⟩))
            go_roundg (names.length - (j + 1))
            case measure => have := HK.out; omega
            case rel => exact ⟨j + 1, by simp, by omega, ⟨rfl⟩, ⟨(by repeat (first | exact HB2.out | apply below_alloc | apply pw_below_drewN | apply below_drew))⟩⟩
          · have hjl : j = names.length := by omega
            subst hjl
            have dl : decide (names.length < names.length) = false := decide_eq_false hlt
            go_wp2_with (first
              | (go_at_call 14; refine (HCK.out _ (by repeat (first | exact HB2.out | apply below_alloc | apply pw_below_drewN | apply below_drew))).mono ?_; clear HCK; rintro e w7 ⟨rfl, hb⟩; have n1_ := Aside0.mk ((show Below w.heap.size w _ by repeat (first | exact HB2.out | apply below_alloc | apply pw_below_drewN | apply below_drew)).trans (hb.mono (by have := HB2.out.size; simp; try omega))); clear HB2; have HB2 := n1_; clear n1_; clear hb)
              | (go_at_call 31; refine (HRC.out _ (by repeat (first | exact HB2.out | apply below_alloc | apply pw_below_drewN | apply below_drew))).mono ?_; rintro e w4 ⟨rfl, ⟨q4, rfl⟩⟩)
              | (go_at_call 22; refine (HKP.out _ (by repeat (first | exact HB2.out | apply below_alloc | apply pw_below_drewN | apply below_drew))).mono ?_; rintro e w5 ⟨v5, rfl, hR, hb⟩; have HR5 := Aside0.mk hR; clear hR; have n1_ := Aside0.mk ((show Below w.heap.size w _ by repeat (first | exact HB2.out | apply below_alloc | apply pw_below_drewN | apply below_drew)).trans (hb.mono (by have := HB2.out.size; simp; try omega))); clear HB2; have HB2 := n1_; clear n1_; clear hb; have B5 := Aside0.mk (Below.refl w5.heap.size w5))
              | (go_at_call 32; refine (HRK.out _ (by repeat (first | exact HB2.out | apply below_alloc | apply pw_below_drewN | apply below_drew))).mono ?_; rintro e w6 ⟨v6, rfl, hR, hb⟩; have HR6 := Aside0.mk hR; clear hR; have n1_ := Aside0.mk ((show Below w.heap.size w _ by repeat (first | exact HB2.out | apply below_alloc | apply pw_below_drewN | apply below_drew)).trans (hb.mono (by have := HB2.out.size; simp; try omega))); clear HB2; have HB2 := n1_; clear n1_; have n1_ := Aside0.mk ((show Below w5.heap.size w5 _ by repeat (first | exact B5.out | apply below_alloc | apply pw_below_drewN | apply below_drew)).trans (hb.mono (by have := B5.out.size; simp; try omega))); clear B5; have B5 := n1_; clear n1_; clear hb)
              | (go_at_call 23; refine (HDP.out _ (by repeat (first | exact HB2.out | apply below_alloc | apply pw_below_drewN | apply below_drew))).mono ?_; rintro e w8 ⟨v8, rfl, hR, hb⟩; have HR8 := Aside0.mk hR; clear hR; have n1_ := Aside0.mk ((show Below w.heap.size w _ by repeat (first | exact HB2.out | apply below_alloc | apply pw_below_drewN | apply below_drew)).trans (hb.mono (by have := HB2.out.size; simp; try omega))); clear HB2; have HB2 := n1_; clear n1_; clear hb; have B8 := Aside0.mk (Below.refl w8.heap.size w8))
              | (go_at_call 33; refine (HRD.out _ (by repeat (first | exact HB2.out | apply below_alloc | apply pw_below_drewN | apply below_drew))).mono ?_; rintro e w9 ⟨v9, rfl, hR, hb⟩; have HR9 := Aside0.mk hR; clear hR; have n1_ := Aside0.mk ((show Below w.heap.size w _ by repeat (first | exact HB2.out | apply below_alloc | apply pw_below_drewN | apply below_drew)).trans (hb.mono (by have := HB2.out.size; simp; try omega))); clear HB2; have HB2 := n1_; clear n1_; have n1_ := Aside0.mk ((show Below w8.heap.size w8 _ by repeat (first | exact B8.out | apply below_alloc | apply pw_below_drewN | apply below_drew)).trans (hb.mono (by have := B8.out.size; simp; try omega))); clear B8; have B8 := n1_; clear n1_; clear hb)
              | (go_at_call 15; with_reducible refine (Equal_same _ _ _ _ _ _ _ HR8.out HR9.out B8.out (HLK.out _)).mono ?_; rintro e w7 ⟨rfl, ⟨q7, rfl⟩⟩)
              | (go_at_call 15; refine (Equal_same _ _ _ _ _ _ _ HR5.out HR6.out B5.out (HLK.out _)).mono ?_; rintro e w7 ⟨rfl, ⟨q7, rfl⟩⟩)
              | (go_at_call 11; refine (HA.out _).mono ?_; rintro e w2 ⟨rfl, hb⟩; have n1_ := Aside0.mk ((show Below w.heap.size w _ by repeat (first | exact HB2.out | apply below_alloc | apply pw_below_drewN | apply below_drew)).trans (hb.mono (by have := HB2.out.size; simp; try omega))); clear HB2; have HB2 := n1_; clear n1_; clear hb))
            go_ret
            exact ⟨rfl, HB2.out⟩
      · have q2 : (201 < (value.size : Int)) = True := eq_true (by omega)
        clear hv
        go_enter Try.func8, Try.ntmps8
        go_wp2_with (first
          | (go_at_call 10; refine (HG.out _ _ rfl (by repeat (first | exact HB2.out | apply below_alloc | apply pw_below_drewN | apply below_drew))).mono ?_; rintro e w1 ⟨rfl, ⟨q, rfl⟩⟩)
          | (go_at_call 11; refine (HA.out _).mono ?_; rintro e w2 ⟨rfl, hb⟩; have n1_ := Aside0.mk ((show Below w.heap.size w _ by repeat (first | exact HB2.out | apply below_alloc | apply pw_below_drewN | apply below_drew)).trans (hb.mono (by have := HB2.out.size; simp; try omega))); clear HB2; have HB2 := n1_; clear n1_; clear hb))
        go_ret
        exact ⟨rfl, HB2.out⟩
    · have q1 : (10 < (names.length : Int)) = True := eq_true (by omega)
      clear hs
      go_enter Try.func8, Try.ntmps8
      go_wp2_with (first
        | (go_at_call 10; refine (HG.out _ _ rfl (by repeat (first | exact HB2.out | apply below_alloc | apply pw_below_drewN | apply below_drew))).mono ?_; rintro e w1 ⟨rfl, ⟨q, rfl⟩⟩)
        | (go_at_call 11; refine (HA.out _).mono ?_; rintro e w2 ⟨rfl, hb⟩; have n1_ := Aside0.mk ((show Below w.heap.size w _ by repeat (first | exact HB2.out | apply below_alloc | apply pw_below_drewN | apply below_drew)).trans (hb.mono (by have := HB2.out.size; simp; try omega))); clear HB2; have HB2 := n1_; clear n1_; clear hb))
      go_ret
      exact ⟨rfl, HB2.out⟩
end Go.Proofs.Ytiooenmbondflaa.H
