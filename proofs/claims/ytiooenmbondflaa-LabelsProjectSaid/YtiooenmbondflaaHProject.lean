/- The walk of LabelsProject. -/
import Derived.Test.YtiooenmbondflaaHGreat
import Derived.Test.YtiooenmbondflaaHOrd
import Derived.BigQuiet
namespace Go.Proofs.Ytiooenmbondflaa.H
open Go Go.RowKit Go.Proofs.YtiooenmbondflaaW.PrintWords Go.Proofs.YtiooenmbondflaaW.PrintLast Go.Proofs.YtiooenmbondflaaW.PrintMore Go.Proofs.Ytiooenmbondflaa.PAll
set_option linter.unusedVariables false
set_option linter.unusedSimpArgs false

theorem sel_split (names : List ByteArray) (b : Bool) (l : L32) (j : Nat) (h : j < l.length) : sel names b l = sel names b (l.take j) ++ ((if hasN names l[j].f0 == b then [l[j]] else []) ++ sel names b (l.drop (j + 1))) := by
  have e : l = l.take j ++ ([l[j]] ++ l.drop (j + 1)) := by
    rw [List.singleton_append, ← List.drop_eq_getElem_cons h, List.take_append_drop]
  conv => lhs; rw [e]
  simp only [sel, List.filter_append, List.filter_cons, List.filter_nil]
theorem sel_take (names : List ByteArray) (b : Bool) (l : L32) (j : Nat) (h : j < l.length) : sel names b (l.take (j + 1)) = sel names b (l.take j) ++ (if hasN names l[j].f0 == b then [l[j]] else []) := by
  rw [List.take_succ_eq_append_getElem h]
  simp only [sel, List.filter_append, List.filter_cons, List.filter_nil]
theorem sel_len (names : List ByteArray) (b : Bool) (l : L32) : (sel names b l).length ≤ l.length := List.length_filter_le _ _
theorem Sz_sel {B : Nat} {l : L32} (h : Sz B l) (names : List ByteArray) (b : Bool) : Sz B (sel names b l) := fun x hx => h x (List.mem_filter.1 hx).1

set_option maxRecDepth 100000 in
set_option maxHeartbeats 8000000 in
theorem LabelsProject_row (w : World) (A0 : Option Addr) (l : L32) (c0 : Nat) (hr0 : Kd.C k32 w A0 l.length l) (hc0 : l.length ≤ c0) (_ : ∀ x ∈ l, x.f0.size ≤ maxLen ∧ x.f1.size ≤ maxLen) (An : Option Addr) (names : List ByteArray) (cn : Nat) (hrn : Kd.C Kd.string w An names.length names) (hcn : names.length ≤ cn) (_ : ∀ x ∈ names, x.size ≤ maxLen) :
    Calls Try.prog 5 #[.slice A0 l.length c0, .slice An names.length cn] w fun e w' => e = .returned (.bool true) ∧ Below w.heap.size w w' := by
  have HG := Aside0.mk (fun W n hn (h : Below w.heap.size w W) => great1 W n hn A0 c0 l (Kd.C_below hr0 h) hc0)
  have HR0 := Aside0.mk hr0
  have HCC := Aside0.mk hc0
  have HRN := Aside0.mk hrn
  have HCN := Aside0.mk hcn
  have HA := Aside0.mk (fun W => awake_calls W)
  have HB2 := Aside0.mk (Below.refl w.heap.size w)
  clear hr0 hc0 hrn hcn
  cases hg : greatB l with
  | true =>
    rw [hg] at HG
    clear hg
    go_enter Try.func5, Try.ntmps5
    go_wp2_with (first
      | (go_at_call 10; refine (HG.out _ _ rfl (by repeat (first | exact HB2.out | apply below_alloc | apply pw_below_drewN | apply below_drew))).mono ?_; rintro e w1 ⟨rfl, ⟨q, rfl⟩⟩)
      | (go_at_call 11; refine (HA.out _).mono ?_; rintro e w2 ⟨rfl, hb⟩; have n1_ := Aside0.mk ((show Below w.heap.size w _ by repeat (first | exact HB2.out | apply below_alloc | apply pw_below_drewN | apply below_drew)).trans (hb.mono (by have := HB2.out.size; simp; try omega))); clear HB2; have HB2 := n1_; clear n1_; clear hb))
    go_ret
    exact ⟨rfl, HB2.out⟩
  | false =>
    obtain ⟨hl17, _, hSz⟩ := small_of hg
    rw [hg] at HG
    clear hg
    by_cases hs : names.length ≤ 10
    · have q1 : (10 < (names.length : Int)) = False := eq_false (by omega)
      have HKP := Aside0.mk (fun W (h : Below w.heap.size w W) => Keep_calls A0 An c0 cn l names W HCC.out HCN.out (by omega) (by omega) (Kd.C_below HR0.out h) (Kd.C_below HRN.out h))
      have HDP := Aside0.mk (fun W (h : Below w.heap.size w W) => Drop_calls A0 An c0 cn l names W HCC.out HCN.out (by omega) (by omega) (Kd.C_below HR0.out h) (Kd.C_below HRN.out h))
      have HCT := Aside0.mk (fun W s (h : Below w.heap.size w W) => Contains_calls names s An cn W (Kd.C_below HRN.out h) HCN.out (by omega))
      have HCK := Aside0.mk (fun W (h : Below w.heap.size w W) => Check_calls A0 c0 l W (Kd.C_below HR0.out h) HCC.out 1000 (by omega) (by omega) hSz)
      have HSZ := Aside0.mk hSz
      have HL17 := Aside0.mk hl17
      have la := sel_len names true l
      have lb := sel_len names false l
      clear hs hSz
      have hu32 := Try.underlying32
      go_enter Try.func5, Try.ntmps5
      go_wp2_with (first
        | (go_at_call 10; refine (HG.out _ _ rfl (by repeat (first | exact HB2.out | apply below_alloc | apply pw_below_drewN | apply below_drew))).mono ?_; rintro e w1 ⟨rfl, ⟨q, rfl⟩⟩)
        | (go_at_call 22; refine (HKP.out _ (by repeat (first | exact HB2.out | apply below_alloc | apply pw_below_drewN | apply below_drew))).mono ?_; clear HKP; rintro e w4 ⟨v, rfl, hR, hb⟩; obtain ⟨A1, c1, rfl, hlc, hC⟩ := Kd.R_reads hR; have HC1 := Aside0.mk (And.intro hlc hC); have Bw4 := Aside0.mk (Below.refl w4.heap.size w4); clear hR hlc hC; have n1_ := Aside0.mk ((show Below w.heap.size w _ by repeat (first | exact HB2.out | apply below_alloc | apply pw_below_drewN | apply below_drew)).trans (hb.mono (by have := HB2.out.size; simp; try omega))); clear HB2; have HB2 := n1_; clear n1_; clear hb)
        | (go_at_call 23; refine (HDP.out _ (by repeat (first | exact HB2.out | apply below_alloc | apply pw_below_drewN | apply below_drew))).mono ?_; clear HDP; rintro e w5 ⟨v, rfl, hR, hb⟩; obtain ⟨A2, c2, rfl, hlc, hC⟩ := Kd.R_reads hR; have n2_ := Aside0.mk ((show Below w4.heap.size w4 _ by repeat (first | exact Bw4.out | apply below_alloc | apply pw_below_drewN | apply below_drew)).trans (hb.mono (by have := Bw4.out.size; simp; try omega))); clear Bw4; have Bw4 := n2_; clear n2_; have HC2 := Aside0.mk (And.intro (Kd.C_below HC1.out.2 Bw4.out) hC); have HL2 := Aside0.mk (And.intro HC1.out.1 hlc); have Bw5 := Aside0.mk (Below.refl w5.heap.size w5); clear hR hlc hC HC1 Bw4; have n1_ := Aside0.mk ((show Below w.heap.size w _ by repeat (first | exact HB2.out | apply below_alloc | apply pw_below_drewN | apply below_drew)).trans (hb.mono (by have := HB2.out.size; simp; try omega))); clear HB2; have HB2 := n1_; clear n1_; clear hb))
      have hw5 := Aside0.mk HB2.out
      go_loopg [7, 8, 29] (l.length) (fun kq v7 v8 v29 w' => ∃ j : Nat, v29 = .int .i64 j ∧ j ≤ l.length ∧ v7 = .int .i64 ((sel names true (l.take j)).length : Int) ∧ v8 = .int .i64 ((sel names false (l.take j)).length : Int) ∧ Aside0 (kq = l.length - j) ∧ Aside0 (Below w5.heap.size w5 w'))
      case atStart => exact ⟨0, rfl, by omega, by simp [sel], by simp [sel], ⟨rfl⟩, ⟨Below.refl _ _⟩⟩
      case round =>
        clear HB2 Bw5
        obtain ⟨j, rfl, hj, rfl, rfl, HK, HB⟩ := hrel
        by_cases hlt : j < l.length
        · have hr := Kd.C_below HR0.out (show Below w.heap.size w wr from hw5.out.trans (HB.out.mono hw5.out.size))
          have HBW := Aside0.mk (show Below w.heap.size w wr from hw5.out.trans (HB.out.mono hw5.out.size))
          obtain ⟨ad, e1, hc0, hc1⟩ := at_T32 hr (j : Int) (by omega) (by omega)
          cases e1
          rw [rdT_get l j hlt] at hc0 hc1
          clear hr
          simp only [Int.toNat_natCast] at hc0 hc1
          have dl : decide (j < l.length) = true := decide_eq_true hlt
          have ql : ((j : Int) < (l.length : Int)) = True := eq_true (by omega)
          have st := sel_split names true l j hlt
          have sf := sel_split names false l j hlt
          have tt := sel_take names true l j hlt
          have tf := sel_take names false l j hlt
          have HCX := Aside0.mk (HCT.out wr l[j].f0)
          cases hx : hasN names l[j].f0 with
          | true =>
            have hp : (sel names true (l.take j)).length < (sel names true l).length := by rw [st, hx]; simp
            have hg : (sel names true l)[(sel names true (l.take j)).length] = l[j] := by
              have : (sel names true l)[(sel names true (l.take j)).length]? = some l[j] := by rw [st, hx]; simp
              obtain ⟨_, h⟩ := List.getElem?_eq_some_iff.1 this
              exact h
            obtain ⟨ad1, e2, hd0, hd1⟩ := at_T32 (Kd.C_below HC2.out.1 HB.out) ((sel names true (l.take j)).length : Int) (by omega) (by omega)
            cases e2
            have HRD := Aside0.mk (show rd_T32 (sel names true l) ((sel names true (l.take j)).length : Int) = l[j] by rw [rdT_get _ _ hp, hg])
            rw [rdT_get _ _ hp, hg] at hd0 hd1
            simp only [Int.toNat_natCast] at hd0 hd1
            rw [hx] at tt tf
            have hcx := fun (W : World) (h : Below w.heap.size w W) => HCT.out W l[j].f0 h
            rw [hx] at hcx
            have HCX2 := Aside0.mk hcx
            have TT := Aside0.mk (congrArg List.length tt)
            have TF := Aside0.mk (congrArg List.length tf)
            clear hg st sf hcx HCX tt tf
            generalize l[j] = x at *
            generalize hi : (sel names true (l.take j)).length = i at *
            generalize hk : (sel names false (l.take j)).length = k at *
            have d1 : decide ((sel names true l).length ≤ i) = false := decide_eq_false (by omega)
            have q2 : (((sel names true l).length : Int) ≤ (i : Int)) = False := eq_false (by omega)
            have q3 : ((i : Int) < ((sel names true l).length : Int)) = True := eq_true (by omega)
            have d3 : decide (i < (sel names true l).length) = true := decide_eq_true (by omega)
            go_wp2_with (first
              | (go_at_call 24; refine (HCX2.out _ (by repeat (first | exact HBW.out | apply below_alloc | apply pw_below_drewN | apply below_drew))).mono ?_; rintro e w6 ⟨rfl, ⟨q6, rfl⟩⟩))
            have hn0 : (wr.alloc (.cells #[.string x.f0, .string x.f1] 32)).cell? ⟨wr.heap.size, 0, none⟩ = some (.string x.f0) := cell_of_heap (heap_alloc_new wr _) 0 _ rfl
            have hn1 : (wr.alloc (.cells #[.string x.f0, .string x.f1] 32)).cell? ⟨wr.heap.size, 1, none⟩ = some (.string x.f1) := cell_of_heap (heap_alloc_new wr _) 1 _ rfl
            obtain ⟨ad2, e3, he0, he1⟩ := at_T32 (Kd.C_below HC2.out.1 (show Below w5.heap.size w5 (wr.alloc (.cells #[.string x.f0, .string x.f1] 32)) from below_alloc HB.out _)) (i : Int) (by omega) (by omega)
            cases e3
            rw [HRD.out] at he0 he1
            simp only [Int.toNat_natCast] at he0 he1
            go_quiet (fail)
            go_wp2
            go_roundg (l.length - (j + 1))
            case measure => have := HK.out; omega
            case rel =>
              refine ⟨j + 1, by simp, by omega, ?_, ?_, ⟨rfl⟩, ⟨by repeat (first | exact HB.out | apply below_alloc | apply pw_below_drewN | apply below_drew)⟩⟩
              · rw [show (sel names true (l.take (j + 1))).length = i + 1 by have h := TT.out; simp at h; omega]; simp
              · rw [show (sel names false (l.take (j + 1))).length = k by have h := TF.out; simp at h; omega]
          | false =>
            have hp : (sel names false (l.take j)).length < (sel names false l).length := by rw [sf, hx]; simp
            have hg : (sel names false l)[(sel names false (l.take j)).length] = l[j] := by
              have : (sel names false l)[(sel names false (l.take j)).length]? = some l[j] := by rw [sf, hx]; simp
              obtain ⟨_, h⟩ := List.getElem?_eq_some_iff.1 this
              exact h
            obtain ⟨ad1, e2, hd0, hd1⟩ := at_T32 (Kd.C_below HC2.out.2 HB.out) ((sel names false (l.take j)).length : Int) (by omega) (by omega)
            cases e2
            have HRD := Aside0.mk (show rd_T32 (sel names false l) ((sel names false (l.take j)).length : Int) = l[j] by rw [rdT_get _ _ hp, hg])
            rw [rdT_get _ _ hp, hg] at hd0 hd1
            simp only [Int.toNat_natCast] at hd0 hd1
            rw [hx] at tt tf
            have hcx := fun (W : World) (h : Below w.heap.size w W) => HCT.out W l[j].f0 h
            rw [hx] at hcx
            have HCX2 := Aside0.mk hcx
            have TT := Aside0.mk (congrArg List.length tt)
            have TF := Aside0.mk (congrArg List.length tf)
            clear hg st sf hcx HCX tt tf
            generalize l[j] = x at *
            generalize hi : (sel names true (l.take j)).length = i at *
            generalize hk : (sel names false (l.take j)).length = k at *
            have d1 : decide ((sel names false l).length ≤ k) = false := decide_eq_false (by omega)
            have q2 : (((sel names false l).length : Int) ≤ (k : Int)) = False := eq_false (by omega)
            have q3 : ((k : Int) < ((sel names false l).length : Int)) = True := eq_true (by omega)
            have d3 : decide (k < (sel names false l).length) = true := decide_eq_true (by omega)
            go_wp2_with (first
              | (go_at_call 24; refine (HCX2.out _ (by repeat (first | exact HBW.out | apply below_alloc | apply pw_below_drewN | apply below_drew))).mono ?_; rintro e w6 ⟨rfl, ⟨q6, rfl⟩⟩))
            have hn0 : (wr.alloc (.cells #[.string x.f0, .string x.f1] 32)).cell? ⟨wr.heap.size, 0, none⟩ = some (.string x.f0) := cell_of_heap (heap_alloc_new wr _) 0 _ rfl
            have hn1 : (wr.alloc (.cells #[.string x.f0, .string x.f1] 32)).cell? ⟨wr.heap.size, 1, none⟩ = some (.string x.f1) := cell_of_heap (heap_alloc_new wr _) 1 _ rfl
            obtain ⟨ad2, e3, he0, he1⟩ := at_T32 (Kd.C_below HC2.out.2 (show Below w5.heap.size w5 (wr.alloc (.cells #[.string x.f0, .string x.f1] 32)) from below_alloc HB.out _)) (k : Int) (by omega) (by omega)
            cases e3
            rw [HRD.out] at he0 he1
            simp only [Int.toNat_natCast] at he0 he1
            go_quiet (fail)
            go_wp2
            go_roundg (l.length - (j + 1))
            case measure => have := HK.out; omega
            case rel =>
              refine ⟨j + 1, by simp, by omega, ?_, ?_, ⟨rfl⟩, ⟨by repeat (first | exact HB.out | apply below_alloc | apply pw_below_drewN | apply below_drew)⟩⟩
              · rw [show (sel names true (l.take (j + 1))).length = i by have h := TT.out; simp at h; omega]
              · rw [show (sel names false (l.take (j + 1))).length = k + 1 by have h := TF.out; simp at h; omega]; simp
        · have hjl : j = l.length := by omega
          subst hjl
          have dl : decide (l.length < l.length) = false := decide_eq_false hlt
          rw [List.take_length] at *
          have HBW := Aside0.mk (show Below w.heap.size w wr from hw5.out.trans (HB.out.mono hw5.out.size))
          have HKA := Aside0.mk (fun W (h : Below w5.heap.size w5 W) => Check_calls A1 c1 (sel names true l) W (Kd.C_below HC2.out.1 h) HL2.out.1 1000 (by omega) (by omega) (Sz_sel HSZ.out names true))
          have HKB := Aside0.mk (fun W (h : Below w5.heap.size w5 W) => Check_calls A2 c2 (sel names false l) W (Kd.C_below HC2.out.2 h) HL2.out.2 1000 (by omega) (by omega) (Sz_sel HSZ.out names false))
          have HB2 := HBW
          have Bw5 := HB
          by_cases hc : chk l = 0
          · have h1 : chk (sel names true l) = 0 := chk_filter l _ hc
            have h2 : chk (sel names false l) = 0 := chk_filter l _ hc
            rw [hc] at HCK
            rw [h1] at HKA
            rw [h2] at HKB
            clear hc h1 h2
            go_wp2_with (first
              | (go_at_call 14; refine (HCK.out _ (by repeat (first | exact HB2.out | apply below_alloc | apply pw_below_drewN | apply below_drew))).mono ?_; clear HCK; rintro e w7 ⟨rfl, hb⟩; have n2_ := Aside0.mk ((show Below w5.heap.size w5 _ by repeat (first | exact Bw5.out | apply below_alloc | apply pw_below_drewN | apply below_drew)).trans (hb.mono (by have := Bw5.out.size; simp; try omega))); clear Bw5; have Bw5 := n2_; clear n2_; have n1_ := Aside0.mk ((show Below w.heap.size w _ by repeat (first | exact HB2.out | apply below_alloc | apply pw_below_drewN | apply below_drew)).trans (hb.mono (by have := HB2.out.size; simp; try omega))); clear HB2; have HB2 := n1_; clear n1_; clear hb)
              | (go_at_call 14; refine (HKA.out _ (show Below w5.heap.size w5 _ by repeat (first | exact Bw5.out | apply below_alloc | apply pw_below_drewN | apply below_drew))).mono ?_; clear HKA; rintro e w8 ⟨rfl, hb⟩; have n2_ := Aside0.mk ((show Below w5.heap.size w5 _ by repeat (first | exact Bw5.out | apply below_alloc | apply pw_below_drewN | apply below_drew)).trans (hb.mono (by have := Bw5.out.size; simp; try omega))); clear Bw5; have Bw5 := n2_; clear n2_; have n1_ := Aside0.mk ((show Below w.heap.size w _ by repeat (first | exact HB2.out | apply below_alloc | apply pw_below_drewN | apply below_drew)).trans (hb.mono (by have := HB2.out.size; simp; try omega))); clear HB2; have HB2 := n1_; clear n1_; clear hb)
              | (go_at_call 14; refine (HKB.out _ (show Below w5.heap.size w5 _ by repeat (first | exact Bw5.out | apply below_alloc | apply pw_below_drewN | apply below_drew))).mono ?_; clear HKB; rintro e w9 ⟨rfl, hb⟩; have n2_ := Aside0.mk ((show Below w5.heap.size w5 _ by repeat (first | exact Bw5.out | apply below_alloc | apply pw_below_drewN | apply below_drew)).trans (hb.mono (by have := Bw5.out.size; simp; try omega))); clear Bw5; have Bw5 := n2_; clear n2_; have n1_ := Aside0.mk ((show Below w.heap.size w _ by repeat (first | exact HB2.out | apply below_alloc | apply pw_below_drewN | apply below_drew)).trans (hb.mono (by have := HB2.out.size; simp; try omega))); clear HB2; have HB2 := n1_; clear n1_; clear hb)
              | (go_at_call 11; refine (HA.out _).mono ?_; rintro e w2 ⟨rfl, hb⟩; have n1_ := Aside0.mk ((show Below w.heap.size w _ by repeat (first | exact HB2.out | apply below_alloc | apply pw_below_drewN | apply below_drew)).trans (hb.mono (by have := HB2.out.size; simp; try omega))); clear HB2; have HB2 := n1_; clear n1_; clear hb))
            go_ret
            exact ⟨rfl, HB2.out⟩
          · have dc : (chk l == 0) = false := by simpa using hc
            generalize chk l = ck at *
            clear hc
            go_wp2_with (first
              | (go_at_call 14; refine (HCK.out _ (by repeat (first | exact HB2.out | apply below_alloc | apply pw_below_drewN | apply below_drew))).mono ?_; clear HCK; rintro e w7 ⟨rfl, hb⟩; have n1_ := Aside0.mk ((show Below w.heap.size w _ by repeat (first | exact HB2.out | apply below_alloc | apply pw_below_drewN | apply below_drew)).trans (hb.mono (by have := HB2.out.size; simp; try omega))); clear HB2; have HB2 := n1_; clear n1_; clear hb)
              | (go_at_call 11; refine (HA.out _).mono ?_; rintro e w2 ⟨rfl, hb⟩; have n1_ := Aside0.mk ((show Below w.heap.size w _ by repeat (first | exact HB2.out | apply below_alloc | apply pw_below_drewN | apply below_drew)).trans (hb.mono (by have := HB2.out.size; simp; try omega))); clear HB2; have HB2 := n1_; clear n1_; clear hb))
            go_ret
            exact ⟨rfl, HB2.out⟩
    · have q1 : (10 < (names.length : Int)) = True := eq_true (by omega)
      clear hs
      go_enter Try.func5, Try.ntmps5
      go_wp2_with (first
        | (go_at_call 10; refine (HG.out _ _ rfl (by repeat (first | exact HB2.out | apply below_alloc | apply pw_below_drewN | apply below_drew))).mono ?_; rintro e w1 ⟨rfl, ⟨q, rfl⟩⟩)
        | (go_at_call 11; refine (HA.out _).mono ?_; rintro e w2 ⟨rfl, hb⟩; have n1_ := Aside0.mk ((show Below w.heap.size w _ by repeat (first | exact HB2.out | apply below_alloc | apply pw_below_drewN | apply below_drew)).trans (hb.mono (by have := HB2.out.size; simp; try omega))); clear HB2; have HB2 := n1_; clear n1_; clear hb))
      go_ret
      exact ⟨rfl, HB2.out⟩
end Go.Proofs.Ytiooenmbondflaa.H
