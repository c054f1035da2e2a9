/- The walk of LabelsWith. -/
import Derived.Test.YtiooenmbondflaaHGreat
import Derived.Test.YtiooenmbondflaaHSets
import Derived.Test.YtiooenmbondflaaHWithP
namespace Go.Proofs.Ytiooenmbondflaa.H
open Go Go.RowKit Go.Proofs.YtiooenmbondflaaW.PrintWords Go.Proofs.YtiooenmbondflaaW.PrintLast Go.Proofs.YtiooenmbondflaaW.PrintMore Go.Proofs.Ytiooenmbondflaa.PAll
set_option linter.unusedVariables false
set_option linter.unusedSimpArgs false

theorem Sz_withL {l : L32} (h : Sz 1000 l) (name value : ByteArray) (hn : name.size ≤ 1000) (hv : value.size ≤ 1000) : Sz 1000 (withL l name value) := by
  have hs : Sz 1000 (sel [name] false l) := fun x hx => h x (List.mem_filter.1 hx).1
  unfold withL
  split
  · exact hs
  · intro x hx
    unfold insL at hx
    rcases List.mem_append.1 hx with hx | hx
    · exact hs x (List.mem_of_mem_take hx)
    · rcases List.mem_cons.1 hx with rfl | hx
      · exact ⟨hn, hv⟩
      · exact hs x (List.mem_of_mem_drop hx)
theorem chk_one_name (name : ByteArray) (h : chk [(⟨name, ⟨#[120]⟩⟩ : S32)] = 0) : isNm (ab name) = true := by
  rw [chk_iff] at h
  exact (h.2.1 (⟨name, ⟨#[120]⟩⟩ : S32) (by simp)).1

set_option maxRecDepth 100000 in
set_option maxHeartbeats 16000000 in
theorem LabelsWith_row (w : World) (A0 : Option Addr) (l : L32) (c0 : Nat) (hr0 : Kd.C k32 w A0 l.length l) (hc0 : l.length ≤ c0) (_ : ∀ x ∈ l, x.f0.size ≤ maxLen ∧ x.f1.size ≤ maxLen) (name : ByteArray) (hy1 : name.size ≤ maxLen) (value : ByteArray) (hy : value.size ≤ maxLen) :
    Calls Try.prog 9 #[.slice A0 l.length c0, .string name, .string value] w fun e w' => e = .returned (.bool true) ∧ Below w.heap.size w w' := by
  have HG := Aside0.mk (fun W n hn (h : Below w.heap.size w W) => great1 W n hn A0 c0 l (Kd.C_below hr0 h) hc0)
  have HR0 := Aside0.mk hr0
  have HCC := Aside0.mk hc0
  have HA := Aside0.mk (fun W => awake_calls W)
  have HB2 := Aside0.mk (Below.refl w.heap.size w)
  clear hr0 hc0 hy hy1
  cases hg : greatB l with
  | true =>
    rw [hg] at HG
    clear hg
    go_enter Try.func9, Try.ntmps9
    go_wp2_with (first
      | (go_at_call 10; refine (HG.out _ _ rfl (by repeat (first | exact HB2.out | apply below_alloc | apply pw_below_drewN | apply below_drew))).mono ?_; rintro e w1 ⟨rfl, ⟨q, rfl⟩⟩)
      | (go_at_call 11; refine (HA.out _).mono ?_; rintro e w2 ⟨rfl, hb⟩; have n1_ := Aside0.mk ((show Below w.heap.size w _ by repeat (first | exact HB2.out | apply below_alloc | apply pw_below_drewN | apply below_drew)).trans (hb.mono (by have := HB2.out.size; simp; try omega))); clear HB2; have HB2 := n1_; clear n1_; clear hb))
    go_ret
    exact ⟨rfl, HB2.out⟩
  | false =>
    obtain ⟨hl17, _, hSz⟩ := small_of hg
    rw [hg] at HG
    clear hg
    by_cases hs : name.size ≤ 201
    · have q1 : (201 < (name.size : Int)) = False := eq_false (by omega)
      by_cases hv : value.size ≤ 201
      · have q2 : (201 < (value.size : Int)) = False := eq_false (by omega)
        have HWT := Aside0.mk (fun W (h : Below w.heap.size w W) => With_calls A0 c0 l name value W (Kd.C_below HR0.out h) HCC.out (by omega))
        have HGL := Aside0.mk (fun W s (h : Below w.heap.size w W) => Get_calls A0 c0 l s W (Kd.C_below HR0.out h) HCC.out (by omega))
        have hlm : (withL l name value).length ≤ 18 := Nat.le_trans (withL_len l name value) (by omega)
        have HGM := Aside0.mk (fun v W0 W s b (hR : Kd.R k32 32 W0 b (fun _ => True) v (withL l name value)) (h : Below W0.heap.size W0 W) => show Calls Try.prog 27 #[v, .string s] W fun e W' => e = .returned (.string (getL (withL l name value) s)) ∧ Below W.heap.size W W' by
          obtain ⟨A, c, rfl, hc, hC⟩ := Kd.R_reads hR
          exact Get_calls A c _ s W (Kd.C_below hC h) hc (by omega))
        have HCM := Aside0.mk (fun v W0 W b (hR : Kd.R k32 32 W0 b (fun _ => True) v (withL l name value)) (h : Below W0.heap.size W0 W) => show Calls Try.prog 14 #[v] W fun e W' => e = .returned (.int .i64 (chk (withL l name value))) ∧ Below W.heap.size W W' by
          obtain ⟨A, c, rfl, hc, hC⟩ := Kd.R_reads hR
          exact Check_calls A c _ W (Kd.C_below hC h) hc 1000 (by omega) (by omega) (Sz_withL hSz name value (by omega) (by omega)))
        have HDM := Aside0.mk (fun v W0 W An b (hR : Kd.R k32 32 W0 b (fun _ => True) v (withL l name value)) (h : Below W0.heap.size W0 W) (hC : Kd.C Kd.string W An 1 [name]) => show Calls Try.prog 23 #[v, .slice An 1 1] W fun e W' => ∃ v', e = .returned v' ∧ Kd.R k32 32 W' W.heap.size (fun _ => True) v' (sel [name] false l) ∧ Below W.heap.size W W' by
          obtain ⟨A, c, rfl, hc, hC1⟩ := Kd.R_reads hR
          have := Drop_calls A An c 1 (withL l name value) [name] W hc (by simp) (by simp) (by omega) (Kd.C_below hC1 h) hC
          rw [sel_with] at this
          exact this)
        have HD := Aside0.mk (fun W An (hC : Kd.C Kd.string W An 1 [name]) (h : Below w.heap.size w W) => Drop_calls A0 An c0 1 l [name] W HCC.out (by simp) (by simp) (by omega) (Kd.C_below HR0.out h) hC)
        have HCK := Aside0.mk (fun W (h : Below w.heap.size w W) => Check_calls A0 c0 l W (Kd.C_below HR0.out h) HCC.out 1000 (by omega) (by omega) hSz)
        have HC1 := Aside0.mk (fun W (h : Below w.heap.size w W) A (hC : Kd.C k32 W A 1 [(⟨name, ⟨#[120]⟩⟩ : S32)]) => Check_calls A 1 [(⟨name, ⟨#[120]⟩⟩ : S32)] W hC (by simp) 1000 (by omega) (by simp) (fun x hx => by simp at hx; subst hx; exact ⟨by show name.size ≤ 1000; omega, by show (ByteArray.mk #[120]).size ≤ 1000; decide⟩))
        have HCW := Aside0.mk (fun (h1 : chk l = 0) (h2 : chk [(⟨name, ⟨#[120]⟩⟩ : S32)] = 0) (h3 : value.size ≤ 200) (h4 : (withL l name value).length ≤ 16) => chk_with l name value h1 (chk_one_name name h2) h3 h4)
        have HLD := Aside0.mk (show (sel [name] false l).length ≤ 1000000 from Nat.le_trans (List.length_filter_le _ _) (by omega))
        have HGO := Aside0.mk (fun n (hn : ab n ≠ ab name) => get_with_other l name value n hn)
        have gn : getL (withL l name value) name = value := get_with l name value
        have HGN := Aside0.mk (fun v W0 W b hR h => (gn ▸ HGM.out v W0 W name b hR h : Calls Try.prog 27 #[v, .string name] W fun e W' => e = .returned (.string value) ∧ Below W.heap.size W W'))
        clear hSz gn
        generalize withL l name value = m at *
        go_enter Try.func9, Try.ntmps9
        go_wp2_with (first
          | (go_at_call 10; refine (HG.out _ _ rfl (by repeat (first | exact HB2.out | apply below_alloc | apply pw_below_drewN | apply below_drew))).mono ?_; rintro e w1 ⟨rfl, ⟨q, rfl⟩⟩)
          | (go_at_call 29; refine (HWT.out _ (by repeat (first | exact HB2.out | apply below_alloc | apply pw_below_drewN | apply below_drew))).mono ?_; rintro e w3 ⟨v3, rfl, hR, hb⟩; have HR3 := Aside0.mk hR; clear hR; have n1_ := Aside0.mk ((show Below w.heap.size w _ by repeat (first | exact HB2.out | apply below_alloc | apply pw_below_drewN | apply below_drew)).trans (hb.mono (by have := HB2.out.size; simp; try omega))); clear HB2; have HB2 := n1_; clear n1_; clear hb; have B3 := Aside0.mk (Below.refl w3.heap.size w3))
          | (go_at_call 27; refine (HGN.out _ _ _ _ HR3.out B3.out).mono ?_; rintro e w4 ⟨rfl, hb⟩; have n1_ := Aside0.mk ((show Below w.heap.size w _ by repeat (first | exact HB2.out | apply below_alloc | apply pw_below_drewN | apply below_drew)).trans (hb.mono (by have := HB2.out.size; simp; try omega))); clear HB2; have HB2 := n1_; clear n1_; have n1_ := Aside0.mk ((show Below w3.heap.size w3 _ by repeat (first | exact B3.out | apply below_alloc | apply pw_below_drewN | apply below_drew)).trans (hb.mono (by have := B3.out.size; simp; try omega))); clear B3; have B3 := n1_; clear n1_; clear hb))
        have HB3 := Aside0.mk (show Below w.heap.size w _ by repeat (first | exact HB2.out | apply below_alloc | apply pw_below_drewN | apply below_drew))
        go_loopg [36] (l.length) (fun kq v36 w' => ∃ j : Nat, v36 = .int .i64 j ∧ j ≤ l.length ∧ Aside0 (kq = l.length - j) ∧ Aside0 (Below w.heap.size w w') ∧ Aside0 (Below w3.heap.size w3 w'))
        case atStart => exact ⟨0, rfl, by omega, ⟨rfl⟩, ⟨(by repeat (first | exact HB2.out | apply below_alloc | apply pw_below_drewN | apply below_drew))⟩, ⟨(by repeat (first | exact B3.out | apply below_alloc | apply pw_below_drewN | apply below_drew))⟩⟩
        case round =>
          clear HB2 HB3 B3
          obtain ⟨j, rfl, hj, HK, HB2, B3⟩ := hrel
          by_cases hlt : j < l.length
          · obtain ⟨ad, e1, hc0, hc1⟩ := at_T32 (Kd.C_below HR0.out HB2.out) (j : Int) (by omega) (by omega)
            cases e1
            have dl : decide (j < l.length) = true := decide_eq_true hlt
            have ql : ((j : Int) < (l.length : Int)) = True := eq_true (by omega)
            have pl : (0 ≤ (j : Int)) = True := eq_true (by omega)
            simp only [Int.toNat_natCast] at hc0 hc1
            generalize rd_T32 l (j : Int) = x at *
            by_cases hx : ab x.f0 = ab name
            · have e1 : (x.f0.toList == name.toList) = true := by rw [toList_ab, toList_ab]; simpa using hx
              have e2 : (x.f0.toList != name.toList) = false := by rw [toList_ab, toList_ab]; simpa using hx
              clear hx
              go_wp2_with (fail)
              have hn0 : (wr.alloc (.cells #[.string x.f0, .string x.f1] 32)).cell? ⟨wr.heap.size, 0, none⟩ = some (.string x.f0) := cell_of_heap (heap_alloc_new wr _) 0 _ rfl
              go_quiet (fail)
              go_wp2
              go_roundg (l.length - (j + 1))
              case measure => have := HK.out; omega
              case rel => exact ⟨j + 1, by simp, by omega, ⟨rfl⟩, ⟨(by repeat (first | exact HB2.out | apply below_alloc | apply pw_below_drewN | apply below_drew))⟩, ⟨(by repeat (first | exact B3.out | apply below_alloc | apply pw_below_drewN | apply below_drew))⟩⟩
            · have e1 : (x.f0.toList == name.toList) = false := by rw [toList_ab, toList_ab]; simpa using hx
              have e2 : (x.f0.toList != name.toList) = true := by rw [toList_ab, toList_ab]; simpa using hx
              have HGX := Aside0.mk (fun W (h : Below w.heap.size w W) => HGL.out W x.f0 h)
              have HGY := Aside0.mk (fun W (h : Below w3.heap.size w3 W) => (HGO.out x.f0 hx ▸ HGM.out _ w3 W x.f0 _ HR3.out h : Calls Try.prog 27 #[v3, .string x.f0] W fun e W' => e = .returned (.string (getL l x.f0)) ∧ Below W.heap.size W W'))
              clear hx
              generalize getL l x.f0 = g at *
              go_wp2_with (fail)
              have hn0 : (wr.alloc (.cells #[.string x.f0, .string x.f1] 32)).cell? ⟨wr.heap.size, 0, none⟩ = some (.string x.f0) := cell_of_heap (heap_alloc_new wr _) 0 _ rfl
              have hsz : wr.heap.size < (wr.alloc (.cells #[.string x.f0, .string x.f1] 32)).heap.size := by simp
              obtain ⟨W1, hW1⟩ : ∃ W1, wr.alloc (.cells #[.string x.f0, .string x.f1] 32) = W1 := ⟨_, rfl⟩
              have HB4 := Aside0.mk (show Below w.heap.size w W1 by rw [← hW1]; exact (by repeat (first | exact HB2.out | apply below_alloc | apply pw_below_drewN | apply below_drew)))
              have B4 := Aside0.mk (show Below w3.heap.size w3 W1 by rw [← hW1]; exact (by repeat (first | exact B3.out | apply below_alloc | apply pw_below_drewN | apply below_drew)))
              rw [hW1] at hn0 hsz ⊢
              clear hW1 HB2 B3
              go_region_held3 (fun w' => w'.cell? ⟨wr.heap.size, 0, none⟩ = some (.string x.f0)) (go_keep)
                (first
                | (go_at_call 27; first
                  | ((with_reducible refine (HGY.out _ (by repeat (first | exact B4.out | apply below_alloc | apply pw_below_drewN | apply below_drew))).mono ?_); rintro e w5 ⟨rfl, hb⟩; have hn1 := (hb.cell (p := ⟨wr.heap.size, 0, none⟩) (by simp; omega)).trans hn0; have hs5 : wr.heap.size < w5.heap.size := (by have := hb.size; simp at this; omega); have n1_ := Aside0.mk ((show Below w.heap.size w _ by repeat (first | exact HB4.out | apply below_alloc | apply pw_below_drewN | apply below_drew)).trans (hb.mono (by have := HB4.out.size; simp; try omega))); clear HB4; have HB4 := n1_; clear n1_; have n1_ := Aside0.mk ((show Below w3.heap.size w3 _ by repeat (first | exact B4.out | apply below_alloc | apply pw_below_drewN | apply below_drew)).trans (hb.mono (by have := B4.out.size; simp; try omega))); clear B4; have B4 := n1_; clear n1_; clear hb)
                  | ((with_reducible refine (HGX.out _ (by repeat (first | exact HB4.out | apply below_alloc | apply pw_below_drewN | apply below_drew))).mono ?_); rintro e w6 ⟨rfl, hb⟩; have hn2 := (hb.cell (p := ⟨wr.heap.size, 0, none⟩) (by simp; omega)).trans hn1; have n1_ := Aside0.mk ((show Below w.heap.size w _ by repeat (first | exact HB4.out | apply below_alloc | apply pw_below_drewN | apply below_drew)).trans (hb.mono (by have := HB4.out.size; simp; try omega))); clear HB4; have HB4 := n1_; clear n1_; have n1_ := Aside0.mk ((show Below w3.heap.size w3 _ by repeat (first | exact B4.out | apply below_alloc | apply pw_below_drewN | apply below_drew)).trans (hb.mono (by have := B4.out.size; simp; try omega))); clear B4; have B4 := n1_; clear n1_; clear hb)))
              go_wp2
              go_roundg (l.length - (j + 1))
              case measure => have := HK.out; omega
              case rel => exact ⟨j + 1, by simp, by omega, ⟨rfl⟩, ⟨(by repeat (first | exact HB4.out | apply below_alloc | apply pw_below_drewN | apply below_drew))⟩, ⟨(by repeat (first | exact B4.out | apply below_alloc | apply pw_below_drewN | apply below_drew))⟩⟩
          · have hjl : j = l.length := by omega
            subst hjl
            have dl : decide (l.length < l.length) = false := decide_eq_false hlt
            have hall : (chk l ≠ 0 ∨ (chk l = 0 ∧ chk [(⟨name, ⟨#[120]⟩⟩ : S32)] ≠ 0)) ∨ (chk l = 0 ∧ chk [(⟨name, ⟨#[120]⟩⟩ : S32)] = 0 ∧ 200 < value.size) ∨ (chk l = 0 ∧ chk [(⟨name, ⟨#[120]⟩⟩ : S32)] = 0 ∧ value.size ≤ 200 ∧ 16 < m.length) ∨ (chk l = 0 ∧ chk [(⟨name, ⟨#[120]⟩⟩ : S32)] = 0 ∧ value.size ≤ 200 ∧ m.length ≤ 16) := by
              by_cases a : chk l = 0 <;> by_cases b : chk [(⟨name, ⟨#[120]⟩⟩ : S32)] = 0 <;> by_cases c : value.size ≤ 200 <;> by_cases d : m.length ≤ 16 <;> simp [a, b] <;> omega
            go_wp2_with (fail)
            obtain ⟨W1, hW1⟩ : ∃ W1, wr.alloc (.cells #[.string name, .string ⟨#[120]⟩] 32) = W1 := ⟨_, rfl⟩
            have HL1 := Aside0.mk (show Kd.C k32 W1 (some ⟨wr.heap.size, 0, none⟩) 1 [(⟨name, ⟨#[120]⟩⟩ : S32)] by rw [← hW1]; exact C_lit wr _ rfl [(⟨name, ⟨#[120]⟩⟩ : S32)] (by simp))
            have n1_ := Aside0.mk (show Below w.heap.size w W1 by rw [← hW1]; exact (by repeat (first | exact HB2.out | apply below_alloc | apply pw_below_drewN | apply below_drew)))
            have n2_ := Aside0.mk (show Below w3.heap.size w3 W1 by rw [← hW1]; exact (by repeat (first | exact B3.out | apply below_alloc | apply pw_below_drewN | apply below_drew)))
            have BN := Aside0.mk (Below.refl W1.heap.size W1)
            rw [hW1]
            clear HB2 B3 hW1
            have HB2 := n1_
            have B3 := n2_
            clear n1_ n2_
            rcases hall with (ha | ⟨ha, hb⟩) | ⟨ha, hb, h3⟩ | ⟨ha, hb, h3, h4⟩ | ⟨ha, hb, h3, h4⟩
            · have dc : (chk l == 0) = false := by simpa using ha
              have dc2 : (chk l != 0) = true := by simpa using ha
              generalize chk l = ck at *
              clear ha
              go_wp2_with (first
                | (go_at_call 14; refine (HCK.out _ (by repeat (first | exact HB2.out | apply below_alloc | apply pw_below_drewN | apply below_drew))).mono ?_; clear HCK; rintro e w7 ⟨rfl, hb⟩; have n1_ := Aside0.mk ((show Below w.heap.size w _ by repeat (first | exact HB2.out | apply below_alloc | apply pw_below_drewN | apply below_drew)).trans (hb.mono (by have := HB2.out.size; simp; try omega))); clear HB2; have HB2 := n1_; clear n1_; have n1_ := Aside0.mk ((show Below w3.heap.size w3 _ by repeat (first | exact B3.out | apply below_alloc | apply pw_below_drewN | apply below_drew)).trans (hb.mono (by have := B3.out.size; simp; try omega))); clear B3; have B3 := n1_; clear n1_; have n1_ := Aside0.mk ((show Below W1.heap.size W1 _ by repeat (first | exact BN.out | apply below_alloc | apply pw_below_drewN | apply below_drew)).trans (hb.mono (by have := BN.out.size; simp; try omega))); clear BN; have BN := n1_; clear n1_; clear hb)
                | (go_at_call 11; refine (HA.out _).mono ?_; rintro e w2 ⟨rfl, hb⟩; have n1_ := Aside0.mk ((show Below w.heap.size w _ by repeat (first | exact HB2.out | apply below_alloc | apply pw_below_drewN | apply below_drew)).trans (hb.mono (by have := HB2.out.size; simp; try omega))); clear HB2; have HB2 := n1_; clear n1_; clear hb))
              go_ret
              exact ⟨rfl, HB2.out⟩
            · have dc : (chk [(⟨name, ⟨#[120]⟩⟩ : S32)] == 0) = false := by simpa using hb
              have dc2 : (chk [(⟨name, ⟨#[120]⟩⟩ : S32)] != 0) = true := by simpa using hb
              rw [ha] at HCK
              generalize chk [(⟨name, ⟨#[120]⟩⟩ : S32)] = ck at *
              clear ha hb
              go_wp2_with (first
                | (go_at_call 14; refine (HCK.out _ (by repeat (first | exact HB2.out | apply below_alloc | apply pw_below_drewN | apply below_drew))).mono ?_; clear HCK; rintro e w7 ⟨rfl, hb⟩; have n1_ := Aside0.mk ((show Below w.heap.size w _ by repeat (first | exact HB2.out | apply below_alloc | apply pw_below_drewN | apply below_drew)).trans (hb.mono (by have := HB2.out.size; simp; try omega))); clear HB2; have HB2 := n1_; clear n1_; have n1_ := Aside0.mk ((show Below w3.heap.size w3 _ by repeat (first | exact B3.out | apply below_alloc | apply pw_below_drewN | apply below_drew)).trans (hb.mono (by have := B3.out.size; simp; try omega))); clear B3; have B3 := n1_; clear n1_; have n1_ := Aside0.mk ((show Below W1.heap.size W1 _ by repeat (first | exact BN.out | apply below_alloc | apply pw_below_drewN | apply below_drew)).trans (hb.mono (by have := BN.out.size; simp; try omega))); clear BN; have BN := n1_; clear n1_; clear hb)
                | (go_at_call 14; refine (HC1.out _ (by repeat (first | exact HB2.out | apply below_alloc | apply pw_below_drewN | apply below_drew)) _ (Kd.C_below HL1.out (show Below W1.heap.size W1 _ by repeat (first | exact BN.out | apply below_alloc | apply pw_below_drewN | apply below_drew)))).mono ?_; clear HC1; rintro e w8 ⟨rfl, hb⟩; have n1_ := Aside0.mk ((show Below w.heap.size w _ by repeat (first | exact HB2.out | apply below_alloc | apply pw_below_drewN | apply below_drew)).trans (hb.mono (by have := HB2.out.size; simp; try omega))); clear HB2; have HB2 := n1_; clear n1_; have n1_ := Aside0.mk ((show Below w3.heap.size w3 _ by repeat (first | exact B3.out | apply below_alloc | apply pw_below_drewN | apply below_drew)).trans (hb.mono (by have := B3.out.size; simp; try omega))); clear B3; have B3 := n1_; clear n1_; clear hb)
                | (go_at_call 11; refine (HA.out _).mono ?_; rintro e w2 ⟨rfl, hb⟩; have n1_ := Aside0.mk ((show Below w.heap.size w _ by repeat (first | exact HB2.out | apply below_alloc | apply pw_below_drewN | apply below_drew)).trans (hb.mono (by have := HB2.out.size; simp; try omega))); clear HB2; have HB2 := n1_; clear n1_; clear hb))
              go_ret
              exact ⟨rfl, HB2.out⟩
            · rw [ha] at HCK
              rw [hb] at HC1
              have q3 : (200 < (value.size : Int)) = True := eq_true (by omega)
              clear ha hb h3
              go_wp2_with (first
                | (go_at_call 14; refine (HCK.out _ (by repeat (first | exact HB2.out | apply below_alloc | apply pw_below_drewN | apply below_drew))).mono ?_; clear HCK; rintro e w7 ⟨rfl, hb⟩; have n1_ := Aside0.mk ((show Below w.heap.size w _ by repeat (first | exact HB2.out | apply below_alloc | apply pw_below_drewN | apply below_drew)).trans (hb.mono (by have := HB2.out.size; simp; try omega))); clear HB2; have HB2 := n1_; clear n1_; have n1_ := Aside0.mk ((show Below w3.heap.size w3 _ by repeat (first | exact B3.out | apply below_alloc | apply pw_below_drewN | apply below_drew)).trans (hb.mono (by have := B3.out.size; simp; try omega))); clear B3; have B3 := n1_; clear n1_; have n1_ := Aside0.mk ((show Below W1.heap.size W1 _ by repeat (first | exact BN.out | apply below_alloc | apply pw_below_drewN | apply below_drew)).trans (hb.mono (by have := BN.out.size; simp; try omega))); clear BN; have BN := n1_; clear n1_; clear hb)
                | (go_at_call 14; refine (HC1.out _ (by repeat (first | exact HB2.out | apply below_alloc | apply pw_below_drewN | apply below_drew)) _ (Kd.C_below HL1.out (show Below W1.heap.size W1 _ by repeat (first | exact BN.out | apply below_alloc | apply pw_below_drewN | apply below_drew)))).mono ?_; clear HC1; rintro e w8 ⟨rfl, hb⟩; have n1_ := Aside0.mk ((show Below w.heap.size w _ by repeat (first | exact HB2.out | apply below_alloc | apply pw_below_drewN | apply below_drew)).trans (hb.mono (by have := HB2.out.size; simp; try omega))); clear HB2; have HB2 := n1_; clear n1_; have n1_ := Aside0.mk ((show Below w3.heap.size w3 _ by repeat (first | exact B3.out | apply below_alloc | apply pw_below_drewN | apply below_drew)).trans (hb.mono (by have := B3.out.size; simp; try omega))); clear B3; have B3 := n1_; clear n1_; clear hb)
                | (go_at_call 11; refine (HA.out _).mono ?_; rintro e w2 ⟨rfl, hb⟩; have n1_ := Aside0.mk ((show Below w.heap.size w _ by repeat (first | exact HB2.out | apply below_alloc | apply pw_below_drewN | apply below_drew)).trans (hb.mono (by have := HB2.out.size; simp; try omega))); clear HB2; have HB2 := n1_; clear n1_; clear hb))
              go_ret
              exact ⟨rfl, HB2.out⟩
            · rw [ha] at HCK
              rw [hb] at HC1
              have q3 : (200 < (value.size : Int)) = False := eq_false (by omega)
              have hlen := Kd.R_reads HR3.out
              obtain ⟨A3, c3, rfl, hc3, hC3⟩ := hlen
              have q4 : (16 < (m.length : Int)) = True := eq_true (by omega)
              clear ha hb h3 h4
              go_wp2_with (first
                | (go_at_call 14; refine (HCK.out _ (by repeat (first | exact HB2.out | apply below_alloc | apply pw_below_drewN | apply below_drew))).mono ?_; clear HCK; rintro e w7 ⟨rfl, hb⟩; have n1_ := Aside0.mk ((show Below w.heap.size w _ by repeat (first | exact HB2.out | apply below_alloc | apply pw_below_drewN | apply below_drew)).trans (hb.mono (by have := HB2.out.size; simp; try omega))); clear HB2; have HB2 := n1_; clear n1_; have n1_ := Aside0.mk ((show Below w3.heap.size w3 _ by repeat (first | exact B3.out | apply below_alloc | apply pw_below_drewN | apply below_drew)).trans (hb.mono (by have := B3.out.size; simp; try omega))); clear B3; have B3 := n1_; clear n1_; have n1_ := Aside0.mk ((show Below W1.heap.size W1 _ by repeat (first | exact BN.out | apply below_alloc | apply pw_below_drewN | apply below_drew)).trans (hb.mono (by have := BN.out.size; simp; try omega))); clear BN; have BN := n1_; clear n1_; clear hb)
                | (go_at_call 14; refine (HC1.out _ (by repeat (first | exact HB2.out | apply below_alloc | apply pw_below_drewN | apply below_drew)) _ (Kd.C_below HL1.out (show Below W1.heap.size W1 _ by repeat (first | exact BN.out | apply below_alloc | apply pw_below_drewN | apply below_drew)))).mono ?_; clear HC1; rintro e w8 ⟨rfl, hb⟩; have n1_ := Aside0.mk ((show Below w.heap.size w _ by repeat (first | exact HB2.out | apply below_alloc | apply pw_below_drewN | apply below_drew)).trans (hb.mono (by have := HB2.out.size; simp; try omega))); clear HB2; have HB2 := n1_; clear n1_; have n1_ := Aside0.mk ((show Below w3.heap.size w3 _ by repeat (first | exact B3.out | apply below_alloc | apply pw_below_drewN | apply below_drew)).trans (hb.mono (by have := B3.out.size; simp; try omega))); clear B3; have B3 := n1_; clear n1_; clear hb)
                | (go_at_call 11; refine (HA.out _).mono ?_; rintro e w2 ⟨rfl, hb⟩; have n1_ := Aside0.mk ((show Below w.heap.size w _ by repeat (first | exact HB2.out | apply below_alloc | apply pw_below_drewN | apply below_drew)).trans (hb.mono (by have := HB2.out.size; simp; try omega))); clear HB2; have HB2 := n1_; clear n1_; clear hb))
              go_ret
              exact ⟨rfl, HB2.out⟩
            · have hcm := HCW.out ha hb h3 h4
              rw [hcm] at HCM
              rw [ha] at HCK
              rw [hb] at HC1
              have q3 : (200 < (value.size : Int)) = False := eq_false (by omega)
              have hlen := Kd.R_reads HR3.out
              obtain ⟨A3, c3, rfl, hc3, hC3⟩ := hlen
              have q4 : (16 < (m.length : Int)) = False := eq_false (by omega)
              clear ha hb h3 h4 hcm
              go_wp2_with (first
                | (go_at_call 14; refine (HCK.out _ (by repeat (first | exact HB2.out | apply below_alloc | apply pw_below_drewN | apply below_drew))).mono ?_; clear HCK; rintro e w7 ⟨rfl, hb⟩; have n1_ := Aside0.mk ((show Below w.heap.size w _ by repeat (first | exact HB2.out | apply below_alloc | apply pw_below_drewN | apply below_drew)).trans (hb.mono (by have := HB2.out.size; simp; try omega))); clear HB2; have HB2 := n1_; clear n1_; have n1_ := Aside0.mk ((show Below w3.heap.size w3 _ by repeat (first | exact B3.out | apply below_alloc | apply pw_below_drewN | apply below_drew)).trans (hb.mono (by have := B3.out.size; simp; try omega))); clear B3; have B3 := n1_; clear n1_; have n1_ := Aside0.mk ((show Below W1.heap.size W1 _ by repeat (first | exact BN.out | apply below_alloc | apply pw_below_drewN | apply below_drew)).trans (hb.mono (by have := BN.out.size; simp; try omega))); clear BN; have BN := n1_; clear n1_; clear hb)
                | (go_at_call 14; refine (HC1.out _ (by repeat (first | exact HB2.out | apply below_alloc | apply pw_below_drewN | apply below_drew)) _ (Kd.C_below HL1.out (show Below W1.heap.size W1 _ by repeat (first | exact BN.out | apply below_alloc | apply pw_below_drewN | apply below_drew)))).mono ?_; clear HC1; rintro e w8 ⟨rfl, hb⟩; have n1_ := Aside0.mk ((show Below w.heap.size w _ by repeat (first | exact HB2.out | apply below_alloc | apply pw_below_drewN | apply below_drew)).trans (hb.mono (by have := HB2.out.size; simp; try omega))); clear HB2; have HB2 := n1_; clear n1_; have n1_ := Aside0.mk ((show Below w3.heap.size w3 _ by repeat (first | exact B3.out | apply below_alloc | apply pw_below_drewN | apply below_drew)).trans (hb.mono (by have := B3.out.size; simp; try omega))); clear B3; have B3 := n1_; clear n1_; clear hb)
                | (go_at_call 14; refine (HCM.out _ _ _ _ HR3.out (show Below w3.heap.size w3 _ by repeat (first | exact B3.out | apply below_alloc | apply pw_below_drewN | apply below_drew))).mono ?_; clear HCM; rintro e w9 ⟨rfl, hb⟩; have n1_ := Aside0.mk ((show Below w.heap.size w _ by repeat (first | exact HB2.out | apply below_alloc | apply pw_below_drewN | apply below_drew)).trans (hb.mono (by have := HB2.out.size; simp; try omega))); clear HB2; have HB2 := n1_; clear n1_; have n1_ := Aside0.mk ((show Below w3.heap.size w3 _ by repeat (first | exact B3.out | apply below_alloc | apply pw_below_drewN | apply below_drew)).trans (hb.mono (by have := B3.out.size; simp; try omega))); clear B3; have B3 := n1_; clear n1_; clear hb)
                | (go_at_call 23; refine (HDM.out _ _ _ _ _ HR3.out (show Below w3.heap.size w3 _ by repeat (first | exact B3.out | apply below_alloc | apply pw_below_drewN | apply below_drew)) (C_lit_str _ _ (by simp) _)).mono ?_; clear HDM; rintro e w10 ⟨v10, rfl, hR, hb⟩; have HR10 := Aside0.mk hR; clear hR; have n1_ := Aside0.mk ((show Below w.heap.size w _ by repeat (first | exact HB2.out | apply below_alloc | apply pw_below_drewN | apply below_drew)).trans (hb.mono (by have := HB2.out.size; simp; try omega))); clear HB2; have HB2 := n1_; clear n1_; clear hb; have B10 := Aside0.mk (Below.refl w10.heap.size w10))
                | (go_at_call 23; refine (HD.out _ _ (C_lit_str _ _ (by simp) _) (by repeat (first | exact HB2.out | apply below_alloc | apply pw_below_drewN | apply below_drew))).mono ?_; clear HD; rintro e w11 ⟨v11, rfl, hR, hb⟩; have HR11 := Aside0.mk hR; clear hR; have n1_ := Aside0.mk ((show Below w.heap.size w _ by repeat (first | exact HB2.out | apply below_alloc | apply pw_below_drewN | apply below_drew)).trans (hb.mono (by have := HB2.out.size; simp; try omega))); clear HB2; have HB2 := n1_; clear n1_; have n1_ := Aside0.mk ((show Below w10.heap.size w10 _ by repeat (first | exact B10.out | apply below_alloc | apply pw_below_drewN | apply below_drew)).trans (hb.mono (by have := B10.out.size; simp; try omega))); clear B10; have B10 := n1_; clear n1_; clear hb)
                | (go_at_call 15; refine (Equal_same _ _ _ _ _ _ _ HR10.out HR11.out B10.out HLD.out).mono ?_; rintro e w12 ⟨rfl, ⟨q12, rfl⟩⟩)
                | (go_at_call 11; refine (HA.out _).mono ?_; rintro e w2 ⟨rfl, hb⟩; have n1_ := Aside0.mk ((show Below w.heap.size w _ by repeat (first | exact HB2.out | apply below_alloc | apply pw_below_drewN | apply below_drew)).trans (hb.mono (by have := HB2.out.size; simp; try omega))); clear HB2; have HB2 := n1_; clear n1_; clear hb))
              go_ret
              exact ⟨rfl, HB2.out⟩
      · have q2 : (201 < (value.size : Int)) = True := eq_true (by omega)
        clear hv
        go_enter Try.func9, Try.ntmps9
        go_wp2_with (first
          | (go_at_call 10; refine (HG.out _ _ rfl (by repeat (first | exact HB2.out | apply below_alloc | apply pw_below_drewN | apply below_drew))).mono ?_; rintro e w1 ⟨rfl, ⟨q, rfl⟩⟩)
          | (go_at_call 11; refine (HA.out _).mono ?_; rintro e w2 ⟨rfl, hb⟩; have n1_ := Aside0.mk ((show Below w.heap.size w _ by repeat (first | exact HB2.out | apply below_alloc | apply pw_below_drewN | apply below_drew)).trans (hb.mono (by have := HB2.out.size; simp; try omega))); clear HB2; have HB2 := n1_; clear n1_; clear hb))
        go_ret
        exact ⟨rfl, HB2.out⟩
    · have q1 : (201 < (name.size : Int)) = True := eq_true (by omega)
      clear hs
      go_enter Try.func9, Try.ntmps9
      go_wp2_with (first
        | (go_at_call 10; refine (HG.out _ _ rfl (by repeat (first | exact HB2.out | apply below_alloc | apply pw_below_drewN | apply below_drew))).mono ?_; rintro e w1 ⟨rfl, ⟨q, rfl⟩⟩)
        | (go_at_call 11; refine (HA.out _).mono ?_; rintro e w2 ⟨rfl, hb⟩; have n1_ := Aside0.mk ((show Below w.heap.size w _ by repeat (first | exact HB2.out | apply below_alloc | apply pw_below_drewN | apply below_drew)).trans (hb.mono (by have := HB2.out.size; simp; try omega))); clear HB2; have HB2 := n1_; clear n1_; clear hb))
      go_ret
      exact ⟨rfl, HB2.out⟩
end Go.Proofs.Ytiooenmbondflaa.H
