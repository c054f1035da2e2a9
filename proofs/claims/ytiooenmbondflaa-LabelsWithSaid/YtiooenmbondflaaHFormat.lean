/- labels.Format and labels.Hash: the text of a list of labels, and its hash. -/
import Derived.Test.YtiooenmbondflaaHPure2
import Derived.Test.YtiooenmbondflaaHBB
import Derived.Lib.SlBytesConst
namespace Go.Proofs.Ytiooenmbondflaa.H
open Go Go.RowKit Go.Proofs.YtiooenmbondflaaW.PrintWords Go.Proofs.YtiooenmbondflaaW.PrintLast Go.Proofs.YtiooenmbondflaaW.PrintMore Go.Proofs.Ytiooenmbondflaa.PAll
set_option linter.unusedVariables false
set_option linter.unusedSimpArgs false

theorem lit_cells (W : World) (ys : List Int) (e : Nat) : ∀ j u, (nums .u8 ys)[j]? = some u → (W.alloc (.cells (nums .u8 ys).toArray e)).cell? ((⟨W.heap.size, 0, none⟩ : Addr).add j) = some u := by
  intro j u hu
  rw [add_plain]
  exact cell_of_heap (heap_alloc_new W _) j u (by simpa using hu)

theorem lit_cells' (W : World) (n : Nat) (ys : List Int) (e : Nat) (hn : n = W.heap.size) : ∀ j u, (nums .u8 ys)[j]? = some u → (W.alloc (.cells (nums .u8 ys).toArray e)).cell? ((⟨n, 0, none⟩ : Addr).add j) = some u := by
  subst hn; exact lit_cells W ys e
theorem R_of_BB_own {W : World} {base e : Nat} {v : Value} {xs : List Int} (h : W.ownsRow base e 1 v xs.length (nums .u8 xs)) : Kd.R (Kd.int .u8) e W base (fun _ => True) v xs := Kd.R_of_own h (fun _ _ => trivial)
theorem own_of_R8 {W : World} {base e : Nat} {ok : Nat → Prop} {v : Value} {xs : List Int} (h : Kd.R (Kd.int .u8) e W base ok v xs) : W.ownsRow base e 1 v xs.length (nums .u8 xs) := Kd.own_of_R h

set_option maxRecDepth 100000 in
set_option maxHeartbeats 2000000 in
theorem Format_calls (A0 : Option Addr) (c0 : Nat) (l : L32) (w : World) (hr0 : Kd.C k32 w A0 l.length l) (hc0 : l.length ≤ c0) (hl : l.length ≤ 1000) (hS : Sz 1000 l) :
    Calls Try.prog 13 #[.slice A0 l.length c0] w fun e w' => e = .returned (.string (ofB (fmtL l))) ∧ Below w.heap.size w w' := by
  have HR0 := Aside0.mk hr0
  have HS := Aside0.mk hS
  clear hr0 hc0 hS
  have kc := fun (w : World) (C : Array Value) (n c : Nat) => Lib.run_convert_bytes_const (P := Try.prog) w 41 5 C n c Try.underlying41 Try.underlying5
  have hu32 := Try.underlying32
  go_enter Try.func13, Try.ntmps13
  go_wp2_with fail
  have hb0 : BB (w.alloc (.cells #[.int .u8 123] 5 (1, 2))) w.heap.size 5 (.slice (some ⟨w.heap.size, 0, none⟩) 1 1) (ints (123 :: bodyT true (l.take 0))) :=
    .inr ⟨w.heap.size, 123, rfl, Nat.le_refl _, heap_alloc_new w _, by simp [bodyT, ints]⟩
  have HB0 := Aside0.mk hb0
  clear hb0
  go_loopg [3, 10] (l.length) (fun kq v3 v10 w' => ∃ j : Nat, v10 = .int .i64 j ∧ j ≤ l.length ∧ Aside0 (kq = l.length - j) ∧ Aside0 (BB w' w.heap.size 5 v3 (ints (123 :: bodyT true (l.take j)))) ∧ Aside0 (Below w.heap.size w w'))
  case atStart => exact ⟨0, rfl, by omega, ⟨rfl⟩, HB0, ⟨(Below.refl _ w).alloc (Nat.le_refl _) _⟩⟩
  case round =>
    clear HB0
    obtain ⟨j, rfl, hj, HK, HO, HB⟩ := hrel
    have HT := Aside0.mk (show (ints (123 :: bodyT true (l.take j))).length ≤ 4000000 by
      have hb := bodyT_len 1000 (l.take j) true (fun x hx => HS.out x (List.mem_of_mem_take hx))
      have hm : (l.take j).length * (3 * 1000 + 4) ≤ 1000 * 3004 := Nat.mul_le_mul_right _ (by rw [List.length_take]; omega)
      rw [ints_length]; simp only [List.length_cons]; omega)
    by_cases hlt : j < l.length
    · have hr := Kd.C_below HR0.out (show Below w.heap.size w wr from HB.out)
      obtain ⟨ad, e1, hc0, hc1⟩ := at_T32 hr (j : Int) (by omega) (by omega)
      cases e1
      rw [rdT_get l j hlt] at hc0 hc1
      have HX := Aside0.mk (HS.out l[j] (List.getElem_mem hlt))
      have HF := Aside0.mk (show ints (123 :: bodyT true (l.take (j + 1))) = ints (123 :: bodyT true (l.take j)) ++ ints (if (true && (l.take j).isEmpty) then [] else [44]) ++ (bytesOf l[j].f0 ++ [61, 34]) ++ ints (quote (ab l[j].f1)) ++ [34] by
        rw [List.take_succ_eq_append_getElem hlt, bodyT_snoc, bytesOf_ab]
        simp [ints, lab])
      clear hr
      generalize l[j] = x at *
      generalize ints (123 :: bodyT true (l.take j)) = xs at *
      simp only [Int.toNat_natCast] at hc0 hc1
      have dl : decide (j < l.length) = true := decide_eq_true hlt
      have pl : (0 ≤ (j : Int)) = True := eq_true (by omega)
      have ql : ((j : Int) < (l.length : Int)) = True := eq_true (by omega)
      by_cases h0 : j = 0
      · have HJ := Aside0.mk h0
        have d0 : decide (0 < (j : Int)) = false := decide_eq_false (by omega)
        have d1 : decide (0 < j) = false := decide_eq_false (by omega)
        clear h0
        go_wp2_with (first
          | (at_builtin; (refine bb_str w.heap.size rfl (.tmp 20) (.tmp 22) 41 9 5 rfl Try.underlying41 Try.underlying9 info5 _ xs x.f0 rfl rfl (HO.out.below (by repeat (first | exact Below.refl _ _ | apply below_alloc | apply pw_below_drewN))) (by repeat (first | exact HB.out | apply below_alloc | apply pw_below_drewN)) (by have := HB.out.size; simp; omega) (by have := HT.out; have := HX.out; simp; omega) ?_); intro v1 w1 hO1 hB1 hG1; have HO1 := Aside0.mk hO1; have HB1 := Aside0.mk hB1; have BX1 := Aside0.mk ((HO.out.below (by repeat (first | exact Below.refl _ _ | apply below_alloc))).box hG1 (heap_alloc_new wr _) (show 32 ≠ 5 by decide)); clear hO1 hB1 hG1)
          | (at_builtin; refine bb_lit w.heap.size rfl (.tmp 24) (.tmp 25) 41 5 rfl Try.underlying41 info5 _ (xs ++ bytesOf x.f0) rfl _ [61, 34] 2 2 rfl rfl (by decide) (lit_cells _ [61, 34] 5) (HO1.out.below (by repeat (first | exact Below.refl _ _ | apply below_alloc | apply pw_below_drewN))) (by repeat (first | exact HB1.out | apply below_alloc | apply pw_below_drewN)) (by have := HB1.out.size; simp; omega) (by have := HT.out; have := HX.out; simp [bytesOf_length]; omega) ?_; intro v2 w2 hO2 hB2 hG2; have HO2 := Aside0.mk hO2; have HB2 := Aside0.mk hB2; have bx2 := (HO1.out.below (by repeat (first | exact Below.refl _ _ | apply below_alloc))).box hG2 (heap_alloc_keep BX1.out) (show 32 ≠ 5 by decide); have hc5 := cell_of_heap bx2 1 _ rfl; have BX2 := Aside0.mk bx2; clear hO2 hB2 hG2 bx2)
          | (go_at_call 37; refine (labels_appendQuoted.calls 3000 (fun _ => True) v2 (xs ++ bytesOf x.f0 ++ [61, 34]) x.f1 _ w w2 HB2.out (R_of_BB_own HO2.out) (appendQuoted_f x.f1 3000 _ (by have := HX.out; omega) (by have := HX.out; omega) (by have := HT.out; have := HX.out; simp [bytesOf_length]; omega))).mono ?_; rintro e w3 ⟨v3, rfl, hR3, hB3, _⟩; have HO3 := Aside0.mk (own_of_R8 hR3); have HB3 := Aside0.mk hB3; clear hR3 hB3)
          | (at_builtin; refine bb_lit w.heap.size rfl (.tmp 31) (.tmp 32) 41 5 rfl Try.underlying41 info5 _ (xs ++ bytesOf x.f0 ++ [61, 34] ++ ints (quote (ab x.f1))) rfl _ [34] 1 1 rfl rfl (by decide) (lit_cells _ [34] 5) (BB.below (.inl HO3.out) (by repeat (first | exact Below.refl _ _ | apply below_alloc | apply pw_below_drewN))) (by repeat (first | exact HB3.out | apply below_alloc | apply pw_below_drewN)) (by have := HB3.out.size; simp; omega) (by have := HT.out; have := HX.out; have := quote_len (ab x.f1); have := ab_length x.f1; simp [bytesOf_length, ints_length]; omega) ?_; intro v4 w4 hO4 hB4 _; have HO4 := Aside0.mk hO4; have HB4 := Aside0.mk hB4; clear hO4 hB4))
        go_roundg (l.length - (j + 1))
        case measure => have := HK.out; omega
        case rel =>
          refine ⟨j + 1, by simp, by omega, ⟨rfl⟩, ⟨?_⟩, HB4⟩
          have e := HF.out
          rw [show (true && (l.take j).isEmpty) = true by rw [HJ.out]; rfl] at e
          rw [e]
          simpa [ints] using BB.own HO4.out
      · have HJ := Aside0.mk h0
        have d0 : decide (0 < (j : Int)) = true := decide_eq_true (by omega)
        have d1 : decide (0 < j) = true := decide_eq_true (by omega)
        clear h0
        go_wp2_with (first
          | (at_builtin; refine bb_lit w.heap.size rfl (.tmp 17) (.tmp 18) 41 5 rfl Try.underlying41 info5 _ xs rfl _ [44] 1 1 rfl rfl (by decide) (lit_cells' (wr.alloc (.cells #[.string x.f0, .string x.f1] 32)) _ [44] 5 (by simp)) (HO.out.below (by repeat (first | exact Below.refl _ _ | apply below_alloc | apply pw_below_drewN))) (by repeat (first | exact HB.out | apply below_alloc | apply pw_below_drewN)) (by have := HB.out.size; simp; omega) (by have := HT.out; omega) ?_; intro v0 w0 hO0 hB0 hG0; have HO0 := Aside0.mk (BB.own hO0); have HB0 := Aside0.mk hB0; have bx0 := (HO.out.below (by repeat (first | exact Below.refl _ _ | apply below_alloc))).box hG0 (heap_alloc_keep (heap_alloc_new wr _)) (show 32 ≠ 5 by decide); have hc0' := cell_of_heap bx0 0 _ rfl; have BX0 := Aside0.mk bx0; clear hO0 hB0 hG0 bx0)
          | (at_builtin; (refine bb_str w.heap.size rfl (.tmp 20) (.tmp 22) 41 9 5 rfl Try.underlying41 Try.underlying9 info5 _ (xs ++ [44]) x.f0 rfl rfl (HO0.out.below (by repeat (first | exact Below.refl _ _ | apply below_alloc | apply pw_below_drewN))) (by repeat (first | exact HB0.out | apply below_alloc | apply pw_below_drewN)) (by have := HB0.out.size; simp; omega) (by have := HT.out; have := HX.out; simp; omega) ?_); intro v1 w1 hO1 hB1 hG1; have HO1 := Aside0.mk hO1; have HB1 := Aside0.mk hB1; have BX1 := Aside0.mk (HO0.out.box hG1 BX0.out (show 32 ≠ 5 by decide)); clear hO1 hB1 hG1)
          | (at_builtin; refine bb_lit w.heap.size rfl (.tmp 24) (.tmp 25) 41 5 rfl Try.underlying41 info5 _ (xs ++ [44] ++ bytesOf x.f0) rfl _ [61, 34] 2 2 rfl rfl (by decide) (lit_cells _ [61, 34] 5) (HO1.out.below (by repeat (first | exact Below.refl _ _ | apply below_alloc | apply pw_below_drewN))) (by repeat (first | exact HB1.out | apply below_alloc | apply pw_below_drewN)) (by have := HB1.out.size; simp; omega) (by have := HT.out; have := HX.out; simp [bytesOf_length]; omega) ?_; intro v2 w2 hO2 hB2 hG2; have HO2 := Aside0.mk hO2; have HB2 := Aside0.mk hB2; have bx2 := (HO1.out.below (by repeat (first | exact Below.refl _ _ | apply below_alloc))).box hG2 (heap_alloc_keep BX1.out) (show 32 ≠ 5 by decide); have hc5 := cell_of_heap bx2 1 _ rfl; have BX2 := Aside0.mk bx2; clear hO2 hB2 hG2 bx2)
          | (go_at_call 37; refine (labels_appendQuoted.calls 3000 (fun _ => True) v2 (xs ++ [44] ++ bytesOf x.f0 ++ [61, 34]) x.f1 _ w w2 HB2.out (R_of_BB_own HO2.out) (appendQuoted_f x.f1 3000 _ (by have := HX.out; omega) (by have := HX.out; omega) (by have := HT.out; have := HX.out; simp [bytesOf_length]; omega))).mono ?_; rintro e w3 ⟨v3, rfl, hR3, hB3, _⟩; have HO3 := Aside0.mk (own_of_R8 hR3); have HB3 := Aside0.mk hB3; clear hR3 hB3)
          | (at_builtin; refine bb_lit w.heap.size rfl (.tmp 31) (.tmp 32) 41 5 rfl Try.underlying41 info5 _ (xs ++ [44] ++ bytesOf x.f0 ++ [61, 34] ++ ints (quote (ab x.f1))) rfl _ [34] 1 1 rfl rfl (by decide) (lit_cells _ [34] 5) (BB.below (.inl HO3.out) (by repeat (first | exact Below.refl _ _ | apply below_alloc | apply pw_below_drewN))) (by repeat (first | exact HB3.out | apply below_alloc | apply pw_below_drewN)) (by have := HB3.out.size; simp; omega) (by have := HT.out; have := HX.out; have := quote_len (ab x.f1); have := ab_length x.f1; simp [bytesOf_length, ints_length]; omega) ?_; intro v4 w4 hO4 hB4 _; have HO4 := Aside0.mk hO4; have HB4 := Aside0.mk hB4; clear hO4 hB4))
        go_roundg (l.length - (j + 1))
        case measure => have := HK.out; omega
        case rel =>
          refine ⟨j + 1, by simp, by omega, ⟨rfl⟩, ⟨?_⟩, HB4⟩
          have e := HF.out
          rw [show (true && (l.take j).isEmpty) = false by
            cases hh : l.take j with
            | nil => have := congrArg List.length hh; rw [List.length_take, List.length_nil] at this; have := HJ.out; omega
            | cons => rfl] at e
          rw [e]
          simpa [ints] using BB.own HO4.out
    · have dl : decide (j < l.length) = false := decide_eq_false hlt
      have hjl : j = l.length := by omega
      have HT2 := Aside0.mk hjl
      clear hjl
      have HF := Aside0.mk (show ints (fmtL l) = ints (123 :: bodyT true (l.take j)) ++ [125] by rw [HT2.out, List.take_length]; simp [fmtL, ints])
      generalize ints (123 :: bodyT true (l.take j)) = xs at *
      have kst : ∀ (v : Value) (W : World), W.ownsRow w.heap.size 5 1 v (ints (fmtL l)).length (nums .u8 (ints (fmtL l))) → (convert 41 9 v).run Try.prog W = .ok (.string (ofB (fmtL l))) W := by
        intro v W hv
        obtain ⟨A, c, rfl, hrd⟩ := own_reads hv
        rw [← str_ints]
        exact string_of_reads Try.underlying41 Try.underlying5 Try.underlying9 hrd
      have KST := Aside0.mk kst
      clear kst
      go_wp2_with (at_builtin; refine bb_lit w.heap.size rfl (.tmp 35) (.tmp 36) 41 5 rfl Try.underlying41 info5 _ xs rfl _ [125] 1 1 rfl rfl (by decide) (lit_cells _ [125] 5) (HO.out.below (by repeat (first | exact Below.refl _ _ | apply below_alloc | apply pw_below_drewN))) (by repeat (first | exact HB.out | apply below_alloc | apply pw_below_drewN)) (by have := HB.out.size; simp; omega) (by have := HT.out; omega) ?_; intro v0 w0 hO0 hB0 _; rw [← HF.out] at hO0; have hcv := KST.out v0 w0 hO0; have HB0 := Aside0.mk hB0; clear hO0 hB0)
      go_ret
      exact ⟨rfl, HB0.out⟩

set_option maxHeartbeats 1000000 in
theorem Hash_calls (A0 : Option Addr) (c0 : Nat) (l : L32) (w : World) (hr0 : Kd.C k32 w A0 l.length l) (hc0 : l.length ≤ c0) (hl : l.length ≤ 1000) (hS : Sz 1000 l) :
    Calls Try.prog 18 #[.slice A0 l.length c0] w fun e w' => e = .returned (.int .i64 (hsh (fmtL l))) ∧ Below w.heap.size w w' := by
  have H := Aside0.mk (Format_calls A0 c0 l w hr0 hc0 hl hS)
  have H2 := Aside0.mk (fun w => labels_HashString.calls ((ofB (fmtL l)).size + 1) (ofB (fmtL l)) (hsh (fmtL l)) w (by
    rw [HashString_f _ _ ?_ (by omega), ab_ofB, hsh_wrap]
    have := bodyT_len 1000 l true hS
    have hm : l.length * (3 * 1000 + 4) ≤ 1000 * 3004 := Nat.mul_le_mul_right _ hl
    rw [ofB_size]; simp only [fmtL, List.cons_append, List.length_cons, List.length_append, List.length_nil]; omega))
  clear hr0 hc0 hS
  generalize hsh (fmtL l) = h at *
  generalize ofB (fmtL l) = s at *
  go_enter Try.func18, Try.ntmps18
  go_wp2_with (first | (go_at_call 13; refine H.out.mono ?_; rintro e w1 ⟨rfl, hb1⟩; have HB1 := Aside0.mk hb1; clear hb1) | (go_at_call 20; refine (H2.out _).mono ?_; rintro e w2 ⟨rfl, hd⟩; have HB2 := Aside0.mk (HB1.out.trans (hd.below.mono HB1.out.size)); clear hd))
  go_ret
  exact ⟨rfl, HB2.out⟩
end Go.Proofs.Ytiooenmbondflaa.H
