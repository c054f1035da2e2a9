/- Contracts of Compare and of what it calls. -/
import Derived.Test.YtakobehkajphpaaGreatTLCmpP
import Derived.Test.YtakobehkajphpaaGreatTLRow
import Derived.Test.YtakobehkajphpaaGreatTPF2
import Derived.Deep.RegionHeld3
namespace Go.Proofs.YtakobehkajphpaaGreat.H
open Go Go.RowKit Go.Proofs.YtakobehkajphpaaGreatW.PrintWords Go.Proofs.YtakobehkajphpaaGreatW.PrintLast Go.Proofs.YtakobehkajphpaaGreatW.PrintMore Go.Proofs.YtakobehkajphpaaGreat.PAll
set_option linter.unusedVariables false
set_option linter.unusedSimpArgs false

theorem cmpS_calls (a b : ByteArray) (w : World) : Calls Tryz.prog 73 #[.string a, .string b] w fun e w' => e = .returned (.int .i64 (cmpB (ab a) (ab b))) ∧ Drawn0 w w' := by
  refine cmp_Compare_string.calls a b _ w ?_
  unfold cmp_Compare_string.f cmp_isNaN_string.f
  simp only [Option.bind_some, bne_self_eq_false, Bool.false_eq_true, if_false, toList_ab]
  unfold cmpB
  split <;> (try split) <;> rfl

theorem C_ints (W : World) (n : Nat) (hn : n = W.heap.size) (a b : Int) (e : Nat) : Kd.C (Kd.int .i64) (W.alloc (.cells #[.int .i64 a, .int .i64 b] e)) (some ⟨n, 0, none⟩) 2 [a, b] := by
  subst hn
  refine ⟨rfl, by omega, fun _ => ⟨_, rfl, fun j p hj => ?_⟩⟩
  have hj2 : j = 0 ∧ p = a ∨ j = 1 ∧ p = b := by
    rcases j with _ | _ | j
    · simp at hj; exact .inl ⟨rfl, hj.symm⟩
    · simp at hj; exact .inr ⟨rfl, hj.symm⟩
    · simp at hj
  rcases hj2 with ⟨rfl, rfl⟩ | ⟨rfl, rfl⟩
  · refine ⟨[.int .i64 p], rfl, rfl, fun i u hu => ?_⟩
    rcases i with _ | i
    · simp at hu; subst hu
      rw [add_plain]
      exact cell_of_heap (heap_alloc_new W _) _ _ (by simp [Kd.int, Kd.scalar])
    · simp at hu
  · refine ⟨[.int .i64 p], rfl, rfl, fun i u hu => ?_⟩
    rcases i with _ | i
    · simp at hu; subst hu
      rw [add_plain]
      exact cell_of_heap (heap_alloc_new W _) _ _ (by simp [Kd.int, Kd.scalar])
    · simp at hu

theorem Or_calls (W : World) (n : Nat) (hn : n = W.heap.size) (a b : Int) :
    Calls Tryz.prog 72 #[.slice (some ⟨n, 0, none⟩) 2 2] (W.alloc (.cells #[.int .i64 a, .int .i64 b] 3)) fun e w' => e = .returned (.int .i64 (if a = 0 then b else a)) ∧ Drawn0 (W.alloc (.cells #[.int .i64 a, .int .i64 b] 3)) w' := by
  refine cmp_Or_int.calls 5 _ 2 [a, b] _ _ (C_ints W n hn a b 3) (by simp) ?_
  unfold cmp_Or_int.f
  simp only [cmp_Or_int.l0]
  by_cases h : a = 0
  · subst h
    by_cases h2 : b = 0
    · subst h2; simp [rd, wrap64]
    · simp [rd, wrap64, h2]
  · simp [rd, h]

set_option maxRecDepth 100000 in
set_option maxHeartbeats 4000000 in
theorem Compare1_calls (x y : S94) (w : World) : Calls Tryz.prog 71 #[.agg #[.string x.f0, .string x.f1], .agg #[.string y.f0, .string y.f1]] w fun e w' => e = .returned (.int .i64 (cmp1 x y)) ∧ Below w.heap.size w w' := by
  have HC1 := Aside0.mk (fun W => cmpS_calls x.f0 y.f0 W)
  have HC2 := Aside0.mk (fun W => cmpS_calls x.f1 y.f1 W)
  have HX := Aside0.mk (show (if cmpB (ab x.f0) (ab y.f0) = 0 then cmpB (ab x.f1) (ab y.f1) else cmpB (ab x.f0) (ab y.f0)) = cmp1 x y from rfl)
  generalize cmpB (ab x.f0) (ab y.f0) = r1 at *
  generalize cmpB (ab x.f1) (ab y.f1) = r2 at *
  have HO := Aside0.mk (fun W n hn => Or_calls W n hn r1 r2)
  rw [HX.out] at HO
  have hu32 := Tryz.underlying94
  go_enter Tryz.func71, Tryz.ntmps71
  go_wp2_with fail
  have hb1 := cell_of_heap (heap_alloc_keep (o := .cells #[.string y.f0, .string y.f1] 94) (heap_alloc_new w (.cells #[.string x.f0, .string x.f1] 94))) 0 _ rfl
  have hb2 := cell_of_heap (heap_alloc_keep (o := .cells #[.string y.f0, .string y.f1] 94) (heap_alloc_new w (.cells #[.string x.f0, .string x.f1] 94))) 1 _ rfl
  have hb3 := cell_of_heap (heap_alloc_new (w.alloc (.cells #[.string x.f0, .string x.f1] 94)) (.cells #[.string y.f0, .string y.f1] 94)) 0 _ rfl
  have hb4 := cell_of_heap (heap_alloc_new (w.alloc (.cells #[.string x.f0, .string x.f1] 94)) (.cells #[.string y.f0, .string y.f1] 94)) 1 _ rfl
  generalize hW : (w.alloc (.cells #[.string x.f0, .string x.f1] 94)).alloc (.cells #[.string y.f0, .string y.f1] 94) = W at *
  have HW := Aside0.mk (show Below w.heap.size w W by rw [← hW]; repeat (first | exact Below.refl _ _ | apply below_alloc))
  clear hW
  simp only [World.size_alloc] at hb3 hb4
  go_region_held3 (fun w' => w'.cell? ⟨w.heap.size, 0, none⟩ = some (.string x.f0) ∧ w'.cell? ⟨w.heap.size, 1, none⟩ = some (.string x.f1) ∧ w'.cell? ⟨w.heap.size + 1, 0, none⟩ = some (.string y.f0) ∧ w'.cell? ⟨w.heap.size + 1, 1, none⟩ = some (.string y.f1)) (go_keep)
    (first
    | (go_at_call 73; first | (with_reducible refine (HC1.out _).mono ?_; rintro e w1 ⟨rfl, ⟨q1, rfl⟩⟩) | (with_reducible refine (HC2.out _).mono ?_; rintro e w2 ⟨rfl, ⟨q2, rfl⟩⟩))
    | (go_at_call 72; refine (HO.out _ _ (by simp)).mono ?_; rintro e w3 ⟨rfl, ⟨q3, rfl⟩⟩))
  all_goals
    go_wp2
    go_ret
    exact ⟨rfl, by repeat (first | exact HW.out | apply below_alloc | apply pw_below_drewN | apply below_drew)⟩

theorem cmpLL_step {l m : L94} {j : Nat} (h1 : j < l.length) (h2 : j < m.length) : cmpLL (l.drop j) (m.drop j) = if cmp1 l[j] m[j] = 0 then cmpLL (l.drop (j + 1)) (m.drop (j + 1)) else cmp1 l[j] m[j] := by
  rw [List.drop_eq_getElem_cons h1, List.drop_eq_getElem_cons h2]
  rfl

set_option maxRecDepth 100000 in
set_option maxHeartbeats 4000000 in
theorem CompareFunc_calls (A0 A1 : Option Addr) (c0 c1 : Nat) (l m : L94) (w : World) (hr0 : Kd.C k94 w A0 l.length l) (hc0 : l.length ≤ c0) (hr1 : Kd.C k94 w A1 m.length m) (hc1 : m.length ≤ c1) (hl : l.length ≤ 4611686018427387904) :
    Calls Tryz.prog 70 #[.slice A0 l.length c0, .slice A1 m.length c1, .func (.func 71) #[] #[]] w fun e w' => e = .returned (.int .i64 (cmpLL l m)) ∧ Below w.heap.size w w' := by
  have HR0 := Aside0.mk hr0
  have HR1 := Aside0.mk hr1
  clear hr0 hr1 hc0 hc1
  have hu32 := Tryz.underlying94
  go_enter Tryz.func70, Tryz.ntmps70
  go_wp2_with fail
  go_loopg [13] (l.length) (fun kq v13 w' => ∃ j : Nat, v13 = .int .i64 j ∧ j ≤ l.length ∧ j ≤ m.length ∧ Aside0 (kq = l.length - j) ∧ Aside0 (Below w.heap.size w w') ∧ Aside0 (cmpLL l m = cmpLL (l.drop j) (m.drop j)))
  case atStart => exact ⟨0, rfl, by omega, by omega, ⟨rfl⟩, ⟨Below.refl _ _⟩, ⟨rfl⟩⟩
  case round =>
    obtain ⟨j, rfl, hj, hjm, HK, HB, HE⟩ := hrel
    by_cases hlt : j < l.length
    · have hr := Kd.C_below HR0.out (show Below w.heap.size w wr from HB.out)
      obtain ⟨ad, e1, hd0, hd1⟩ := at_T94 hr (j : Int) (by omega) (by omega)
      cases e1
      rw [rdT_get l j hlt] at hd0 hd1
      simp only [Int.toNat_natCast] at hd0 hd1
      clear hr
      have dl : decide (j < l.length) = true := decide_eq_true hlt
      have ql : ((j : Int) < (l.length : Int)) = True := eq_true (by omega)
      have pl : (0 ≤ (j : Int)) = True := eq_true (by omega)
      by_cases hm : j < m.length
      · have dm : decide (m.length ≤ j) = false := decide_eq_false (by omega)
        have qm : ((m.length : Int) ≤ (j : Int)) = False := eq_false (by omega)
        have qm2 : ((j : Int) < (m.length : Int)) = True := eq_true (by omega)
        have dm2 : decide (j < m.length) = true := decide_eq_true hm
        have HS := Aside0.mk (cmpLL_step hlt hm)
        have hn := Kd.C_below HR1.out (show Below w.heap.size w (wr.alloc (.cells #[.string l[j].f0, .string l[j].f1] 94)) from below_alloc HB.out _)
        obtain ⟨ad1, e2, he0, he1⟩ := at_T94 hn (j : Int) (by omega) (by omega)
        cases e2
        rw [rdT_get m j hm] at he0 he1
        simp only [Int.toNat_natCast] at he0 he1
        clear hn
        have HC := Aside0.mk (fun W => Compare1_calls l[j] m[j] W)
        generalize l[j] = x at *
        generalize m[j] = y at *
        by_cases hz : cmp1 x y = 0
        · rw [hz] at HC
          have HZ := Aside0.mk hz
          clear hz
          go_wp2_with (go_at_call 71; refine (HC.out _).mono ?_; rintro e w1 ⟨rfl, hb⟩; have HB2 := Aside0.mk ((show Below w.heap.size w _ by repeat (first | exact HB.out | apply below_alloc | apply pw_below_drewN | apply below_drew)).trans (hb.mono (by have := HB.out.size; simp; omega))); clear hb)
          go_roundg (l.length - (j + 1))
          case measure => have := HK.out; omega
          case rel => exact ⟨j + 1, by simp, by omega, by omega, ⟨rfl⟩, HB2, ⟨by rw [HE.out, HS.out, if_pos HZ.out]⟩⟩
        · have HZ := Aside0.mk hz
          have dz : (cmp1 x y != 0) = true := by simpa using hz
          have HX := Aside0.mk (show cmpLL l m = cmp1 x y by rw [HE.out, HS.out, if_neg hz])
          generalize cmp1 x y = r at *
          clear hz
          go_wp2_with (go_at_call 71; refine (HC.out _).mono ?_; rintro e w1 ⟨rfl, hb⟩; have HB2 := Aside0.mk ((show Below w.heap.size w _ by repeat (first | exact HB.out | apply below_alloc | apply pw_below_drewN | apply below_drew)).trans (hb.mono (by have := HB.out.size; simp; omega))); clear hb)
          go_ret
          exact ⟨by rw [HX.out]; rfl, HB2.out⟩
      · have dm : decide (m.length ≤ j) = true := decide_eq_true (by omega)
        have qm : ((m.length : Int) ≤ (j : Int)) = True := eq_true (by omega)
        have HX := Aside0.mk (show cmpLL l m = 1 by rw [HE.out, List.drop_eq_getElem_cons hlt, List.drop_eq_nil_of_le (show m.length ≤ j by omega)]; rfl)
        generalize l[j] = x at *
        go_wp2
        go_ret
        exact ⟨by rw [HX.out]; rfl, by repeat (first | exact HB.out | apply below_alloc | apply pw_below_drewN | apply below_drew)⟩
    · have dl : decide (j < l.length) = false := decide_eq_false hlt
      have hjl : j = l.length := by omega
      have HJ := Aside0.mk hjl
      by_cases hm : l.length < m.length
      · have dm : decide (l.length < m.length) = true := decide_eq_true hm
        have HX := Aside0.mk (show cmpLL l m = -1 by rw [HE.out, HJ.out, List.drop_eq_nil_of_le (Nat.le_refl _), List.drop_eq_getElem_cons hm]; rfl)
        clear hjl
        go_wp2
        go_ret
        exact ⟨by rw [HX.out]; rfl, by repeat (first | exact HB.out | apply below_alloc | apply pw_below_drewN | apply below_drew)⟩
      · have dm : decide (l.length < m.length) = false := decide_eq_false hm
        have HX := Aside0.mk (show cmpLL l m = 0 by rw [HE.out, HJ.out, List.drop_eq_nil_of_le (Nat.le_refl _), List.drop_eq_nil_of_le (by omega)]; rfl)
        clear hjl
        go_wp2
        go_ret
        exact ⟨by rw [HX.out]; rfl, by repeat (first | exact HB.out | apply below_alloc | apply pw_below_drewN | apply below_drew)⟩

theorem Compare_calls (A0 A1 : Option Addr) (c0 c1 : Nat) (l m : L94) (w : World) (hr0 : Kd.C k94 w A0 l.length l) (hc0 : l.length ≤ c0) (hr1 : Kd.C k94 w A1 m.length m) (hc1 : m.length ≤ c1) (hl : l.length ≤ 4611686018427387904) :
    Calls Tryz.prog 45 #[.slice A0 l.length c0, .slice A1 m.length c1] w fun e w' => e = .returned (.int .i64 (cmpLL l m)) ∧ Below w.heap.size w w' := by
  have H := Aside0.mk (CompareFunc_calls A0 A1 c0 c1 l m w hr0 hc0 hr1 hc1 hl)
  clear hr0 hr1 hc0 hc1
  go_enter Tryz.func45, Tryz.ntmps45
  go_wp2_with (go_at_call 70; refine H.out.mono ?_; rintro e w1 ⟨rfl, hb⟩)
  go_ret
  exact ⟨rfl, hb⟩

theorem Text_f (a b : ByteArray) : lookoutref05_Text.f a b = some (cmpB (ab a) (ab b)) := by
  unfold lookoutref05_Text.f cmpB
  simp only [toList_ab]
  split <;> (try split) <;> rfl
theorem rCompare_l0 (l m : L94) (hl : l.length ≤ 4611686018427387904) : ∀ (n k j : Nat), l.length - j = n → 2 * n + 2 < k → j ≤ l.length → j ≤ m.length → lookoutref05_Compare.l0 k l m (j : Int) = some (cmpLL (l.drop j) (m.drop j)) := by
  intro n
  induction n with
  | zero =>
    intro k j hn hk h1 h2
    obtain ⟨k, rfl⟩ : ∃ m, k = m + 2 := ⟨k - 2, by omega⟩
    have hj : j = l.length := by omega
    simp only [lookoutref05_Compare.l0, lookoutref05_Compare.j1]
    rw [if_neg (by omega), if_neg (by decide), List.drop_eq_nil_of_le (by omega)]
    by_cases hm : j < m.length
    · rw [if_pos (by omega), List.drop_eq_getElem_cons hm]; rfl
    · rw [if_neg (by omega), if_neg (by omega), List.drop_eq_nil_of_le (by omega)]; rfl
  | succ n ih =>
    intro k j hn hk h1 h2
    obtain ⟨k, rfl⟩ : ∃ m, k = m + 2 := ⟨k - 2, by omega⟩
    have hj : j < l.length := by omega
    simp only [lookoutref05_Compare.l0, lookoutref05_Compare.j1]
    rw [if_pos (by omega)]
    by_cases hm : j < m.length
    · rw [if_pos (by simpa using hm), if_pos (by omega), if_pos (by omega), if_pos (by omega), rdT_get l j hj, rdT_get m j hm, Text_f, Text_f, wrap1 j (by omega), cmpLL_step hj hm]
      have ih' := ih k (j + 1) (by omega) (by omega) (by omega) (by omega)
      simp only [Option.bind_some]
      unfold cmp1 lex
      by_cases h3 : cmpB (ab l[j].f0) (ab m[j].f0) = 0
      · simp only [h3, if_true]
        by_cases h4 : cmpB (ab l[j].f1) (ab m[j].f1) = 0
        · simp only [h4, if_true]; exact ih'
        · simp only [h4, if_false]
      · simp only [h3, if_false]
    · rw [if_neg (by simpa using hm), if_neg (by omega), if_pos (by omega), List.drop_eq_getElem_cons hj, List.drop_eq_nil_of_le (show m.length ≤ j by omega)]; rfl
theorem rCompare_calls (A0 A1 : Option Addr) (c0 c1 : Nat) (l m : L94) (w : World) (hr0 : Kd.C k94 w A0 l.length l) (hc0 : l.length ≤ c0) (hr1 : Kd.C k94 w A1 m.length m) (hc1 : m.length ≤ c1) (hl : l.length ≤ 4611686018427387904) :
    Calls Tryz.prog 38 #[.slice A0 l.length c0, .slice A1 m.length c1] w fun e w' => e = .returned (.int .i64 (cmpLL l m)) ∧ Drawn0 w w' :=
  lookoutref05_Compare.calls (2 * l.length + 3) A0 c0 l A1 c1 m _ w hr0 hc0 hr1 hc1 (by
    have := rCompare_l0 l m hl l.length (2 * l.length + 3) 0 (by omega) (by omega) (by omega) (by omega)
    simpa [lookoutref05_Compare.f] using this)
end Go.Proofs.YtakobehkajphpaaGreat.H
