/- slices.Equal over labels, and awake: the example of the chapter. -/
import Derived.Test.YtiooenmbondflaaHParse3
import Derived.Test.YtiooenmbondflaaHFormat
namespace Go.Proofs.Ytiooenmbondflaa.H
open Go Go.RowKit Go.Proofs.YtiooenmbondflaaW.PrintWords Go.Proofs.YtiooenmbondflaaW.PrintLast Go.Proofs.YtiooenmbondflaaW.PrintMore Go.Proofs.Ytiooenmbondflaa.PAll
set_option linter.unusedVariables false
set_option linter.unusedSimpArgs false

def eq1 (x y : S32) : Bool := ab x.f0 == ab y.f0 && ab x.f1 == ab y.f1
theorem eq1_iff (x y : S32) : eq1 x y = true ↔ x = y := by
  cases x; cases y
  simp [eq1, ab_iff]
/-- Are two lists of labels one? -/
def eqLB : L32 → L32 → Bool
  | [], [] => true
  | x :: l, y :: m => eq1 x y && eqLB l m
  | _, _ => false
theorem eqLB_iff : ∀ l m : L32, eqLB l m = true ↔ l = m
  | [], [] => by simp [eqLB]
  | [], _ :: _ => by simp [eqLB]
  | _ :: _, [] => by simp [eqLB]
  | x :: l, y :: m => by simp [eqLB, eq1_iff, eqLB_iff l m]
theorem eqLB_refl (l : L32) : eqLB l l = true := (eqLB_iff l l).2 rfl

theorem Equal_l0 (l m : L32) (hlm : l.length = m.length) (hl : l.length ≤ 4611686018427387904) : ∀ (n k j : Nat), l.length - j = n → n < k →
    api_Label_15.l0 k l m (l.length : Int) (j : Int) = some (eqLB (l.drop j) (m.drop j)) := by
  intro n
  induction n with
  | zero =>
    intro k j hn hk
    obtain ⟨k, rfl⟩ : ∃ m, k = m + 1 := ⟨k - 1, by omega⟩
    simp only [api_Label_15.l0]
    rw [if_neg (by omega), List.drop_eq_nil_of_le (by omega), List.drop_eq_nil_of_le (by omega)]
    rfl
  | succ n ih =>
    intro k j hn hk
    obtain ⟨k, rfl⟩ : ∃ m, k = m + 1 := ⟨k - 1, by omega⟩
    have hj : j < l.length := by omega
    have hj' : j < m.length := by omega
    simp only [api_Label_15.l0]
    rw [if_pos (by omega), if_pos (by omega), if_pos (by omega), if_pos (by omega), rdT_get l j hj, rdT_get m j hj', List.drop_eq_getElem_cons hj, List.drop_eq_getElem_cons hj', wrap1 j (by omega), ih k (j + 1) (by omega) (by omega)]
    simp only [toList_ab, eqLB, eq1]
    cases h1 : ab l[j].f0 == ab m[j].f0 <;> cases h2 : ab l[j].f1 == ab m[j].f1 <;> simp

theorem Equal_f (l m : L32) (k : Nat) (hl : l.length ≤ 4611686018427387904) (hk : l.length < k) : api_Label_15.f k l m = some (eqLB l m) := by
  unfold api_Label_15.f
  by_cases h : l.length = m.length
  · rw [if_pos (by omega)]
    have := Equal_l0 l m h hl l.length k 0 (by omega) hk
    simpa using this
  · rw [if_neg (by omega)]
    have : eqLB l m = false := by
      cases hb : eqLB l m
      · rfl
      · exact absurd (congrArg List.length ((eqLB_iff l m).1 hb)) h
    rw [this]

theorem Equal_calls (A0 A1 : Option Addr) (c0 c1 : Nat) (l m : L32) (w : World) (hr0 : Kd.C k32 w A0 l.length l) (hc0 : l.length ≤ c0) (hr1 : Kd.C k32 w A1 m.length m) (hc1 : m.length ≤ c1) (hl : l.length ≤ 4611686018427387904) :
    Calls Try.prog 15 #[.slice A0 l.length c0, .slice A1 m.length c1] w fun e w' => e = .returned (.bool (eqLB l m)) ∧ Drawn0 w w' :=
  api_Label_15.calls (l.length + 1) A0 c0 l A1 c1 m (eqLB l m) w hr0 hc0 hr1 hc1 (Equal_f l m _ hl (by omega))

theorem HashString_calls (s : ByteArray) (w : World) (hs : s.size ≤ 1000000) : Calls Try.prog 20 #[.string s] w fun e w' => e = .returned (.int .i64 (hsh (ab s))) ∧ Drawn0 w w' :=
  labels_HashString.calls (s.size + 1) s (hsh (ab s)) w (by rw [HashString_f s _ (by omega) (by omega), hsh_wrap])

/-- A literal list of labels reads as it stands. -/
theorem C_lit (W : World) (n : Nat) (hn : n = W.heap.size) (l : L32) (hl : l.length ≤ 1000000) : Kd.C k32 (W.alloc (.cells (lcells l).toArray 32)) (some ⟨n, 0, none⟩) l.length l := by
  subst hn
  have h : (W.alloc (.cells (lcells l).toArray 32)).ownsRow 0 32 2 (.slice (some ⟨W.heap.size, 0, none⟩) l.length l.length) l.length (lcells l) :=
    ⟨lcells_length l, .inr ⟨W.heap.size, l.length, _, rfl, Nat.zero_le _, heap_alloc_new W _, Nat.le_refl _, by unfold maxLen; omega, by simp [lcells_length], by rw [List.take_of_length_le (by rw [lcells_length]; omega)]⟩⟩
  exact (Kd.R_reads' (R_of_lcells h)).2.2
theorem C_lit_str (W : World) (n : Nat) (hn : n = W.heap.size) (s : ByteArray) : Kd.C Kd.string (W.alloc (.cells #[.string s] 9)) (some ⟨n, 0, none⟩) [s].length [s] := by
  subst hn
  refine ⟨rfl, by simp, fun _ => ⟨_, rfl, fun j p hj => ?_⟩⟩
  rcases j with _ | j
  · simp at hj; subst hj
    refine ⟨[.string s], rfl, rfl, fun i u hu => ?_⟩
    rcases i with _ | i
    · simp at hu; subst hu
      rw [add_plain]
      exact cell_of_heap (heap_alloc_new W _) _ _ (by simp [Kd.string, Kd.scalar])
    · simp at hu
  · simp at hj

def exL : L32 := [⟨⟨#[95, 95, 110, 97, 109, 101, 95, 95]⟩, ⟨#[117, 112]⟩⟩, ⟨⟨#[106, 111, 98]⟩, ⟨#[97, 34, 98]⟩⟩]
def exS : ByteArray := ⟨#[123, 95, 95, 110, 97, 109, 101, 95, 95, 61, 34, 117, 112, 34, 44, 106, 111, 98, 61, 34, 97, 92, 34, 98, 34, 125]⟩
theorem ex_fmt : ofB (fmtL exL) = exS := by kernel_rfl
theorem ex_prsL : prsL (ab exS) = exL := by kernel_rfl
theorem ex_prsE : prsE (ab exS) = 0 := by kernel_rfl
theorem ex_sel : sel [⟨#[106, 111, 98]⟩] true exL = exL.drop 1 := by kernel_rfl
theorem ex_h0 : hsh (ab ⟨#[]⟩) = 2166136261 := by kernel_rfl
theorem ex_h1 : hsh (ab ⟨#[97]⟩) = 3826002220 := by kernel_rfl

set_option maxRecDepth 100000 in
set_option maxHeartbeats 8000000 in
theorem awake_calls (w : World) : Calls Try.prog 11 #[] w fun e w' => e = .returned (.bool true) ∧ Below w.heap.size w w' := by
  have hS : Sz 1000 exL := by
    intro x hx
    simp only [exL, List.mem_cons, List.not_mem_nil, or_false] at hx
    rcases hx with rfl | rfl <;> exact ⟨by decide, by decide⟩
  have HS := Aside0.mk hS
  clear hS
  have HC0 := Aside0.mk (show Kd.C k32 (w.alloc (.cells #[.string ⟨#[95, 95, 110, 97, 109, 101, 95, 95]⟩, .string ⟨#[117, 112]⟩, .string ⟨#[106, 111, 98]⟩, .string ⟨#[97, 34, 98]⟩] 32)) (some ⟨w.heap.size, 0, none⟩) exL.length exL from C_lit w _ rfl exL (by decide))
  have HB0 := Aside0.mk (show Below w.heap.size w (w.alloc (.cells #[.string ⟨#[95, 95, 110, 97, 109, 101, 95, 95]⟩, .string ⟨#[117, 112]⟩, .string ⟨#[106, 111, 98]⟩, .string ⟨#[97, 34, 98]⟩] 32)) from (Below.refl _ w).alloc (Nat.le_refl _) _)
  obtain ⟨w1, hw1⟩ : ∃ w1, w.alloc (.cells #[.string ⟨#[95, 95, 110, 97, 109, 101, 95, 95]⟩, .string ⟨#[117, 112]⟩, .string ⟨#[106, 111, 98]⟩, .string ⟨#[97, 34, 98]⟩] 32) = w1 := ⟨_, rfl⟩
  rw [hw1] at HC0 HB0
  have HP := Aside0.mk (fun W => Parse_calls exS W (show exS.size ≤ 90000 by decide))
  rw [ex_prsL, ex_prsE] at HP
  go_enter Try.func11, Try.ntmps11
  go_wp2_with (go_at_call 12; refine (HP.out _).mono ?_; rintro e w2 ⟨v, rfl, hR, hB⟩; obtain ⟨A, c, rfl, hlc, hC⟩ := Kd.R_reads hR; have HC := Aside0.mk (And.intro hlc hC); have HB := Aside0.mk hB; clear hB hR hlc hC)
  clear hw1
  have hmo : Try.prog.follows .mixedOrders = true := by kernel_rfl
  have HCK := Aside0.mk (show Kd.C k32 w2 (some ⟨w.heap.size, 0, none⟩) 2 exL from Kd.C_below HC0.out HB.out)
  have hw12 := Aside0.mk (HB0.out.trans (HB.out.mono HB0.out.size))
  have HE1 := Aside0.mk (fun W (h : Below w2.heap.size w2 W) => Equal_calls (some ⟨w.heap.size, 0, none⟩) A 2 c exL exL W (Kd.C_below HCK.out h) (by decide) (Kd.C_below HC.out.2 h) HC.out.1 (by decide))
  rw [eqLB_refl] at HE1
  have HF := Aside0.mk (fun W (h : Below w2.heap.size w2 W) => Format_calls (some ⟨w.heap.size, 0, none⟩) 2 exL W (Kd.C_below HCK.out h) (by decide) (by decide) HS.out)
  rw [ex_fmt] at HF
  unfold exS at HF
  have HH0 := Aside0.mk (fun W => HashString_calls ⟨#[]⟩ W (by decide))
  have HH1 := Aside0.mk (fun W => HashString_calls ⟨#[97]⟩ W (by decide))
  rw [ex_h0] at HH0
  rw [ex_h1] at HH1
  have HB2 := Aside0.mk (Below.refl w2.heap.size w2)
  clear HB HC HC0 HB0 HS HP
  have HCD := Aside0.mk (show Kd.C k32 w2 (some ⟨w.heap.size, 2, none⟩) 1 (exL.drop 1) by
    have := Kd.C_drop (c := 2) (m := 1) HCK.out (by decide) (by decide)
    exact this)
  have HE2 := Aside0.mk (fun W A' c' (hc' : 1 ≤ c') (hC' : Kd.C k32 W A' 1 (exL.drop 1)) (h : Below w2.heap.size w2 W) => Equal_calls A' (some ⟨w.heap.size, 2, none⟩) c' 1 (exL.drop 1) (exL.drop 1) W hC' hc' (Kd.C_below HCD.out h) (by decide) (by decide))
  rw [eqLB_refl] at HE2
  have HKP := Aside0.mk (fun W An (hC2 : Kd.C Kd.string W An 1 [(⟨#[106, 111, 98]⟩ : ByteArray)]) (h : Below w2.heap.size w2 W) => Keep_calls (some ⟨w.heap.size, 0, none⟩) An 2 1 exL [⟨#[106, 111, 98]⟩] W (by decide) (by decide) (by decide) (by decide) (Kd.C_below HCK.out h) hC2)
  rw [ex_sel] at HKP
  go_region_with (first
    | (go_at_call 13; refine (HF.out _ (by repeat (first | exact HB2.out | apply below_alloc | apply pw_below_drewN | apply below_drew))).mono ?_; rintro e w3 ⟨rfl, hb⟩; have n1_ := Aside0.mk ((show Below w2.heap.size w2 _ by repeat (first | exact HB2.out | apply below_alloc | apply pw_below_drewN | apply below_drew)).trans (hb.mono (by simp))); clear HB2 hb; have HB2 := n1_; clear n1_)
    | (go_at_call 15; refine (HE1.out _ (by repeat (first | exact HB2.out | apply below_alloc | apply pw_below_drewN | apply below_drew))).mono ?_; clear HE1; rintro e w4 ⟨rfl, ⟨q, rfl⟩⟩)
    | (go_at_call 22; refine (HKP.out _ _ (C_lit_str _ _ (by simp) _) (by repeat (first | exact HB2.out | apply below_alloc | apply pw_below_drewN | apply below_drew))).mono ?_; rintro e w5 ⟨v5, rfl, hR5, hb⟩; obtain ⟨A5, c5, rfl, hlc5, hC5⟩ := Kd.R_reads hR5; have HC5 := Aside0.mk (And.intro hlc5 hC5); have n1_ := Aside0.mk ((show Below w2.heap.size w2 _ by repeat (first | exact HB2.out | apply below_alloc | apply pw_below_drewN | apply below_drew)).trans (hb.mono (by have := HB2.out.size; simp; omega))); clear HB2 hb hR5 hlc5 hC5; have HB2 := n1_; clear n1_)
    | (go_at_call 15; refine (HE2.out _ _ _ HC5.out.1 HC5.out.2 (by repeat (first | exact HB2.out | apply below_alloc | apply pw_below_drewN | apply below_drew))).mono ?_; rintro e w4 ⟨rfl, ⟨q2, rfl⟩⟩)
    | (go_at_call 20; first | (with_reducible refine (HH0.out _).mono ?_; rintro e w6 ⟨rfl, ⟨q3, rfl⟩⟩) | (with_reducible refine (HH1.out _).mono ?_; rintro e w6 ⟨rfl, ⟨q4, rfl⟩⟩)))
  all_goals
    have HBF := Aside0.mk (hw12.out.trans (HB2.out.mono hw12.out.size))
    clear HE2 HKP HF HH0 HH1 HCK HCD HC5
    go_wp2
    go_ret
    exact ⟨rfl, by repeat (first | exact HBF.out | apply below_alloc | apply pw_below_drewN | apply below_drew)⟩
end Go.Proofs.Ytiooenmbondflaa.H
