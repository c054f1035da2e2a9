/- Contracts of Check, Increase and Resets. -/
import Derived.Test.YtjgkcgfbkcbjfaaSNb
import Derived.Test.YtjgkcgfbkcbjfaaSPure
namespace Go.Proofs.Ytjgkcgfbkcbjfaa.H
open Go Go.RowKit Go.Shelf Go.Proofs.YtjgkcgfbkcbjfaaW.PrintWords Go.Proofs.YtjgkcgfbkcbjfaaW.PrintLast Go.Proofs.YtjgkcgfbkcbjfaaW.PrintMore Go.Proofs.Ytjgkcgfbkcbjfaa.PAll
set_option linter.unusedVariables false
set_option linter.unusedSimpArgs false
attribute [local go_sem] Oper.semAt_some

theorem Check_calls (kind : Int) (A : Option Addr) (c : Nat) (l : L29) (w : World) (hr : Kd.C k29 w A l.length l) (hc : l.length ≤ c) (hl : l.length ≤ 1000000) :
    Calls Try.prog 15 #[.int .i64 kind, .slice A l.length c] w fun e w' => e = .returned (.int .i64 (chkK kind l)) ∧ Below w.heap.size w w' :=
  series_Check.calls (2 * l.length + 3) kind A c l _ w hr hc (sCheck_f kind l _ (by omega) (by omega))

/-- One step of the sum, as Go reckons it. -/
def stepW (s : Int) (p : S29 × S29) : Int := if p.1.f1 ≤ p.2.f1 then wrap64 (wrap64 (s + p.2.f1) - p.1.f1) else wrap64 (s + p.2.f1)
def stepR (s : Int) (p : S29 × S29) : Int := if p.2.f1 < p.1.f1 then wrap64 (s + 1) else s
theorem snocW_pos (pre : List (S29 × S29)) (x : S29 × S29) (s : Int) (h : x.1.f1 ≤ x.2.f1) : (pre ++ [x]).foldl stepW s = wrap64 (wrap64 (pre.foldl stepW s + x.2.f1) - x.1.f1) := by
  rw [List.foldl_append]
  show stepW _ x = _
  generalize pre.foldl stepW s = t
  unfold stepW
  rw [if_pos h]
theorem snocW_neg (pre : List (S29 × S29)) (x : S29 × S29) (s : Int) (h : ¬ x.1.f1 ≤ x.2.f1) : (pre ++ [x]).foldl stepW s = wrap64 (pre.foldl stepW s + x.2.f1) := by
  rw [List.foldl_append]
  show stepW _ x = _
  generalize pre.foldl stepW s = t
  unfold stepW
  rw [if_neg h]
theorem snocR_pos (pre : List (S29 × S29)) (x : S29 × S29) (s : Int) (h : x.2.f1 < x.1.f1) : (pre ++ [x]).foldl stepR s = wrap64 (pre.foldl stepR s + 1) := by
  rw [List.foldl_append]
  show stepR _ x = _
  generalize pre.foldl stepR s = t
  unfold stepR
  rw [if_pos h]
theorem snocR_neg (pre : List (S29 × S29)) (x : S29 × S29) (s : Int) (h : ¬ x.2.f1 < x.1.f1) : (pre ++ [x]).foldl stepR s = pre.foldl stepR s := by
  rw [List.foldl_append]
  show stepR _ x = _
  generalize pre.foldl stepR s = t
  unfold stepR
  rw [if_neg h]
theorem foldW : ∀ (l : L29) (s : Int), Cnt l → 0 ≤ s → s + l.length * 1099511627776 ≤ 4611686018427387904 → (prs l).foldl stepW s = s + incL l
  | [], s, _, _, _ => by simp [prs, incL]
  | [x], s, _, _, _ => by simp [prs, incL]
  | x :: y :: l, s, h, h0, h1 => by
    have b1 := h x (by simp)
    have b2 := h y (by simp)
    have b3 := stp_bd b1 b2
    have e : prs (x :: y :: l) = (x, y) :: prs (y :: l) := rfl
    simp only [List.length_cons] at h1
    have es : stepW s (x, y) = s + stp x.f1 y.f1 := by
      unfold stepW stp
      dsimp only
      by_cases hh : x.f1 ≤ y.f1
      · rw [if_pos hh, if_neg (by omega)]
        unfold wrap64; omega
      · rw [if_neg hh, if_pos (by omega)]
        unfold wrap64; omega
    rw [e, List.foldl_cons, es, foldW (y :: l) _ h.tail (by omega) (by simp only [List.length_cons]; omega)]
    simp only [incL]
    omega
theorem foldR : ∀ (l : L29) (s : Int), 0 ≤ s → s + l.length ≤ 4611686018427387904 → (prs l).foldl stepR s = s + rstL l
  | [], s, _, _ => by simp [prs, rstL]
  | [x], s, _, _ => by simp [prs, rstL]
  | x :: y :: l, s, h0, h1 => by
    have e : prs (x :: y :: l) = (x, y) :: prs (y :: l) := rfl
    simp only [List.length_cons] at h1
    have es : stepR s (x, y) = s + (if y.f1 < x.f1 then 1 else 0) := by
      unfold stepR
      dsimp only
      split
      · unfold wrap64; omega
      · omega
    have b : 0 ≤ (if y.f1 < x.f1 then (1 : Int) else 0) ∧ (if y.f1 < x.f1 then (1 : Int) else 0) ≤ 1 := by split <;> omega
    rw [e, List.foldl_cons, es, foldR (y :: l) _ (by omega) (by simp only [List.length_cons]; omega)]
    simp only [rstL]
    omega

theorem KB_set {n B b : Nat} (W : World) (v : Value) (hn : n ≤ b) (hne : b ≠ B) : KB n B W (W.setCell ⟨b, 0, none⟩ v) :=
  ⟨(Below.refl n W).setCell (p := ⟨b, 0, none⟩) hn v, by
    by_cases h : B < W.heap.size
    · exact (grownBy_setCell' W b v).block B h (fun e => hne (by cases e; rfl))
    · have h2 : (W.setCell ⟨b, 0, none⟩ v).heap.size = W.heap.size := by simp
      rw [Array.getElem?_eq_none (by omega), Array.getElem?_eq_none (by omega)]⟩

set_option maxRecDepth 100000 in
set_option maxHeartbeats 4000000 in
theorem Increase_in (A : Option Addr) (c : Nat) (xs : L29) (w : World) (hc : xs.length ≤ c) (hlx : xs.length ≤ 1000000) (hC1 : Kd.C k29 w A xs.length xs) :
    CallsIn Fence.wide 6 Try.prog 13 #[.slice A xs.length c] w fun e W' => e = .returned (.int .i64 (inc xs)) ∧ Below w.heap.size w W' := by
  have HCK := Aside0.mk (Check_calls 2 A c xs w hC1 hc hlx)
  by_cases hck : chkK 2 xs = 0
  · have HI := Aside0.mk (show inc xs = incL xs by unfold inc; rw [if_pos hck])
    have HF := Aside0.mk (foldW xs 0 (Cnt_of hck).1 (by omega) (by have := (Cnt_of hck).2; omega))
    rw [hck] at HCK
    clear hck
    have hu32 := Try.underlying29
    refine callsIn_of_wp_marks Try.func13 rfl trivial ?_ rfl
    simp only [Try.ntmps13, List.size_toArray, List.length_cons, List.length_nil, Nat.reduceAdd, Nat.reduceSub, Array.replicate_succ, Array.replicate_zero, List.push_toArray, List.append_toArray, List.nil_append, List.cons_append]
    gi_wp2_with (first
      | (refine ⟨trivial, ?_⟩; gi_at_call 15; refine (callsIn_wide.2 HCK.out).mono ?_; rintro e w1 ⟨rfl, hb⟩; have HB1 := Aside0.mk hb; clear hb)
      | (refine ⟨trivial, ?_⟩; gi_at_call 35; refine (callsIn_wide.2 (neighbours_in _ _ _ _)).mono ?_; rintro e w' ⟨rfl, rfl⟩))
    have bS := (Boxed.new w1 3 (.int .i64 0)).alloc (.cells #[.slice A xs.length c] 22)
    have bL := Boxed.new (w1.alloc (.cells #[.int .i64 0] 3)) 22 (.slice A xs.length c)
    have hB0 : Below w1.heap.size w1 ((w1.alloc (.cells #[.int .i64 0] 3)).alloc (.cells #[.slice A xs.length c] 22)) := by
      repeat (first | exact Below.refl _ _ | apply below_alloc)
    have hsz : ((w1.alloc (.cells #[.int .i64 0] 3)).alloc (.cells #[.slice A xs.length c] 22)).heap.size = w1.heap.size + 2 := by simp
    obtain ⟨W0, hW0⟩ : ∃ W0, (w1.alloc (.cells #[.int .i64 0] 3)).alloc (.cells #[.slice A xs.length c] 22) = W0 := ⟨_, rfl⟩
    simp only [World.size_alloc] at bL
    rw [hW0] at bS bL hB0 hsz ⊢
    clear hW0
    have hC2 := Kd.C_below hC1 HB1.out
    clear hC1
    refine wpIn_rangeFunc_ownH rfl (by omega) (gf := 51) (lb := #[.pointer (some ⟨w1.heap.size + 1, 0, none⟩)]) rfl trivial (enters_of Try.func51 (by kernel_rfl) rfl)
      (neighbours_stops 5 (by omega) (w1.heap.size + 1) w1.heap.size A c xs hc W0 (by omega) (by omega) bL.cell
        (fun W' h => Kd.C_below hC2 (hB0.trans h))) KB.trans (KB_b (by omega) (by omega)) (Below.refl _ _) (fun _ => rfl)
      (fun pre W => (Boxed W w1.heap.size 3 (.int .i64 (pre.foldl stepW 0)) ∧ Boxed W (w1.heap.size + 1) 22 (.slice A xs.length c)) ∧ Below w1.heap.size w1 W)
      (fun _ _ _ => False)
      (OwnFrom.and (OwnFrom.and (Own.from (boxed_own _ _ _) _) (Own.from (boxed_own _ _ _) _)) (ownFrom_below (by omega) (by omega)))
      (fun _ _ _ _ _ hs _ _ => hs)
      ⟨⟨bS, bL⟩, hB0⟩
      (fun x a' W => ∃ Bx, w1.heap.size + 1 < Bx ∧ W.heap[Bx]? = some (.cells #[Value.int .i64 x.1.f0, Value.int .i64 x.1.f1] 29 (0, 0)) ∧ W.heap[Bx + 1]? = some (.cells #[Value.int .i64 x.2.f0, Value.int .i64 x.2.f1] 29 (0, 0)) ∧ a' = { tmps := #[.slice A xs.length c, undef, .int .i64 0, .pointer (some ⟨w1.heap.size, 0, none⟩), .pointer (some ⟨Bx, 0, none⟩), .pointer (some ⟨Bx + 1, 0, none⟩), .slice A xs.length c, .int .i64 0, .bool false, .slice A xs.length c, .func (.func 51) #[] #[.pointer (some ⟨w1.heap.size + 1, 0, none⟩)], .agg #[Value.int .i64 x.1.f0, Value.int .i64 x.1.f1], .agg #[Value.int .i64 x.2.f0, Value.int .i64 x.2.f1], undef, undef, undef, undef, undef, undef, undef, undef, undef, undef, undef, undef, undef, undef], defers := [] })
      (fun x a' _ X Y row hs hg hr => by
        obtain ⟨Bx, h1, h2, h2', h3⟩ := hs
        exact ⟨Bx, h1, (hg.block Bx (heap_lt h2) (fun e' => by obtain ⟨_, o, ho, hcc⟩ := hr Bx e'.symm; rw [h2] at ho; cases ho; cases hcc)).trans h2, (hg.block (Bx + 1) (heap_lt h2') (fun e' => by obtain ⟨_, o, ho, hcc⟩ := hr (Bx + 1) e'.symm; rw [h2'] at ho; cases ho; cases hcc)).trans h2', h3⟩)
      ?assign ?body ?done ?stop
    case assign =>
      rintro l pre x W K ⟨⟨b1, b2⟩, b3⟩ hK
      simp only [encP]
      gi_wp2
      exact hK _ _ (((KeepsOthers.alloc _ _).trans (KeepsOthers.alloc _ _)).from _) (KB.of_below (below_alloc (below_alloc (Below.refl _ W) _) _) (by have := b3.size; omega) b2.lt) ⟨⟨(b1.alloc _).alloc _, (b2.alloc _).alloc _⟩, (b3.alloc b3.size _).alloc (by have := b3.size; simp; omega) _⟩ ⟨W.heap.size, b2.lt, heap_alloc_keep (heap_alloc_new W _), by have h := heap_alloc_new (W.alloc (.cells #[Value.int .i64 x.1.f0, Value.int .i64 x.1.f1] 29)) (.cells #[Value.int .i64 x.2.f0, Value.int .i64 x.2.f1] 29); simpa using h, rfl⟩
    case body =>
      rintro l pre x a' W hl ⟨r, hr⟩ ⟨⟨b1, b2⟩, b3⟩ ⟨Bx, hBx, bX, bY, rfl⟩ hlt
      have cX1 := cell_of_heap bX 1 _ rfl
      have cY1 := cell_of_heap bY 1 _ rfl
      have cS := b1.cell
      have fS := b1.frozen
      have b1a := b1.set (.int .i64 (wrap64 (pre.foldl stepW 0 + x.2.f1)))
      have cS2 := b1a.cell
      have fS2 := b1a.frozen
      gi_wp2
      · have hx : x.1.f1 ≤ x.2.f1 := by assumption
        have e := snocW_pos pre x 0 hx
        refine ⟨((KeepsOthers.setCell _ _ _).trans (KeepsOthers.setCell _ _ _)).from _, (KB_set W _ (Nat.le_refl _) (by omega)).trans (KB_set _ _ (Nat.le_refl _) (by omega)), ⟨⟨?_, (b2.other (by omega) _).other (by omega) _⟩, (b3.setCell (Nat.le_refl _) _).setCell (Nat.le_refl _) _⟩⟩
        rw [e]
        exact b1a.set _
      · have hx : ¬ x.1.f1 ≤ x.2.f1 := by first | assumption | exact Int.not_le.2 (by assumption)
        have e := snocW_neg pre x 0 hx
        refine ⟨(KeepsOthers.setCell _ _ _).from _, KB_set W _ (Nat.le_refl _) (by omega), ⟨⟨?_, b2.other (by omega) _⟩, b3.setCell (Nat.le_refl _) _⟩⟩
        rw [e]
        exact b1a
    case done =>
      rintro D ys W hD rfl ⟨⟨b1, b2⟩, b3⟩ hK
      have hc := b1.cell
      gi_wp2
      refine ⟨by simp, .inl ⟨_, _, rfl, run_takeDeferred hK, ?_⟩⟩
      rw [HI.out]
      have e := HF.out
      refine ⟨_, results_tmp rfl _ _ _, ?_, HB1.out.trans ((b3.trans (belowK_b (w := w1) (Nat.le_refl _) W D _ _ (by omega) hK rfl rfl)).mono HB1.out.size)⟩
      simp [e]
    case stop =>
      rintro D c pre W _ _ h _
      exact h.elim
  · have dc : (chkK 2 xs == 0) = false := by simpa using hck
    have dc2 : (chkK 2 xs != 0) = true := by simpa using hck
    have HI := Aside0.mk (show inc xs = 0 by unfold inc; rw [if_neg hck])
    generalize chkK 2 xs = ck at *
    clear hck
    refine callsIn_of_wp_marks Try.func13 rfl trivial ?_ rfl
    simp only [Try.ntmps13, List.size_toArray, List.length_cons, List.length_nil, Nat.reduceAdd, Nat.reduceSub, Array.replicate_succ, Array.replicate_zero, List.push_toArray, List.append_toArray, List.nil_append, List.cons_append]
    gi_wp2_with (refine ⟨trivial, ?_⟩; gi_at_call 15; refine (callsIn_wide.2 HCK.out).mono ?_; rintro e w1 ⟨rfl, hb⟩; have HB1 := Aside0.mk hb; clear hb)
    rw [HI.out]
    exact ⟨_, results_tmp rfl _ _ _, rfl, HB1.out⟩
set_option maxRecDepth 100000 in
set_option maxHeartbeats 4000000 in
theorem Resets_in (A : Option Addr) (c : Nat) (xs : L29) (w : World) (hc : xs.length ≤ c) (hlx : xs.length ≤ 1000000) (hC1 : Kd.C k29 w A xs.length xs) :
    CallsIn Fence.wide 6 Try.prog 14 #[.slice A xs.length c] w fun e W' => e = .returned (.int .i64 (rst xs)) ∧ Below w.heap.size w W' := by
  have HCK := Aside0.mk (Check_calls 2 A c xs w hC1 hc hlx)
  by_cases hck : chkK 2 xs = 0
  · have HI := Aside0.mk (show rst xs = rstL xs by unfold rst; rw [if_pos hck])
    have HF := Aside0.mk (foldR xs 0 (by omega) (by have := (Cnt_of hck).2; omega))
    rw [hck] at HCK
    clear hck
    have hu32 := Try.underlying29
    refine callsIn_of_wp_marks Try.func14 rfl trivial ?_ rfl
    simp only [Try.ntmps14, List.size_toArray, List.length_cons, List.length_nil, Nat.reduceAdd, Nat.reduceSub, Array.replicate_succ, Array.replicate_zero, List.push_toArray, List.append_toArray, List.nil_append, List.cons_append]
    gi_wp2_with (first
      | (refine ⟨trivial, ?_⟩; gi_at_call 15; refine (callsIn_wide.2 HCK.out).mono ?_; rintro e w1 ⟨rfl, hb⟩; have HB1 := Aside0.mk hb; clear hb)
      | (refine ⟨trivial, ?_⟩; gi_at_call 35; refine (callsIn_wide.2 (neighbours_in _ _ _ _)).mono ?_; rintro e w' ⟨rfl, rfl⟩))
    have bS := (Boxed.new w1 3 (.int .i64 0)).alloc (.cells #[.slice A xs.length c] 22)
    have bL := Boxed.new (w1.alloc (.cells #[.int .i64 0] 3)) 22 (.slice A xs.length c)
    have hB0 : Below w1.heap.size w1 ((w1.alloc (.cells #[.int .i64 0] 3)).alloc (.cells #[.slice A xs.length c] 22)) := by
      repeat (first | exact Below.refl _ _ | apply below_alloc)
    have hsz : ((w1.alloc (.cells #[.int .i64 0] 3)).alloc (.cells #[.slice A xs.length c] 22)).heap.size = w1.heap.size + 2 := by simp
    obtain ⟨W0, hW0⟩ : ∃ W0, (w1.alloc (.cells #[.int .i64 0] 3)).alloc (.cells #[.slice A xs.length c] 22) = W0 := ⟨_, rfl⟩
    simp only [World.size_alloc] at bL
    rw [hW0] at bS bL hB0 hsz ⊢
    clear hW0
    have hC2 := Kd.C_below hC1 HB1.out
    clear hC1
    refine wpIn_rangeFunc_ownH rfl (by omega) (gf := 51) (lb := #[.pointer (some ⟨w1.heap.size + 1, 0, none⟩)]) rfl trivial (enters_of Try.func51 (by kernel_rfl) rfl)
      (neighbours_stops 5 (by omega) (w1.heap.size + 1) w1.heap.size A c xs hc W0 (by omega) (by omega) bL.cell
        (fun W' h => Kd.C_below hC2 (hB0.trans h))) KB.trans (KB_b (by omega) (by omega)) (Below.refl _ _) (fun _ => rfl)
      (fun pre W => (Boxed W w1.heap.size 3 (.int .i64 (pre.foldl stepR 0)) ∧ Boxed W (w1.heap.size + 1) 22 (.slice A xs.length c)) ∧ Below w1.heap.size w1 W)
      (fun _ _ _ => False)
      (OwnFrom.and (OwnFrom.and (Own.from (boxed_own _ _ _) _) (Own.from (boxed_own _ _ _) _)) (ownFrom_below (by omega) (by omega)))
      (fun _ _ _ _ _ hs _ _ => hs)
      ⟨⟨bS, bL⟩, hB0⟩
      (fun x a' W => ∃ Bx, w1.heap.size + 1 < Bx ∧ W.heap[Bx]? = some (.cells #[Value.int .i64 x.1.f0, Value.int .i64 x.1.f1] 29 (0, 0)) ∧ W.heap[Bx + 1]? = some (.cells #[Value.int .i64 x.2.f0, Value.int .i64 x.2.f1] 29 (0, 0)) ∧ a' = { tmps := #[.slice A xs.length c, undef, .int .i64 0, .pointer (some ⟨w1.heap.size, 0, none⟩), .pointer (some ⟨Bx, 0, none⟩), .pointer (some ⟨Bx + 1, 0, none⟩), .slice A xs.length c, .int .i64 0, .bool false, .slice A xs.length c, .func (.func 51) #[] #[.pointer (some ⟨w1.heap.size + 1, 0, none⟩)], .agg #[Value.int .i64 x.1.f0, Value.int .i64 x.1.f1], .agg #[Value.int .i64 x.2.f0, Value.int .i64 x.2.f1], undef, undef, undef, undef, undef, undef, undef, undef], defers := [] })
      (fun x a' _ X Y row hs hg hr => by
        obtain ⟨Bx, h1, h2, h2', h3⟩ := hs
        exact ⟨Bx, h1, (hg.block Bx (heap_lt h2) (fun e' => by obtain ⟨_, o, ho, hcc⟩ := hr Bx e'.symm; rw [h2] at ho; cases ho; cases hcc)).trans h2, (hg.block (Bx + 1) (heap_lt h2') (fun e' => by obtain ⟨_, o, ho, hcc⟩ := hr (Bx + 1) e'.symm; rw [h2'] at ho; cases ho; cases hcc)).trans h2', h3⟩)
      ?assign ?body ?done ?stop
    case assign =>
      rintro l pre x W K ⟨⟨b1, b2⟩, b3⟩ hK
      simp only [encP]
      gi_wp2
      exact hK _ _ (((KeepsOthers.alloc _ _).trans (KeepsOthers.alloc _ _)).from _) (KB.of_below (below_alloc (below_alloc (Below.refl _ W) _) _) (by have := b3.size; omega) b2.lt) ⟨⟨(b1.alloc _).alloc _, (b2.alloc _).alloc _⟩, (b3.alloc b3.size _).alloc (by have := b3.size; simp; omega) _⟩ ⟨W.heap.size, b2.lt, heap_alloc_keep (heap_alloc_new W _), by have h := heap_alloc_new (W.alloc (.cells #[Value.int .i64 x.1.f0, Value.int .i64 x.1.f1] 29)) (.cells #[Value.int .i64 x.2.f0, Value.int .i64 x.2.f1] 29); simpa using h, rfl⟩
    case body =>
      rintro l pre x a' W hl ⟨r, hr⟩ ⟨⟨b1, b2⟩, b3⟩ ⟨Bx, hBx, bX, bY, rfl⟩ hlt
      have cX1 := cell_of_heap bX 1 _ rfl
      have cY1 := cell_of_heap bY 1 _ rfl
      have cS := b1.cell
      have fS := b1.frozen
      gi_wp2
      · have hx : x.2.f1 < x.1.f1 := by assumption
        have e := snocR_pos pre x 0 hx
        refine ⟨(KeepsOthers.setCell _ _ _).from _, KB_set W _ (Nat.le_refl _) (by omega), ⟨⟨?_, b2.other (by omega) _⟩, b3.setCell (Nat.le_refl _) _⟩⟩
        rw [e]
        exact b1.set _
      · have hx : ¬ x.2.f1 < x.1.f1 := by first | assumption | exact Int.not_lt.2 (by assumption)
        have e := snocR_neg pre x 0 hx
        refine ⟨(KeepsOthers.refl _).from _, KB.refl _ _ _, ⟨⟨?_, b2⟩, b3⟩⟩
        rw [e]
        exact b1
    case done =>
      rintro D ys W hD rfl ⟨⟨b1, b2⟩, b3⟩ hK
      have hc := b1.cell
      gi_wp2
      refine ⟨by simp, .inl ⟨_, _, rfl, run_takeDeferred hK, ?_⟩⟩
      rw [HI.out]
      have e := HF.out
      refine ⟨_, results_tmp rfl _ _ _, ?_, HB1.out.trans ((b3.trans (belowK_b (w := w1) (Nat.le_refl _) W D _ _ (by omega) hK rfl rfl)).mono HB1.out.size)⟩
      simp [e]
    case stop =>
      rintro D c pre W _ _ h _
      exact h.elim
  · have dc : (chkK 2 xs == 0) = false := by simpa using hck
    have dc2 : (chkK 2 xs != 0) = true := by simpa using hck
    have HI := Aside0.mk (show rst xs = 0 by unfold rst; rw [if_neg hck])
    generalize chkK 2 xs = ck at *
    clear hck
    refine callsIn_of_wp_marks Try.func14 rfl trivial ?_ rfl
    simp only [Try.ntmps14, List.size_toArray, List.length_cons, List.length_nil, Nat.reduceAdd, Nat.reduceSub, Array.replicate_succ, Array.replicate_zero, List.push_toArray, List.append_toArray, List.nil_append, List.cons_append]
    gi_wp2_with (refine ⟨trivial, ?_⟩; gi_at_call 15; refine (callsIn_wide.2 HCK.out).mono ?_; rintro e w1 ⟨rfl, hb⟩; have HB1 := Aside0.mk hb; clear hb)
    rw [HI.out]
    exact ⟨_, results_tmp rfl _ _ _, rfl, HB1.out⟩

theorem Increase_calls (A : Option Addr) (c : Nat) (xs : L29) (w : World) (hC1 : Kd.C k29 w A xs.length xs) (hc : xs.length ≤ c) (hlx : xs.length ≤ 1000000) :
    Calls Try.prog 13 #[.slice A xs.length c] w fun e W' => e = .returned (.int .i64 (inc xs)) ∧ Below w.heap.size w W' :=
  callsIn_wide.1 (Increase_in A c xs w hc hlx hC1)
theorem Resets_calls (A : Option Addr) (c : Nat) (xs : L29) (w : World) (hC1 : Kd.C k29 w A xs.length xs) (hc : xs.length ≤ c) (hlx : xs.length ≤ 1000000) :
    Calls Try.prog 14 #[.slice A xs.length c] w fun e W' => e = .returned (.int .i64 (rst xs)) ∧ Below w.heap.size w W' :=
  callsIn_wide.1 (Resets_in A c xs w hc hlx hC1)
end Go.Proofs.Ytjgkcgfbkcbjfaa.H
