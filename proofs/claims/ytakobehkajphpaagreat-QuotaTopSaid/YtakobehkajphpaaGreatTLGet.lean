/- The contract of Get. -/
import Derived.Test.YtakobehkajphpaaGreatTLMarked
namespace Go.Proofs.YtakobehkajphpaaGreat.H
open Go Go.RowKit Go.Shelf Go.Proofs.YtakobehkajphpaaGreatW.PrintWords Go.Proofs.YtakobehkajphpaaGreatW.PrintLast Go.Proofs.YtakobehkajphpaaGreatW.PrintMore Go.Proofs.YtakobehkajphpaaGreat.PAll
set_option linter.unusedVariables false
set_option linter.unusedSimpArgs false
attribute [local go_sem] Oper.semAt_some

/-- The value of the first label with a name. -/
def getL : L94 → ByteArray → ByteArray
  | [], _ => ⟨#[]⟩
  | x :: l, n => if ab x.f0 = ab n then x.f1 else getL l n

theorem rGet_l0 (l : L94) (name : ByteArray) (hl : l.length ≤ 4611686018427387904) : ∀ (n k j : Nat), l.length - j = n → n < k → lookoutref05_Get.l0 k l name (j : Int) = some (getL (l.drop j) name) := by
  intro n
  induction n with
  | zero =>
    intro k j hn hk
    obtain ⟨k, rfl⟩ : ∃ m, k = m + 1 := ⟨k - 1, by omega⟩
    simp only [lookoutref05_Get.l0]
    rw [if_neg (by omega), List.drop_eq_nil_of_le (by omega)]
    rfl
  | succ n ih =>
    intro k j hn hk
    obtain ⟨k, rfl⟩ : ∃ m, k = m + 1 := ⟨k - 1, by omega⟩
    have hj : j < l.length := by omega
    simp only [lookoutref05_Get.l0]
    rw [if_pos (by omega), if_pos (by omega), rdT_get l j hj, List.drop_eq_getElem_cons hj, toList_ab, toList_ab, wrap1 j (by omega), ih k (j + 1) (by omega) (by omega)]
    simp only [getL]
    split <;> rfl
theorem rGet_calls (A0 : Option Addr) (c0 : Nat) (l : L94) (name : ByteArray) (w : World) (hr0 : Kd.C k94 w A0 l.length l) (hc0 : l.length ≤ c0) (hl : l.length ≤ 4611686018427387904) :
    Calls Tryz.prog 16 #[.slice A0 l.length c0, .string name] w fun e w' => e = .returned (.string (getL l name)) ∧ Drawn0 w w' :=
  lookoutref05_Get.calls (l.length + 1) A0 c0 l name _ w hr0 hc0 (by
    have := rGet_l0 l name hl l.length (l.length + 1) 0 (by omega) (by omega)
    simpa [lookoutref05_Get.f] using this)

theorem C_lit_str (W : World) (n : Nat) (hn : n = W.heap.size) (s : ByteArray) : Kd.C Kd.string (W.alloc (.cells #[.string s] 9)) (some ⟨n, 0, none⟩) [s].length [s] := by
  subst hn
  refine ⟨rfl, by simp, fun _ => ⟨_, rfl, fun j p hj => ?_⟩⟩
  rcases j with _ | j
  · simp at hj; subst hj
    refine ⟨[.string s], rfl, rfl, fun i u hu => ?_⟩
    rcases i with _ | i
    · simp at hu; subst hu
      rw [add_plain]
      exact cell_of_heap (heap_alloc_new W _) _ _ (by simp [Kd.string, Kd.scalar])
    · simp at hu
  · simp at hj

theorem hasN1 (n s : ByteArray) : hasN [n] s = (ab s == ab n) := by simp [hasN]
theorem getL_marks_none (name : ByteArray) : ∀ xs : L94, (∀ x ∈ marks [name] xs, x.2 = false) → getL xs name = ⟨#[]⟩
  | [], _ => rfl
  | x :: xs, h => by
    have h0 := h (x, hasN [name] x.f0) (by simp [marks])
    have ih := getL_marks_none name xs (fun y hy => h y (by simp only [marks, List.map_cons, List.mem_cons] at *; exact .inr hy))
    simp only [hasN1] at h0
    simp only [getL, ih]
    rw [if_neg (by simpa using h0)]
theorem getL_marks_at (name : ByteArray) : ∀ (xs : L94) (a : List (S94 × Bool)) (y : S94 × Bool), a ++ [y] <+: marks [name] xs → y.2 = true → (∀ z ∈ a, z.2 = false) → getL xs name = y.1.f1
  | [], a, y, h, _, _ => by
    have h := h.length_le
    simp [marks] at h
  | x :: xs, [], y, h, hy, _ => by
    have h1 : y = (x, hasN [name] x.f0) := by
      simp only [marks, List.map_cons, List.nil_append] at h
      exact (List.cons_prefix_cons.1 h).1
    subst h1
    simp only [hasN1] at hy
    simp only [getL]
    rw [if_pos (by simpa using hy)]
  | x :: xs, z :: a, y, h, hy, ha => by
    simp only [marks, List.map_cons, List.cons_append] at h
    obtain ⟨h1, h2⟩ := List.cons_prefix_cons.1 h
    have ih := getL_marks_at name xs a y h2 hy (fun z hz => ha z (by simp [hz]))
    have h0 := ha z (by simp)
    rw [h1] at h0
    simp only [hasN1] at h0
    simp only [getL, ih]
    rw [if_neg (by simpa using h0)]

set_option maxRecDepth 100000 in
set_option maxHeartbeats 4000000 in
theorem Get_in (A : Option Addr) (c : Nat) (xs : L94) (name : ByteArray) (w : World) (hc : xs.length ≤ c) (hlx : xs.length ≤ 4398046511103) (hC1 : Kd.C k94 w A xs.length xs) :
    CallsIn Fence.wide 6 Tryz.prog 15 #[.slice A xs.length c, .string name] w fun e W' => e = .returned (.string (getL xs name)) ∧ Below w.heap.size w W' := by
  obtain ⟨i0, hi, hz0, hz1, hz2⟩ := info_parts infoL
  have hu32 := Tryz.underlying94
  refine callsIn_of_wp_marks Tryz.func15 rfl trivial ?_ rfl
  simp only [Tryz.ntmps15, List.size_toArray, List.length_cons, List.length_nil, Nat.reduceAdd, Nat.reduceSub, Array.replicate_succ, Array.replicate_zero, List.push_toArray, List.append_toArray, List.nil_append, List.cons_append]
  gi_wp2_with (refine ⟨trivial, ?_⟩; gi_at_call 41; refine (callsIn_wide.2 (marked_in _ _ _ _ _ _ _)).mono ?_; rintro e w' ⟨rfl, rfl⟩)
  have bR := (((Boxed.new w 9 (.string ⟨#[]⟩)).alloc (.cells #[.string name] 9)).alloc (.cells #[.slice A xs.length c] 25)).alloc (.cells #[.slice (some ⟨w.heap.size + 1, 0, none⟩) 1 1] 92)
  have bL := (Boxed.new ((w.alloc (.cells #[.string ⟨#[]⟩] 9)).alloc (.cells #[.string name] 9)) 25 (.slice A xs.length c)).alloc (.cells #[.slice (some ⟨w.heap.size + 1, 0, none⟩) 1 1] 92)
  have bN := Boxed.new (((w.alloc (.cells #[.string ⟨#[]⟩] 9)).alloc (.cells #[.string name] 9)).alloc (.cells #[.slice A xs.length c] 25)) 92 (.slice (some ⟨w.heap.size + 1, 0, none⟩) 1 1)
  have hCN : Kd.C Kd.string ((w.alloc (.cells #[.string ⟨#[]⟩] 9)).alloc (.cells #[.string name] 9)) (some ⟨w.heap.size + 1, 0, none⟩) 1 [name] := C_lit_str _ _ (by simp) _
  have hC1' : Kd.C k94 ((w.alloc (.cells #[.string ⟨#[]⟩] 9)).alloc (.cells #[.string name] 9)) A xs.length xs := Kd.C_below hC1 (by repeat (first | exact Below.refl _ _ | apply below_alloc))
  have hB0 : Below (w.heap.size + 2) ((w.alloc (.cells #[.string ⟨#[]⟩] 9)).alloc (.cells #[.string name] 9)) ((((w.alloc (.cells #[.string ⟨#[]⟩] 9)).alloc (.cells #[.string name] 9)).alloc (.cells #[.slice A xs.length c] 25)).alloc (.cells #[.slice (some ⟨w.heap.size + 1, 0, none⟩) 1 1] 92)) := by
    have h := (show Below ((w.alloc (.cells #[.string ⟨#[]⟩] 9)).alloc (.cells #[.string name] 9)).heap.size ((w.alloc (.cells #[.string ⟨#[]⟩] 9)).alloc (.cells #[.string name] 9)) ((((w.alloc (.cells #[.string ⟨#[]⟩] 9)).alloc (.cells #[.string name] 9)).alloc (.cells #[.slice A xs.length c] 25)).alloc (.cells #[.slice (some ⟨w.heap.size + 1, 0, none⟩) 1 1] 92)) by repeat (first | exact Below.refl _ _ | apply below_alloc))
    simpa using h
  have hVs : ((w.alloc (.cells #[.string ⟨#[]⟩] 9)).alloc (.cells #[.string name] 9)).heap.size = w.heap.size + 2 := by simp
  have hBw : Below w.heap.size w ((((w.alloc (.cells #[.string ⟨#[]⟩] 9)).alloc (.cells #[.string name] 9)).alloc (.cells #[.slice A xs.length c] 25)).alloc (.cells #[.slice (some ⟨w.heap.size + 1, 0, none⟩) 1 1] 92)) := by
    repeat (first | exact Below.refl _ _ | apply below_alloc)
  have hsz : ((((w.alloc (.cells #[.string ⟨#[]⟩] 9)).alloc (.cells #[.string name] 9)).alloc (.cells #[.slice A xs.length c] 25)).alloc (.cells #[.slice (some ⟨w.heap.size + 1, 0, none⟩) 1 1] 92)).heap.size = w.heap.size + 4 := by simp
  generalize (w.alloc (.cells #[.string ⟨#[]⟩] 9)).alloc (.cells #[.string name] 9) = V at *
  generalize (V.alloc (.cells #[.slice A xs.length c] 25)).alloc (.cells #[.slice (some ⟨w.heap.size + 1, 0, none⟩) 1 1] 92) = W0 at *
  simp only [World.size_alloc, hVs] at bL bN
  refine wpIn_rangeFunc_ownH rfl (by omega) (gf := 67) (lb := #[.pointer (some ⟨w.heap.size + 1 + 1, 0, none⟩), .pointer (some ⟨w.heap.size + 1 + 1 + 1, 0, none⟩)]) rfl trivial (enters_of Tryz.func67 (by kernel_rfl) rfl)
    (marked_stops 5 (by omega) (w.heap.size + 1 + 1) (w.heap.size + 1 + 1 + 1) (w.heap.size + 2) A (some ⟨w.heap.size + 1, 0, none⟩) c 1 xs [name] hc (by simp) (by simp) W0 (by omega) (by omega) (by omega) bL.cell bN.cell
      (fun W' h => ⟨Kd.C_below hC1' (by rw [hVs]; exact hB0.trans h), Kd.C_below hCN (by rw [hVs]; exact hB0.trans h)⟩)) KB.trans (KB_b (by omega) (by omega)) (Below.refl _ _) (fun _ => rfl)
    (fun pre W => ((Boxed W w.heap.size 9 (.string ⟨#[]⟩) ∧ Boxed W (w.heap.size + 1 + 1 + 1) 92 (.slice (some ⟨w.heap.size + 1, 0, none⟩) 1 1)) ∧ Below w.heap.size w W) ∧ (∀ x ∈ pre, x.2 = false))
    (fun cd p W => ∃ px : List (S94 × Bool) × (S94 × Bool), (Boxed W w.heap.size 9 (.string px.2.1.f1) ∧ Below w.heap.size w W) ∧ (cd = .ret ∧ p = px.1 ++ [px.2] ∧ px.2.2 = true ∧ ∀ y ∈ px.1, y.2 = false))
    (OwnFrom.and (OwnFrom.and (OwnFrom.and (Own.from (boxed_own _ _ _) _) (Own.from (boxed_own _ _ _) _)) (ownFrom_below (by omega) (by omega))) (fun _ _ _ _ hs _ _ => hs))
    (fun cd => fun s X Y row hs hg hr => by
      obtain ⟨px, hs1, hs2⟩ := hs
      exact ⟨px, OwnFrom.and (Own.from (boxed_own w.heap.size 9 (fun q : List (S94 × Bool) × (S94 × Bool) => Value.string q.2.1.f1)) _) (ownFrom_below (by omega) (by omega)) px X Y row hs1 hg hr, hs2⟩)
    ⟨⟨⟨bR, bN⟩, hBw⟩, by simp⟩
    (fun x a' W => ∃ Bx, w.heap.size + 1 < Bx ∧ W.heap[Bx]? = some (.cells #[.string x.1.f0, .string x.1.f1] 94 (0, 0)) ∧ a' = { tmps := #[.slice A xs.length c, .string name, undef, undef, .pointer (some ⟨w.heap.size, 0, none⟩), .pointer (some ⟨Bx, 0, none⟩), .bool x.2, .slice A xs.length c, .string name, .slice (some ⟨w.heap.size + 1, 0, none⟩) 1 1, .func (.func 67) #[] #[.pointer (some ⟨w.heap.size + 1 + 1, 0, none⟩), .pointer (some ⟨w.heap.size + 1 + 1 + 1, 0, none⟩)], .agg #[.string x.1.f0, .string x.1.f1], .bool x.2, undef, undef, undef], defers := [] })
    (fun x a' _ X Y row hs hg hr => by
      obtain ⟨Bx, h1, h2, h3⟩ := hs
      exact ⟨Bx, h1, (hg.block Bx (heap_lt h2) (fun e' => by obtain ⟨_, o, ho, hcc⟩ := hr Bx e'.symm; rw [h2] at ho; cases ho; cases hcc)).trans h2, h3⟩)
    ?assign ?body ?done ?stop
  case assign =>
    rintro l pre x W K ⟨⟨⟨b1, b2⟩, b3⟩, b4⟩ hK
    simp only [encM]
    gi_wp2
    exact hK _ _ ((KeepsOthers.alloc _ _).from _) (KB.of_below (below_alloc (Below.refl _ W) _) (by have := b2.lt; omega) b2.lt) ⟨⟨⟨b1.alloc _, b2.alloc _⟩, b3.alloc b3.size _⟩, b4⟩ ⟨W.heap.size, by have := b2.lt; omega, heap_alloc_new W _, rfl⟩
  case body =>
    rintro l pre x a' W hl ⟨r, hr⟩ ⟨⟨⟨b1, b2⟩, b3⟩, b4⟩ ⟨Bx, hBx, bX, rfl⟩ hlt
    have cX0 := cell_of_heap bX 0 _ rfl
    have cX1 := cell_of_heap bX 1 _ rfl
    have cR := b1.cell
    have fR := b1.frozen
    gi_wp2
    · have hx : x.2 = true := by assumption
      exact ⟨KeepsFrom.of_grownBy (grownBy_setCell' W w.heap.size _) (fun j e => by cases e; omega), (pre, x), ⟨b1.set _, b3.setCell (Nat.le_refl _) _⟩, rfl, rfl, hx, b4⟩
    · have hx : x.2 = false := by assumption
      exact ⟨KeepsFrom.refl _ _, KB.refl _ _ _, ⟨⟨b1, b2⟩, b3⟩, fun y hy => by rcases List.mem_append.1 hy with hy | hy; exact b4 y hy; rw [List.mem_singleton.1 hy]; exact hx⟩
  case done =>
    rintro D ys W hD rfl ⟨⟨⟨b1, b2⟩, b3⟩, b4⟩ hK
    have hc := b1.cell
    have hf := b1.frozen
    gi_wp2
    have hK2 : (W.setCell { block := w.heap.size, off := 0 } (Value.string { data := #[] })).heap[D]? = some (Obj.deferred (some [])) := (KeepsOthers.setCell _ _ _).same D _ hK rfl
    refine ⟨by simp, .inl ⟨_, _, rfl, run_takeDeferred hK2, ?_⟩⟩
    have hc2 := cell_kept (b1.set (.string ⟨#[]⟩)).cell (grownBy_putObj' _ D (.deferred none)) (fun r e => by cases e; exact ⟨_, hK2, rfl⟩)
    have b5 := b3.setCell (p := ⟨w.heap.size, 0, none⟩) (Nat.le_refl _) (Value.string ⟨#[]⟩)
    rw [getL_marks_none _ _ b4]
    exact ⟨_, by simp [results, Tryz.results15, go_sem, hc2], rfl, b5.trans (belowK_b (w := w) (Nat.le_refl _) _ D _ _ (by omega) hK2 rfl rfl)⟩
  case stop =>
    rintro D cd pre W hD hp ⟨px, ⟨b1, b3⟩, rfl, hpx1, hpx2, hpx3⟩ hK
    have hc := b1.cell
    have HG := Aside0.mk (getL_marks_at name xs px.1 px.2 (hpx1 ▸ hp) hpx2 hpx3)
    clear hpx1 hpx2 hpx3 hp
    gi_wp2
    refine ⟨by simp, .inl ⟨_, _, rfl, run_takeDeferred hK, ?_⟩⟩
    have hc2 := cell_kept b1.cell (grownBy_putObj' _ D (.deferred none)) (fun r e => by cases e; exact ⟨_, hK, rfl⟩)
    rw [HG.out]
    exact ⟨_, by simp [results, Tryz.results15, go_sem, hc2], rfl, b3.trans (belowK_b (w := w) (Nat.le_refl _) _ D _ _ (by omega) hK rfl rfl)⟩

/-- The contract of Get. -/
theorem Get_calls (A : Option Addr) (c : Nat) (xs : L94) (name : ByteArray) (w : World) (hC1 : Kd.C k94 w A xs.length xs) (hc : xs.length ≤ c) (hlx : xs.length ≤ 4398046511103) :
    Calls Tryz.prog 15 #[.slice A xs.length c, .string name] w fun e W' => e = .returned (.string (getL xs name)) ∧ Below w.heap.size w W' :=
  callsIn_wide.1 (Get_in A c xs name w hc hlx hC1)
end Go.Proofs.YtakobehkajphpaaGreat.H
