/- labels.selected, Keep, Drop: the labels whose name is one of some names, or the others. -/
import Derived.Test.YtiooenmbondflaaHMarked
import Derived.Test.YtiooenmbondflaaHBB
namespace Go.Proofs.Ytiooenmbondflaa.H
open Go Go.RowKit Go.Shelf Go.Proofs.YtiooenmbondflaaW.PrintWords Go.Proofs.YtiooenmbondflaaW.PrintLast Go.Proofs.YtiooenmbondflaaW.PrintMore Go.Proofs.Ytiooenmbondflaa.PAll
set_option linter.unusedVariables false
set_option linter.unusedSimpArgs false
attribute [local go_sem] Oper.semAt_some

/-- The cells of some labels. -/
def lcells (l : L32) : List Value := l.flatMap fun x => [.string x.f0, .string x.f1]
theorem lcells_length (l : L32) : (lcells l).length = l.length * 2 := by
  induction l with
  | nil => rfl
  | cons x l ih => simp only [lcells, List.flatMap_cons, List.length_append, List.length_cons, List.length_nil] at *; omega
theorem lcells_append (a b : L32) : lcells (a ++ b) = lcells a ++ lcells b := by simp [lcells]
theorem reps_aux (W : World) (base : Nat) (ok : Nat → Prop) : ∀ (l pre : L32), Reps (k32.M W base ok) k32.sz pre (lcells pre) → Reps (k32.M W base ok) k32.sz (pre ++ l) (lcells (pre ++ l))
  | [], pre, h => by simpa using h
  | x :: l, pre, h => by
    have := reps_aux W base ok l (pre ++ [x]) (by rw [lcells_append]; exact h.snoc (k32_mkM W base ok x) rfl)
    simpa using this
theorem reps_lcells (W : World) (base : Nat) (ok : Nat → Prop) (l : L32) : Reps (k32.M W base ok) k32.sz l (lcells l) := by
  have := reps_aux W base ok l [] (Reps.none _ _)
  simpa using this
theorem R_of_lcells {W : World} {base : Nat} {v : Value} {l : L32} (h : W.ownsRow base 32 2 v l.length (lcells l)) : Kd.R k32 32 W base (fun _ => True) v l :=
  ⟨fun _ _ => trivial, lcells l, h, reps_lcells W base _ l⟩

theorem infoL : (Try.prog.info? 32).map (fun i => (i.zero, i.size, i.bytes)) = some (some (.agg #[.string ⟨#[]⟩, .string ⟨#[]⟩]), 2, 32) := by kernel_rfl

def selM (wanted : Bool) (pre : List (S32 × Bool)) : L32 := (pre.filter fun y => y.2 == wanted).map (·.1)
def sel (names : List ByteArray) (wanted : Bool) (l : L32) : L32 := l.filter fun x => hasN names x.f0 == wanted
theorem selM_marks (names : List ByteArray) (wanted : Bool) (l : L32) : selM wanted (marks names l) = sel names wanted l := by
  induction l with
  | nil => rfl
  | cons x l ih =>
    simp only [selM, marks, sel, List.map_cons, List.filter_cons] at *
    split <;> simp_all
theorem selM_snoc (wanted : Bool) (pre : List (S32 × Bool)) (x : S32 × Bool) : selM wanted (pre ++ [x]) = selM wanted pre ++ (if x.2 == wanted then [x.1] else []) := by
  simp only [selM, List.filter_append, List.map_append, List.filter_cons, List.filter_nil]
  split <;> simp
theorem selM_len (wanted : Bool) (pre : List (S32 × Bool)) : (selM wanted pre).length ≤ pre.length := by
  unfold selM; rw [List.length_map]; exact List.length_filter_le _ _

set_option maxRecDepth 100000 in
set_option maxHeartbeats 4000000 in
theorem selected_in (A An : Option Addr) (c cn : Nat) (xs : L32) (names : List ByteArray) (wanted : Bool) (w : World) (hc : xs.length ≤ c) (hcn : names.length ≤ cn) (hln : names.length ≤ 4611686018427387904) (hlx : xs.length ≤ 4398046511103)
    (hC1 : Kd.C k32 w A xs.length xs) (hC2 : Kd.C Kd.string w An names.length names) :
    CallsIn Fence.wide 6 Try.prog 41 #[.slice A xs.length c, .slice An names.length cn, .bool wanted] w fun e W' => ∃ v, e = .returned v ∧ Kd.R k32 32 W' w.heap.size (fun _ => True) v (sel names wanted xs) ∧ Below w.heap.size w W' := by
  obtain ⟨i0, hi, hz0, hz1, hz2⟩ := info_parts infoL
  refine callsIn_of_wp_marks Try.func41 rfl trivial ?_ rfl
  simp only [Try.ntmps41, List.size_toArray, List.length_cons, List.length_nil, Nat.reduceAdd, Nat.reduceSub, Array.replicate_succ, Array.replicate_zero, List.push_toArray, List.append_toArray, List.nil_append, List.cons_append]
  gi_wp2_with (refine ⟨trivial, ?_⟩; gi_at_call 48; refine (callsIn_wide.2 (marked_in _ _ _ _ _ _ _)).mono ?_; rintro e w' ⟨rfl, rfl⟩)
  have bT := (((Boxed.new w 4 (.bool wanted)).alloc (.cells #[.slice none 0 0] 22)).alloc (.cells #[.slice A xs.length c] 22)).alloc (.cells #[.slice An names.length cn] 36)
  have bO := ((Boxed.new (w.alloc (.cells #[.bool wanted] 4)) 22 (.slice none 0 0)).alloc (.cells #[.slice A xs.length c] 22)).alloc (.cells #[.slice An names.length cn] 36)
  have bL := (Boxed.new ((w.alloc (.cells #[.bool wanted] 4)).alloc (.cells #[.slice none 0 0] 22)) 22 (.slice A xs.length c)).alloc (.cells #[.slice An names.length cn] 36)
  have bN := Boxed.new (((w.alloc (.cells #[.bool wanted] 4)).alloc (.cells #[.slice none 0 0] 22)).alloc (.cells #[.slice A xs.length c] 22)) 36 (.slice An names.length cn)
  simp only [World.size_alloc] at bO bL bN
  have hB0 : Below w.heap.size w ((((w.alloc (.cells #[.bool wanted] 4)).alloc (.cells #[.slice none 0 0] 22)).alloc (.cells #[.slice A xs.length c] 22)).alloc (.cells #[.slice An names.length cn] 36)) := by
    repeat (first | exact Below.refl _ _ | apply below_alloc)
  have hsz : ((((w.alloc (.cells #[.bool wanted] 4)).alloc (.cells #[.slice none 0 0] 22)).alloc (.cells #[.slice A xs.length c] 22)).alloc (.cells #[.slice An names.length cn] 36)).heap.size = w.heap.size + 4 := by simp
  obtain ⟨W0, hW0⟩ : ∃ W0, (((w.alloc (.cells #[.bool wanted] 4)).alloc (.cells #[.slice none 0 0] 22)).alloc (.cells #[.slice A xs.length c] 22)).alloc (.cells #[.slice An names.length cn] 36) = W0 := ⟨_, rfl⟩
  rw [hW0] at bT bO bL bN hB0 hsz ⊢
  clear hW0
  refine wpIn_rangeFunc_ownH rfl (by omega) (gf := 62) (lb := #[.pointer (some ⟨w.heap.size + 1 + 1, 0, none⟩), .pointer (some ⟨w.heap.size + 1 + 1 + 1, 0, none⟩)]) rfl trivial (enters_of Try.func62 (by kernel_rfl) rfl)
    (marked_stops 5 (by omega) (w.heap.size + 1 + 1) (w.heap.size + 1 + 1 + 1) w.heap.size A An c cn xs names hc hcn hln W0 (by omega) (by omega) (by omega) bL.cell bN.cell
      (fun W' h => ⟨Kd.C_below hC1 (hB0.trans h), Kd.C_below hC2 (hB0.trans h)⟩)) KB.trans (KB_b (by omega) (by omega)) (Below.refl _ _) (fun _ => rfl)
    (fun pre W => ((∃ v, Boxed W (w.heap.size + 1) 22 v ∧ W.ownsRow w.heap.size 32 2 v (selM wanted pre).length (lcells (selM wanted pre)) ∧ True) ∧ Boxed W w.heap.size 4 (.bool wanted) ∧ Boxed W (w.heap.size + 1 + 1 + 1) 36 (.slice An names.length cn)) ∧ Below w.heap.size w W)
    (fun _ _ _ => False)
    (OwnFrom.and (OwnFrom.and (Own.from (holdsRow_own w.heap.size (w.heap.size + 1) 22 32 2 (fun pre => (selM wanted pre).length) (fun pre => lcells (selM wanted pre)) (fun _ _ => True)) _) (OwnFrom.and (Own.from (boxed_own _ _ _) _) (Own.from (boxed_own _ _ _) _))) (ownFrom_below (Nat.le_refl _) (by omega)))
    (fun _ _ _ _ _ hs _ _ => hs)
    ⟨⟨⟨_, bO, World.ownsRow_nil _ _ _ _, trivial⟩, bT, bN⟩, hB0⟩
    (fun x a' W => ∃ Bx, w.heap.size + 1 < Bx ∧ W.heap[Bx]? = some (.cells #[.string x.1.f0, .string x.1.f1] 32 (0, 0)) ∧ a' = { tmps := #[.slice A xs.length c, .slice An names.length cn, .bool wanted, undef, undef, .pointer (some ⟨w.heap.size, 0, none⟩), .slice none 0 0, .pointer (some ⟨w.heap.size + 1, 0, none⟩), .pointer (some ⟨Bx, 0, none⟩), .bool x.2, .slice A xs.length c, .slice An names.length cn, .func (.func 62) #[] #[.pointer (some ⟨w.heap.size + 1 + 1, 0, none⟩), .pointer (some ⟨w.heap.size + 1 + 1 + 1, 0, none⟩)], .agg #[.string x.1.f0, .string x.1.f1], .bool x.2, undef, undef, undef, undef, undef, undef, undef, undef], defers := [] })
    (fun x a' _ X Y row hs hg hr => by
      obtain ⟨Bx, h1, h2, h3⟩ := hs
      exact ⟨Bx, h1, (hg.block Bx (heap_lt h2) (fun e' => by obtain ⟨_, o, ho, hcc⟩ := hr Bx e'.symm; rw [h2] at ho; cases ho; cases hcc)).trans h2, h3⟩)
    ?assign ?body ?done ?stop
  case assign =>
    rintro l pre x W K ⟨⟨⟨v, bO1, hrow, _⟩, bT1, bN1⟩, hB1⟩ hK
    simp only [encM]
    gi_wp2
    exact hK _ _ ((KeepsOthers.alloc _ _).from _) (KB.of_below (below_alloc (Below.refl _ W) _) hB1.size bN1.lt) ⟨⟨⟨v, bO1.alloc _, hrow.alloc _, trivial⟩, bT1.alloc _, bN1.alloc _⟩, hB1.alloc hB1.size _⟩ ⟨W.heap.size, bO1.lt, heap_alloc_new W _, rfl⟩
  case body =>
    rintro l pre x a' W hl ⟨r, hr⟩ ⟨⟨⟨v, bO1, hrow, _⟩, bT1, bN1⟩, hB1⟩ ⟨Bx, hBx, bX, rfl⟩ hlt
    have cT := bT1.cell
    have cO := bO1.cell
    have cX0 := cell_of_heap bX 0 _ rfl
    have cX1 := cell_of_heap bX 1 _ rfl
    have hpl := selM_len wanted pre
    have hs := selM_snoc wanted pre x
    have HS := Aside0.mk hs
    clear hs
    have hlx' : pre.length < 4398046511103 := by omega
    gi_wp2_with (gi_at_builtin; refine wpListIn_append_own _ rfl _ _ 22 rfl w.heap.size 32 i0 (.agg #[.string ⟨#[]⟩, .string ⟨#[]⟩]) 2 32 Try.underlying22 hi hz0 hz1 hz2 rfl (by decide) _ _ _ rfl (hrow.alloc _) ⟨W.heap.size, 0, none⟩ 1 1 [.string x.1.f0, .string x.1.f1] rfl rfl (fun j u hu => by rw [add_plain]; exact cell_of_heap (heap_alloc_new W _) j u (by simpa using hu)) (by simp [Value.oneCell']) (by unfold maxLen; omega) (by omega) (by have := hB1.size; simp; omega) ?_; intro v' w1 hown' hgrow _; obtain ⟨g', cap', rfl⟩ := ownsRow_succ hown'; obtain ⟨hv1, hv2, hr2, hk2, hb2⟩ := bO1.appended (by decide) hrow hB1.size (by omega) hown' hgrow; have bT2 := ((bT1.alloc _).kept hgrow (bT1.not_row (by decide) hrow)).other (B' := w.heap.size + 1) (by omega) (.slice (some ⟨g', 0, none⟩) ((selM wanted pre).length + 1) cap'); have bN2 := ((bN1.alloc _).kept hgrow (bN1.not_row (by decide) hrow)).other (B' := w.heap.size + 1) (by omega) (.slice (some ⟨g', 0, none⟩) ((selM wanted pre).length + 1) cap'); have HX := Aside0.mk (And.intro hr2 (And.intro hk2 (And.intro hb2 (And.intro hv2 (And.intro bT2 bN2))))); clear hr2 hk2 hb2 hv2 bT2 bN2; have hc1 := hv1.cell; have hf1 := hv1.frozen)
    · have hx : (x.2 == wanted) = true := by assumption
      obtain ⟨hr2, hk2, hb2, hv2, bT2, bN2⟩ := HX.out
      have e : selM wanted (pre ++ [x]) = selM wanted pre ++ [x.1] := by rw [HS.out, hx]; rfl
      refine ⟨hk2.from _, ⟨hb2, bN2.trans bN1.symm⟩, ⟨⟨_, hv2, ?_, trivial⟩, bT2, bN2⟩, hB1.trans hb2⟩
      rw [e, List.length_append, lcells_append]
      simpa [lcells] using hr2
    · have hx : (x.2 == wanted) = false := by assumption
      have e : selM wanted (pre ++ [x]) = selM wanted pre := by rw [HS.out, hx]; simp
      exact ⟨KeepsFrom.refl _ _, KB.refl _ _ _, ⟨⟨v, bO1, by rw [e]; exact hrow, trivial⟩, bT1, bN1⟩, hB1⟩
  case done =>
    rintro D ys W hD rfl ⟨⟨⟨v, bO1, hrow, _⟩, bT1, bN1⟩, hB1⟩ hK
    have hc := bO1.cell
    gi_wp2
    refine ⟨by simp, .inl ⟨_, _, rfl, run_takeDeferred hK, ?_⟩⟩
    rw [selM_marks] at hrow
    exact ⟨_, results_tmp rfl _ _ _, v, rfl, R_of_lcells (ownsRow_putObj hrow _ hK rfl), hB1.trans (belowK_b (w := w) (Nat.le_refl _) W D _ _ (by omega) hK rfl rfl)⟩
  case stop =>
    rintro D c pre W _ _ h _
    exact h.elim

/-- The words of the contracts of Keep and Drop. -/
theorem selected_calls (A An : Option Addr) (c cn : Nat) (xs : L32) (names : List ByteArray) (wanted : Bool) (w : World) (hc : xs.length ≤ c) (hcn : names.length ≤ cn) (hln : names.length ≤ 4611686018427387904) (hlx : xs.length ≤ 4398046511103)
    (hC1 : Kd.C k32 w A xs.length xs) (hC2 : Kd.C Kd.string w An names.length names) :
    Calls Try.prog 41 #[.slice A xs.length c, .slice An names.length cn, .bool wanted] w fun e W' => ∃ v, e = .returned v ∧ Kd.R k32 32 W' w.heap.size (fun _ => True) v (sel names wanted xs) ∧ Below w.heap.size w W' :=
  callsIn_wide.1 (selected_in A An c cn xs names wanted w hc hcn hln hlx hC1 hC2)

set_option maxHeartbeats 1000000 in
theorem Keep_calls (A An : Option Addr) (c cn : Nat) (xs : L32) (names : List ByteArray) (w : World) (hc : xs.length ≤ c) (hcn : names.length ≤ cn) (hln : names.length ≤ 4611686018427387904) (hlx : xs.length ≤ 4398046511103)
    (hC1 : Kd.C k32 w A xs.length xs) (hC2 : Kd.C Kd.string w An names.length names) :
    Calls Try.prog 22 #[.slice A xs.length c, .slice An names.length cn] w fun e W' => ∃ v, e = .returned v ∧ Kd.R k32 32 W' w.heap.size (fun _ => True) v (sel names true xs) ∧ Below w.heap.size w W' := by
  have H := Aside0.mk (selected_calls A An c cn xs names true w hc hcn hln hlx hC1 hC2)
  clear hC1 hC2
  generalize sel names true xs = r at *
  go_enter Try.func22, Try.ntmps22
  go_wp2_with (go_at_call 41; refine H.out.mono ?_; rintro e w' ⟨v, rfl, hR, hB⟩; have HR := Aside0.mk (And.intro hR hB); clear hR hB)
  go_ret
  exact ⟨_, rfl, HR.out.1, HR.out.2⟩

set_option maxHeartbeats 1000000 in
theorem Drop_calls (A An : Option Addr) (c cn : Nat) (xs : L32) (names : List ByteArray) (w : World) (hc : xs.length ≤ c) (hcn : names.length ≤ cn) (hln : names.length ≤ 4611686018427387904) (hlx : xs.length ≤ 4398046511103)
    (hC1 : Kd.C k32 w A xs.length xs) (hC2 : Kd.C Kd.string w An names.length names) :
    Calls Try.prog 23 #[.slice A xs.length c, .slice An names.length cn] w fun e W' => ∃ v, e = .returned v ∧ Kd.R k32 32 W' w.heap.size (fun _ => True) v (sel names false xs) ∧ Below w.heap.size w W' := by
  have H := Aside0.mk (selected_calls A An c cn xs names false w hc hcn hln hlx hC1 hC2)
  clear hC1 hC2
  generalize sel names false xs = r at *
  go_enter Try.func23, Try.ntmps23
  go_wp2_with (go_at_call 41; refine H.out.mono ?_; rintro e w' ⟨v, rfl, hR, hB⟩; have HR := Aside0.mk (And.intro hR hB); clear hR hB)
  go_ret
  exact ⟨_, rfl, HR.out.1, HR.out.2⟩
end Go.Proofs.Ytiooenmbondflaa.H
