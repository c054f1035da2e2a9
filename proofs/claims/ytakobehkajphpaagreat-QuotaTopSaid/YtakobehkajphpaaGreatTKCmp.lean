/- The comparisons by which items are arranged, and arrange. -/
import Derived.Test.YtakobehkajphpaaGreatTKPure
import Derived.Test.YtakobehkajphpaaGreatTKSort
import Derived.Test.YtakobehkajphpaaGreatTGCmpInt
import Derived.Test.YtakobehkajphpaaGreatTHStr
import Derived.Deep.RegionHeld3
namespace Go.Proofs.YtakobehkajphpaaGreat.K
open Go Go.RowKit Go.Proofs.YtakobehkajphpaaGreatW.PrintWords Go.Proofs.YtakobehkajphpaaGreatW.PrintLast Go.Proofs.YtakobehkajphpaaGreatW.PrintMore Go.Proofs.YtakobehkajphpaaGreat.PAll
open Go.Sort (SWO)
attribute [local go_sem] HS.run_gtr HS.run_leq HS.run_geq
set_option linter.unusedVariables false
set_option linter.unusedSimpArgs false

theorem toList_ab (s : ByteArray) : s.toList = ab s := ByteArray.toList_eq s
def cmpK (a b : ByteArray) : Int := if ltK a b = true then -1 else if ltK b a = true then 1 else 0
set_option maxHeartbeats 1000000 in
theorem cmpS_calls (a b : ByteArray) (w : World) : Calls Tryz.prog 73 #[.string a, .string b] w fun e w' => e = .returned (.int .i64 (cmpK a b)) ∧ w' = w := by
  have h1 : (!(a.toList == a.toList)) = false := by simp
  have h2 : (!(b.toList == b.toList)) = false := by simp
  have h1' : (a.toList != a.toList) = false := by simp
  have h2' : (b.toList != b.toList) = false := by simp
  have E := Aside0.mk (show cmpK a b = if Op.bytesLess a.toList b.toList = true then -1 else if Op.bytesLess b.toList a.toList = true then 1 else 0 by rw [toList_ab, toList_ab]; rfl)
  by_cases hx : Op.bytesLess a.toList b.toList = true
  · rw [if_pos hx] at E
    go_enter Tryz.func73, Tryz.ntmps73
    go_wp2
    go_ret
    exact ⟨by rw [E.out]; rfl, rfl⟩
  · rw [if_neg hx] at E
    have hx' : Op.bytesLess a.toList b.toList = false := by simpa using hx
    clear hx
    by_cases hy : Op.bytesLess b.toList a.toList = true
    · rw [if_pos hy] at E
      have hq : (a.toList == b.toList) = false := by
        cases h : a.toList == b.toList
        · rfl
        · rw [beq_iff_eq] at h; rw [h, bl_irr] at hy; cases hy
      go_enter Tryz.func73, Tryz.ntmps73
      go_wp2
      go_ret
      exact ⟨by rw [E.out]; rfl, rfl⟩
    · rw [if_neg hy] at E
      have hy' : Op.bytesLess b.toList a.toList = false := by simpa using hy
      clear hy
      have hq : (a.toList == b.toList) = true := by rw [beq_iff_eq]; exact bl_total _ _ hx' hy'
      go_enter Tryz.func73, Tryz.ntmps73
      go_wp2
      go_ret
      exact ⟨by rw [E.out]; rfl, rfl⟩

set_option maxHeartbeats 2000000 in
theorem Or_calls (W : World) (n : Nat) (a b : Int) (h0 : W.cell? ⟨n, 0, none⟩ = some (.int .i64 a)) (h1 : W.cell? ⟨n, 1, none⟩ = some (.int .i64 b)) :
    Calls Tryz.prog 72 #[.slice (some ⟨n, 0, none⟩) 2 2] W fun e w' => e = .returned (.int .i64 (if a = 0 then b else a)) ∧ w' = W := by
  have E := Aside0.mk (rfl : (if a = 0 then b else a) = (if a = 0 then b else a))
  by_cases ha : a = 0
  · rw [if_pos ha] at *
    subst ha
    go_enter Tryz.func72, Tryz.ntmps72
    go_wp2_with fail
    refine wp_loop_rounds 3 ?_
    rw [rounds_succ]
    go_wp2_with fail
    rw [rounds_succ]
    go_wp2_with fail
    all_goals first
      | (go_ret; exact ⟨rfl, rfl⟩)
      | (have hb : b = 0 := by (have h : (b != 0) = false := by assumption); simpa using h
         subst hb
         rw [rounds_succ]
         go_wp2_with fail
         go_ret; exact ⟨rfl, rfl⟩)
  · rw [if_neg ha] at *
    have hd : (a == 0) = false := by simpa using ha
    have hd' : (a != 0) = true := by simpa using ha
    clear ha
    go_enter Tryz.func72, Tryz.ntmps72
    go_wp2_with fail
    refine wp_loop_rounds 1 ?_
    rw [rounds_succ]
    go_wp2_with fail
    go_ret
    exact ⟨rfl, rfl⟩

theorem Or_new (W : World) (n : Nat) (hn : n = W.heap.size) (a b : Int) :
    Calls Tryz.prog 72 #[.slice (some ⟨n, 0, none⟩) 2 2] (W.alloc (.cells #[.int .i64 a, .int .i64 b] 3)) fun e w' => e = .returned (.int .i64 (if a = 0 then b else a)) ∧ w' = W.alloc (.cells #[.int .i64 a, .int .i64 b] 3) := by
  subst hn
  exact Or_calls _ _ a b (cell_of_heap (heap_alloc_new W _) 0 _ rfl) (cell_of_heap (heap_alloc_new W _) 1 _ rfl)
/-- By count, the greatest first; then by key. -/
def cf1 (x y : S64) : Int := if cmpI y.f1 x.f1 = 0 then cmpK x.f0 y.f0 else cmpI y.f1 x.f1
def cf2 (x y : S64) : Int := cmpK x.f0 y.f0
theorem cmpK_lt (a b : ByteArray) : cmpK a b < 0 ↔ ltK a b = true := by
  unfold cmpK
  split
  · simp [*]
  · split <;> simp [*]
theorem lt1 (x y : S64) : ltOf cf1 x y = true ↔ y.f1 < x.f1 ∨ y.f1 = x.f1 ∧ ltK x.f0 y.f0 = true := by
  unfold ltOf
  simp only [decide_eq_true_eq]
  unfold cf1 cmpI
  by_cases h1 : y.f1 < x.f1
  · simp [h1]
  · by_cases h2 : x.f1 < y.f1
    · simp [h1, h2]; omega
    · have e : y.f1 = x.f1 := by omega
      simp [e, cmpK_lt]
theorem lt2 (x y : S64) : ltOf cf2 x y = true ↔ ltK x.f0 y.f0 = true := by
  unfold ltOf cf2
  simp only [decide_eq_true_eq, cmpK_lt]
theorem ltK_neg {a b c : ByteArray} (h1 : ltK a b = false) (h2 : ltK b c = false) : ltK a c = false := by
  cases h : ltK a c
  · rfl
  · cases h3 : ltK c b
    · have := ltK_total h2 h3; subst this; rw [h1] at h; cases h
    · rw [ltK_trans h h3] at h1; cases h1
theorem swo1 : SWO (ltOf cf1) where
  irrefl x := by
    cases h : ltOf cf1 x x
    · rfl
    · rw [lt1, ltK_irr] at h; simp at h
  trans x y z h1 h2 := by
    rw [lt1] at *
    rcases h1 with h1 | ⟨e1, h1⟩
    · rcases h2 with h2 | ⟨e2, h2⟩
      · exact .inl (by omega)
      · exact .inl (by omega)
    · rcases h2 with h2 | ⟨e2, h2⟩
      · exact .inl (by omega)
      · exact .inr ⟨by omega, ltK_trans h1 h2⟩
  ntrans x y z h1 h2 := by
    have h1' : ¬ (ltOf cf1 x y = true) := by rw [h1]; decide
    have h2' : ¬ (ltOf cf1 y z = true) := by rw [h2]; decide
    rw [lt1] at h1' h2'
    cases h : ltOf cf1 x z
    · rfl
    · exfalso
      rw [lt1] at h
      have a1 : ¬ y.f1 < x.f1 := fun hh => h1' (.inl hh)
      have a2 : ¬ z.f1 < y.f1 := fun hh => h2' (.inl hh)
      rcases h with h | ⟨e, h⟩
      · omega
      · have b1 : ltK x.f0 y.f0 = false := by
          cases hh : ltK x.f0 y.f0
          · rfl
          · exact absurd (.inr ⟨by omega, hh⟩) h1'
        have b2 : ltK y.f0 z.f0 = false := by
          cases hh : ltK y.f0 z.f0
          · rfl
          · exact absurd (.inr ⟨by omega, hh⟩) h2'
        rw [ltK_neg b1 b2] at h; cases h
theorem swo2 : SWO (ltOf cf2) where
  irrefl x := by
    cases h : ltOf cf2 x x
    · rfl
    · rw [lt2, ltK_irr] at h; cases h
  trans x y z h1 h2 := by rw [lt2] at *; exact ltK_trans h1 h2
  ntrans x y z h1 h2 := by
    have b1 : ltK x.f0 y.f0 = false := by
      cases hh : ltK x.f0 y.f0
      · rfl
      · rw [(lt2 x y).2 hh] at h1; cases h1
    have b2 : ltK y.f0 z.f0 = false := by
      cases hh : ltK y.f0 z.f0
      · rfl
      · rw [(lt2 y z).2 hh] at h2; cases h2
    cases h : ltOf cf2 x z
    · rfl
    · rw [lt2, ltK_neg b1 b2] at h; cases h

set_option maxHeartbeats 2000000 in
theorem shorten2_calls (x y : S64) (W : World) : Calls Tryz.prog 108 #[.agg #[Value.string x.f0, Value.int .i64 x.f1], .agg #[Value.string y.f0, Value.int .i64 y.f1]] W fun e w' => e = .returned (.int .i64 (cf2 x y)) ∧ Grew W w' := by
  have HC := Aside0.mk (fun W' => cmpS_calls x.f0 y.f0 W')
  have hx := cell_of_heap (heap_alloc_keep (o := .cells #[Value.string y.f0, Value.int .i64 y.f1] 64) (heap_alloc_new W (.cells #[Value.string x.f0, Value.int .i64 x.f1] 64))) 0 _ rfl
  have hy := cell_of_heap (heap_alloc_new (W.alloc (.cells #[Value.string x.f0, Value.int .i64 x.f1] 64)) (.cells #[Value.string y.f0, Value.int .i64 y.f1] 64)) 0 _ rfl
  simp only [World.size_alloc] at hy
  unfold cf2
  generalize cmpK x.f0 y.f0 = r at *
  have hu := Tryz.underlying64
  go_enter Tryz.func108, Tryz.ntmps108
  go_wp2_with (go_at_call 73; refine (HC.out _).mono ?_; rintro e w' ⟨rfl, rfl⟩)
  go_ret
  exact ⟨rfl, ((Grew.refl W).alloc _).alloc _⟩

theorem drawn_of {f : Nat} {args : Array Value} {W : World} {r : Ending} (h : Calls Tryz.prog f args W fun e w' => e = r ∧ w' = W) : Calls Tryz.prog f args W fun e w' => e = r ∧ Drawn0 W w' := h.mono fun e w' ⟨h1, h2⟩ => ⟨h1, ⟨0, by rw [h2]; rfl⟩⟩
set_option maxRecDepth 100000 in
set_option maxHeartbeats 4000000 in
theorem shorten1_calls (x y : S64) (w : World) : Calls Tryz.prog 106 #[.agg #[Value.string x.f0, Value.int .i64 x.f1], .agg #[Value.string y.f0, Value.int .i64 y.f1]] w fun e w' => e = .returned (.int .i64 (cf1 x y)) ∧ Grew w w' := by
  have HC1 := Aside0.mk (fun W => drawn_of (CmpInt_calls y.f1 x.f1 W))
  have HC2 := Aside0.mk (fun W => drawn_of (cmpS_calls x.f0 y.f0 W))
  have HX := Aside0.mk (show (if cmpI y.f1 x.f1 = 0 then cmpK x.f0 y.f0 else cmpI y.f1 x.f1) = cf1 x y from rfl)
  generalize cmpI y.f1 x.f1 = r1 at *
  generalize cmpK x.f0 y.f0 = r2 at *
  have HO := Aside0.mk (fun W n hn => drawn_of (Or_new W n hn r1 r2))
  rw [HX.out] at HO
  have hu32 := Tryz.underlying64
  go_enter Tryz.func106, Tryz.ntmps106
  go_wp2_with fail
  have hb1 := cell_of_heap (heap_alloc_keep (o := .cells #[Value.string y.f0, Value.int .i64 y.f1] 64) (heap_alloc_new w (.cells #[Value.string x.f0, Value.int .i64 x.f1] 64))) 0 _ rfl
  have hb2 := cell_of_heap (heap_alloc_keep (o := .cells #[Value.string y.f0, Value.int .i64 y.f1] 64) (heap_alloc_new w (.cells #[Value.string x.f0, Value.int .i64 x.f1] 64))) 1 _ rfl
  have hb3 := cell_of_heap (heap_alloc_new (w.alloc (.cells #[Value.string x.f0, Value.int .i64 x.f1] 64)) (.cells #[Value.string y.f0, Value.int .i64 y.f1] 64)) 0 _ rfl
  have hb4 := cell_of_heap (heap_alloc_new (w.alloc (.cells #[Value.string x.f0, Value.int .i64 x.f1] 64)) (.cells #[Value.string y.f0, Value.int .i64 y.f1] 64)) 1 _ rfl
  generalize hW : (w.alloc (.cells #[Value.string x.f0, Value.int .i64 x.f1] 64)).alloc (.cells #[Value.string y.f0, Value.int .i64 y.f1] 64) = W at *
  have HW := Aside0.mk (show Grew w W by rw [← hW]; exact ((Grew.refl w).alloc _).alloc _)
  clear hW
  simp only [World.size_alloc] at hb3 hb4
  go_region_held3 (fun w' => w'.cell? ⟨w.heap.size, 0, none⟩ = some (.string x.f0) ∧ w'.cell? ⟨w.heap.size, 1, none⟩ = some (.int .i64 x.f1) ∧ w'.cell? ⟨w.heap.size + 1, 0, none⟩ = some (.string y.f0) ∧ w'.cell? ⟨w.heap.size + 1, 1, none⟩ = some (.int .i64 y.f1)) (go_keep)
    (first
    | (go_at_call 107; refine (HC1.out _).mono ?_; rintro e w1 ⟨rfl, ⟨q1, rfl⟩⟩)
    | (go_at_call 73; refine (HC2.out _).mono ?_; rintro e w2 ⟨rfl, ⟨q2, rfl⟩⟩)
    | (go_at_call 72; refine (HO.out _ _ (by simp)).mono ?_; rintro e w3 ⟨rfl, ⟨q3, rfl⟩⟩))
  all_goals
    go_wp2
    go_ret
    exact ⟨rfl, by repeat (first | exact HW.out | apply Grew.alloc | apply Grew.drewN | apply Grew.drew)⟩

theorem pw_mono {α : Type} {p q : α → α → Prop} {l : List α} (h : l.Pairwise p) (hh : ∀ a b, p a b → q a b) : l.Pairwise q := h.imp fun {a b} => hh a b

set_option maxHeartbeats 1000000 in
/-- Arranged by count. -/
theorem arrange1_calls (base : Nat) (v : Value) (xs : L64) (w : World) (hl : xs.length ≤ 1000000) (hown : w.ownsRow base 64 2 v xs.length (lcells xs)) :
    Calls Tryz.prog 105 #[v, .func (.func 106) #[] #[]] w fun e w' => ∃ ys : L64, e = .returned (.tuple #[]) ∧ ys.Perm xs ∧ ys.Pairwise (fun x y => y.f1 ≤ x.f1) ∧ Below base w w' ∧ w'.ownsRow base 64 2 v ys.length (lcells ys) := by
  have H := Aside0.mk (Sort_gen 106 (enters_of Tryz.func106 (by kernel_rfl) rfl) cf1 swo1 (fun x y W => shorten1_calls x y W) base v xs w hl hown)
  clear hown
  go_enter Tryz.func105, Tryz.ntmps105
  go_wp2_with (go_at_call 145; refine H.out.mono ?_; rintro e w' ⟨ys, rfl, h1, h2, h3, h4⟩)
  go_end0
  refine ⟨ys, rfl, h1, pw_mono h2 fun a b hab => ?_, h3, h4⟩
  have : ¬ (ltOf cf1 b a = true) := by rw [hab]; decide
  rw [lt1] at this
  omega
set_option maxHeartbeats 1000000 in
/-- Arranged by key. -/
theorem arrange2_calls (base : Nat) (v : Value) (xs : L64) (w : World) (hl : xs.length ≤ 1000000) (hap : xs.Pairwise (fun x y => x.f0 ≠ y.f0)) (hown : w.ownsRow base 64 2 v xs.length (lcells xs)) :
    Calls Tryz.prog 105 #[v, .func (.func 108) #[] #[]] w fun e w' => ∃ ys : L64, e = .returned (.tuple #[]) ∧ ys.Perm xs ∧ Srt ys ∧ Below base w w' ∧ w'.ownsRow base 64 2 v ys.length (lcells ys) := by
  have H := Aside0.mk (Sort_gen 108 (enters_of Tryz.func108 (by kernel_rfl) rfl) cf2 swo2 (fun x y W => shorten2_calls x y W) base v xs w hl hown)
  clear hown
  go_enter Tryz.func105, Tryz.ntmps105
  go_wp2_with (go_at_call 145; refine H.out.mono ?_; rintro e w' ⟨ys, rfl, h1, h2, h3, h4⟩)
  go_end0
  refine ⟨ys, rfl, h1, ?_, h3, h4⟩
  have hap' : ys.Pairwise (fun x y => x.f0 ≠ y.f0) := (h1.pairwise_iff (fun h => Ne.symm h)).2 hap
  refine (h2.and hap').imp fun {a b} hab => ?_
  have h5 : ltK b.f0 a.f0 = false := by
    cases hh : ltK b.f0 a.f0
    · rfl
    · have := hab.1; rw [(lt2 b a).2 hh] at this; cases this
  cases h6 : ltK a.f0 b.f0
  · exact absurd (ltK_total h6 h5) hab.2
  · rfl
end Go.Proofs.YtakobehkajphpaaGreat.K
