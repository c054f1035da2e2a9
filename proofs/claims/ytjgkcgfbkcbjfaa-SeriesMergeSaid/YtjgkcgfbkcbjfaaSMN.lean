/- SMergeP + SMerge + SMrgP + SLChg: printed by mergetpl.py -/
import Derived.Test.YtjgkcgfbkcbjfaaSPlain
import Derived.Test.YtjgkcgfbkcbjfaaGCompact
import Derived.Test.YtjgkcgfbkcbjfaaSNb
import Derived.Test.YtjgkcgfbkcbjfaaPF1
import Derived.Test.YtjgkcgfbkcbjfaaGSort
import Derived.Test.YtjgkcgfbkcbjfaaGConcat
import Derived.Test.YtjgkcgfbkcbjfaaSIns
import Derived.Test.YtjgkcgfbkcbjfaaSGreat
import Derived.Test.YtjgkcgfbkcbjfaaSLCheck
import Derived.Test.YtjgkcgfbkcbjfaaSBack
import Derived.Test.YtjgkcgfbkcbjfaaSLIns
/- The plain laws of Merge, and what the reference's Insert, Remove and Merge come to. -/
namespace Go.Proofs.Ytjgkcgfbkcbjfaa.H
open Go Go.RowKit Go.Proofs.YtjgkcgfbkcbjfaaW.PrintWords Go.Proofs.YtjgkcgfbkcbjfaaW.PrintLast Go.Proofs.YtjgkcgfbkcbjfaaW.PrintMore Go.Proofs.Ytjgkcgfbkcbjfaa.PAll
set_option linter.unusedVariables false
set_option linter.unusedSimpArgs false

def mgF : Nat → L29 → L29 → Option (L29)
  | 0, _, _ => some []
  | _ + 1, [], [] => some []
  | n + 1, x :: a, [] => (mgF n a []).map (x :: ·)
  | n + 1, [], y :: b => (mgF n [] b).map (y :: ·)
  | n + 1, x :: a, y :: b => if x.f0 < y.f0 then (mgF n a (y :: b)).map (x :: ·) else if x.f0 = y.f0 then (if x.f1 = y.f1 then (mgF n a b).map (y :: ·) else none) else (mgF n (x :: a) b).map (y :: ·)
/-- Two lists merged; none at a conflict. -/
def mg (a b : L29) : Option (L29) := mgF (a.length + b.length) a b
def Cnf (a b : L29) : Prop := ∃ x ∈ a, ∃ y ∈ b, x.f0 = y.f0 ∧ x ≠ y

structure MgF (a b : L29) (r : Option (L29)) : Prop where
  yes : ∀ m, r = some m → Asc m ∧ (∀ z, z ∈ m ↔ z ∈ a ∨ z ∈ b) ∧ ¬ Cnf a b
  no : r = none → Cnf a b
theorem mgF_spec : ∀ (n : Nat) (a b : L29), a.length + b.length ≤ n → Asc a → Asc b → MgF a b (mgF n a b)
  | 0, a, b, h, _, _ => by
    have ha : a = [] := List.eq_nil_of_length_eq_zero (by omega)
    have hb : b = [] := List.eq_nil_of_length_eq_zero (by omega)
    subst ha hb
    exact ⟨fun m e => by simp [mgF] at e; subst e; exact ⟨List.Pairwise.nil, by simp, by rintro ⟨x, hx, _⟩; simp at hx⟩, fun e => by simp [mgF] at e⟩
  | n + 1, [], [], _, _, _ =>
    ⟨fun m e => by simp [mgF] at e; subst e; exact ⟨List.Pairwise.nil, by simp, by rintro ⟨x, hx, _⟩; simp at hx⟩, fun e => by simp [mgF] at e⟩
  | n + 1, x :: a, [], h, ha, hb => by
    have ha' := List.pairwise_cons.1 ha
    have ih := mgF_spec n a [] (by simp at h ⊢; omega) ha'.2 hb
    simp only [mgF]
    constructor
    · intro m e
      obtain ⟨m', e1, rfl⟩ := Option.map_eq_some_iff.1 e
      obtain ⟨h1, h2, h3⟩ := ih.yes m' e1
      refine ⟨List.pairwise_cons.2 ⟨fun z hz => ?_, h1⟩, fun z => ?_, by rintro ⟨u, _, v, hv, _⟩; simp at hv⟩
      · rcases (h2 z).1 hz with h | h
        · exact ha'.1 z h
        · simp at h
      · simp only [List.mem_cons, h2]; simp
    · intro e
      have := ih.no (by simpa using e)
      obtain ⟨u, _, v, hv, _⟩ := this
      simp at hv
  | n + 1, [], y :: b, h, ha, hb => by
    have hb' := List.pairwise_cons.1 hb
    have ih := mgF_spec n [] b (by simp at h ⊢; omega) ha hb'.2
    simp only [mgF]
    constructor
    · intro m e
      obtain ⟨m', e1, rfl⟩ := Option.map_eq_some_iff.1 e
      obtain ⟨h1, h2, h3⟩ := ih.yes m' e1
      refine ⟨List.pairwise_cons.2 ⟨fun z hz => ?_, h1⟩, fun z => ?_, by rintro ⟨u, hu, _⟩; simp at hu⟩
      · rcases (h2 z).1 hz with h | h
        · simp at h
        · exact hb'.1 z h
      · simp only [List.mem_cons, h2]; simp
    · intro e
      have := ih.no (by simpa using e)
      obtain ⟨u, hu, _⟩ := this
      simp at hu
  | n + 1, x :: a, y :: b, h, ha, hb => by
    have ha' := List.pairwise_cons.1 ha
    have hb' := List.pairwise_cons.1 hb
    simp only [mgF]
    by_cases h1 : x.f0 < y.f0
    · rw [if_pos h1]
      have ih := mgF_spec n a (y :: b) (by simp at h ⊢; omega) ha'.2 hb
      constructor
      · intro m e
        obtain ⟨m', e1, rfl⟩ := Option.map_eq_some_iff.1 e
        obtain ⟨g1, g2, g3⟩ := ih.yes m' e1
        refine ⟨List.pairwise_cons.2 ⟨fun z hz => ?_, g1⟩, fun z => ?_, ?_⟩
        · rcases (g2 z).1 hz with h | h
          · exact ha'.1 z h
          · rcases List.mem_cons.1 h with rfl | h
            · exact h1
            · have := hb'.1 z h; omega
        · simp only [List.mem_cons, g2]
          constructor
          · rintro (h | h | h | h)
            · exact .inl (.inl h)
            · exact .inl (.inr h)
            · exact .inr (.inl h)
            · exact .inr (.inr h)
          · rintro ((h | h) | h | h)
            · exact .inl h
            · exact .inr (.inl h)
            · exact .inr (.inr (.inl h))
            · exact .inr (.inr (.inr h))
        · rintro ⟨u, hu, v, hv, e, ne⟩
          rcases List.mem_cons.1 hu with rfl | hu
          · rcases List.mem_cons.1 hv with rfl | hv
            · omega
            · have := hb'.1 v hv; omega
          · exact g3 ⟨u, hu, v, hv, e, ne⟩
      · intro e
        obtain ⟨u, hu, v, hv, e1, ne⟩ := ih.no (by simpa using e)
        exact ⟨u, List.mem_cons_of_mem _ hu, v, hv, e1, ne⟩
    · rw [if_neg h1]
      by_cases h2 : x.f0 = y.f0
      · rw [if_pos h2]
        by_cases h3 : x.f1 = y.f1
        · rw [if_pos h3]
          have hxy : x = y := S_ext h2 h3
          subst hxy
          have ih := mgF_spec n a b (by simp at h ⊢; omega) ha'.2 hb'.2
          constructor
          · intro m e
            obtain ⟨m', e1, rfl⟩ := Option.map_eq_some_iff.1 e
            obtain ⟨g1, g2, g3⟩ := ih.yes m' e1
            refine ⟨List.pairwise_cons.2 ⟨fun z hz => ?_, g1⟩, fun z => ?_, ?_⟩
            · rcases (g2 z).1 hz with h | h
              · exact ha'.1 z h
              · exact hb'.1 z h
            · simp only [List.mem_cons, g2]
              constructor
              · rintro (h | h | h)
                · exact .inl (.inl h)
                · exact .inl (.inr h)
                · exact .inr (.inr h)
              · rintro ((h | h) | h | h)
                · exact .inl h
                · exact .inr (.inl h)
                · exact .inl h
                · exact .inr (.inr h)
            · rintro ⟨u, hu, v, hv, e, ne⟩
              rcases List.mem_cons.1 hu with e2 | hu
              · rcases List.mem_cons.1 hv with e3 | hv
                · exact ne (e2.trans e3.symm)
                · have := hb'.1 v hv; rw [e2] at e; omega
              · rcases List.mem_cons.1 hv with e3 | hv
                · have := ha'.1 u hu; rw [e3] at e; omega
                · exact g3 ⟨u, hu, v, hv, e, ne⟩
          · intro e
            obtain ⟨u, hu, v, hv, e1, ne⟩ := ih.no (by simpa using e)
            exact ⟨u, List.mem_cons_of_mem _ hu, v, List.mem_cons_of_mem _ hv, e1, ne⟩
        · rw [if_neg h3]
          exact ⟨fun m e => (by cases e), fun _ => ⟨x, by simp, y, by simp, h2, fun e => h3 (by rw [e])⟩⟩
      · rw [if_neg h2]
        have ih := mgF_spec n (x :: a) b (by simp at h ⊢; omega) ha hb'.2
        constructor
        · intro m e
          obtain ⟨m', e1, rfl⟩ := Option.map_eq_some_iff.1 e
          obtain ⟨g1, g2, g3⟩ := ih.yes m' e1
          refine ⟨List.pairwise_cons.2 ⟨fun z hz => ?_, g1⟩, fun z => ?_, ?_⟩
          · rcases (g2 z).1 hz with h | h
            · rcases List.mem_cons.1 h with e9 | h
              · rw [e9]; omega
              · have := ha'.1 z h; omega
            · exact hb'.1 z h
          · simp only [List.mem_cons, g2]
            constructor
            · rintro (h | (h | h) | h)
              · exact .inr (.inl h)
              · exact .inl (.inl h)
              · exact .inl (.inr h)
              · exact .inr (.inr h)
            · rintro ((h | h) | h | h)
              · exact .inr (.inl (.inl h))
              · exact .inr (.inl (.inr h))
              · exact .inl h
              · exact .inr (.inr h)
          · rintro ⟨u, hu, v, hv, e, ne⟩
            rcases List.mem_cons.1 hv with e8 | hv
            · rcases List.mem_cons.1 hu with e9 | hu
              · rw [e8, e9] at e; exact h2 e
              · have := ha'.1 u hu; rw [e8] at e; omega
            · exact g3 ⟨u, hu, v, hv, e, ne⟩
        · intro e
          obtain ⟨u, hu, v, hv, e1, ne⟩ := ih.no (by simpa using e)
          exact ⟨u, hu, v, List.mem_cons_of_mem _ hv, e1, ne⟩
theorem mg_spec {a b : L29} (ha : Asc a) (hb : Asc b) : MgF a b (mg a b) := mgF_spec _ a b (Nat.le_refl _) ha hb
theorem mgF_len : ∀ (n : Nat) (a b m : L29), mgF n a b = some m → m.length ≤ a.length + b.length
  | 0, a, b, m, h => by simp [mgF] at h; subst h; simp
  | n + 1, [], [], m, h => by simp [mgF] at h; subst h; simp
  | n + 1, x :: a, [], m, h => by
    simp only [mgF] at h
    obtain ⟨m', e1, rfl⟩ := Option.map_eq_some_iff.1 h
    have := mgF_len n _ _ _ e1
    simp at this ⊢; omega
  | n + 1, [], y :: b, m, h => by
    simp only [mgF] at h
    obtain ⟨m', e1, rfl⟩ := Option.map_eq_some_iff.1 h
    have := mgF_len n _ _ _ e1
    simp at this ⊢; omega
  | n + 1, x :: a, y :: b, m, h => by
    simp only [mgF] at h
    split at h
    · obtain ⟨m', e1, rfl⟩ := Option.map_eq_some_iff.1 h
      have := mgF_len n _ _ _ e1
      simp at this ⊢; omega
    · split at h
      · split at h
        · obtain ⟨m', e1, rfl⟩ := Option.map_eq_some_iff.1 h
          have := mgF_len n _ _ _ e1
          simp at this ⊢; omega
        · cases h
      · obtain ⟨m', e1, rfl⟩ := Option.map_eq_some_iff.1 h
        have := mgF_len n _ _ _ e1
        simp at this ⊢; omega

/-- What Merge comes to. -/
def mrgS (a b : L29) : L29 × Int := if chkK 1 a = 0 ∧ chkK 1 b = 0 then (match mg a b with | none => ([], 16) | some m => if 2000 < m.length then ([], 4) else (m, 0)) else ([], 1)

/-- Do two neighbours have one time? -/
def cfB (d : L29) : Bool := (prs d).any fun p => p.1.f0 == p.2.f0
theorem mem_dd : ∀ (l : L29) (z : S29), z ∈ dd l ↔ z ∈ l
  | [], z => by simp [dd]
  | [x], z => by simp [dd]
  | x :: y :: l, z => by
    have ih := mem_dd (y :: l) z
    simp only [dd]
    split
    · rename_i h
      have e := (eqS_iff _ _).1 h
      subst e
      rw [ih]
      simp
    · rw [List.mem_cons, ih, List.mem_cons (a := z) (b := x)]
theorem dd_sub : ∀ l : L29, (dd l).Sublist l
  | [] => by simp [dd]
  | [x] => by simp [dd]
  | x :: y :: l => by
    have ih := dd_sub (y :: l)
    simp only [dd]
    split
    · exact ih.cons _
    · exact ih.cons_cons _
def AscE (l : L29) : Prop := l.Pairwise (fun x y => x.f0 ≤ y.f0)
theorem asc_of_cf : ∀ {l : L29}, AscE l → cfB l = false → Asc l
  | [], _, _ => List.Pairwise.nil
  | [x], _, _ => by simp [Asc]
  | x :: y :: l, h, hc => by
    have h' := List.pairwise_cons.1 h
    have e : prs (x :: y :: l) = (x, y) :: prs (y :: l) := rfl
    unfold cfB at hc
    rw [e, List.any_cons, Bool.or_eq_false_iff] at hc
    have ih := asc_of_cf (l := y :: l) h'.2 hc.2
    refine List.pairwise_cons.2 ⟨fun z hz => ?_, ih⟩
    have h1 := h'.1 y (by simp)
    have h2 : x.f0 ≠ y.f0 := by simpa using hc.1
    rcases List.mem_cons.1 hz with rfl | hz
    · omega
    · have := (List.pairwise_cons.1 ih).1 z hz; omega
theorem cf_of_asc : ∀ {l : L29}, Asc l → cfB l = false
  | [], _ => rfl
  | [x], _ => rfl
  | x :: y :: l, h => by
    have h' := List.pairwise_cons.1 h
    have e : prs (x :: y :: l) = (x, y) :: prs (y :: l) := rfl
    have ih := cf_of_asc (l := y :: l) h'.2
    unfold cfB at ih ⊢
    rw [e, List.any_cons, ih, Bool.or_false]
    have := h'.1 y (by simp)
    simp; omega
theorem dd_asc : ∀ {l : L29}, AscE l → (∀ u ∈ l, ∀ v ∈ l, u.f0 = v.f0 → u = v) → Asc (dd l)
  | [], _, _ => by simp [dd, Asc]
  | [x], _, _ => by simp [dd, Asc]
  | x :: y :: l, h, hu => by
    have h' := List.pairwise_cons.1 h
    have ih := dd_asc (l := y :: l) h'.2 (fun u hu1 v hv1 => hu u (List.mem_cons_of_mem _ hu1) v (List.mem_cons_of_mem _ hv1))
    simp only [dd]
    split
    · exact ih
    · rename_i hne
      refine List.pairwise_cons.2 ⟨fun z hz => ?_, ih⟩
      have hz' := (mem_dd _ _).1 hz
      have h1 := h'.1 z hz'
      have hxy : x ≠ y := fun e => hne ((eqS_iff _ _).2 e)
      have hy : x.f0 ≠ y.f0 := fun e => hxy (hu x (by simp) y (by simp) e)
      have h2 := h'.1 y (by simp)
      rcases List.mem_cons.1 hz' with rfl | hz'
      · omega
      · have := (List.pairwise_cons.1 h'.2).1 z hz'; omega
/-- What lies behind the sort and Compact. -/
theorem merge_dd {a b ys : L29} (ha : Asc a) (hb : Asc b) (hp : ys.Perm (a ++ b)) (hs : AscE ys) :
    (mg a b = none → cfB (dd ys) = true) ∧ (∀ m, mg a b = some m → cfB (dd ys) = false ∧ dd ys = m) := by
  have hm : ∀ z, z ∈ ys ↔ z ∈ a ∨ z ∈ b := fun z => by rw [hp.mem_iff, List.mem_append]
  have hd : AscE (dd ys) := List.Pairwise.sublist (dd_sub ys) hs
  constructor
  · intro e
    obtain ⟨u, hu, v, hv, e1, ne⟩ := (mg_spec ha hb).no e
    cases hc : cfB (dd ys) with
    | true => rfl
    | false =>
      have := asc_of_cf hd hc
      exact absurd (asc_uniq this ((mem_dd _ _).2 ((hm u).2 (.inl hu))) ((mem_dd _ _).2 ((hm v).2 (.inr hv))) e1) ne
  · intro m e
    obtain ⟨g1, g2, g3⟩ := (mg_spec ha hb).yes m e
    have hA := dd_asc hs (fun u hu v hv e1 => by
      rcases (hm u).1 hu with hu | hu <;> rcases (hm v).1 hv with hv | hv
      · exact asc_uniq ha hu hv e1
      · exact Classical.byContradiction fun ne => g3 ⟨u, hu, v, hv, e1, ne⟩
      · exact Classical.byContradiction fun ne => g3 ⟨v, hv, u, hu, e1.symm, fun e => ne e.symm⟩
      · exact asc_uniq hb hu hv e1)
    exact ⟨cf_of_asc hA, asc_ext hA g1 (fun z => by rw [mem_dd, hm, g2])⟩

/-- The reference. -/
theorem rValid_f (l : L29) (k : Nat) (hl : l.length ≤ 4611686018427387904) (hk : 2 * l.length + 2 < k) : lookoutref11_Valid.f k l = some (chkK 1 l == 0) := by
  unfold lookoutref11_Valid.f
  rw [rCheck_f 1 l k hl hk]; rfl
end Go.Proofs.Ytjgkcgfbkcbjfaa.H
/- The contract of series.Merge. -/
namespace Go.Proofs.Ytjgkcgfbkcbjfaa.H
open Go Go.RowKit Go.Shelf Go.Proofs.YtjgkcgfbkcbjfaaW.PrintWords Go.Proofs.YtjgkcgfbkcbjfaaW.PrintLast Go.Proofs.YtjgkcgfbkcbjfaaW.PrintMore Go.Proofs.Ytjgkcgfbkcbjfaa.PAll
set_option linter.unusedVariables false
set_option linter.unusedSimpArgs false
attribute [local go_sem] Oper.semAt_some

theorem Boxed.below' {W W' : World} {n B : Nat} {t : TypeId} {v : Value} (h : Boxed W B t v) (hb : Below n W W') (hB : B < n) : Boxed W' B t v := (hb.block B hB).trans h

set_option maxRecDepth 100000 in
set_option maxHeartbeats 8000000 in
theorem Merge_in (A B : Option Addr) (c d : Nat) (a b : L29) (w : World) (hA : Kd.C k29 w A a.length a) (hc : a.length ≤ c) (hB : Kd.C k29 w B b.length b) (hd : b.length ≤ d) (hla : a.length ≤ 400000) (hlb : b.length ≤ 400000) :
    CallsIn Fence.wide 6 Try.prog 26 #[.slice A a.length c, .slice B b.length d] w (RT w (mrgS a b).1 (mrgS a b).2) := by
  have HCA := Aside0.mk (fun W (h : Below w.heap.size w W) => Check_calls 1 A c a W (Kd.C_below hA h) hc (by omega))
  have HCB := Aside0.mk (fun W (h : Below w.heap.size w W) => Check_calls 1 B d b W (Kd.C_below hB h) hd (by omega))
  have HB2 := Aside0.mk (Below.refl w.heap.size w)
  have HCS := Aside0.mk (fun W (h : Below w.heap.size w W) => C_slices (d := k29) 29 22 W W.heap.size rfl #[.slice A a.length c, .slice B b.length d] [a, b] (by simp) (fun i x hx => by
    rcases i with _ | _ | i
    · simp at hx; subst hx; exact ⟨A, c, rfl, hc, Kd.C_below hA h⟩
    · simp at hx; subst hx; exact ⟨B, d, rfl, hd, Kd.C_below hB h⟩
    · simp at hx))
  have HCC := Aside0.mk (fun W n (hC : Kd.C (Kd.slice 29 k29) W (some ⟨n, 0, none⟩) 2 [a, b]) => Concat_calls (some ⟨n, 0, none⟩) 2 [a, b] W hC (by simp) (by simp; omega) (by simp))
  simp only [List.flatten_cons, List.flatten_nil, List.append_nil] at HCC
  by_cases h1 : chkK 1 a = 0
  · rw [h1] at HCA
    by_cases h2 : chkK 1 b = 0
    · rw [h2] at HCB
      have hu32 := Try.underlying29
      refine callsIn_of_wp_marks Try.func26 rfl trivial ?_ rfl
      simp only [Try.ntmps26, List.size_toArray, List.length_cons, List.length_nil, Nat.reduceAdd, Nat.reduceSub, Array.replicate_succ, Array.replicate_zero, List.push_toArray, List.append_toArray, List.nil_append, List.cons_append]
      have hmg := mg_spec ((chkK_iff 1 a).1 h1).2.2.2 ((chkK_iff 1 b).1 h2).2.2.2
      have hascA := ((chkK_iff 1 a).1 h1).2.2.2
      have hascB := ((chkK_iff 1 b).1 h2).2.2.2
      have bR1 := (Boxed.new w 22 (.slice none 0 0)).alloc (.cells #[.int .i64 0] 24)
      have bR2 := Boxed.new (w.alloc (.cells #[.slice none 0 0] 22)) 24 (.int .i64 0)
      rw [World.size_alloc] at bR2
      have HM := Aside0.mk (show (mrgS a b) = (match mg a b with | none => ([], 16) | some m => if 2000 < m.length then ([], 4) else (m, 0)) by unfold mrgS; rw [if_pos ⟨h1, h2⟩] <;> (cases mg a b <;> rfl))
      clear hA hB h1 h2 hmg
      generalize mrgS a b = M at *
      gi_wp2_with (first
        | (refine ⟨trivial, ?_⟩; gi_at_call 15; refine (callsIn_wide.2 (HCA.out _ (by repeat (first | exact HB2.out | apply below_alloc | apply pw_below_drewN | apply below_drew)))).mono ?_; rintro e w1 ⟨rfl, hb⟩; have R1 := Boxed.below' bR1 hb (by simp; omega); have R2 := Boxed.below' bR2 hb (by simp); have n1_ := Aside0.mk ((show Below w.heap.size w _ by repeat (first | exact HB2.out | apply below_alloc | apply pw_below_drewN | apply below_drew)).trans (hb.mono (by have := HB2.out.size; simp; try omega))); clear HB2; have HB2 := n1_; clear n1_; clear hb HCA bR1 bR2)
        | (refine ⟨trivial, ?_⟩; gi_at_call 15; refine (callsIn_wide.2 (HCB.out _ (by repeat (first | exact HB2.out | apply below_alloc | apply pw_below_drewN | apply below_drew)))).mono ?_; rintro e w2 ⟨rfl, hb⟩; have S1 := Boxed.below' R1 hb R1.lt; have S2 := Boxed.below' R2 hb R2.lt; have n1_ := Aside0.mk ((show Below w.heap.size w _ by repeat (first | exact HB2.out | apply below_alloc | apply pw_below_drewN | apply below_drew)).trans (hb.mono (by have := HB2.out.size; simp; try omega))); clear HB2; have HB2 := n1_; clear n1_; clear hb HCB R1 R2)
        | (refine ⟨trivial, ?_⟩; gi_at_call 21; refine (callsIn_wide.2 (HCC.out _ _ (HCS.out _ (by repeat (first | exact HB2.out | apply below_alloc | apply pw_below_drewN | apply below_drew))))).mono ?_; rintro e w3 ⟨v1, rfl, ho1, hb⟩; have T1 := Boxed.below' (S1.alloc (.cells #[.slice A a.length c, .slice B b.length d] 22)) hb (S1.alloc _).lt; have T2 := Boxed.below' (S2.alloc (.cells #[.slice A a.length c, .slice B b.length d] 22)) hb (S2.alloc _).lt; have hlt1 := (S1.alloc (.cells #[.slice A a.length c, .slice B b.length d] 22)).lt; have hlt2 := (S2.alloc (.cells #[.slice A a.length c, .slice B b.length d] 22)).lt; have hbz := hb.size; generalize (w2.alloc (.cells #[.slice A a.length c, .slice B b.length d] 22)).heap.size = bs at *; have n1_ := Aside0.mk ((show Below w.heap.size w _ by repeat (first | exact HB2.out | apply below_alloc | apply pw_below_drewN | apply below_drew)).trans (hb.mono (by have := HB2.out.size; simp; try omega))); clear HB2; have HB2 := n1_; clear n1_; clear hb S1 S2 HCS HCC)
        | (refine ⟨trivial, ?_⟩; gi_at_call 44; refine (callsIn_wide.2 (Sort_calls _ _ _ _ (by simp; omega) ho1)).mono ?_; rintro e w4 ⟨ys, rfl, hp, hs, hb, ho2⟩; have U1 := Boxed.below' T1 hb hlt1; have U2 := Boxed.below' T2 hb hlt2; have HPS := Aside0.mk (And.intro hp hs); have hys : ys.length ≤ 1000000 := (by rw [hp.length_eq]; simp; omega); have hbz4 := hb.size; have n1_ := Aside0.mk ((show Below w.heap.size w _ by repeat (first | exact HB2.out | apply below_alloc | apply pw_below_drewN | apply below_drew)).trans (hb.mono (by have := HB2.out.size; simp; try omega))); clear HB2; have HB2 := n1_; clear n1_; clear hb T1 T2 ho1 hp hs)
        | (refine ⟨trivial, ?_⟩; gi_at_call 47; refine (callsIn_wide.2 (Compact_calls _ _ _ _ hys ho2)).mono ?_; rintro e w5 ⟨v2, rfl, hb, ho3⟩; have V1 := Boxed.below' U1 hb hlt1; have V2 := Boxed.below' U2 hb hlt2; have HR5 := Aside0.mk (R_of_lcells ho3); have hC5 := Kd.R_reads (R_of_lcells ho3); obtain ⟨A3, c3, rfl, hc3, hC3⟩ := hC5; have hC4 := Aside0.mk hC3; have hbz5 := hb.size; have n1_ := Aside0.mk ((show Below w.heap.size w _ by repeat (first | exact HB2.out | apply below_alloc | apply pw_below_drewN | apply below_drew)).trans (hb.mono (by have := HB2.out.size; simp; try omega))); clear HB2; have HB2 := n1_; clear n1_; clear hb U1 U2 ho2 ho3 hC3)
        | (refine ⟨trivial, ?_⟩; gi_at_call 35; refine (callsIn_wide.2 (neighbours_in _ _ _ _)).mono ?_; rintro e w6 ⟨rfl, rfl⟩))
      have HMD := Aside0.mk (merge_dd hascA hascB HPS.out.1 HPS.out.2)
      have hzl := Nat.le_trans (dd_len_le ys) hys
      clear HPS hys hascA hascB
      generalize dd ys = zs at *
      have bL := Boxed.new w5 22 (.slice A3 zs.length c3)
      have X1 := V1.alloc (.cells #[.slice A3 zs.length c3] 22)
      have X2 := V2.alloc (.cells #[.slice A3 zs.length c3] 22)
      have hB0 : Below w5.heap.size w5 (w5.alloc (.cells #[.slice A3 zs.length c3] 22)) := below_alloc (Below.refl _ _) _
      have hBw : Below w.heap.size w (w5.alloc (.cells #[.slice A3 zs.length c3] 22)) := HB2.out.trans (hB0.mono HB2.out.size)
      have hsz : (w5.alloc (.cells #[.slice A3 zs.length c3] 22)).heap.size = w5.heap.size + 1 := by simp
      have hbs5 : bs ≤ w5.heap.size := by omega
      have hww5 : w.heap.size ≤ w5.heap.size := HB2.out.size
      have hC5 := hC4.out
      clear V1 V2
      generalize (w5.alloc (.cells #[.slice A3 zs.length c3] 22)) = W0 at *
      refine wpIn_rangeFunc_ownH rfl (by omega) (gf := 51) (lb := #[.pointer (some ⟨w5.heap.size, 0, none⟩)]) rfl trivial (enters_of Try.func51 (by kernel_rfl) rfl)
        (neighbours_stops 5 (by omega) w5.heap.size w5.heap.size A3 c3 zs hc3 W0 (by omega) (by omega) bL.cell
          (fun W' h => Kd.C_below hC5 (hB0.trans h))) KB.trans (KB_b (by omega) (by omega)) (Below.refl _ _) (fun _ => rfl)
        (fun pre W => (((Boxed W w.heap.size 22 (.slice none 0 0) ∧ Boxed W (w.heap.size + 1) 24 (.int .i64 0)) ∧ Boxed W w5.heap.size 22 (.slice A3 zs.length c3)) ∧ (Below w.heap.size w W ∧ Below w5.heap.size w5 W)) ∧ (∀ x ∈ pre, (x.1.f0 == x.2.f0) = false))
        (fun cd p W => ((Boxed W w.heap.size 22 (.slice none 0 0) ∧ Boxed W (w.heap.size + 1) 24 (.int .i64 16)) ∧ Below w.heap.size w W) ∧ (cd = .ret ∧ ∃ x ∈ p, (x.1.f0 == x.2.f0) = true))
        (OwnFrom.and (OwnFrom.and (OwnFrom.and (OwnFrom.and (Own.from (boxed_own _ _ _) _) (Own.from (boxed_own _ _ _) _)) (Own.from (boxed_own _ _ _) _)) (OwnFrom.and (ownFrom_below (by omega) (by omega)) (ownFrom_below (by omega) (by omega)))) (fun _ _ _ _ hs _ _ => hs))
        (fun cd => OwnFrom.and (OwnFrom.and (OwnFrom.and (Own.from (boxed_own _ _ _) _) (Own.from (boxed_own _ _ _) _)) (ownFrom_below (by omega) (by omega))) (fun _ _ _ _ hs _ _ => hs))
        ⟨⟨⟨⟨X1, X2⟩, bL⟩, hBw, hB0⟩, by simp⟩
        (fun x a' W => ∃ Bx, w5.heap.size < Bx ∧ W.heap[Bx]? = some (.cells #[Value.int .i64 x.1.f0, Value.int .i64 x.1.f1] 29 (0, 0)) ∧ W.heap[Bx + 1]? = some (.cells #[Value.int .i64 x.2.f0, Value.int .i64 x.2.f1] 29 (0, 0)) ∧ a' = { tmps := #[.slice A a.length c, .slice B b.length d, undef, undef, .pointer (some ⟨w.heap.size, 0, none⟩), .pointer (some ⟨w.heap.size + 1, 0, none⟩), .slice A3 zs.length c3, .pointer (some ⟨Bx, 0, none⟩), .pointer (some ⟨Bx + 1, 0, none⟩), .slice A a.length c, .int .i64 0, .bool false, .bool false, .slice B b.length d, .int .i64 0, .bool false, .bool false, .slice A a.length c, .slice B b.length d, .slice (some ⟨w2.heap.size, 0, none⟩) 2 2, v1, v1, .tuple #[], v1, .slice A3 zs.length c3, .slice A3 zs.length c3, .func (.func 51) #[] #[.pointer (some ⟨w5.heap.size, 0, none⟩)], .agg #[Value.int .i64 x.1.f0, Value.int .i64 x.1.f1], .agg #[Value.int .i64 x.2.f0, Value.int .i64 x.2.f1], undef, undef, undef, undef, undef, undef, undef, undef, undef], defers := [] })
        (fun x a' _ X Y row hs hg hr => by
          obtain ⟨Bx, h1, h2, h2', h3⟩ := hs
          exact ⟨Bx, h1, (hg.block Bx (heap_lt h2) (fun e' => by obtain ⟨_, o, ho, hcc⟩ := hr Bx e'.symm; rw [h2] at ho; cases ho; cases hcc)).trans h2, (hg.block (Bx + 1) (heap_lt h2') (fun e' => by obtain ⟨_, o, ho, hcc⟩ := hr (Bx + 1) e'.symm; rw [h2'] at ho; cases ho; cases hcc)).trans h2', h3⟩)
        ?assign ?body ?done ?stop
      case assign =>
        rintro l pre x W K ⟨⟨⟨⟨b1, b2⟩, b3⟩, b4, b5⟩, b6⟩ hK
        simp only [encP]
        gi_wp2
        exact hK _ _ (((KeepsOthers.alloc _ _).trans (KeepsOthers.alloc _ _)).from _) (KB.of_below (below_alloc (below_alloc (Below.refl _ W) _) _) (by have := b5.size; omega) b3.lt) ⟨⟨⟨⟨(b1.alloc _).alloc _, (b2.alloc _).alloc _⟩, (b3.alloc _).alloc _⟩, (b4.alloc b4.size _).alloc (by have := b4.size; simp; omega) _, (b5.alloc b5.size _).alloc (by have := b5.size; simp; omega) _⟩, b6⟩ ⟨W.heap.size, b3.lt, heap_alloc_keep (heap_alloc_new W _), by have h := heap_alloc_new (W.alloc (.cells #[Value.int .i64 x.1.f0, Value.int .i64 x.1.f1] 29)) (.cells #[Value.int .i64 x.2.f0, Value.int .i64 x.2.f1] 29); simpa using h, rfl⟩
      case body =>
        rintro l pre x a' W hl ⟨r, hr⟩ ⟨⟨⟨⟨b1, b2⟩, b3⟩, b4, b5⟩, b6⟩ ⟨Bx, hBx, bX, bY, rfl⟩ hlt
        have cX0 := cell_of_heap bX 0 _ rfl
        have cY0 := cell_of_heap bY 0 _ rfl
        have cS := b1.cell
        have fS := b1.frozen
        have b1a := b1.set (.slice none 0 0)
        have b2a := b2.other (show w.heap.size + 1 ≠ w.heap.size by omega) (.slice none 0 0)
        have cT := b2a.cell
        have fT := b2a.frozen
        gi_wp2
        · have hx : (x.1.f0 == x.2.f0) = true := by assumption
          exact ⟨(KeepsFrom.of_grownBy (grownBy_setCell' W w.heap.size _) (fun j e => by cases e; omega)).trans (KeepsFrom.of_grownBy (grownBy_setCell' _ (w.heap.size + 1) _) (fun j e => by cases e; omega)), ⟨⟨b1a.other (by omega) _, b2a.set _⟩, (b4.setCell (p := ⟨w.heap.size, 0, none⟩) (Nat.le_refl _) _).setCell (p := ⟨w.heap.size + 1, 0, none⟩) (Nat.le_succ _) _⟩, rfl, x, by simp, hx⟩
        · have hx : (x.1.f0 == x.2.f0) = false := by assumption
          exact ⟨KeepsFrom.refl _ _, KB.refl _ _ _, ⟨⟨⟨b1, b2⟩, b3⟩, b4, b5⟩, fun y hy => by rcases List.mem_append.1 hy with hy | hy; exact b6 y hy; rw [List.mem_singleton.1 hy]; exact hx⟩
      case done =>
        rintro D qs W hD rfl ⟨⟨⟨⟨b1, b2⟩, b3⟩, b4, b5⟩, b6⟩ hK
        have hcf : cfB zs = false := by
          unfold cfB
          rw [List.any_eq_false]
          intro p hp
          simpa using b6 p hp
        have HMM : M = if 2000 < zs.length then ([], 4) else (zs, 0) := by
          have h := HM.out
          cases hm : mg a b with
          | none => exact absurd (HMD.out.1 hm) (by rw [hcf]; simp)
          | some m => rw [hm] at h; rw [(HMD.out.2 m hm).2]; exact h
        clear HM HMD b6
        have cS := b1.cell
        have fS := b1.frozen
        by_cases hz : 2000 < zs.length
        · have dz : ((zs.length : Int) > 2000) = True := eq_true (by omega)
          have dz2 : (2000 < (zs.length : Int)) = True := eq_true (by omega)
          rw [if_pos hz] at HMM
          subst HMM
          have b1a := b1.set (.slice none 0 0)
          have b2a := b2.other (show w.heap.size + 1 ≠ w.heap.size by omega) (.slice none 0 0)
          have cT := b2a.cell
          have fT := b2a.frozen
          have b1b := b1a.other (show w.heap.size ≠ w.heap.size + 1 by omega) (.int .i64 4)
          have b2b := b2a.set (.int .i64 4)
          gi_wp2
          have hK2 : ((W.setCell ⟨w.heap.size, 0, none⟩ (.slice none 0 0)).setCell ⟨w.heap.size + 1, 0, none⟩ (.int .i64 4)).heap[D]? = some (Obj.deferred (some [])) := ((KeepsOthers.setCell _ _ _).trans (KeepsOthers.setCell _ _ _)).same D _ hK rfl
          refine ⟨by simp, .inl ⟨_, _, rfl, run_takeDeferred hK2, ?_⟩⟩
          have hc1 := cell_kept b1b.cell (grownBy_putObj' _ D (.deferred none)) (fun r e => by cases e; exact ⟨_, hK2, rfl⟩)
          have hc2 := cell_kept b2b.cell (grownBy_putObj' _ D (.deferred none)) (fun r e => by cases e; exact ⟨_, hK2, rfl⟩)
          have hBf := belowK_b (w := w) (Nat.le_refl _) _ D _ (.deferred none) (by omega) hK2 rfl rfl
          have hBg := belowK_b (w := w5) (Nat.le_refl _) _ D _ (.deferred none) (by omega) hK2 rfl rfl
          have b4b := (b4.setCell (p := ⟨w.heap.size, 0, none⟩) (Nat.le_refl _) (.slice none 0 0)).setCell (p := ⟨w.heap.size + 1, 0, none⟩) (Nat.le_succ _) (.int .i64 4)
          refine ⟨.tuple #[(.slice none 0 0), .int .i64 4], by simp [results, Try.results26, go_sem, hc1, hc2], ?_⟩
          exact RT_nil (b4b.trans hBf)
        · have dz : ((zs.length : Int) > 2000) = False := eq_false (by omega)
          have dz2 : (2000 < (zs.length : Int)) = False := eq_false (by omega)
          rw [if_neg hz] at HMM
          subst HMM
          have b1a := b1.set (.slice A3 zs.length c3)
          have b2a := b2.other (show w.heap.size + 1 ≠ w.heap.size by omega) (.slice A3 zs.length c3)
          have cT := b2a.cell
          have fT := b2a.frozen
          have b1b := b1a.other (show w.heap.size ≠ w.heap.size + 1 by omega) (.int .i64 0)
          have b2b := b2a.set (.int .i64 0)
          gi_wp2
          have hK2 : ((W.setCell ⟨w.heap.size, 0, none⟩ (.slice A3 zs.length c3)).setCell ⟨w.heap.size + 1, 0, none⟩ (.int .i64 0)).heap[D]? = some (Obj.deferred (some [])) := ((KeepsOthers.setCell _ _ _).trans (KeepsOthers.setCell _ _ _)).same D _ hK rfl
          refine ⟨by simp, .inl ⟨_, _, rfl, run_takeDeferred hK2, ?_⟩⟩
          have hc1 := cell_kept b1b.cell (grownBy_putObj' _ D (.deferred none)) (fun r e => by cases e; exact ⟨_, hK2, rfl⟩)
          have hc2 := cell_kept b2b.cell (grownBy_putObj' _ D (.deferred none)) (fun r e => by cases e; exact ⟨_, hK2, rfl⟩)
          have hBf := belowK_b (w := w) (Nat.le_refl _) _ D _ (.deferred none) (by omega) hK2 rfl rfl
          have hBg := belowK_b (w := w5) (Nat.le_refl _) _ D _ (.deferred none) (by omega) hK2 rfl rfl
          have b4b := (b4.setCell (p := ⟨w.heap.size, 0, none⟩) (Nat.le_refl _) (.slice A3 zs.length c3)).setCell (p := ⟨w.heap.size + 1, 0, none⟩) (Nat.le_succ _) (.int .i64 0)
          refine ⟨.tuple #[(.slice A3 zs.length c3), .int .i64 0], by simp [results, Try.results26, go_sem, hc1, hc2], ?_⟩
          refine ⟨_, rfl, Kd.R_lower (Kd.R_mono (ok := fun k => bs ≤ k ∧ k < w5.heap.size) ?_ (fun _ _ => trivial)) (show w.heap.size ≤ bs by omega), b4b.trans hBf⟩
          have r1 := Kd.R_mono (Kd.R_bound HR5.out) (ok' := fun k => bs ≤ k ∧ k < w5.heap.size) (fun k hk => ⟨hk.2.1, hk.2.2.1⟩)
          have r2 := Kd.R_move r1 (fun k hk => b5.block k hk.2)
          have r3 := Kd.R_far r2 (p := ⟨w.heap.size, 0, none⟩) (fun k hk => by show k ≠ w.heap.size; omega) (.slice A3 zs.length c3)
          have r4 := Kd.R_far r3 (p := ⟨w.heap.size + 1, 0, none⟩) (fun k hk => by show k ≠ w.heap.size + 1; omega) (.int .i64 0)
          exact Kd.R_move r4 (fun k hk => hBg.block k hk.2)
      case stop =>
        rintro D cd pre W hD hp ⟨⟨⟨b1, b2⟩, b4⟩, rfl, x, hx1, hx2⟩ hK
        have hcf : cfB zs = true := by
          unfold cfB
          rw [List.any_eq_true]
          exact ⟨x, hp.subset hx1, by simpa using hx2⟩
        have HMM : M = ([], 16) := by
          have h := HM.out
          cases hm : mg a b with
          | none => rw [hm] at h; exact h
          | some m => exact absurd (HMD.out.2 m hm).1 (by rw [hcf]; simp)
        subst HMM
        have cS := b1.cell
        have cT := b2.cell
        gi_wp2
        refine ⟨by simp, .inl ⟨_, _, rfl, run_takeDeferred hK, ?_⟩⟩
        have hc1 := cell_kept b1.cell (grownBy_putObj' _ D (.deferred none)) (fun r e => by cases e; exact ⟨_, hK, rfl⟩)
        have hc2 := cell_kept b2.cell (grownBy_putObj' _ D (.deferred none)) (fun r e => by cases e; exact ⟨_, hK, rfl⟩)
        have hBf := belowK_b (w := w) (Nat.le_refl _) _ D _ (.deferred none) (by omega) hK rfl rfl
        refine ⟨.tuple #[(.slice none 0 0), .int .i64 16], by simp [results, Try.results26, go_sem, hc1, hc2], ?_⟩
        exact RT_nil (b4.trans hBf)
    · have dc : (chkK 1 b == 0) = false := by simpa using h2
      have dc2 : (chkK 1 b != 0) = true := by simpa using h2
      have HM : mrgS a b = ([], 1) := by unfold mrgS; rw [if_neg (fun h => h2 h.2)]
      rw [HM]
      generalize chkK 1 b = ck at *
      have bR1 := (Boxed.new w 22 (.slice none 0 0)).alloc (.cells #[.int .i64 0] 24)
      have bR2 := Boxed.new (w.alloc (.cells #[.slice none 0 0] 22)) 24 (.int .i64 0)
      rw [World.size_alloc] at bR2
      clear h1 h2 HM HCS HCC hA hB
      refine callsIn_of_wp_marks Try.func26 rfl trivial ?_ rfl
      simp only [Try.ntmps26, List.size_toArray, List.length_cons, List.length_nil, Nat.reduceAdd, Nat.reduceSub, Array.replicate_succ, Array.replicate_zero, List.push_toArray, List.append_toArray, List.nil_append, List.cons_append]
      gi_wp2_with (first
        | (refine ⟨trivial, ?_⟩; gi_at_call 15; refine (callsIn_wide.2 (HCA.out _ (by repeat (first | exact HB2.out | apply below_alloc | apply pw_below_drewN | apply below_drew)))).mono ?_; rintro e w1 ⟨rfl, hb⟩; have R1 := Boxed.below' bR1 hb (by simp; omega); have R2 := Boxed.below' bR2 hb (by simp); have n1_ := Aside0.mk ((show Below w.heap.size w _ by repeat (first | exact HB2.out | apply below_alloc | apply pw_below_drewN | apply below_drew)).trans (hb.mono (by have := HB2.out.size; simp; try omega))); clear HB2; have HB2 := n1_; clear n1_; clear hb HCA bR1 bR2)
        | (refine ⟨trivial, ?_⟩; gi_at_call 15; refine (callsIn_wide.2 (HCB.out _ (by repeat (first | exact HB2.out | apply below_alloc | apply pw_below_drewN | apply below_drew)))).mono ?_; rintro e w2 ⟨rfl, hb⟩; have S1 := Boxed.below' R1 hb R1.lt; have S2 := Boxed.below' R2 hb R2.lt; have n1_ := Aside0.mk ((show Below w.heap.size w _ by repeat (first | exact HB2.out | apply below_alloc | apply pw_below_drewN | apply below_drew)).trans (hb.mono (by have := HB2.out.size; simp; try omega))); clear HB2; have HB2 := n1_; clear n1_; clear hb HCB R1 R2; have cS := S1.cell; have fS := S1.frozen; have b2a := S2.other (show w.heap.size + 1 ≠ w.heap.size by omega) (.slice none 0 0); have cT := b2a.cell; have fT := b2a.frozen))
      have b1b := (S1.set (.slice none 0 0)).other (show w.heap.size ≠ w.heap.size + 1 by omega) (.int .i64 1)
      have b2b := b2a.set (.int .i64 1)
      have hc1 := b1b.cell
      have hc2 := b2b.cell
      refine ⟨.tuple #[.slice none 0 0, .int .i64 1], by simp [results, Try.results26, go_sem, hc1, hc2], ?_⟩
      exact RT_nil ((HB2.out.setCell (p := ⟨w.heap.size, 0, none⟩) (Nat.le_refl _) _).setCell (p := ⟨w.heap.size + 1, 0, none⟩) (Nat.le_succ _) _)
  · have dc : (chkK 1 a == 0) = false := by simpa using h1
    have dc2 : (chkK 1 a != 0) = true := by simpa using h1
    have HM : mrgS a b = ([], 1) := by unfold mrgS; rw [if_neg (fun h => h1 h.1)]
    rw [HM]
    generalize chkK 1 a = ck at *
    have bR1 := (Boxed.new w 22 (.slice none 0 0)).alloc (.cells #[.int .i64 0] 24)
    have bR2 := Boxed.new (w.alloc (.cells #[.slice none 0 0] 22)) 24 (.int .i64 0)
    rw [World.size_alloc] at bR2
    clear h1 HM HCS HCC hA hB
    refine callsIn_of_wp_marks Try.func26 rfl trivial ?_ rfl
    simp only [Try.ntmps26, List.size_toArray, List.length_cons, List.length_nil, Nat.reduceAdd, Nat.reduceSub, Array.replicate_succ, Array.replicate_zero, List.push_toArray, List.append_toArray, List.nil_append, List.cons_append]
    gi_wp2_with (first | (refine ⟨trivial, ?_⟩; gi_at_call 15; refine (callsIn_wide.2 (HCA.out _ (by repeat (first | exact HB2.out | apply below_alloc | apply pw_below_drewN | apply below_drew)))).mono ?_; rintro e w2 ⟨rfl, hb⟩; have S1 := Boxed.below' bR1 hb (by simp; omega); have S2 := Boxed.below' bR2 hb (by simp); have n1_ := Aside0.mk ((show Below w.heap.size w _ by repeat (first | exact HB2.out | apply below_alloc | apply pw_below_drewN | apply below_drew)).trans (hb.mono (by have := HB2.out.size; simp; try omega))); clear HB2; have HB2 := n1_; clear n1_; clear hb HCA bR1 bR2; have cS := S1.cell; have fS := S1.frozen; have b2a := S2.other (show w.heap.size + 1 ≠ w.heap.size by omega) (.slice none 0 0); have cT := b2a.cell; have fT := b2a.frozen) | (refine ⟨trivial, ?_⟩; gi_wp2))
    have b1b := (S1.set (.slice none 0 0)).other (show w.heap.size ≠ w.heap.size + 1 by omega) (.int .i64 1)
    have b2b := b2a.set (.int .i64 1)
    have hc1 := b1b.cell
    have hc2 := b2b.cell
    refine ⟨.tuple #[.slice none 0 0, .int .i64 1], by simp [results, Try.results26, go_sem, hc1, hc2], ?_⟩
    exact RT_nil ((HB2.out.setCell (p := ⟨w.heap.size, 0, none⟩) (Nat.le_refl _) _).setCell (p := ⟨w.heap.size + 1, 0, none⟩) (Nat.le_succ _) _)
/-- The contract of Merge. -/
theorem Merge_calls (A B : Option Addr) (c d : Nat) (a b : L29) (w : World) (hA : Kd.C k29 w A a.length a) (hc : a.length ≤ c) (hB : Kd.C k29 w B b.length b) (hd : b.length ≤ d) (hla : a.length ≤ 400000) (hlb : b.length ≤ 400000) :
    Calls Try.prog 26 #[.slice A a.length c, .slice B b.length d] w (RT w (mrgS a b).1 (mrgS a b).2) :=
  callsIn_wide.1 (Merge_in A B c d a b w hA hc hB hd hla hlb)
end Go.Proofs.Ytjgkcgfbkcbjfaa.H
/- Plain laws of Merge and Slice. -/
namespace Go.Proofs.Ytjgkcgfbkcbjfaa.H
open Go Go.RowKit Go.Proofs.YtjgkcgfbkcbjfaaW.PrintWords Go.Proofs.YtjgkcgfbkcbjfaaW.PrintLast Go.Proofs.YtjgkcgfbkcbjfaaW.PrintMore Go.Proofs.Ytjgkcgfbkcbjfaa.PAll
set_option linter.unusedVariables false
set_option linter.unusedSimpArgs false

structure MrV (a b m : L29) (e : Int) : Prop where
  code : e = 0
  asc : Asc m
  mem : ∀ z, z ∈ m ↔ z ∈ a ∨ z ∈ b
  chk : chkK 1 m = 0
  len : m.length ≤ a.length + b.length
theorem mrg_yes {a b : L29} (ha : chkK 1 a = 0) (hb : chkK 1 b = 0) (hl : a.length + b.length ≤ 2000) (h : ¬ Cnf a b) : MrV a b (mrgS a b).1 (mrgS a b).2 := by
  obtain ⟨a1, a2, a3⟩ := (chk1_iff a).1 ha
  obtain ⟨b1, b2, b3⟩ := (chk1_iff b).1 hb
  have S := mg_spec a3 b3
  cases hm : mg a b with
  | none => exact absurd (S.no hm) h
  | some m =>
    obtain ⟨m1, m2, m3⟩ := S.yes m hm
    have hlen : m.length ≤ a.length + b.length := mgF_len _ _ _ _ hm
    have e : mrgS a b = (m, 0) := by
      unfold mrgS
      rw [if_pos ⟨ha, hb⟩, hm]
      show (if 2000 < m.length then ([], 4) else (m, 0)) = (m, (0 : Int))
      rw [if_neg (by omega)]
    rw [e]
    exact ⟨rfl, m1, m2, (chk1_iff m).2 ⟨by omega, fun z hz => ((m2 z).1 hz).elim (a2 z) (b2 z), m1⟩, hlen⟩
theorem mrg_no {a b : L29} (ha : chkK 1 a = 0) (hb : chkK 1 b = 0) (h : Cnf a b) : mrgS a b = ([], 16) := by
  obtain ⟨a1, a2, a3⟩ := (chk1_iff a).1 ha
  obtain ⟨b1, b2, b3⟩ := (chk1_iff b).1 hb
  have S := mg_spec a3 b3
  cases hm : mg a b with
  | none =>
    unfold mrgS
    rw [if_pos ⟨ha, hb⟩, hm]
  | some m => exact absurd h (S.yes m hm).2.2
theorem Cnf_symm {a b : L29} (h : Cnf a b) : Cnf b a := by
  obtain ⟨x, hx, y, hy, e, ne⟩ := h
  exact ⟨y, hy, x, hx, e.symm, fun e => ne e.symm⟩
theorem Cnf_self {a : L29} (ha : Asc a) : ¬ Cnf a a := by
  rintro ⟨x, hx, y, hy, e, ne⟩
  exact ne (asc_uniq ha hx hy e)
theorem pair_ext {α β : Type} {p q : α × β} (h1 : p.1 = q.1) (h2 : p.2 = q.2) : p = q := by cases p; cases q; simp_all
theorem mrg_comm {a b : L29} (ha : chkK 1 a = 0) (hb : chkK 1 b = 0) (hl : a.length + b.length ≤ 2000) : mrgS b a = mrgS a b := by
  by_cases h : Cnf a b
  · rw [mrg_no ha hb h, mrg_no hb ha (Cnf_symm h)]
  · have F := mrg_yes ha hb hl h
    have G := mrg_yes hb ha (by omega) (fun g => h (Cnf_symm g))
    exact pair_ext (asc_ext G.asc F.asc (fun z => by rw [G.mem, F.mem]; exact Or.comm)) (by rw [F.code, G.code])
theorem mrg_self {a : L29} (ha : chkK 1 a = 0) (hl : a.length ≤ 1000) : mrgS a a = (a, 0) := by
  have h3 := ((chk1_iff a).1 ha).2.2
  have F := mrg_yes ha ha (by omega) (Cnf_self h3)
  exact pair_ext (asc_ext F.asc h3 (fun z => by rw [F.mem]; simp)) F.code
theorem mrg_code {a b : L29} (ha : chkK 1 a = 0) (hb : chkK 1 b = 0) (hl : a.length + b.length ≤ 2000) (h : (mrgS a b).2 ≠ 0) : mrgS a b = ([], 16) := by
  by_cases c : Cnf a b
  · exact mrg_no ha hb c
  · exact absurd (mrg_yes ha hb hl c).code h
theorem mrg_fine {a b : L29} (ha : chkK 1 a = 0) (hb : chkK 1 b = 0) (hl : a.length + b.length ≤ 2000) (h : (mrgS a b).2 = 0) : ¬ Cnf a b ∧ MrV a b (mrgS a b).1 (mrgS a b).2 := by
  have c : ¬ Cnf a b := fun c => by rw [mrg_no ha hb c] at h; cases h
  exact ⟨c, mrg_yes ha hb hl c⟩
theorem mrg_assoc {a b c : L29} (ha : chkK 1 a = 0) (hb : chkK 1 b = 0) (hc : chkK 1 c = 0) (hl : a.length + b.length + c.length ≤ 2000) (h1 : (mrgS a b).2 = 0) (h2 : (mrgS b c).2 = 0) :
    mrgS a (mrgS b c).1 = mrgS (mrgS a b).1 c := by
  obtain ⟨n1, F⟩ := mrg_fine ha hb (by omega) h1
  obtain ⟨n2, G⟩ := mrg_fine hb hc (by omega) h2
  have Fl := F.len
  have Gl := G.len
  by_cases h : Cnf a c
  · have c1 : Cnf a (mrgS b c).1 := by
      obtain ⟨x, hx, y, hy, e, ne⟩ := h
      exact ⟨x, hx, y, (G.mem y).2 (.inr hy), e, ne⟩
    have c2 : Cnf (mrgS a b).1 c := by
      obtain ⟨x, hx, y, hy, e, ne⟩ := h
      exact ⟨x, (F.mem x).2 (.inl hx), y, hy, e, ne⟩
    rw [mrg_no ha G.chk c1, mrg_no F.chk hc c2]
  · have c1 : ¬ Cnf a (mrgS b c).1 := by
      rintro ⟨x, hx, y, hy, e, ne⟩
      rcases (G.mem y).1 hy with hy | hy
      · exact n1 ⟨x, hx, y, hy, e, ne⟩
      · exact h ⟨x, hx, y, hy, e, ne⟩
    have c2 : ¬ Cnf (mrgS a b).1 c := by
      rintro ⟨x, hx, y, hy, e, ne⟩
      rcases (F.mem x).1 hx with hx | hx
      · exact h ⟨x, hx, y, hy, e, ne⟩
      · exact n2 ⟨x, hx, y, hy, e, ne⟩
    have P := mrg_yes ha G.chk (by omega) c1
    have Q := mrg_yes F.chk hc (by omega) c2
    exact pair_ext (asc_ext P.asc Q.asc (fun z => by rw [P.mem, Q.mem, G.mem, F.mem, or_assoc])) (by rw [P.code, Q.code])

/-- One round of the loop: what is not there is put in. -/
def put1 (l : L29) (x : S29) : L29 := if (insS l x).2 = 6 then l else (insS l x).1
def putA (a : L29) (pre : List (Int × S29)) : L29 := pre.foldl (fun l p => put1 l p.2) a
structure PutF (a : L29) (pre : List (Int × S29)) (r : L29) : Prop where
  chk : chkK 1 r = 0
  mem : ∀ z, z ∈ r ↔ z ∈ a ∨ ∃ p ∈ pre, p.2 = z
  len : r.length ≤ a.length + pre.length
theorem put_step {a b : L29} (hb : chkK 1 b = 0) (hcn : ¬ Cnf a b) {pre : List (Int × S29)} {r : L29} {p : Int × S29} (F : PutF a pre r) (hp : ∀ q ∈ pre ++ [p], q.2 ∈ b) (hl : a.length + pre.length < 2000) :
    PutF a (pre ++ [p]) (put1 r p.2) ∧ ((insS r p.2).2 = 6 ∨ (insS r p.2).2 = 0) := by
  obtain ⟨b1, b2, b3⟩ := (chk1_iff b).1 hb
  obtain ⟨r1, r2, r3⟩ := (chk1_iff r).1 F.chk
  have hpb : p.2 ∈ b := hp p (by simp)
  have hlen := F.len
  by_cases ht : hasT r p.2.f0 = true
  · obtain ⟨z, hz, e⟩ := (hasT_iff r p.2.f0 r3).1 ht
    have hzp : z = p.2 := by
      rcases (F.mem z).1 hz with h | ⟨q, hq, rfl⟩
      · exact Classical.byContradiction fun ne => hcn ⟨z, h, p.2, hpb, e, ne⟩
      · exact asc_uniq b3 (hp q (by simp [hq])) hpb e
    have he : eqO r[plc r p.2.f0]? p.2 = true := by
      have ht2 := ht
      unfold hasT at ht2
      cases hg : r[plc r p.2.f0]? with
      | none => rw [hg] at ht2; cases ht2
      | some y =>
        rw [hg] at ht2
        obtain ⟨hlt, hy⟩ := List.getElem?_eq_some_iff.1 hg
        have hya : y ∈ r := by rw [← hy]; exact List.getElem_mem hlt
        have e2 := asc_uniq r3 hya hz (by rw [e]; simpa using ht2)
        rw [e2, hzp]
        simp [eqO]
    have hi : insS r p.2 = ([], 6) := by
      unfold insS
      rw [if_pos F.chk, if_pos (b2 _ hpb), if_pos ht, if_pos he]
    refine ⟨?_, .inl (by rw [hi])⟩
    unfold put1
    rw [hi, if_pos rfl]
    refine ⟨F.chk, fun y => ?_, by simp; omega⟩
    rw [F.mem]
    constructor
    · rintro (h | ⟨q, hq, h⟩)
      · exact .inl h
      · exact .inr ⟨q, by simp [hq], h⟩
    · rintro (h | ⟨q, hq, h⟩)
      · exact .inl h
      · rcases List.mem_append.1 hq with hq | hq
        · exact .inr ⟨q, hq, h⟩
        · rw [List.mem_singleton.1 hq] at h
          rw [← h, ← hzp]
          exact (F.mem z).1 hz
  · have ht' : hasT r p.2.f0 = false := by simpa using ht
    have hi := insS_do F.chk (b2 _ hpb) ht' (by omega)
    have h0 : (insS r p.2).2 = 0 := by rw [hi]
    have I := insF h0
    refine ⟨?_, .inr h0⟩
    unfold put1
    rw [if_neg (by rw [h0]; decide)]
    have Il := I.len
    refine ⟨I.chk (by omega), fun y => ?_, by simp; omega⟩
    rw [I.mem, F.mem]
    constructor
    · rintro (rfl | h | ⟨q, hq, h⟩)
      · exact .inr ⟨p, by simp, rfl⟩
      · exact .inl h
      · exact .inr ⟨q, by simp [hq], h⟩
    · rintro (h | ⟨q, hq, h⟩)
      · exact .inr (.inl h)
      · rcases List.mem_append.1 hq with hq | hq
        · exact .inr (.inr ⟨q, hq, h⟩)
        · rw [List.mem_singleton.1 hq] at h
          exact .inl h.symm
theorem putA_snoc (a : L29) (pre : List (Int × S29)) (p : Int × S29) : putA a (pre ++ [p]) = put1 (putA a pre) p.2 := by simp [putA]
theorem bwd_mem (b : L29) (p : Int × S29) (h : p ∈ bwd b) : p.2 ∈ b := by
  unfold bwd at h
  rw [List.mem_reverse, List.mem_mapIdx] at h
  obtain ⟨i, hi, rfl⟩ := h
  exact List.getElem_mem hi
theorem mem_bwd (b : L29) (z : S29) (h : z ∈ b) : ∃ p ∈ bwd b, p.2 = z := by
  obtain ⟨i, hi, e⟩ := List.getElem_of_mem h
  exact ⟨((i : Int), z), by unfold bwd; rw [List.mem_reverse, List.mem_mapIdx]; exact ⟨i, hi, by rw [e]⟩, rfl⟩
theorem putA_ok {a b : L29} (ha : chkK 1 a = 0) (hb : chkK 1 b = 0) (hcn : ¬ Cnf a b) (hl : a.length + b.length < 2000) : ∀ pre : List (Int × S29), pre <+: bwd b → PutF a pre (putA a pre) := by
  intro pre hpre
  obtain ⟨n, hn⟩ : ∃ n, pre.length = n := ⟨_, rfl⟩
  induction n generalizing pre with
  | zero =>
    have : pre = [] := List.eq_nil_of_length_eq_zero hn
    subst this
    exact ⟨ha, by simp [putA], by simp [putA]⟩
  | succ n ih =>
    have hne : pre ≠ [] := by intro e; rw [e] at hn; simp at hn
    have e := List.dropLast_concat_getLast hne
    generalize pre.getLast hne = p at e
    generalize pre.dropLast = q at e
    subst e
    have hq : q <+: bwd b := (List.prefix_append q [p]).trans hpre
    have hbl := hpre.length_le
    rw [bwd_length] at hbl
    rw [putA_snoc]
    exact (put_step hb hcn (ih q hq (by simpa using hn)) (fun r hr => bwd_mem b r (hpre.subset hr)) (by simp at hn hbl; omega)).1
theorem putA_all {a b : L29} (ha : chkK 1 a = 0) (hb : chkK 1 b = 0) (hl : a.length + b.length < 2000) (h : (mrgS a b).2 = 0) : putA a (bwd b) = (mrgS a b).1 := by
  obtain ⟨c, F⟩ := mrg_fine ha hb (by omega) h
  have P := putA_ok ha hb c hl (bwd b) (List.prefix_refl _)
  refine asc_ext ((chk1_iff _).1 P.chk).2.2 F.asc (fun z => ?_)
  rw [P.mem, F.mem]
  constructor
  · rintro (h | ⟨p, hp, rfl⟩)
    · exact .inl h
    · exact .inr (bwd_mem b p hp)
  · rintro (h | h)
    · exact .inl h
    · exact .inr (mem_bwd b z h)

end Go.Proofs.Ytjgkcgfbkcbjfaa.H
/- The walk of SeriesChange. -/
namespace Go.Proofs.Ytjgkcgfbkcbjfaa.H
open Go Go.RowKit Go.Proofs.YtjgkcgfbkcbjfaaW.PrintWords Go.Proofs.YtjgkcgfbkcbjfaaW.PrintLast Go.Proofs.YtjgkcgfbkcbjfaaW.PrintMore Go.Proofs.Ytjgkcgfbkcbjfaa.PAll
set_option linter.unusedVariables false
set_option linter.unusedSimpArgs false

theorem mrgS_len (a b : L29) : (mrgS a b).1.length ≤ a.length + b.length := by
  unfold mrgS
  split
  · unfold mg
    cases h : mgF (a.length + b.length) a b with
    | none => simp
    | some m => have := mgF_len _ _ _ _ h; dsimp only; split <;> simp <;> omega
  · simp

end Go.Proofs.Ytjgkcgfbkcbjfaa.H
