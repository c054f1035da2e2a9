/- The plain laws of Merge, and what the reference's Insert, Remove and Merge come to. -/
import Derived.Test.YtjgkcgfbkcbjfaaSPlain
import Derived.Test.YtjgkcgfbkcbjfaaGCompact
import Derived.Test.YtjgkcgfbkcbjfaaSNb
import Derived.Test.YtjgkcgfbkcbjfaaPF3
namespace Go.Proofs.Ytjgkcgfbkcbjfaa.H
open Go Go.RowKit Go.Proofs.YtjgkcgfbkcbjfaaW.PrintWords Go.Proofs.YtjgkcgfbkcbjfaaW.PrintLast Go.Proofs.YtjgkcgfbkcbjfaaW.PrintMore Go.Proofs.Ytjgkcgfbkcbjfaa.PAll
set_option linter.unusedVariables false
set_option linter.unusedSimpArgs false

def mgF : Nat → L29 → L29 → Option (L29)
  | 0, _, _ => some []
  | _ + 1, [], [] => some []
  | n + 1, x :: a, [] => (mgF n a []).map (x :: ·)
  | n + 1, [], y :: b => (mgF n [] b).map (y :: ·)
  | n + 1, x :: a, y :: b => if x.f0 < y.f0 then (mgF n a (y :: b)).map (x :: ·) else if x.f0 = y.f0 then (if x.f1 = y.f1 then (mgF n a b).map (y :: ·) else none) else (mgF n (x :: a) b).map (y :: ·)
/-- Two lists merged; none at a conflict. -/
def mg (a b : L29) : Option (L29) := mgF (a.length + b.length) a b
def Cnf (a b : L29) : Prop := ∃ x ∈ a, ∃ y ∈ b, x.f0 = y.f0 ∧ x ≠ y

structure MgF (a b : L29) (r : Option (L29)) : Prop where
  yes : ∀ m, r = some m → Asc m ∧ (∀ z, z ∈ m ↔ z ∈ a ∨ z ∈ b) ∧ ¬ Cnf a b
  no : r = none → Cnf a b
theorem mgF_spec : ∀ (n : Nat) (a b : L29), a.length + b.length ≤ n → Asc a → Asc b → MgF a b (mgF n a b)
  | 0, a, b, h, _, _ => by
    have ha : a = [] := List.eq_nil_of_length_eq_zero (by omega)
    have hb : b = [] := List.eq_nil_of_length_eq_zero (by omega)
    subst ha hb
    exact ⟨fun m e => by simp [mgF] at e; subst e; exact ⟨List.Pairwise.nil, by simp, by rintro ⟨x, hx, _⟩; simp at hx⟩, fun e => by simp [mgF] at e⟩
  | n + 1, [], [], _, _, _ =>
    ⟨fun m e => by simp [mgF] at e; subst e; exact ⟨List.Pairwise.nil, by simp, by rintro ⟨x, hx, _⟩; simp at hx⟩, fun e => by simp [mgF] at e⟩
  | n + 1, x :: a, [], h, ha, hb => by
    have ha' := List.pairwise_cons.1 ha
    have ih := mgF_spec n a [] (by simp at h ⊢; omega) ha'.2 hb
    simp only [mgF]
    constructor
    · intro m e
      obtain ⟨m', e1, rfl⟩ := Option.map_eq_some_iff.1 e
      obtain ⟨h1, h2, h3⟩ := ih.yes m' e1
      refine ⟨List.pairwise_cons.2 ⟨fun z hz => ?_, h1⟩, fun z => ?_, by rintro ⟨u, _, v, hv, _⟩; simp at hv⟩
      · rcases (h2 z).1 hz with h | h
        · exact ha'.1 z h
        · simp at h
      · simp only [List.mem_cons, h2]; simp
    · intro e
      have := ih.no (by simpa using e)
      obtain ⟨u, _, v, hv, _⟩ := this
      simp at hv
  | n + 1, [], y :: b, h, ha, hb => by
    have hb' := List.pairwise_cons.1 hb
    have ih := mgF_spec n [] b (by simp at h ⊢; omega) ha hb'.2
    simp only [mgF]
    constructor
    · intro m e
      obtain ⟨m', e1, rfl⟩ := Option.map_eq_some_iff.1 e
      obtain ⟨h1, h2, h3⟩ := ih.yes m' e1
      refine ⟨List.pairwise_cons.2 ⟨fun z hz => ?_, h1⟩, fun z => ?_, by rintro ⟨u, hu, _⟩; simp at hu⟩
      · rcases (h2 z).1 hz with h | h
        · simp at h
        · exact hb'.1 z h
      · simp only [List.mem_cons, h2]; simp
    · intro e
      have := ih.no (by simpa using e)
      obtain ⟨u, hu, _⟩ := this
      simp at hu
  | n + 1, x :: a, y :: b, h, ha, hb => by
    have ha' := List.pairwise_cons.1 ha
    have hb' := List.pairwise_cons.1 hb
    simp only [mgF]
    by_cases h1 : x.f0 < y.f0
    · rw [if_pos h1]
      have ih := mgF_spec n a (y :: b) (by simp at h ⊢; omega) ha'.2 hb
      constructor
      · intro m e
        obtain ⟨m', e1, rfl⟩ := Option.map_eq_some_iff.1 e
        obtain ⟨g1, g2, g3⟩ := ih.yes m' e1
        refine ⟨List.pairwise_cons.2 ⟨fun z hz => ?_, g1⟩, fun z => ?_, ?_⟩
        · rcases (g2 z).1 hz with h | h
          · exact ha'.1 z h
          · rcases List.mem_cons.1 h with rfl | h
            · exact h1
            · have := hb'.1 z h; omega
        · simp only [List.mem_cons, g2]
          constructor
          · rintro (h | h | h | h)
            · exact .inl (.inl h)
            · exact .inl (.inr h)
            · exact .inr (.inl h)
            · exact .inr (.inr h)
          · rintro ((h | h) | h | h)
            · exact .inl h
            · exact .inr (.inl h)
            · exact .inr (.inr (.inl h))
            · exact .inr (.inr (.inr h))
        · rintro ⟨u, hu, v, hv, e, ne⟩
          rcases List.mem_cons.1 hu with rfl | hu
          · rcases List.mem_cons.1 hv with rfl | hv
            · omega
            · have := hb'.1 v hv; omega
          · exact g3 ⟨u, hu, v, hv, e, ne⟩
      · intro e
        obtain ⟨u, hu, v, hv, e1, ne⟩ := ih.no (by simpa using e)
        exact ⟨u, List.mem_cons_of_mem _ hu, v, hv, e1, ne⟩
    · rw [if_neg h1]
      by_cases h2 : x.f0 = y.f0
      · rw [if_pos h2]
        by_cases h3 : x.f1 = y.f1
        · rw [if_pos h3]
          have hxy : x = y := S_ext h2 h3
          subst hxy
          have ih := mgF_spec n a b (by simp at h ⊢; omega) ha'.2 hb'.2
          constructor
          · intro m e
            obtain ⟨m', e1, rfl⟩ := Option.map_eq_some_iff.1 e
            obtain ⟨g1, g2, g3⟩ := ih.yes m' e1
            refine ⟨List.pairwise_cons.2 ⟨fun z hz => ?_, g1⟩, fun z => ?_, ?_⟩
            · rcases (g2 z).1 hz with h | h
              · exact ha'.1 z h
              · exact hb'.1 z h
            · simp only [List.mem_cons, g2]
              constructor
              · rintro (h | h | h)
                · exact .inl (.inl h)
                · exact .inl (.inr h)
                · exact .inr (.inr h)
              · rintro ((h | h) | h | h)
                · exact .inl h
                · exact .inr (.inl h)
                · exact .inl h
                · exact .inr (.inr h)
            · rintro ⟨u, hu, v, hv, e, ne⟩
              rcases List.mem_cons.1 hu with e2 | hu
              · rcases List.mem_cons.1 hv with e3 | hv
                · exact ne (e2.trans e3.symm)
                · have := hb'.1 v hv; rw [e2] at e; omega
              · rcases List.mem_cons.1 hv with e3 | hv
                · have := ha'.1 u hu; rw [e3] at e; omega
                · exact g3 ⟨u, hu, v, hv, e, ne⟩
          · intro e
            obtain ⟨u, hu, v, hv, e1, ne⟩ := ih.no (by simpa using e)
            exact ⟨u, List.mem_cons_of_mem _ hu, v, List.mem_cons_of_mem _ hv, e1, ne⟩
        · rw [if_neg h3]
          exact ⟨fun m e => (by cases e), fun _ => ⟨x, by simp, y, by simp, h2, fun e => h3 (by rw [e])⟩⟩
      · rw [if_neg h2]
        have ih := mgF_spec n (x :: a) b (by simp at h ⊢; omega) ha hb'.2
        constructor
        · intro m e
          obtain ⟨m', e1, rfl⟩ := Option.map_eq_some_iff.1 e
          obtain ⟨g1, g2, g3⟩ := ih.yes m' e1
          refine ⟨List.pairwise_cons.2 ⟨fun z hz => ?_, g1⟩, fun z => ?_, ?_⟩
          · rcases (g2 z).1 hz with h | h
            · rcases List.mem_cons.1 h with e9 | h
              · rw [e9]; omega
              · have := ha'.1 z h; omega
            · exact hb'.1 z h
          · simp only [List.mem_cons, g2]
            constructor
            · rintro (h | (h | h) | h)
              · exact .inr (.inl h)
              · exact .inl (.inl h)
              · exact .inl (.inr h)
              · exact .inr (.inr h)
            · rintro ((h | h) | h | h)
              · exact .inr (.inl (.inl h))
              · exact .inr (.inl (.inr h))
              · exact .inl h
              · exact .inr (.inr h)
          · rintro ⟨u, hu, v, hv, e, ne⟩
            rcases List.mem_cons.1 hv with e8 | hv
            · rcases List.mem_cons.1 hu with e9 | hu
              · rw [e8, e9] at e; exact h2 e
              · have := ha'.1 u hu; rw [e8] at e; omega
            · exact g3 ⟨u, hu, v, hv, e, ne⟩
        · intro e
          obtain ⟨u, hu, v, hv, e1, ne⟩ := ih.no (by simpa using e)
          exact ⟨u, hu, v, List.mem_cons_of_mem _ hv, e1, ne⟩
theorem mg_spec {a b : L29} (ha : Asc a) (hb : Asc b) : MgF a b (mg a b) := mgF_spec _ a b (Nat.le_refl _) ha hb
theorem mgF_len : ∀ (n : Nat) (a b m : L29), mgF n a b = some m → m.length ≤ a.length + b.length
  | 0, a, b, m, h => by simp [mgF] at h; subst h; simp
  | n + 1, [], [], m, h => by simp [mgF] at h; subst h; simp
  | n + 1, x :: a, [], m, h => by
    simp only [mgF] at h
    obtain ⟨m', e1, rfl⟩ := Option.map_eq_some_iff.1 h
    have := mgF_len n _ _ _ e1
    simp at this ⊢; omega
  | n + 1, [], y :: b, m, h => by
    simp only [mgF] at h
    obtain ⟨m', e1, rfl⟩ := Option.map_eq_some_iff.1 h
    have := mgF_len n _ _ _ e1
    simp at this ⊢; omega
  | n + 1, x :: a, y :: b, m, h => by
    simp only [mgF] at h
    split at h
    · obtain ⟨m', e1, rfl⟩ := Option.map_eq_some_iff.1 h
      have := mgF_len n _ _ _ e1
      simp at this ⊢; omega
    · split at h
      · split at h
        · obtain ⟨m', e1, rfl⟩ := Option.map_eq_some_iff.1 h
          have := mgF_len n _ _ _ e1
          simp at this ⊢; omega
        · cases h
      · obtain ⟨m', e1, rfl⟩ := Option.map_eq_some_iff.1 h
        have := mgF_len n _ _ _ e1
        simp at this ⊢; omega

/-- What Merge comes to. -/
def mrgS (a b : L29) : L29 × Int := if chkK 1 a = 0 ∧ chkK 1 b = 0 then (match mg a b with | none => ([], 16) | some m => if 2000 < m.length then ([], 4) else (m, 0)) else ([], 1)

/-- Do two neighbours have one time? -/
def cfB (d : L29) : Bool := (prs d).any fun p => p.1.f0 == p.2.f0
theorem mem_dd : ∀ (l : L29) (z : S29), z ∈ dd l ↔ z ∈ l
  | [], z => by simp [dd]
  | [x], z => by simp [dd]
  | x :: y :: l, z => by
    have ih := mem_dd (y :: l) z
    simp only [dd]
    split
    · rename_i h
      have e := (eqS_iff _ _).1 h
      subst e
      rw [ih]
      simp
    · rw [List.mem_cons, ih, List.mem_cons (a := z) (b := x)]
theorem dd_sub : ∀ l : L29, (dd l).Sublist l
  | [] => by simp [dd]
  | [x] => by simp [dd]
  | x :: y :: l => by
    have ih := dd_sub (y :: l)
    simp only [dd]
    split
    · exact ih.cons _
    · exact ih.cons_cons _
def AscE (l : L29) : Prop := l.Pairwise (fun x y => x.f0 ≤ y.f0)
theorem asc_of_cf : ∀ {l : L29}, AscE l → cfB l = false → Asc l
  | [], _, _ => List.Pairwise.nil
  | [x], _, _ => by simp [Asc]
  | x :: y :: l, h, hc => by
    have h' := List.pairwise_cons.1 h
    have e : prs (x :: y :: l) = (x, y) :: prs (y :: l) := rfl
    unfold cfB at hc
    rw [e, List.any_cons, Bool.or_eq_false_iff] at hc
    have ih := asc_of_cf (l := y :: l) h'.2 hc.2
    refine List.pairwise_cons.2 ⟨fun z hz => ?_, ih⟩
    have h1 := h'.1 y (by simp)
    have h2 : x.f0 ≠ y.f0 := by simpa using hc.1
    rcases List.mem_cons.1 hz with rfl | hz
    · omega
    · have := (List.pairwise_cons.1 ih).1 z hz; omega
theorem cf_of_asc : ∀ {l : L29}, Asc l → cfB l = false
  | [], _ => rfl
  | [x], _ => rfl
  | x :: y :: l, h => by
    have h' := List.pairwise_cons.1 h
    have e : prs (x :: y :: l) = (x, y) :: prs (y :: l) := rfl
    have ih := cf_of_asc (l := y :: l) h'.2
    unfold cfB at ih ⊢
    rw [e, List.any_cons, ih, Bool.or_false]
    have := h'.1 y (by simp)
    simp; omega
theorem dd_asc : ∀ {l : L29}, AscE l → (∀ u ∈ l, ∀ v ∈ l, u.f0 = v.f0 → u = v) → Asc (dd l)
  | [], _, _ => by simp [dd, Asc]
  | [x], _, _ => by simp [dd, Asc]
  | x :: y :: l, h, hu => by
    have h' := List.pairwise_cons.1 h
    have ih := dd_asc (l := y :: l) h'.2 (fun u hu1 v hv1 => hu u (List.mem_cons_of_mem _ hu1) v (List.mem_cons_of_mem _ hv1))
    simp only [dd]
    split
    · exact ih
    · rename_i hne
      refine List.pairwise_cons.2 ⟨fun z hz => ?_, ih⟩
      have hz' := (mem_dd _ _).1 hz
      have h1 := h'.1 z hz'
      have hxy : x ≠ y := fun e => hne ((eqS_iff _ _).2 e)
      have hy : x.f0 ≠ y.f0 := fun e => hxy (hu x (by simp) y (by simp) e)
      have h2 := h'.1 y (by simp)
      rcases List.mem_cons.1 hz' with rfl | hz'
      · omega
      · have := (List.pairwise_cons.1 h'.2).1 z hz'; omega
/-- What lies behind the sort and Compact. -/
theorem merge_dd {a b ys : L29} (ha : Asc a) (hb : Asc b) (hp : ys.Perm (a ++ b)) (hs : AscE ys) :
    (mg a b = none → cfB (dd ys) = true) ∧ (∀ m, mg a b = some m → cfB (dd ys) = false ∧ dd ys = m) := by
  have hm : ∀ z, z ∈ ys ↔ z ∈ a ∨ z ∈ b := fun z => by rw [hp.mem_iff, List.mem_append]
  have hd : AscE (dd ys) := List.Pairwise.sublist (dd_sub ys) hs
  constructor
  · intro e
    obtain ⟨u, hu, v, hv, e1, ne⟩ := (mg_spec ha hb).no e
    cases hc : cfB (dd ys) with
    | true => rfl
    | false =>
      have := asc_of_cf hd hc
      exact absurd (asc_uniq this ((mem_dd _ _).2 ((hm u).2 (.inl hu))) ((mem_dd _ _).2 ((hm v).2 (.inr hv))) e1) ne
  · intro m e
    obtain ⟨g1, g2, g3⟩ := (mg_spec ha hb).yes m e
    have hA := dd_asc hs (fun u hu v hv e1 => by
      rcases (hm u).1 hu with hu | hu <;> rcases (hm v).1 hv with hv | hv
      · exact asc_uniq ha hu hv e1
      · exact Classical.byContradiction fun ne => g3 ⟨u, hu, v, hv, e1, ne⟩
      · exact Classical.byContradiction fun ne => g3 ⟨v, hv, u, hu, e1.symm, fun e => ne e.symm⟩
      · exact asc_uniq hb hu hv e1)
    exact ⟨cf_of_asc hA, asc_ext hA g1 (fun z => by rw [mem_dd, hm, g2])⟩

/-- The reference. -/
theorem rValid_f (l : L29) (k : Nat) (hl : l.length ≤ 4611686018427387904) (hk : 2 * l.length + 2 < k) : lookoutref11_Valid.f k l = some (chkK 1 l == 0) := by
  unfold lookoutref11_Valid.f
  rw [rCheck_f 1 l k hl hk]; rfl
theorem rplace_l0 (t : Int) (l : L29) (hl : l.length ≤ 4611686018427387904) : ∀ (n k j : Nat), l.length - j = n → n < k → j ≤ l.length → lookoutref11_place.l0 k l t (j : Int) = some (((j + plc (l.drop j) t : Nat) : Int)) := by
  intro n
  induction n with
  | zero =>
    intro k j hn hk hj
    obtain ⟨k, rfl⟩ : ∃ m, k = m + 1 := ⟨k - 1, by omega⟩
    simp only [lookoutref11_place.l0]
    rw [if_neg (by omega), List.drop_eq_nil_of_le (by omega)]
    rfl
  | succ n ih =>
    intro k j hn hk hj
    obtain ⟨k, rfl⟩ : ∃ m, k = m + 1 := ⟨k - 1, by omega⟩
    have hlt : j < l.length := by omega
    simp only [lookoutref11_place.l0]
    rw [if_pos (by omega), if_pos (by omega), rdT_get l j hlt, wrap1 j (by omega), ih k (j + 1) (by omega) (by omega) (by omega), List.drop_eq_getElem_cons hlt]
    generalize l.drop (j + 1) = tt
    generalize l[j] = y
    by_cases h : y.f0 < t
    · rw [if_pos h]
      have e : plc (y :: tt) t = plc tt t + 1 := by simp [plc, List.takeWhile_cons, h]
      rw [e]
      congr 2
      omega
    · rw [if_neg h]
      have e : plc (y :: tt) t = 0 := by simp [plc, List.takeWhile_cons, h]
      rw [e]; rfl
theorem rplace_f (t : Int) (l : L29) (k : Nat) (hl : l.length ≤ 4611686018427387904) (hk : l.length < k) : lookoutref11_place.f k l t = some ((plc l t : Nat) : Int) := by
  have := rplace_l0 t l hl l.length k 0 (by omega) hk (by omega)
  simpa [lookoutref11_place.f] using this
theorem hasT_eq (l : L29) (t : Int) : hasT l t = true ↔ ∃ h : plc l t < l.length, l[plc l t].f0 = t := by
  unfold hasT
  rcases Nat.lt_or_ge (plc l t) l.length with h | h
  · rw [List.getElem?_eq_getElem h]
    simp only [beq_iff_eq]
    exact ⟨fun e => ⟨h, e⟩, fun ⟨_, e⟩ => e⟩
  · rw [List.getElem?_eq_none h]
    exact ⟨fun e => (by cases e), fun ⟨h2, _⟩ => by omega⟩
theorem rInsert_f (l : L29) (x : S29) (k : Nat) (hl : l.length ≤ 1000000) (hk : 2 * l.length + 3 < k) : lookoutref11_Insert.f k l x.f0 x.f1 = some (insS l x) := by
  obtain ⟨k, rfl⟩ : ∃ m, k = m + 1 := ⟨k - 1, by omega⟩
  unfold lookoutref11_Insert.f insS
  rw [rValid_f l _ (by omega) (by omega)]
  simp only [Option.bind_some]
  by_cases h1 : chkK 1 l = 0
  · rw [if_pos (by simpa using h1), if_pos h1, rsample_f]
    simp only [Option.bind_some]
    by_cases h2 : okX x = true
    · rw [if_pos h2, if_pos h2, rplace_f x.f0 l _ (by omega) (by omega)]
      simp only [Option.bind_some]
      have hple := plc_le l x.f0
      have key : ∀ b : Bool, b = hasT l x.f0 → lookoutref11_Insert.j0 (k + 1) l ((plc l x.f0 : Nat) : Int) b x.f0 x.f1 = some (if hasT l x.f0 = true then (if eqO l[plc l x.f0]? x = true then ([], 6) else ([], 16)) else if 2000 ≤ l.length then ([], 4) else (insL l (plc l x.f0) x, 0)) := by
        intro b hb
        simp only [lookoutref11_Insert.j0]
        by_cases h3 : hasT l x.f0 = true
        · obtain ⟨h4, h5⟩ := (hasT_eq l x.f0).1 h3
          rw [if_pos (by rw [hb, h3]), if_pos h3, if_pos (by omega), if_pos (by omega), rdT_get l _ h4, List.getElem?_eq_getElem h4]
          by_cases h6 : l[plc l x.f0].f1 = x.f1
          · rw [if_pos h6, if_pos (show eqO (some l[plc l x.f0]) x = true by simp [eqO, h5, h6])]
          · rw [if_neg h6, if_neg (show ¬ eqO (some l[plc l x.f0]) x = true by simp [eqO, h6])]
        · rw [if_neg (by rw [hb]; exact h3), if_neg h3]
          by_cases h6 : 2000 ≤ l.length
          · rw [if_pos (by omega), if_pos h6]
          · rw [if_neg (by omega), if_neg h6]
            simp only [Option.bind_some]
            rw [if_pos (by omega), if_pos (by omega), if_pos (by simp; omega), if_pos (by simp; omega), if_pos (by simp; omega)]
            simp [insL]
      by_cases h3 : plc l x.f0 < l.length
      · rw [if_pos (by omega), if_pos (by omega), rdT_get l _ h3]
        refine key _ ?_
        rw [Bool.eq_iff_iff, hasT_eq]
        simp only [beq_iff_eq]
        exact ⟨fun e => ⟨h3, e⟩, fun ⟨_, e⟩ => e⟩
      · rw [if_neg (by omega)]
        refine key _ ?_
        cases hh : hasT l x.f0 with
        | false => rfl
        | true => obtain ⟨h4, _⟩ := (hasT_eq l x.f0).1 hh; exact absurd h4 h3
    · rw [if_neg h2, if_neg h2]
  · rw [if_neg (by simpa using h1), if_neg h1]
theorem rRemove_f (l : L29) (t : Int) (k : Nat) (hl : l.length ≤ 1000000) (hk : 2 * l.length + 3 < k) : lookoutref11_Remove.f k l t = some (remS l t) := by
  unfold lookoutref11_Remove.f remS
  rw [rValid_f l _ (by omega) (by omega)]
  simp only [Option.bind_some]
  by_cases h1 : chkK 1 l = 0
  · rw [if_pos (by simpa using h1), if_pos h1, rplace_f t l _ (by omega) (by omega)]
    simp only [Option.bind_some]
    have hple := plc_le l t
    by_cases h2 : plc l t < l.length
    · rw [if_neg (by omega), if_pos (by omega), if_pos (by omega), rdT_get l _ h2]
      by_cases h3 : l[plc l t].f0 = t
      · rw [if_pos h3, if_pos ((hasT_eq l t).2 ⟨h2, h3⟩)]
        have hw : wrap64 (((plc l t : Nat) : Int) + 1) = ((plc l t + 1 : Nat) : Int) := wrap1 _ (by omega)
        rw [if_pos (by omega), if_pos (by simp; omega), hw, if_pos (by omega), if_pos (by omega), if_pos (by simp; omega)]
        simp [delL]
      · rw [if_neg h3, if_neg (fun h => h3 ((hasT_eq l t).1 h).2)]
    · rw [if_pos (by omega), if_neg (fun h => h2 ((hasT_eq l t).1 h).1)]
  · rw [if_neg (by simpa using h1), if_neg h1]
/-- What the loop of the reference's Merge answers. -/
def mgO (out : L29) : Option (L29) → Option (L29 × Int)
  | none => some ([], 16)
  | some m => if 2000 < (out ++ m).length then some ([], 4) else some (out ++ m, 0)
theorem mgO_map (out : L29) (x : S29) (o : Option (L29)) : mgO out (o.map (x :: ·)) = mgO (out ++ [x]) o := by
  cases o with
  | none => rfl
  | some m => simp [mgO]
theorem rd0 (x : S29) (l : L29) : rd_T29 (x :: l) 0 = x := by
  have := rdT_get (x :: l) 0 (by simp)
  simpa using this
theorem wrap_sum (a b : L29) (h : a.length + b.length ≤ 1000000) : wrap64 ((a.length : Int) + (b.length : Int)) = ((a.length + b.length : Nat) : Int) := by
  unfold wrap64; omega
theorem rMerge_l0 : ∀ (n : Nat) (a b out : L29) (k : Nat), a.length + b.length ≤ n → n ≤ 1000000 → out.length + n ≤ 8000000 → 3 * n < k → lookoutref11_Merge.l0 k a b out = mgO out (mgF n a b) := by
  intro n
  induction n with
  | zero =>
    intro a b out k h _ _ hk
    obtain ⟨k, rfl⟩ : ∃ m, k = m + 1 := ⟨k - 1, by omega⟩
    have ha : a = [] := List.eq_nil_of_length_eq_zero (by omega)
    have hb : b = [] := List.eq_nil_of_length_eq_zero (by omega)
    subst ha hb
    simp only [lookoutref11_Merge.l0, wrap_sum [] [] (by simp), mgF, mgO, List.append_nil]
    rw [if_neg (by simp)]
    by_cases g : 2000 < out.length
    · rw [if_pos (by omega), if_pos g]
    · rw [if_neg (by omega), if_neg g]
  | succ n ih =>
    intro a b out k h hn ho hk
    obtain ⟨k2, rfl⟩ : ∃ m, k = m + 1 := ⟨k - 1, by omega⟩
    rcases a with _ | ⟨x, a⟩ <;> rcases b with _ | ⟨y, b⟩
    · simp only [lookoutref11_Merge.l0, wrap_sum [] [] (by simp), mgF, mgO, List.append_nil]
      rw [if_neg (by simp)]
      by_cases g : 2000 < out.length
      · rw [if_pos (by omega), if_pos g]
      · rw [if_neg (by omega), if_neg g]
    · simp only [List.length_cons, List.length_nil] at h
      have hws := wrap_sum [] (y :: b) (by simp; omega)
      simp only [List.length_cons, List.length_nil] at hws
      simp only [lookoutref11_Merge.l0, hws, List.length_cons, List.length_nil]
      obtain ⟨k1, rfl⟩ : ∃ m, k2 = m + 1 := ⟨k2 - 1, by omega⟩
      simp only [lookoutref11_Merge.j2]
      obtain ⟨k, rfl⟩ : ∃ m, k1 = m + 1 := ⟨k1 - 1, by omega⟩
      simp only [lookoutref11_Merge.j3, mgF, mgO_map, rd0, List.length_cons, List.length_nil]
      rw [if_pos (by omega), if_neg (by omega), if_neg (by omega), if_neg (by simp), if_neg (by omega), if_neg (by simp), if_pos (by omega), if_pos (by omega), if_pos (by omega), ih [] _ _ _ (by simp; omega) (by omega) (by simp; omega) (by omega)]
      rfl
    · simp only [List.length_cons, List.length_nil] at h
      have hws := wrap_sum (x :: a) [] (by simp; omega)
      simp only [List.length_cons, List.length_nil] at hws
      simp only [lookoutref11_Merge.l0, hws, List.length_cons, List.length_nil]
      obtain ⟨k1, rfl⟩ : ∃ m, k2 = m + 1 := ⟨k2 - 1, by omega⟩
      simp only [lookoutref11_Merge.j2, mgF, mgO_map, rd0, List.length_cons, List.length_nil]
      rw [if_pos (by omega), if_pos (by omega), if_pos trivial, if_pos (by omega), if_pos (by omega), if_pos (by omega), ih _ [] _ _ (by simp; omega) (by omega) (by simp; omega) (by omega)]
      rfl
    · simp only [List.length_cons] at h
      have hws := wrap_sum (x :: a) (y :: b) (by simp; omega)
      simp only [List.length_cons] at hws
      simp only [lookoutref11_Merge.l0, hws, List.length_cons]
      obtain ⟨k1, rfl⟩ : ∃ m, k2 = m + 1 := ⟨k2 - 1, by omega⟩
      simp only [lookoutref11_Merge.j2]
      obtain ⟨k, rfl⟩ : ∃ m, k1 = m + 1 := ⟨k1 - 1, by omega⟩
      simp only [lookoutref11_Merge.j3, mgF, rd0, List.length_cons]
      rw [if_pos (by omega), if_neg (by omega), if_pos (by omega), if_pos (by omega), if_pos (by omega)]
      by_cases h1 : x.f0 < y.f0
      · rw [if_pos (by simpa using h1), if_pos h1, mgO_map, if_pos (by omega), if_pos (by omega), if_pos (by omega), ih _ (y :: b) _ _ (by simp; omega) (by omega) (by simp; omega) (by omega)]
        rfl
      · rw [if_neg (by simpa using h1), if_neg h1, if_pos (by omega), if_pos (by omega), if_pos (by omega)]
        by_cases h2 : x.f0 = y.f0
        · rw [if_pos (by simpa using h2), if_pos h2, if_pos (by omega), if_pos (by omega)]
          by_cases h3 : x.f1 = y.f1
          · rw [if_pos h3, if_pos h3, mgO_map, if_pos (by omega), if_pos (by omega), if_pos (by omega), ih _ _ _ _ (by simp; omega) (by omega) (by simp; omega) (by omega)]
            rfl
          · rw [if_neg h3, if_neg h3]
            rfl
        · rw [if_neg (by simpa using h2), if_neg h2, mgO_map, if_pos (by omega), if_pos (by omega), if_pos (by omega), ih (x :: a) _ _ _ (by simp; omega) (by omega) (by simp; omega) (by omega)]
          rfl
theorem rMerge_f (a b : L29) (k : Nat) (hl : a.length + b.length ≤ 1000000) (hk : 3 * (a.length + b.length) + 4 < k) : lookoutref11_Merge.f k a b = some (mrgS a b) := by
  obtain ⟨k, rfl⟩ : ∃ m, k = m + 1 := ⟨k - 1, by omega⟩
  unfold lookoutref11_Merge.f mrgS
  rw [rValid_f a _ (by omega) (by omega)]
  simp only [Option.bind_some]
  by_cases h1 : chkK 1 a = 0
  · rw [if_pos (by simpa using h1), rValid_f b _ (by omega) (by omega)]
    simp only [Option.bind_some, lookoutref11_Merge.j0]
    by_cases h2 : chkK 1 b = 0
    · rw [if_neg (by simpa using h2), if_pos ⟨h1, h2⟩, rMerge_l0 (a.length + b.length) a b [] k (Nat.le_refl _) hl (by simp; omega) (by omega)]
      unfold mg mgO
      cases mgF (a.length + b.length) a b with
      | none => rfl
      | some m => simp only [List.nil_append]; split <;> rfl
    · rw [if_pos (by simpa using h2), if_neg (fun h => h2 h.2)]
  · rw [if_neg (by simpa using h1), if_neg (fun h => h1 h.1)]
    simp only [lookoutref11_Merge.j0]
    rfl
end Go.Proofs.Ytjgkcgfbkcbjfaa.H
