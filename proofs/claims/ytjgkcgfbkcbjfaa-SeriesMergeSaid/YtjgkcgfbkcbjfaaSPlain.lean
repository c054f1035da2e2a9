/- Lists in ascending order of their times: what Insert and Remove do to their elements. -/
import Derived.Test.YtjgkcgfbkcbjfaaSIns
import Derived.Test.YtjgkcgfbkcbjfaaGDelete
namespace Go.Proofs.Ytjgkcgfbkcbjfaa.H
open Go Go.RowKit Go.Proofs.YtjgkcgfbkcbjfaaW.PrintWords Go.Proofs.YtjgkcgfbkcbjfaaW.PrintLast Go.Proofs.YtjgkcgfbkcbjfaaW.PrintMore Go.Proofs.Ytjgkcgfbkcbjfaa.PAll
set_option linter.unusedVariables false
set_option linter.unusedSimpArgs false

theorem asc_ext : ∀ {a b : L29}, Asc a → Asc b → (∀ z, z ∈ a ↔ z ∈ b) → a = b
  | [], [], _, _, _ => rfl
  | [], y :: b, _, _, h => by have := (h y).2 (by simp); simp at this
  | x :: a, [], _, _, h => by have := (h x).1 (by simp); simp at this
  | x :: a, y :: b, ha, hb, h => by
    have ha' := List.pairwise_cons.1 ha
    have hb' := List.pairwise_cons.1 hb
    have e : x = y := by
      rcases List.mem_cons.1 ((h x).1 (by simp)) with e | hx
      · exact e
      · rcases List.mem_cons.1 ((h y).2 (by simp)) with e | hy
        · exact e.symm
        · have h1 := hb'.1 x hx
          have h2 := ha'.1 y hy
          omega
    subst e
    rw [asc_ext ha'.2 hb'.2 (fun z => ?_)]
    constructor
    · intro hz
      rcases List.mem_cons.1 ((h z).1 (by simp [hz])) with e | hz'
      · subst e; have := ha'.1 z hz; omega
      · exact hz'
    · intro hz
      rcases List.mem_cons.1 ((h z).2 (by simp [hz])) with e | hz'
      · subst e; have := hb'.1 z hz; omega
      · exact hz'
theorem asc_uniq {l : L29} (h : Asc l) {x y : S29} (hx : x ∈ l) (hy : y ∈ l) (e : x.f0 = y.f0) : x = y := by
  induction l with
  | nil => simp at hx
  | cons a l ih =>
    have h' := List.pairwise_cons.1 h
    rcases List.mem_cons.1 hx with e1 | hx1
    · rcases List.mem_cons.1 hy with e2 | hy1
      · rw [e1, e2]
      · have := h'.1 y hy1; rw [e1] at e; omega
    · rcases List.mem_cons.1 hy with e2 | hy1
      · have := h'.1 x hx1; rw [e2] at e; omega
      · exact ih h'.2 hx1 hy1
theorem plc_take : ∀ (l : L29) (t : Int), ∀ z ∈ l.take (plc l t), z.f0 < t
  | [], t, z, hz => by simp at hz
  | x :: l, t, z, hz => by
    have ih := plc_take l t
    by_cases h : x.f0 < t
    · have e : plc (x :: l) t = plc l t + 1 := by simp [plc, List.takeWhile_cons, h]
      rw [e, List.take_succ_cons] at hz
      rcases List.mem_cons.1 hz with rfl | hz
      · exact h
      · exact ih z hz
    · have e : plc (x :: l) t = 0 := by simp [plc, List.takeWhile_cons, h]
      rw [e] at hz
      simp at hz
theorem plc_drop : ∀ (l : L29) (t : Int), Asc l → ∀ z ∈ l.drop (plc l t), t ≤ z.f0
  | [], t, _, z, hz => by simp at hz
  | x :: l, t, ha, z, hz => by
    have ha' := List.pairwise_cons.1 ha
    have ih := plc_drop l t ha'.2
    by_cases h : x.f0 < t
    · have e : plc (x :: l) t = plc l t + 1 := by simp [plc, List.takeWhile_cons, h]
      rw [e, List.drop_succ_cons] at hz
      exact ih z hz
    · have e : plc (x :: l) t = 0 := by simp [plc, List.takeWhile_cons, h]
      rw [e, List.drop_zero] at hz
      rcases List.mem_cons.1 hz with rfl | hz
      · omega
      · have := ha'.1 z hz; omega
theorem hasT_iff (l : L29) (t : Int) (ha : Asc l) : hasT l t = true ↔ ∃ z ∈ l, z.f0 = t := by
  unfold hasT
  cases hg : l[plc l t]? with
  | none =>
    have hlen : l.length ≤ plc l t := by simpa using hg
    simp only [Bool.false_eq_true, false_iff]
    rintro ⟨z, hz, e⟩
    have := plc_take l t z (by rw [List.take_of_length_le hlen]; exact hz)
    omega
  | some y =>
    obtain ⟨hlt, hy⟩ := List.getElem?_eq_some_iff.1 hg
    simp only [beq_iff_eq]
    constructor
    · intro e; exact ⟨y, by rw [← hy]; exact List.getElem_mem hlt, e⟩
    · rintro ⟨z, hz, e⟩
      rw [← List.take_append_drop (plc l t) l] at hz
      have hd : l.drop (plc l t) = y :: l.drop (plc l t + 1) := by rw [List.drop_eq_getElem_cons hlt, hy]
      rcases List.mem_append.1 hz with hz | hz
      · have := plc_take l t z hz; omega
      · have h1 := plc_drop l t ha y (by rw [hd]; simp)
        have hp : Asc (l.drop (plc l t)) := ha.sublist (List.drop_sublist _ _)
        rw [hd] at hz hp
        rcases List.mem_cons.1 hz with rfl | hz
        · exact e
        · have := (List.pairwise_cons.1 hp).1 z hz; omega
theorem hasT_false {l : L29} {t : Int} (ha : Asc l) (h : ∀ z ∈ l, z.f0 ≠ t) : hasT l t = false := by
  cases hh : hasT l t with
  | false => rfl
  | true =>
    obtain ⟨z, hz, e⟩ := (hasT_iff l t ha).1 hh
    exact absurd e (h z hz)
theorem mem_insL {l : L29} {k : Nat} {x z : S29} : z ∈ insL l k x ↔ z = x ∨ z ∈ l := by
  unfold insL
  conv => rhs; rw [← List.take_append_drop k l]
  simp only [List.mem_append, List.mem_cons]
  constructor
  · rintro (h | h | h)
    · exact .inr (.inl h)
    · exact .inl h
    · exact .inr (.inr h)
  · rintro (h | h | h)
    · exact .inr (.inl h)
    · exact .inl h
    · exact .inr (.inr h)
theorem asc_insL {l : L29} {x : S29} (ha : Asc l) (h : hasT l x.f0 = false) : Asc (insL l (plc l x.f0) x) := by
  have hno : ∀ z ∈ l, z.f0 ≠ x.f0 := fun z hz e => by
    have := (hasT_iff l x.f0 ha).2 ⟨z, hz, e⟩
    rw [h] at this; cases this
  unfold insL
  have hb : ∀ z ∈ l.drop (plc l x.f0), x.f0 < z.f0 := fun z hz => by
    have h1 := plc_drop l x.f0 ha z hz
    have h2 := hno z (List.mem_of_mem_drop hz)
    omega
  refine List.pairwise_append.2 ⟨ha.sublist (List.take_sublist _ _), List.pairwise_cons.2 ⟨hb, ha.sublist (List.drop_sublist _ _)⟩, fun a hm b hn => ?_⟩
  have h1 := plc_take l x.f0 a hm
  rcases List.mem_cons.1 hn with rfl | hn
  · exact h1
  · have := hb b hn; omega
theorem mem_delL {l : L29} {t : Int} (ha : Asc l) (h : hasT l t = true) (z : S29) : z ∈ delL l (plc l t) ↔ z ∈ l ∧ z.f0 ≠ t := by
  have hlt : plc l t < l.length := by
    unfold hasT at h
    rcases Nat.lt_or_ge (plc l t) l.length with h1 | h1
    · exact h1
    · rw [List.getElem?_eq_none h1] at h; cases h
  have he : l[plc l t].f0 = t := by
    unfold hasT at h
    rw [List.getElem?_eq_getElem hlt] at h
    simpa using h
  have hd : l.drop (plc l t) = l[plc l t] :: l.drop (plc l t + 1) := List.drop_eq_getElem_cons hlt
  have hp : Asc (l.drop (plc l t)) := ha.sublist (List.drop_sublist _ _)
  rw [hd] at hp
  unfold delL
  constructor
  · intro hz
    rcases List.mem_append.1 hz with hz | hz
    · exact ⟨List.mem_of_mem_take hz, by have := plc_take l t z hz; omega⟩
    · exact ⟨List.mem_of_mem_drop hz, by have := (List.pairwise_cons.1 hp).1 z hz; omega⟩
  · rintro ⟨hz, hne⟩
    rw [← List.take_append_drop (plc l t) l, hd] at hz
    rcases List.mem_append.1 hz with hz | hz
    · exact List.mem_append.2 (.inl hz)
    · rcases List.mem_cons.1 hz with rfl | hz
      · exact absurd he hne
      · exact List.mem_append.2 (.inr hz)
theorem asc_delL {l : L29} (ha : Asc l) (i : Nat) : Asc (delL l i) := by
  refine ha.sublist ?_
  conv => rhs; rw [← List.take_append_drop i l]
  refine List.Sublist.append (List.Sublist.refl _) ?_
  rw [← List.drop_drop]
  exact List.drop_sublist _ _

/-- What Remove comes to. -/
def remS (l : L29) (t : Int) : L29 × Int := if chkK 1 l = 0 then (if hasT l t = true then (delL l (plc l t), 0) else ([], 7)) else ([], 1)

theorem okS_one (x : S29) : okS 1 x = okX x := by simp [okS]
theorem chk1_iff (l : L29) : chkK 1 l = 0 ↔ l.length ≤ 2000 ∧ (∀ x ∈ l, okX x = true) ∧ Asc l := by
  rw [chkK_iff]
  constructor
  · rintro ⟨_, h1, h2, h3⟩; exact ⟨h1, fun x hx => by rw [← okS_one]; exact h2 x hx, h3⟩
  · rintro ⟨h1, h2, h3⟩; exact ⟨.inl rfl, h1, fun x hx => by rw [okS_one]; exact h2 x hx, h3⟩
/-- Insert with OK. -/
theorem insS_ok {l : L29} {x : S29} (h : (insS l x).2 = 0) : chkK 1 l = 0 ∧ okX x = true ∧ hasT l x.f0 = false ∧ l.length < 2000 ∧ (insS l x).1 = insL l (plc l x.f0) x := by
  unfold insS at *
  by_cases h1 : chkK 1 l = 0
  · rw [if_pos h1] at h ⊢
    by_cases h2 : okX x = true
    · rw [if_pos h2] at h ⊢
      by_cases h3 : hasT l x.f0 = true
      · rw [if_pos h3] at h
        split at h <;> cases h
      · rw [if_neg h3] at h ⊢
        by_cases h4 : 2000 ≤ l.length
        · rw [if_pos h4] at h; cases h
        · rw [if_neg h4]
          exact ⟨h1, h2, by simpa using h3, by omega, rfl⟩
    · rw [if_neg h2] at h; cases h
  · rw [if_neg h1] at h; cases h
theorem insS_bad {l : L29} {x : S29} (h : (insS l x).2 ≠ 0) : (insS l x).1 = [] := by
  unfold insS at *
  repeat' split
  all_goals first | rfl | (exfalso; simp_all)
theorem insS_do {l : L29} {x : S29} (h1 : chkK 1 l = 0) (h2 : okX x = true) (h3 : hasT l x.f0 = false) (h4 : l.length < 2000) : insS l x = (insL l (plc l x.f0) x, 0) := by
  unfold insS
  rw [if_pos h1, if_pos h2, if_neg (by simp [h3]), if_neg (by omega)]

structure InsF (l : L29) (x : S29) (a : L29) : Prop where
  len : a.length = l.length + 1
  mem : ∀ z, z ∈ a ↔ z = x ∨ z ∈ l
  asc : Asc a
  rem : a.length ≤ 2000 → remS a x.f0 = (l, 0)
  again : a.length ≤ 2000 → (insS a x).2 = 6
  chk : a.length ≤ 2000 → chkK 1 a = 0
theorem insF {l : L29} {x : S29} (h : (insS l x).2 = 0) : InsF l x (insS l x).1 := by
  obtain ⟨h1, h2, h3, h4, h5⟩ := insS_ok h
  rw [h5]
  obtain ⟨c1, c2, c3⟩ := (chk1_iff l).1 h1
  have ha := asc_insL c3 h3
  have hlen : (insL l (plc l x.f0) x).length = l.length + 1 := insL_length _ _ _
  have hm : ∀ z, z ∈ insL l (plc l x.f0) x ↔ z = x ∨ z ∈ l := fun z => mem_insL
  generalize insL l (plc l x.f0) x = a at *
  have hxa : x ∈ a := (hm x).2 (.inl rfl)
  have hc : a.length ≤ 2000 → chkK 1 a = 0 := fun hl => (chk1_iff a).2 ⟨hl, fun z hz => by
    rcases (hm z).1 hz with rfl | hz
    · exact h2
    · exact c2 z hz, ha⟩
  have ht : hasT a x.f0 = true := (hasT_iff a x.f0 ha).2 ⟨x, hxa, rfl⟩
  refine ⟨hlen, hm, ha, fun hl => ?_, fun hl => ?_, hc⟩
  · unfold remS
    rw [if_pos (hc hl), if_pos ht]
    rw [asc_ext (asc_delL ha _) c3 (fun z => ?_)]
    rw [mem_delL ha ht, hm]
    constructor
    · rintro ⟨rfl | hz, hne⟩
      · exact absurd rfl hne
      · exact hz
    · intro hz
      refine ⟨.inr hz, fun e => ?_⟩
      have := (hasT_iff l x.f0 c3).2 ⟨z, hz, e⟩
      rw [h3] at this; cases this
  · unfold insS
    rw [if_pos (hc hl), if_pos h2, if_pos ht]
    have he : eqO a[plc a x.f0]? x = true := by
      unfold hasT at ht
      cases hg : a[plc a x.f0]? with
      | none => rw [hg] at ht; cases ht
      | some y =>
        rw [hg] at ht
        obtain ⟨hlt, hy⟩ := List.getElem?_eq_some_iff.1 hg
        have hya : y ∈ a := by rw [← hy]; exact List.getElem_mem hlt
        have := asc_uniq ha hya hxa (by simpa using ht)
        subst this
        simp [eqO]
    rw [if_pos he]
/-- Two samples with different times, in either order. -/
theorem ins_comm {l : L29} {x y : S29} (hx : (insS l x).2 = 0) (hy : (insS l y).2 = 0) (hne : x.f0 ≠ y.f0) (hl : l.length ≤ 1000) :
    (insS (insS l x).1 y).2 = 0 ∧ (insS (insS l y).1 x).2 = 0 ∧ (insS (insS l x).1 y).1 = (insS (insS l y).1 x).1 := by
  have hstep : ∀ {l : L29} {x y : S29}, (insS l x).2 = 0 → (insS l y).2 = 0 → x.f0 ≠ y.f0 → l.length ≤ 1000 → (insS (insS l x).1 y).2 = 0 := by
    intro l x y hx hy hne hl
    have F := insF hx
    obtain ⟨_, o2, o3, _, _⟩ := insS_ok hy
    obtain ⟨a1, _, _, _, _⟩ := insS_ok hx
    have al := ((chk1_iff l).1 a1).2.2
    rw [insS_do (F.chk (by have := F.len; omega)) o2 (hasT_false F.asc (fun z hz e => by
      rcases (F.mem z).1 hz with rfl | hz
      · exact hne e
      · have := (hasT_iff l y.f0 al).2 ⟨z, hz, e⟩
        rw [o3] at this; cases this)) (by have := F.len; omega)]
  have h1 := hstep hx hy hne hl
  have h2 := hstep hy hx (fun e => hne e.symm) hl
  refine ⟨h1, h2, ?_⟩
  have F1 := insF h1
  have F2 := insF h2
  have Fx := insF hx
  have Fy := insF hy
  refine asc_ext F1.asc F2.asc (fun z => ?_)
  rw [F1.mem, F2.mem, Fx.mem, Fy.mem]
  constructor
  · rintro (h | h | h)
    · exact .inr (.inl h)
    · exact .inl h
    · exact .inr (.inr h)
  · rintro (h | h | h)
    · exact .inr (.inl h)
    · exact .inl h
    · exact .inr (.inr h)
end Go.Proofs.Ytjgkcgfbkcbjfaa.H
