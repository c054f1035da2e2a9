/- The plain law of With: what Get finds behind it, and when the result is a label set. -/
import Derived.Test.YtiooenmbondflaaHRef
namespace Go.Proofs.Ytiooenmbondflaa.H
open Go Go.RowKit Go.Proofs.YtiooenmbondflaaW.PrintWords Go.Proofs.YtiooenmbondflaaW.PrintLast Go.Proofs.YtiooenmbondflaaW.PrintMore Go.Proofs.Ytiooenmbondflaa.PAll
set_option linter.unusedVariables false
set_option linter.unusedSimpArgs false

theorem getL_none : ∀ (l : L32) (n : ByteArray), (∀ x ∈ l, ab x.f0 ≠ ab n) → getL l n = ⟨#[]⟩
  | [], _, _ => rfl
  | x :: l, n, h => by
    simp only [getL]
    rw [if_neg (h x (by simp)), getL_none l n (fun y hy => h y (by simp [hy]))]
theorem getL_append : ∀ (a b : L32) (n : ByteArray), (∀ x ∈ a, ab x.f0 ≠ ab n) → getL (a ++ b) n = getL b n
  | [], _, _, _ => rfl
  | x :: a, b, n, h => by
    simp only [List.cons_append, getL]
    rw [if_neg (h x (by simp)), getL_append a b n (fun y hy => h y (by simp [hy]))]
theorem hasN_one (n s : ByteArray) : hasN [n] s = (ab s == ab n) := by simp [hasN]
theorem sel_ne {name : ByteArray} {l : L32} {x : S32} (h : x ∈ sel [name] false l) : ab x.f0 ≠ ab name := by
  have h2 := (List.mem_filter.1 h).2
  intro e
  simp [hasN_one, e] at h2
theorem getL_sel (name n : ByteArray) (hn : ab n ≠ ab name) : ∀ l : L32, getL (sel [name] false l) n = getL l n
  | [] => rfl
  | x :: l => by
    have ih := getL_sel name n hn l
    by_cases h : ab x.f0 = ab name
    · have e : sel [name] false (x :: l) = sel [name] false l := by simp [sel, hasN_one, h]
      rw [e, ih]
      simp only [getL]
      rw [if_neg (fun e2 => hn (e2.symm.trans h))]
    · have e : sel [name] false (x :: l) = x :: sel [name] false l := by simp [sel, hasN_one, h]
      rw [e]
      simp only [getL, ih]
theorem getL_ins (r : L32) (k : Nat) (y : S32) (n : ByteArray) (hn : ab n ≠ ab y.f0) : getL (insL r k y) n = getL r n := by
  unfold insL
  have h : ∀ a b : L32, getL (a ++ y :: b) n = getL (a ++ b) n := by
    intro a b
    induction a with
    | nil =>
      simp only [List.nil_append, getL]
      rw [if_neg (fun e => hn e.symm)]
    | cons x a ih => simp only [List.cons_append, getL, ih]
  rw [h, List.take_append_drop]
theorem get_with (l : L32) (name value : ByteArray) : getL (withL l name value) name = value := by
  unfold withL
  split
  · rename_i h
    rw [getL_none _ _ (fun x hx => sel_ne hx)]
    exact ab_inj h.symm
  · unfold insL
    rw [getL_append _ _ _ (fun x hx => sel_ne (List.mem_of_mem_take hx))]
    simp [getL]
theorem get_with_other (l : L32) (name value n : ByteArray) (hn : ab n ≠ ab name) : getL (withL l name value) n = getL l n := by
  unfold withL
  split
  · exact getL_sel name n hn l
  · rw [getL_ins _ _ _ _ hn, getL_sel name n hn l]

theorem sel_with (l : L32) (name value : ByteArray) : sel [name] false (withL l name value) = sel [name] false l := by
  have h : ∀ r : L32, (∀ x ∈ r, ab x.f0 ≠ ab name) → sel [name] false r = r := fun r hr => by
    unfold sel
    rw [List.filter_eq_self]
    intro x hx
    have := hr x hx
    simp [hasN_one, this]
  have hr := h _ (fun x hx => sel_ne hx : ∀ x ∈ sel [name] false l, ab x.f0 ≠ ab name)
  unfold withL
  split
  · exact hr
  · unfold insL
    have e : ∀ a b : L32, sel [name] false (a ++ (⟨name, value⟩ : S32) :: b) = sel [name] false (a ++ b) := fun a b => by
      simp [sel, List.filter_append, hasN_one]
    rw [e, List.take_append_drop, hr]

theorem atL_spec (name : ByteArray) : ∀ r : L32, (∀ x ∈ r.take (atL name r), ltN name x.f0 = false) ∧ (∀ x, r[atL name r]? = some x → ltN name x.f0 = true)
  | [] => by simp
  | x :: r => by
    have ih := atL_spec name r
    by_cases h : ltN name x.f0 = true
    · have e : atL name (x :: r) = 0 := by simp [atL, idx, h]
      rw [e]
      exact ⟨by simp, by simp [h]⟩
    · have h' : ltN name x.f0 = false := by simpa using h
      have e : atL name (x :: r) = atL name r + 1 := by
        have h1 := idx_le (fun x : S32 => ltN name x.f0) r
        unfold atL
        simp only [idx, h', Bool.false_eq_true, if_false, List.length_cons]
        by_cases h2 : idx (fun x : S32 => ltN name x.f0) r < 0
        · simp [h2]
        · rw [if_neg h2, if_neg h2, if_neg (by omega)]; omega
      rw [e]
      refine ⟨fun y hy => ?_, fun y hy => ih.2 y (by simpa using hy)⟩
      rw [List.take_succ_cons] at hy
      rcases List.mem_cons.1 hy with rfl | hy
      · exact h'
      · exact ih.1 y hy

theorem chk_with (l : L32) (name value : ByteArray) (h : chk l = 0) (hn : isNm (ab name) = true) (hv : value.size ≤ 200) (hlen : (withL l name value).length ≤ 16) : chk (withL l name value) = 0 := by
  have hr : chk (sel [name] false l) = 0 := chk_filter l _ h
  by_cases he : ab value = []
  · unfold withL; rw [if_pos he]; exact hr
  · rw [chk_iff] at hr ⊢
    obtain ⟨_, hok, hpw⟩ := hr
    refine ⟨hlen, ?_, ?_⟩
    · unfold withL
      rw [if_neg he]
      intro x hx
      unfold insL at hx
      rcases List.mem_append.1 hx with hx | hx
      · exact hok x (List.mem_of_mem_take hx)
      · rcases List.mem_cons.1 hx with rfl | hx
        · exact ⟨hn, he, hv⟩
        · exact hok x (List.mem_of_mem_drop hx)
    · unfold withL
      rw [if_neg he]
      have hs := atL_spec name (sel [name] false l)
      have hle := atL_le name (sel [name] false l)
      have hne : ∀ x ∈ sel [name] false l, ab x.f0 ≠ ab name := fun x hx => sel_ne hx
      generalize sel [name] false l = r at *
      generalize atL name r = k at *
      unfold insL
      have h1 : ∀ x ∈ r.take k, lt1 x ⟨name, value⟩ := fun x hx => by
        have a := hs.1 x hx
        cases hh : ltN x.f0 name with
        | true => exact hh
        | false => exact absurd (bl_total _ _ hh a) (hne x (List.mem_of_mem_take hx))
      have hpd : (r.drop k).Pairwise lt1 := hpw.sublist (List.drop_sublist _ _)
      have h2 : ∀ x ∈ r.drop k, lt1 ⟨name, value⟩ x := fun x hx => by
        cases hd : r.drop k with
        | nil => rw [hd] at hx; cases hx
        | cons y t =>
          have hy : r[k]? = some y := by
            have : (r.drop k)[0]? = some y := by rw [hd]; rfl
            simpa using this
          have a : lt1 ⟨name, value⟩ y := hs.2 y hy
          rw [hd] at hx hpd
          rcases List.mem_cons.1 hx with rfl | hx
          · exact a
          · exact lt1_trans a ((List.pairwise_cons.1 hpd).1 x hx)
      rw [List.pairwise_append]
      refine ⟨hpw.sublist (List.take_sublist _ _), List.pairwise_cons.2 ⟨h2, hpd⟩, fun a ha b hb => ?_⟩
      rcases List.mem_cons.1 hb with rfl | hb
      · exact h1 a ha
      · exact lt1_trans (h1 a ha) (h2 b hb)
end Go.Proofs.Ytiooenmbondflaa.H
