/- quota.Top in plain words: the summary of the values that a name has in label sets. -/
import Derived.Test.YtakobehkajphpaaGreatTLGet
import Derived.Test.YtakobehkajphpaaGreatTKPure
import Derived.Test.YtakobehkajphpaaGreatTQPure
namespace Go.Proofs.YtakobehkajphpaaGreat.H
open Go Go.RowKit Go.Proofs.YtakobehkajphpaaGreatW.PrintWords Go.Proofs.YtakobehkajphpaaGreatW.PrintLast Go.Proofs.YtakobehkajphpaaGreatW.PrintMore Go.Proofs.YtakobehkajphpaaGreat.PAll
set_option linter.unusedVariables false
set_option linter.unusedSimpArgs false

/-- The values of a name in label sets. -/
def valsT (s : List L94) (name : ByteArray) : List ByteArray := (s.map fun l => getL l name).filter fun v => decide (ab v ≠ [])
theorem valsT_snoc_yes {s : List L94} {l : L94} {name : ByteArray} (h : ab (getL l name) ≠ []) : valsT (s ++ [l]) name = valsT s name ++ [getL l name] := by
  unfold valsT; simp [h]
theorem valsT_snoc_no {s : List L94} {l : L94} {name : ByteArray} (h : ab (getL l name) = []) : valsT (s ++ [l]) name = valsT s name := by
  unfold valsT; simp [h]
theorem valsT_len (s : List L94) (name : ByteArray) : (valsT s name).length ≤ s.length := by
  unfold valsT
  exact Nat.le_trans (List.length_filter_le _ _) (by simp)
def ones (vs : List ByteArray) : List S64 := vs.map fun v => ⟨v, 1⟩
theorem ones_sum (vs : List ByteArray) : K.sumN (ones vs) = vs.length := by
  induction vs with
  | nil => rfl
  | cons v vs ih =>
    simp only [ones, K.sumN, List.map_cons, List.sum_cons, List.length_cons, List.map_map] at *
    rw [ih]; push_cast; omega
def topH (k : Int) (vs : List ByteArray) : K.HV := vs.foldl (fun x v => (K.addH x v 1).1) ⟨k, 0, 0, []⟩
theorem topH_snoc (k : Int) (vs : List ByteArray) (v : ByteArray) : topH k (vs ++ [v]) = (K.addH (topH k vs) v 1).1 := by simp [topH]
theorem top_fold {k : Int} : ∀ (vs l : List ByteArray) (x : K.HV), K.Of k x (ones l) → (l ++ vs).length ≤ 1000 → (∀ v ∈ vs, v.size ≤ 200) → K.Of k (vs.foldl (fun x v => (K.addH x v 1).1) x) (ones (l ++ vs))
  | [], l, x, h, _, _ => by simpa using h
  | v :: vs, l, x, h, hl, hs => by
    have h1 : K.Of k (K.addH x v 1).1 (ones l ++ [⟨v, 1⟩]) := (h.addW (m := (⟨v, 1⟩ : S64)) (hs v (by simp)) (by show (0 : Int) ≤ 1; omega) (by
      rw [ones_sum]; simp only [List.length_append, List.length_cons] at hl; show (l.length : Int) + 1 ≤ _; omega)).2
    have e : ones l ++ [⟨v, 1⟩] = ones (l ++ [v]) := by simp [ones]
    rw [e] at h1
    have := top_fold vs (l ++ [v]) _ h1 (by simpa using hl) (fun y hy => hs y (by simp [hy]))
    simpa using this
theorem top_of {k : Int} (h : 2 ≤ k) (h1 : k ≤ 100) {vs : List ByteArray} (hl : vs.length ≤ 1000) (hs : ∀ v ∈ vs, v.size ≤ 200) : K.Of k (topH k vs) (ones vs) :=
  top_fold vs [] _ (K.newH_of h h1) (by simpa using hl) hs
theorem top_step {k : Int} (h : 2 ≤ k) (h1 : k ≤ 100) {vs : List ByteArray} {v : ByteArray} (hl : (vs ++ [v]).length ≤ 1000) (hs : ∀ x ∈ vs ++ [v], x.size ≤ 200) : K.addH (topH k vs) v 1 = (topH k (vs ++ [v]), 0) := by
  have hO := top_of h h1 (vs := vs) (by simp at hl; omega) (fun x hx => hs x (by simp [hx]))
  have := (hO.addW (m := (⟨v, 1⟩ : S64)) (hs v (by simp)) (by show (0 : Int) ≤ 1; omega) (by rw [ones_sum]; simp at hl; show (vs.length : Int) + 1 ≤ _; omega)).1
  rw [topH_snoc]
  exact Prod.ext rfl this
/-- How many label sets have a value. -/
def cntN (s : List L94) (name v : ByteArray) : Nat := (s.filter fun m => decide (ab (getL m name) = ab v)).length
theorem cntN_snoc (s : List L94) (m : L94) (name v : ByteArray) : cntN (s ++ [m]) name v = if ab (getL m name) = ab v then cntN s name v + 1 else cntN s name v := by
  unfold cntN
  rw [List.filter_append, List.length_append]
  split <;> simp_all
theorem truth_cnt {v : ByteArray} (hv : ab v ≠ []) (name : ByteArray) : ∀ s : List L94, K.truth (ones (valsT s name)) v = cntN s name v
  | [] => rfl
  | l :: s => by
    have ih := truth_cnt hv name s
    by_cases h : ab (getL l name) = []
    · have e : valsT (l :: s) name = valsT s name := by unfold valsT; simp [h]
      have hne : ¬ ab (getL l name) = ab v := fun e => hv (by rw [← e, h])
      rw [e, ih]
      unfold cntN
      rw [List.filter_cons_of_neg (by simpa using hne)]
    · have e : valsT (l :: s) name = getL l name :: valsT s name := by unfold valsT; simp [h]
      rw [e]
      show K.truth (⟨getL l name, 1⟩ :: ones (valsT s name)) v = _
      unfold K.truth at ih ⊢
      rw [List.map_cons, List.sum_cons, ih]
      unfold cntN
      by_cases hh : getL l name = v
      · rw [if_pos hh, List.filter_cons_of_pos (by simpa [ab_iff] using hh)]; simp; omega
      · rw [if_neg hh, List.filter_cons_of_neg (by simpa [ab_iff] using hh)]; simp
/-- The count of the last item with a key. -/
def lastC (l : List S64) (v : ByteArray) (c : Int) : Int := l.foldl (fun c y => if y.f0 = v then y.f1 else c) c
theorem lastC_snoc (l : List S64) (y : S64) (v : ByteArray) (c : Int) : lastC (l ++ [y]) v c = if y.f0 = v then y.f1 else lastC l v c := by simp [lastC]
theorem lastC_none : ∀ (l : List S64) (v : ByteArray) (c : Int), (∀ x ∈ l, x.f0 ≠ v) → lastC l v c = c
  | [], _, _, _ => rfl
  | y :: l, v, c, h => by
    show lastC l v (if y.f0 = v then y.f1 else c) = c
    rw [if_neg (h y (by simp))]
    exact lastC_none l v c (fun x hx => h x (by simp [hx]))
theorem lastC_tot {l : List S64} (h : K.Srt l) (v : ByteArray) : lastC l v 0 = K.tot l v := by
  by_cases hm : ∃ y ∈ l, y.f0 = v
  · obtain ⟨y, hy, rfl⟩ := hm
    rw [K.tot_of_mem h hy]
    obtain ⟨a, b, rfl⟩ := List.append_of_mem hy
    have hb : ∀ x ∈ b, x.f0 ≠ y.f0 := fun x hx e => by
      have h1 := (List.pairwise_append.1 h).2.1
      have h2 := (List.pairwise_cons.1 h1).1 x hx
      rw [e] at h2
      exact absurd h2 (by simp [K.ltK_irr])
    show (a ++ y :: b).foldl _ 0 = _
    rw [List.foldl_append, List.foldl_cons, if_pos rfl]
    exact lastC_none b y.f0 y.f1 hb
  · rw [lastC_none l v 0 (fun x hx e => hm ⟨x, hx, e⟩), K.tot_none (fun x hx e => hm ⟨x, hx, e⟩)]
/-- What QuotaTop asks of a value. -/
theorem top_bounds {k : Int} (h : 2 ≤ k) (h1 : k ≤ 100) {s : List L94} {name : ByteArray} (hl : (valsT s name).length ≤ 1000) (hs : ∀ v ∈ valsT s name, v.size ≤ 200) {v : ByteArray} (hv : ab v ≠ []) :
    lastC (topH k (valsT s name)).f3 v 0 ≤ cntN s name v ∧ (cntN s name v : Int) - (topH k (valsT s name)).f2 ≤ lastC (topH k (valsT s name)).f3 v 0 ∧ (topH k (valsT s name)).f1 = (valsT s name).length := by
  have hO := top_of h h1 hl hs
  rw [lastC_tot hO.val.srt, ← truth_cnt hv name s]
  have h2 := hO.r.low v
  have h3 := hO.r.high v
  exact ⟨h2, by omega, by rw [hO.all, ones_sum]⟩
end Go.Proofs.YtakobehkajphpaaGreat.H
