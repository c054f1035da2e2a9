/- Summaries of frequent keys in plain words: lists of keys with counts, what is put together and shortened, what a summary of added keys is; the map of the counts. -/
import Derived.Test.YtakobehkajphpaaGreatTGRow
import Derived.Maps.RangeWalk
import Derived.Maps.OwnSet
namespace Go.Proofs.YtakobehkajphpaaGreat.K
open Go Go.RowKit Go.Proofs.YtakobehkajphpaaGreatW.PrintWords Go.Proofs.YtakobehkajphpaaGreatW.PrintLast Go.Proofs.YtakobehkajphpaaGreatW.PrintMore Go.Proofs.YtakobehkajphpaaGreat.PAll
set_option linter.unusedVariables false
set_option linter.unusedSimpArgs false

/-! lists of keys with counts -/
theorem bl_nil (l : List UInt8) : Op.bytesLess l [] = false := by cases l <;> rfl
theorem bl_cons (a b : UInt8) (x y : List UInt8) : Op.bytesLess (a :: x) (b :: y) = true ↔ a.toNat < b.toNat ∨ a.toNat = b.toNat ∧ Op.bytesLess x y = true := by
  have e1 : (a == b) = decide (a.toNat = b.toNat) := by
    by_cases h : a = b
    · subst h; simp
    · have : ¬ a.toNat = b.toNat := fun e => h (UInt8.toNat_inj.1 e)
      simp [h, this]
  have e2 : (decide (a < b)) = decide (a.toNat < b.toNat) := rfl
  simp only [Op.bytesLess, e1, e2, Bool.or_eq_true, Bool.and_eq_true, decide_eq_true_eq]
theorem bl_trans : ∀ (a b c : List UInt8), Op.bytesLess a b = true → Op.bytesLess b c = true → Op.bytesLess a c = true
  | _, [], _, h, _ => by rw [bl_nil] at h; cases h
  | _, _ :: _, [], _, h => by rw [bl_nil] at h; cases h
  | [], _ :: _, _ :: _, _, _ => rfl
  | a :: x, b :: y, c :: z, h1, h2 => by
    rw [bl_cons] at *
    rcases h1 with h1 | ⟨h1, h1'⟩
    · rcases h2 with h2 | ⟨h2, _⟩
      · exact .inl (by omega)
      · exact .inl (by omega)
    · rcases h2 with h2 | ⟨h2, h2'⟩
      · exact .inl (by omega)
      · exact .inr ⟨by omega, bl_trans x y z h1' h2'⟩
theorem bl_irr : ∀ (a : List UInt8), Op.bytesLess a a = false
  | [] => rfl
  | a :: x => by
    cases h : Op.bytesLess (a :: x) (a :: x)
    · rfl
    · rw [bl_cons] at h
      rcases h with h | ⟨_, h⟩
      · omega
      · rw [bl_irr x] at h; cases h
theorem bl_asym (a b : List UInt8) (h : Op.bytesLess a b = true) : Op.bytesLess b a = false := by
  cases h2 : Op.bytesLess b a
  · rfl
  · have := bl_trans a b a h h2; rw [bl_irr] at this; cases this
theorem bl_total : ∀ (a b : List UInt8), Op.bytesLess a b = false → Op.bytesLess b a = false → a = b
  | [], [], _, _ => rfl
  | [], _ :: _, h, _ => by cases h
  | _ :: _, [], _, h => by cases h
  | a :: x, b :: y, h1, h2 => by
    have h1' : ¬ Op.bytesLess (a :: x) (b :: y) = true := by rw [h1]; decide
    have h2' : ¬ Op.bytesLess (b :: y) (a :: x) = true := by rw [h2]; decide
    rw [bl_cons] at h1' h2'
    have e : a.toNat = b.toNat := by omega
    have e1 : Op.bytesLess x y = false := by
      cases hh : Op.bytesLess x y
      · rfl
      · exact absurd (.inr ⟨e, hh⟩) h1'
    have e2 : Op.bytesLess y x = false := by
      cases hh : Op.bytesLess y x
      · rfl
      · exact absurd (.inr ⟨e.symm, hh⟩) h2'
    rw [UInt8.toNat_inj.1 e, bl_total x y e1 e2]
def ab (s : ByteArray) : List UInt8 := s.data.toList
theorem ab_inj {a b : ByteArray} (h : ab a = ab b) : a = b := by
  cases a; cases b; simp [ab] at h; simp; exact h
theorem ab_iff {a b : ByteArray} : ab a = ab b ↔ a = b := ⟨ab_inj, fun h => by rw [h]⟩
/-- Is a key less than another? -/
def ltK (a b : ByteArray) : Bool := Op.bytesLess (ab a) (ab b)
theorem ltK_irr (a : ByteArray) : ltK a a = false := bl_irr _
theorem ltK_trans {a b c : ByteArray} (h1 : ltK a b = true) (h2 : ltK b c = true) : ltK a c = true := bl_trans _ _ _ h1 h2
theorem ltK_asym {a b : ByteArray} (h : ltK a b = true) : ltK b a = false := bl_asym _ _ h
theorem ltK_total {a b : ByteArray} (h1 : ltK a b = false) (h2 : ltK b a = false) : a = b := ab_inj (bl_total _ _ h1 h2)
theorem ltK_ne {a b : ByteArray} (h : ltK a b = true) : a ≠ b := fun e => by rw [e, ltK_irr] at h; cases h

/-- Ascending by key. -/
def Srt (l : L64) : Prop := l.Pairwise (fun x y => ltK x.f0 y.f0 = true)
/-- Counts of at least 1. -/
def Pos (l : L64) : Prop := ∀ x ∈ l, 1 ≤ x.f1
/-- The count of a key. -/
def tot (l : L64) (k : ByteArray) : Int := (l.map fun x => if x.f0 = k then x.f1 else 0).sum
theorem tot_nil (k : ByteArray) : tot [] k = 0 := rfl
theorem tot_cons (x : S64) (l : L64) (k : ByteArray) : tot (x :: l) k = (if x.f0 = k then x.f1 else 0) + tot l k := by simp [tot]
theorem tot_append (a b : L64) (k : ByteArray) : tot (a ++ b) k = tot a k + tot b k := by simp [tot]
theorem tot_nonneg {l : L64} (h : Pos l) (k : ByteArray) : 0 ≤ tot l k := by
  induction l with
  | nil => simp [tot_nil]
  | cons x l ih =>
    rw [tot_cons]
    have h1 := h x (by simp)
    have := ih (fun y hy => h y (by simp [hy]))
    split <;> omega
theorem tot_pos {l : L64} (h : Pos l) (k : ByteArray) : 0 < tot l k ↔ ∃ x ∈ l, x.f0 = k := by
  induction l with
  | nil => simp [tot_nil]
  | cons x l ih =>
    rw [tot_cons]
    have h1 := h x (by simp)
    have hp : Pos l := fun y hy => h y (by simp [hy])
    have h2 := tot_nonneg hp k
    have ih := ih hp
    by_cases e : x.f0 = k
    · rw [if_pos e]; exact ⟨fun _ => ⟨x, by simp, e⟩, fun _ => by omega⟩
    · rw [if_neg e]
      simp only [List.mem_cons]
      constructor
      · intro hh
        obtain ⟨y, hy, ey⟩ := ih.1 (by omega)
        exact ⟨y, .inr hy, ey⟩
      · rintro ⟨y, rfl | hy, ey⟩
        · exact absurd ey e
        · have := ih.2 ⟨y, hy, ey⟩; omega
theorem tot_none {l : L64} {k : ByteArray} (h : ∀ x ∈ l, x.f0 ≠ k) : tot l k = 0 := by
  induction l with
  | nil => rfl
  | cons x l ih => rw [tot_cons, if_neg (h x (by simp)), ih (fun y hy => h y (by simp [hy]))]; rfl
theorem Srt.tail {x : S64} {l : L64} (h : Srt (x :: l)) : Srt l := (List.pairwise_cons.1 h).2
theorem Srt.head {x : S64} {l : L64} (h : Srt (x :: l)) : ∀ y ∈ l, ltK x.f0 y.f0 = true := (List.pairwise_cons.1 h).1
theorem Srt.ne {x : S64} {l : L64} (h : Srt (x :: l)) : ∀ y ∈ l, y.f0 ≠ x.f0 := fun y hy => (ltK_ne (h.head y hy)).symm
theorem tot_of_mem {l : L64} (h : Srt l) {x : S64} (hx : x ∈ l) : tot l x.f0 = x.f1 := by
  induction l with
  | nil => cases hx
  | cons y l ih =>
    rw [tot_cons]
    rcases List.mem_cons.1 hx with rfl | hx
    · rw [if_pos rfl, tot_none h.ne]; omega
    · rw [if_neg (ltK_ne (h.head x hx)), ih h.tail hx]; omega
theorem mem_of_tot {l : L64} (h : Srt l) (hp : Pos l) {k : ByteArray} {n : Int} (hn : 0 < n) : tot l k = n ↔ (⟨k, n⟩ : S64) ∈ l := by
  constructor
  · intro e
    obtain ⟨x, hx, rfl⟩ := (tot_pos hp k).1 (by omega)
    rw [tot_of_mem h hx] at e
    subst e; exact hx
  · intro hm; exact tot_of_mem h hm
/-- Two ascending lists with the same counts are one. -/
theorem ext_tot : ∀ {a b : L64}, Srt a → Srt b → Pos a → Pos b → (∀ k, tot a k = tot b k) → a = b
  | [], [], _, _, _, _, _ => rfl
  | [], y :: b, _, _, _, pb, h => by
    have h1 := (tot_pos pb y.f0).2 ⟨y, by simp, rfl⟩
    rw [← h, tot_nil] at h1; omega
  | x :: a, [], _, _, pa, _, h => by
    have h1 := (tot_pos pa x.f0).2 ⟨x, by simp, rfl⟩
    rw [h, tot_nil] at h1; omega
  | x :: a, y :: b, sa, sb, pa, pb, h => by
    have hx : ∃ z ∈ y :: b, z.f0 = x.f0 := (tot_pos pb _).1 (by rw [← h]; exact (tot_pos pa _).2 ⟨x, by simp, rfl⟩)
    have hy : ∃ z ∈ x :: a, z.f0 = y.f0 := (tot_pos pa _).1 (by rw [h]; exact (tot_pos pb _).2 ⟨y, by simp, rfl⟩)
    have e : x.f0 = y.f0 := by
      obtain ⟨z, hz, ez⟩ := hx
      obtain ⟨u, hu, eu⟩ := hy
      rcases List.mem_cons.1 hz with rfl | hz
      · exact ez.symm
      · rcases List.mem_cons.1 hu with rfl | hu
        · exact eu
        · have h1 := sb.head z hz
          have h2 := sa.head u hu
          rw [ez] at h1; rw [eu] at h2
          rw [ltK_asym h1] at h2; cases h2
    have e1 : x.f1 = y.f1 := by
      have h1 := tot_of_mem sa (x := x) (by simp)
      have h2 := tot_of_mem sb (x := y) (by simp)
      rw [← h1, ← h2, h, e]
    have exy : x = y := by cases x; cases y; simp_all
    subst exy
    have ht : ∀ k, tot a k = tot b k := fun k => by have := h k; rw [tot_cons, tot_cons] at this; omega
    rw [ext_tot sa.tail sb.tail (fun z hz => pa z (by simp [hz])) (fun z hz => pb z (by simp [hz])) ht]

/-- The list with n more of a key. -/
def putK : L64 → ByteArray → Int → L64
  | [], k, n => [⟨k, n⟩]
  | x :: l, k, n => if ltK x.f0 k = true then x :: putK l k n else if x.f0 = k then ⟨x.f0, x.f1 + n⟩ :: l else ⟨k, n⟩ :: x :: l
theorem tot_put (l : L64) (k : ByteArray) (n : Int) (j : ByteArray) : tot (putK l k n) j = tot l j + if k = j then n else 0 := by
  induction l with
  | nil => simp [putK, tot_cons, tot_nil]
  | cons x l ih =>
    unfold putK
    split
    · rw [tot_cons, tot_cons, ih]; omega
    · split
      · rename_i h; subst h
        simp only [tot_cons]; split <;> omega
      · simp only [tot_cons]; omega
theorem put_mem (l : L64) (k : ByteArray) (n : Int) {x : S64} (h : x ∈ putK l k n) : x ∈ l ∨ x.f0 = k ∧ (x.f1 = n ∨ ∃ y ∈ l, x.f1 = y.f1 + n) := by
  induction l with
  | nil => simp [putK] at h; subst h; exact .inr ⟨rfl, .inl rfl⟩
  | cons z l ih =>
    unfold putK at h
    split at h
    · rcases List.mem_cons.1 h with rfl | h
      · exact .inl (by simp)
      · rcases ih h with h | ⟨e, h | ⟨y, hy, h⟩⟩
        · exact .inl (by simp [h])
        · exact .inr ⟨e, .inl h⟩
        · exact .inr ⟨e, .inr ⟨y, by simp [hy], h⟩⟩
    · split at h
      · rename_i e
        rcases List.mem_cons.1 h with rfl | h
        · exact .inr ⟨e, .inr ⟨z, by simp, rfl⟩⟩
        · exact .inl (by simp [h])
      · rcases List.mem_cons.1 h with rfl | h
        · exact .inr ⟨rfl, .inl rfl⟩
        · exact .inl h
theorem put_srt {l : L64} (h : Srt l) (k : ByteArray) (n : Int) : Srt (putK l k n) := by
  induction l with
  | nil => exact List.pairwise_cons.2 ⟨by simp, List.Pairwise.nil⟩
  | cons x l ih =>
    unfold putK
    split
    · rename_i h1
      refine List.pairwise_cons.2 ⟨fun y hy => ?_, ih h.tail⟩
      rcases put_mem l k n hy with hy | ⟨e, _⟩
      · exact h.head y hy
      · rw [e]; exact h1
    · split
      · exact List.pairwise_cons.2 ⟨h.head, h.tail⟩
      · rename_i h1 h2
        have h3 : ltK k x.f0 = true := by
          cases hh : ltK k x.f0
          · exact absurd (ltK_total (by simpa using h1) hh) h2
          · rfl
        refine List.pairwise_cons.2 ⟨fun y hy => ?_, h⟩
        rcases List.mem_cons.1 hy with rfl | hy
        · exact h3
        · exact ltK_trans h3 (h.head y hy)
theorem put_pos {l : L64} (h : Pos l) (k : ByteArray) {n : Int} (hn : 1 ≤ n) : Pos (putK l k n) := fun x hx => by
  rcases put_mem l k n hx with hx | ⟨_, e | ⟨y, hy, e⟩⟩
  · exact h x hx
  · omega
  · have := h y hy; omega
theorem put_len (l : L64) (k : ByteArray) (n : Int) : (putK l k n).length ≤ l.length + 1 := by
  induction l with
  | nil => simp [putK]
  | cons x l ih =>
    unfold putK
    split
    · simp; omega
    · split <;> simp
/-- The sum of all counts. -/
def sumI (l : L64) : Int := (l.map fun x => x.f1).sum
theorem sumI_cons (x : S64) (l : L64) : sumI (x :: l) = x.f1 + sumI l := by simp [sumI]
theorem sumI_put (l : L64) (k : ByteArray) (n : Int) : sumI (putK l k n) = sumI l + n := by
  induction l with
  | nil => simp [putK, sumI]
  | cons x l ih =>
    unfold putK
    split
    · rw [sumI_cons, sumI_cons, ih]; omega
    · split
      · simp only [sumI_cons]; omega
      · simp only [sumI_cons]; omega
theorem sumI_nonneg {l : L64} (h : Pos l) : 0 ≤ sumI l := by
  induction l with
  | nil => simp [sumI]
  | cons x l ih =>
    rw [sumI_cons]
    have := h x (by simp)
    have := ih (fun y hy => h y (by simp [hy]))
    omega
theorem le_sumI {l : L64} (h : Pos l) {x : S64} (hx : x ∈ l) : x.f1 ≤ sumI l := by
  induction l with
  | nil => cases hx
  | cons y l ih =>
    rw [sumI_cons]
    have h1 : Pos l := fun y hy => h y (by simp [hy])
    have h2 := h y (by simp)
    have h3 := sumI_nonneg h1
    rcases List.mem_cons.1 hx with rfl | hx
    · omega
    · have := ih h1 hx; omega
/-- The lists of two summaries together. -/
def mrgI (a b : L64) : L64 := b.foldl (fun l y => putK l y.f0 y.f1) a
theorem mrgI_tot (a b : L64) (k : ByteArray) : tot (mrgI a b) k = tot a k + tot b k := by
  induction b generalizing a with
  | nil => simp [mrgI, tot_nil]
  | cons y b ih =>
    show tot (mrgI (putK a y.f0 y.f1) b) k = _
    rw [ih, tot_put, tot_cons]; omega
theorem mrgI_srt {a : L64} (h : Srt a) (b : L64) : Srt (mrgI a b) := by
  induction b generalizing a with
  | nil => exact h
  | cons y b ih => exact ih (put_srt h _ _)
theorem mrgI_pos {a b : L64} (h : Pos a) (hb : Pos b) : Pos (mrgI a b) := by
  induction b generalizing a with
  | nil => exact h
  | cons y b ih => exact ih (put_pos h _ (hb y (by simp))) (fun z hz => hb z (by simp [hz]))
theorem mrgI_sum (a b : L64) : sumI (mrgI a b) = sumI a + sumI b := by
  induction b generalizing a with
  | nil => simp [mrgI, sumI]
  | cons y b ih =>
    show sumI (mrgI (putK a y.f0 y.f1) b) = _
    rw [ih, sumI_put, sumI_cons]; omega
theorem mrgI_len (a b : L64) : (mrgI a b).length ≤ a.length + b.length := by
  induction b generalizing a with
  | nil => simp [mrgI]
  | cons y b ih =>
    have h1 := ih (putK a y.f0 y.f1)
    have h2 := put_len a y.f0 y.f1
    show (mrgI (putK a y.f0 y.f1) b).length ≤ _
    simp only [List.length_cons]; omega
/-! the count at a place -/
def insD (c : Int) : List Int → List Int
  | [] => [c]
  | d :: l => if c ≤ d then d :: insD c l else c :: d :: l
def srtD (l : L64) : List Int := l.foldl (fun a x => insD x.f1 a) []
/-- The count with a place (from 0) among the counts in descending order. -/
def gr (l : L64) (p : Nat) : Int := (srtD l)[p]?.getD 0
theorem insD_perm (c : Int) (l : List Int) : (insD c l).Perm (c :: l) := by
  induction l with
  | nil => exact List.Perm.refl _
  | cons d l ih =>
    unfold insD
    split
    · exact (ih.cons d).trans (List.Perm.swap _ _ _)
    · exact List.Perm.refl _
theorem insD_desc (c : Int) {l : List Int} (h : l.Pairwise (fun x y => y ≤ x)) : (insD c l).Pairwise (fun x y => y ≤ x) := by
  induction l with
  | nil => exact List.pairwise_cons.2 ⟨by simp, List.Pairwise.nil⟩
  | cons d l ih =>
    have hh := List.pairwise_cons.1 h
    unfold insD
    split
    · refine List.pairwise_cons.2 ⟨fun y hy => ?_, ih hh.2⟩
      rcases List.mem_cons.1 ((insD_perm c l).mem_iff.1 hy) with rfl | hy
      · assumption
      · exact hh.1 y hy
    · refine List.pairwise_cons.2 ⟨fun y hy => ?_, h⟩
      rcases List.mem_cons.1 hy with rfl | hy
      · omega
      · have := hh.1 y hy; omega
theorem srtD_aux (l : L64) (a : List Int) (h : a.Pairwise (fun x y => y ≤ x)) : (l.foldl (fun a x => insD x.f1 a) a).Pairwise (fun x y => y ≤ x) ∧ (l.foldl (fun a x => insD x.f1 a) a).Perm (l.map (·.f1) ++ a) := by
  induction l generalizing a with
  | nil => exact ⟨h, List.Perm.refl _⟩
  | cons x l ih =>
    obtain ⟨h1, h2⟩ := ih (insD x.f1 a) (insD_desc _ h)
    refine ⟨h1, h2.trans ?_⟩
    refine ((insD_perm x.f1 a).append_left _).trans ?_
    exact List.perm_middle
theorem srtD_desc (l : L64) : (srtD l).Pairwise (fun x y => y ≤ x) := (srtD_aux l [] List.Pairwise.nil).1
theorem srtD_perm (l : L64) : (srtD l).Perm (l.map (·.f1)) := by simpa [srtD] using (srtD_aux l [] List.Pairwise.nil).2
/-- What the count at a place is. -/
def IsGr (l : L64) (p : Nat) (v : Int) : Prop := l.countP (fun x => decide (v < x.f1)) ≤ p ∧ p < l.countP (fun x => decide (v ≤ x.f1))
theorem countP_le_of {α : Type} {p q : α → Bool} {l : List α} (h : ∀ x ∈ l, p x = true → q x = true) : l.countP p ≤ l.countP q := by
  induction l with
  | nil => simp
  | cons x l ih =>
    have ih := ih (fun y hy => h y (by simp [hy]))
    have h0 := h x (by simp)
    rw [List.countP_cons, List.countP_cons]
    cases hp : p x
    · simp; omega
    · rw [h0 hp]; simp; omega
theorem IsGr.uniq {l : L64} {p : Nat} {v v' : Int} (h : IsGr l p v) (h' : IsGr l p v') : v = v' := by
  rcases Int.lt_trichotomy v v' with h1 | h1 | h1
  · have := countP_le_of (l := l) (p := fun x => decide (v' ≤ x.f1)) (q := fun x => decide (v < x.f1)) (fun x _ hx => by simp at *; omega)
    have := h.1; have := h'.2; omega
  · exact h1
  · have := countP_le_of (l := l) (p := fun x => decide (v ≤ x.f1)) (q := fun x => decide (v' < x.f1)) (fun x _ hx => by simp at *; omega)
    have := h'.1; have := h.2; omega
theorem IsGr.perm {l m : L64} {p : Nat} {v : Int} (h : IsGr l p v) (hp : l.Perm m) : IsGr m p v := ⟨by rw [← hp.countP_eq]; exact h.1, by rw [← hp.countP_eq]; exact h.2⟩
theorem desc_at : ∀ (L : List Int) (p : Nat) (hp : p < L.length), L.Pairwise (fun x y => y ≤ x) → L.countP (fun x => decide (L[p] < x)) ≤ p ∧ p < L.countP (fun x => decide (L[p] ≤ x))
  | x :: L, 0, _, h => by
    have hh := List.pairwise_cons.1 h
    simp only [List.getElem_cons_zero, List.countP_cons, Int.lt_irrefl, decide_false, Int.le_refl, decide_true, if_true]
    constructor
    · have : L.countP (fun y => decide (x < y)) = 0 := by
        rw [List.countP_eq_zero]
        intro y hy
        have := hh.1 y hy
        simp; omega
      simp [this]
    · omega
  | x :: L, p + 1, hp, h => by
    have hh := List.pairwise_cons.1 h
    have ih := desc_at L p (by simpa using hp) hh.2
    have hx := hh.1 (L[p]'(by simpa using hp)) (List.getElem_mem _)
    simp only [List.getElem_cons_succ, List.countP_cons]
    constructor
    · have := ih.1; split <;> omega
    · have := ih.2
      rw [if_pos (by simpa using hx)]; omega
theorem desc_isGr {l : L64} (h : l.Pairwise (fun x y => y.f1 ≤ x.f1)) {p : Nat} (hp : p < l.length) : IsGr l p l[p].f1 := by
  have := desc_at (l.map (·.f1)) p (by simpa using hp) (List.pairwise_map.2 h)
  simpa [IsGr, List.countP_map, Function.comp_def] using this
theorem gr_isGr {l : L64} {p : Nat} (hp : p < l.length) : IsGr l p (gr l p) := by
  have hl : (srtD l).length = l.length := by rw [(srtD_perm l).length_eq]; simp
  have h1 := desc_at (srtD l) p (by omega) (srtD_desc l)
  have e : gr l p = (srtD l)[p]'(by omega) := by unfold gr; rw [List.getElem?_eq_getElem (by omega)]; rfl
  rw [(srtD_perm l).countP_eq, (srtD_perm l).countP_eq] at h1
  rw [e]
  simpa [IsGr, List.countP_map, Function.comp_def] using h1

/-- The items with a count above v, each reduced by v. -/
def cutI (v : Int) (l : L64) : L64 := (l.filter fun x => decide (v < x.f1)).map fun x => ⟨x.f0, x.f1 - v⟩
/-- A summary's items and Lost with fewer than K items. -/
def shrt (K : Int) (l : L64) (lost : Int) : L64 × Int := if K ≤ l.length then (cutI (gr l (K - 1).toNat) l, lost + gr l (K - 1).toNat) else (l, lost)
theorem cutI_srt {l : L64} (h : Srt l) (v : Int) : Srt (cutI v l) := by
  unfold cutI Srt
  rw [List.pairwise_map]
  exact List.Pairwise.filter _ h
theorem cutI_pos (l : L64) (v : Int) : Pos (cutI v l) := by
  intro x hx
  unfold cutI at hx
  obtain ⟨y, hy, rfl⟩ := List.mem_map.1 hx
  have := (List.mem_filter.1 hy).2
  simp at this ⊢; omega
theorem cutI_len (l : L64) (v : Int) : (cutI v l).length = l.countP (fun x => decide (v < x.f1)) := by
  unfold cutI; rw [List.length_map, List.countP_eq_length_filter]
theorem cutI_mem {l : L64} {v : Int} {x : S64} (h : x ∈ cutI v l) : ∃ y ∈ l, y.f0 = x.f0 ∧ y.f1 = x.f1 + v := by
  unfold cutI at h
  obtain ⟨y, hy, rfl⟩ := List.mem_map.1 h
  exact ⟨y, (List.mem_filter.1 hy).1, rfl, by simp⟩
theorem cutI_tot {l : L64} (h : Srt l) (hp : Pos l) {v : Int} (hv : 0 ≤ v) (k : ByteArray) : tot (cutI v l) k ≤ tot l k ∧ tot l k - v ≤ tot (cutI v l) k := by
  induction l with
  | nil => simp [cutI, tot_nil]; omega
  | cons x l ih =>
    have ih := ih h.tail (fun y hy => hp y (by simp [hy]))
    have hx := hp x (by simp)
    rw [tot_cons]
    by_cases e : x.f0 = k
    · have h0 : tot l k = 0 := tot_none (fun y hy => by rw [← e]; exact h.ne y hy)
      have h1 : tot (cutI v l) k = 0 := tot_none (fun y hy => by
        obtain ⟨z, hz, ez, _⟩ := cutI_mem hy
        rw [← ez, ← e]; exact h.ne z hz)
      by_cases hc : v < x.f1
      · have e2 : cutI v (x :: l) = ⟨x.f0, x.f1 - v⟩ :: cutI v l := by unfold cutI; rw [List.filter_cons_of_pos (by simpa using hc)]; rfl
        rw [e2, tot_cons, if_pos e, if_pos e]; simp only; omega
      · have e2 : cutI v (x :: l) = cutI v l := by unfold cutI; rw [List.filter_cons_of_neg (by simpa using hc)]
        rw [e2, if_pos e]; omega
    · by_cases hc : v < x.f1
      · have e2 : cutI v (x :: l) = ⟨x.f0, x.f1 - v⟩ :: cutI v l := by unfold cutI; rw [List.filter_cons_of_pos (by simpa using hc)]; rfl
        rw [e2, tot_cons, if_neg e, if_neg e]; omega
      · have e2 : cutI v (x :: l) = cutI v l := by unfold cutI; rw [List.filter_cons_of_neg (by simpa using hc)]
        rw [e2, if_neg e]; omega
theorem cutI_sum {l : L64} (hp : Pos l) {v : Int} (hv : 0 ≤ v) : sumI (cutI v l) + v * (l.countP (fun x => decide (v ≤ x.f1))) ≤ sumI l := by
  induction l with
  | nil => simp [cutI, sumI]
  | cons x l ih =>
    have ih := ih (fun y hy => hp y (by simp [hy]))
    have hx := hp x (by simp)
    rw [sumI_cons, List.countP_cons]
    by_cases hc : v < x.f1
    · have e2 : cutI v (x :: l) = ⟨x.f0, x.f1 - v⟩ :: cutI v l := by unfold cutI; rw [List.filter_cons_of_pos (by simpa using hc)]; rfl
      rw [e2, sumI_cons, if_pos (by simp; omega), Int.natCast_add, Int.mul_add]
      simp only [Int.cast_ofNat_Int, Int.mul_one]; omega
    · have e2 : cutI v (x :: l) = cutI v l := by unfold cutI; rw [List.filter_cons_of_neg (by simpa using hc)]
      rw [e2]
      by_cases hv2 : v ≤ x.f1
      · rw [if_pos (by simpa using hv2), Int.natCast_add, Int.mul_add]
        simp only [Int.cast_ofNat_Int, Int.mul_one]; omega
      · rw [if_neg (by simpa using hv2)]; simp only [Nat.add_zero]; omega
theorem gr_pos {l : L64} (hp : Pos l) {p : Nat} (h : p < l.length) : 1 ≤ gr l p := by
  have hl : (srtD l).length = l.length := by rw [(srtD_perm l).length_eq]; simp
  have e : gr l p = (srtD l)[p]'(by omega) := by unfold gr; rw [List.getElem?_eq_getElem (by omega)]; rfl
  have hm := (srtD_perm l).mem_iff.1 (List.getElem_mem (show p < (srtD l).length by omega))
  obtain ⟨x, hx, ex⟩ := List.mem_map.1 hm
  rw [e, ← ex]; exact hp x hx
/-- What a summary's items come to when they are shortened. -/
structure Shrt (K : Int) (l : L64) (lost : Int) (r : L64 × Int) : Prop where
  srt : Srt r.1
  pos : Pos r.1
  len : (r.1.length : Int) < K
  more : lost ≤ r.2
  low : ∀ k, tot r.1 k ≤ tot l k
  high : ∀ k, tot l k - (r.2 - lost) ≤ tot r.1 k
  sum : sumI r.1 + K * r.2 ≤ sumI l + K * lost
  mem : ∀ x ∈ r.1, ∃ y ∈ l, y.f0 = x.f0 ∧ x.f1 ≤ y.f1
theorem shrt_spec {K : Int} (hK : 2 ≤ K) {l : L64} (h : Srt l) (hp : Pos l) (lost : Int) : Shrt K l lost (shrt K l lost) := by
  unfold shrt
  by_cases hc : K ≤ l.length
  · rw [if_pos hc]
    have hpl : (K - 1).toNat < l.length := by omega
    have hg := gr_isGr hpl
    have h1 := gr_pos hp hpl
    generalize gr l (K - 1).toNat = v at *
    have hs := cutI_sum hp (show 0 ≤ v by omega)
    have hq : v * K ≤ v * (l.countP (fun x => decide (v ≤ x.f1)) : Int) := Int.mul_le_mul_of_nonneg_left (by have := hg.2; omega) (by omega)
    refine ⟨cutI_srt h v, cutI_pos l v, ?_, by simp only; omega, fun k => (cutI_tot h hp (by omega) k).1, fun k => ?_, ?_, fun x hx => ?_⟩
    · simp only [cutI_len]; have := hg.1; omega
    · have := (cutI_tot h hp (show 0 ≤ v by omega) k).2; simp only; omega
    · simp only
      rw [Int.mul_add, Int.mul_comm K v]; omega
    · obtain ⟨y, hy, e0, e1⟩ := cutI_mem hx
      exact ⟨y, hy, e0, by omega⟩
  · rw [if_neg hc]
    exact ⟨h, hp, by simp only; omega, by simp only; omega, fun k => Int.le_refl _, fun k => by simp only; omega, by simp only; omega, fun x hx => ⟨x, hx, rfl, Int.le_refl _⟩⟩

/-! the program's way: sorted by count, cut, sorted by key -/
theorem takeW_filter {v : Int} : ∀ {L : L64}, L.Pairwise (fun x y => y.f1 ≤ x.f1) → L.takeWhile (fun x => decide (v < x.f1)) = L.filter (fun x => decide (v < x.f1))
  | [], _ => rfl
  | x :: L, h => by
    have hh := List.pairwise_cons.1 h
    by_cases hc : v < x.f1
    · rw [List.takeWhile_cons_of_pos (by simpa using hc), List.filter_cons_of_pos (by simpa using hc), takeW_filter hh.2]
    · rw [List.takeWhile_cons_of_neg (by simpa using hc), List.filter_cons_of_neg (by simpa using hc)]
      symm
      rw [List.filter_eq_nil_iff]
      intro y hy
      have := hh.1 y hy
      simp; omega
theorem cutI_perm {v : Int} {l m : L64} (h : l.Perm m) : (cutI v l).Perm (cutI v m) := (h.filter _).map _
/-- Ascending lists with the same elements. -/
theorem srt_perm {a b : L64} (h : a.Perm b) (sa : Srt a) (sb : Srt b) : a = b := by
  refine List.Perm.eq_of_pairwise (le := fun x y => ltK x.f0 y.f0 = true ∨ x = y) (fun x y hx hy h1 h2 => ?_) (sa.imp fun hh => .inl hh) (sb.imp fun hh => .inl hh) h
  rcases h1 with h1 | h1
  · rcases h2 with h2 | h2
    · rw [ltK_asym h1] at h2; cases h2
    · exact h2.symm
  · exact h1
/-! summaries -/
def bdK : Option ByteArray → ByteArray → Bool
  | some q, k => !ltK q k
  | none, _ => false
structure HV where
  f0 : Int
  f1 : Int
  f2 : Int
  f3 : L64
def chkI : Option ByteArray → L64 → Int
  | _, [] => 0
  | p, x :: l => if 200 < x.f0.size then 4 else if bdK p x.f0 = true then 9 else if x.f1 < 1 ∨ 1099511627776 < x.f1 then 2 else chkI (some x.f0) l
def chkH (x : HV) : Int := if x.f0 < 2 ∨ 100 < x.f0 then 2 else if x.f1 < 0 ∨ 1099511627776 < x.f1 ∨ x.f2 < 0 ∨ 1099511627776 < x.f2 then 2 else if x.f0 - 1 < x.f3.length then 4 else if chkI none x.f3 ≠ 0 then chkI none x.f3 else if x.f1 < x.f0 * x.f2 + sumI x.f3 then 10 else 0
theorem chkI_some : ∀ (l : L64) (q : ByteArray), chkI (some q) l = 0 ↔ (∀ x ∈ l, x.f0.size ≤ 200 ∧ 1 ≤ x.f1 ∧ x.f1 ≤ 1099511627776) ∧ (∀ x ∈ l, ltK q x.f0 = true) ∧ Srt l
  | [], q => by simp [chkI, Srt]
  | x :: l, q => by
    have ih := chkI_some l x.f0
    unfold chkI
    by_cases h1 : 200 < x.f0.size
    · rw [if_pos h1]
      exact ⟨fun h => (by cases h), fun h => by have := (h.1 x (by simp)).1; omega⟩
    · rw [if_neg h1]
      by_cases h2 : ltK q x.f0 = false
      · rw [if_pos (by simp [bdK, h2])]
        refine ⟨fun h => (by cases h), fun h => ?_⟩
        have := h.2.1 x (by simp)
        rw [h2] at this; cases this
      · have h2' : ltK q x.f0 = true := by simpa using h2
        rw [if_neg (by simp [bdK, h2'])]
        by_cases h3 : x.f1 < 1 ∨ 1099511627776 < x.f1
        · rw [if_pos h3]
          exact ⟨fun h => (by cases h), fun h => by have := h.1 x (by simp); omega⟩
        · rw [if_neg h3, ih]
          constructor
          · rintro ⟨a, b, c⟩
            refine ⟨fun y hy => ?_, fun y hy => ?_, List.pairwise_cons.2 ⟨b, c⟩⟩
            · rcases List.mem_cons.1 hy with rfl | hy
              · exact ⟨by omega, by omega, by omega⟩
              · exact a y hy
            · rcases List.mem_cons.1 hy with rfl | hy
              · exact h2'
              · exact ltK_trans h2' (b y hy)
          · rintro ⟨a, b, c⟩
            exact ⟨fun y hy => a y (by simp [hy]), c.head, c.tail⟩
theorem chkI_none (l : L64) : chkI none l = 0 ↔ (∀ x ∈ l, x.f0.size ≤ 200 ∧ 1 ≤ x.f1 ∧ x.f1 ≤ 1099511627776) ∧ Srt l := by
  cases l with
  | nil => simp [chkI, Srt]
  | cons x l =>
    unfold chkI
    by_cases h1 : 200 < x.f0.size
    · rw [if_pos h1]
      exact ⟨fun h => (by cases h), fun h => by have := (h.1 x (by simp)).1; omega⟩
    · rw [if_neg h1, if_neg (by simp [bdK])]
      by_cases h3 : x.f1 < 1 ∨ 1099511627776 < x.f1
      · rw [if_pos h3]
        exact ⟨fun h => (by cases h), fun h => by have := h.1 x (by simp); omega⟩
      · rw [if_neg h3, chkI_some]
        constructor
        · rintro ⟨a, b, c⟩
          refine ⟨fun y hy => ?_, List.pairwise_cons.2 ⟨b, c⟩⟩
          rcases List.mem_cons.1 hy with rfl | hy
          · exact ⟨by omega, by omega, by omega⟩
          · exact a y hy
        · rintro ⟨a, c⟩
          exact ⟨fun y hy => a y (by simp [hy]), c.head, c.tail⟩
structure ValH (x : HV) : Prop where
  k0 : 2 ≤ x.f0
  k1 : x.f0 ≤ 100
  t0 : 0 ≤ x.f1
  t1 : x.f1 ≤ 1099511627776
  l0 : 0 ≤ x.f2
  l1 : x.f2 ≤ 1099511627776
  len : (x.f3.length : Int) ≤ x.f0 - 1
  key : ∀ y ∈ x.f3, y.f0.size ≤ 200
  pos : Pos x.f3
  srt : Srt x.f3
  sum : x.f0 * x.f2 + sumI x.f3 ≤ x.f1
theorem chkH_iff (x : HV) : chkH x = 0 ↔ ValH x := by
  have hc := chkI_none x.f3
  unfold chkH
  by_cases h1 : x.f0 < 2 ∨ 100 < x.f0
  · rw [if_pos h1]; exact ⟨fun h => (by cases h), fun h => by have := h.k0; have := h.k1; omega⟩
  rw [if_neg h1]
  by_cases h2 : x.f1 < 0 ∨ 1099511627776 < x.f1 ∨ x.f2 < 0 ∨ 1099511627776 < x.f2
  · rw [if_pos h2]; exact ⟨fun h => (by cases h), fun h => by have := h.t0; have := h.t1; have := h.l0; have := h.l1; omega⟩
  rw [if_neg h2]
  by_cases h3 : x.f0 - 1 < x.f3.length
  · rw [if_pos h3]; exact ⟨fun h => (by cases h), fun h => by have := h.len; omega⟩
  rw [if_neg h3]
  by_cases h4 : chkI none x.f3 = 0
  · rw [if_neg (by simpa using h4)]
    have hh := hc.1 h4
    by_cases h5 : x.f1 < x.f0 * x.f2 + sumI x.f3
    · rw [if_pos h5]; exact ⟨fun h => (by cases h), fun h => by have := h.sum; omega⟩
    · rw [if_neg h5]
      exact ⟨fun _ => ⟨by omega, by omega, by omega, by omega, by omega, by omega, by omega, fun y hy => (hh.1 y hy).1, fun y hy => (hh.1 y hy).2.1, hh.2, by omega⟩, fun _ => rfl⟩
  · rw [if_pos h4]
    refine ⟨fun h => absurd h h4, fun h => absurd (hc.2 ⟨fun y hy => ⟨h.key y hy, h.pos y hy, ?_⟩, h.srt⟩) h4⟩
    have h5 := le_sumI h.pos hy
    have h6 := h.sum
    have h7 := h.t1
    have h8 : 0 ≤ x.f0 * x.f2 := Int.mul_nonneg (by have := h.k0; omega) h.l0
    omega

def zH : HV := ⟨0, 0, 0, []⟩
/-- Items put together behind a check. -/
def shrtH (K T L : Int) (l : L64) : HV := ⟨K, T, (shrt K l L).2, (shrt K l L).1⟩
def addH (x : HV) (k : ByteArray) (n : Int) : HV × Int := if chkH x ≠ 0 then (zH, 1) else if 200 < k.size then (zH, 4) else if n < 0 then (zH, 2) else if 1099511627776 - x.f1 < n then (zH, 4) else if n = 0 then (x, 0) else (shrtH x.f0 (x.f1 + n) x.f2 (putK x.f3 k n), 0)
theorem shrtH_val {K T L : Int} {l : L64} (hK : 2 ≤ K) (hK1 : K ≤ 100) (hT : T ≤ 1099511627776) (hL : 0 ≤ L) (hs : Srt l) (hp : Pos l) (hk : ∀ y ∈ l, y.f0.size ≤ 200) (hm : K * L + sumI l ≤ T) : ValH (shrtH K T L l) := by
  have S := shrt_spec hK hs hp L
  unfold shrtH
  generalize shrt K l L = r at *
  have h1 := S.more
  have h2 := S.sum
  have h3 := sumI_nonneg S.pos
  have h4 : 2 * r.2 ≤ K * r.2 := Int.mul_le_mul_of_nonneg_right hK (by omega)
  have h5 := S.len
  refine ⟨hK, hK1, ?_, hT, ?_, ?_, ?_, fun y hy => ?_, S.pos, S.srt, ?_⟩ <;> (try simp only)
  · omega
  · omega
  · omega
  · omega
  · obtain ⟨z, hz, e, _⟩ := S.mem y hy
    rw [← e]; exact hk z hz
  · omega
theorem addH_val {x : HV} {k : ByteArray} {n : Int} (h : (addH x k n).2 = 0) : ValH (addH x k n).1 ∧ (addH x k n).1.f1 = x.f1 + n ∧ (addH x k n).1.f0 = x.f0 := by
  unfold addH at *
  by_cases h1 : chkH x ≠ 0
  · rw [if_pos h1] at h; cases h
  rw [if_neg h1] at *
  by_cases h2 : 200 < k.size
  · rw [if_pos h2] at h; cases h
  rw [if_neg h2] at *
  by_cases h3 : n < 0
  · rw [if_pos h3] at h; cases h
  rw [if_neg h3] at *
  by_cases h4 : 1099511627776 - x.f1 < n
  · rw [if_pos h4] at h; cases h
  rw [if_neg h4] at *
  have V := (chkH_iff x).1 (by simpa using h1)
  by_cases h5 : n = 0
  · rw [if_pos h5] at *; exact ⟨V, by simp only; omega, rfl⟩
  · rw [if_neg h5] at *
    refine ⟨shrtH_val V.k0 V.k1 (by omega) V.l0 (put_srt V.srt _ _) (put_pos V.pos _ (by omega)) (fun y hy => ?_) (by rw [sumI_put]; have := V.sum; omega), rfl, rfl⟩
    rcases put_mem _ _ _ hy with hy | ⟨e, _⟩
    · exact V.key y hy
    · rw [e]; omega
/-! keys that are added -/
/-- How often a key is added. -/
def truth (l : List S64) (k : ByteArray) : Int := (l.map fun x => if x.f0 = k then x.f1 else 0).sum
def sumN (l : List S64) : Int := (l.map fun x => x.f1).sum
theorem truth_cons (x : S64) (l : List S64) (k : ByteArray) : truth (x :: l) k = (if x.f0 = k then x.f1 else 0) + truth l k := by simp [truth]
theorem truth_append (a b : List S64) (k : ByteArray) : truth (a ++ b) k = truth a k + truth b k := by simp [truth]
theorem sumN_append (a b : List S64) : sumN (a ++ b) = sumN a + sumN b := by simp [sumN]
theorem truth_perm {a b : List S64} (h : a.Perm b) (k : ByteArray) : truth a k = truth b k := by
  induction h with
  | nil => rfl
  | cons x _ ih => rw [truth_cons, truth_cons, ih]
  | swap x y l => simp only [truth_cons]; omega
  | trans _ _ ih1 ih2 => rw [ih1, ih2]
theorem sumN_perm {a b : List S64} (h : a.Perm b) : sumN a = sumN b := by
  induction h with
  | nil => rfl
  | cons x _ ih => simp only [sumN, List.map_cons, List.sum_cons] at *; omega
  | swap x y l => simp only [sumN, List.map_cons, List.sum_cons]; omega
  | trans _ _ ih1 ih2 => rw [ih1, ih2]
/-- What a summary of added keys is. -/
structure OfR (K : Int) (it : L64) (lost : Int) (l : List S64) : Prop where
  low : ∀ k, tot it k ≤ truth l k
  high : ∀ k, truth l k ≤ tot it k + lost
  keys : ∀ y ∈ it, ∃ m ∈ l, m.f0 = y.f0 ∧ 0 < m.f1
  exact : ∀ S : List ByteArray, (∀ m ∈ l, 0 < m.f1 → m.f0 ∈ S) → (S.length : Int) < K → lost = 0
structure Of (K : Int) (x : HV) (l : List S64) : Prop where
  val : ValH x
  k : x.f0 = K
  all : x.f1 = sumN l
  r : OfR K x.f3 x.f2 l
theorem nodup_len {α : Type} [BEq α] [LawfulBEq α] : ∀ {l S : List α}, l.Nodup → (∀ k ∈ l, k ∈ S) → l.length ≤ S.length
  | [], _, _, _ => Nat.zero_le _
  | k :: l, S, hn, hs => by
    have hn' := List.nodup_cons.1 hn
    have h1 : k ∈ S := hs k (by simp)
    have := nodup_len (l := l) (S := S.erase k) hn'.2 (fun j hj => by
      have hjk : j ≠ k := fun e => hn'.1 (e ▸ hj)
      exact (List.mem_erase_of_ne hjk).2 (hs j (by simp [hj])))
    rw [List.length_erase_of_mem h1] at this
    have := List.length_pos_of_mem h1
    simp only [List.length_cons]; omega
theorem srt_len {l : L64} (h : Srt l) {S : List ByteArray} (hs : ∀ y ∈ l, y.f0 ∈ S) : l.length ≤ S.length := by
  have := nodup_len (l := l.map (fun x => ab x.f0)) (S := S.map ab) (by
    unfold List.Nodup
    rw [List.pairwise_map]
    exact h.imp fun hh e => ltK_ne hh (ab_inj e)) (fun k hk => by
    obtain ⟨y, hy, rfl⟩ := List.mem_map.1 hk
    exact List.mem_map_of_mem (hs y hy))
  simpa using this
theorem newH_of {K : Int} (h : 2 ≤ K) (h1 : K ≤ 100) : Of K ⟨K, 0, 0, []⟩ [] :=
  ⟨⟨h, h1, by simp, by simp, by simp, by simp, by simp; omega, by simp, by intro x hx; simp at hx, List.Pairwise.nil, by simp [sumI]⟩, rfl, rfl, ⟨fun k => by simp [tot_nil, truth], fun k => by simp [tot_nil, truth], by simp, fun _ _ _ => rfl⟩⟩
theorem shrt_same {K : Int} {l : L64} {L : Int} (h : (l.length : Int) < K) : shrt K l L = (l, L) := by unfold shrt; rw [if_neg (by omega)]
theorem Of.addW {K : Int} {x : HV} {l : List S64} (h : Of K x l) {m : S64} (hk : m.f0.size ≤ 200) (h0 : 0 ≤ m.f1) (hs : sumN l + m.f1 ≤ 1099511627776) : (addH x m.f0 m.f1).2 = 0 ∧ Of K (addH x m.f0 m.f1).1 (l ++ [m]) := by
  have V := h.val
  have hA := h.all
  have e0 : (addH x m.f0 m.f1).2 = 0 := by
    unfold addH
    rw [if_neg (by simpa using (chkH_iff x).2 V), if_neg (by omega), if_neg (by omega), if_neg (by omega)]
    split <;> rfl
  obtain ⟨V', e1, e2⟩ := addH_val e0
  refine ⟨e0, V', e2.trans h.k, ?_, ?_⟩
  · rw [e1, sumN_append, hA]; simp [sumN]
  have ht : ∀ k, truth (l ++ [m]) k = truth l k + if m.f0 = k then m.f1 else 0 := fun k => by rw [truth_append]; simp [truth]
  unfold addH
  rw [if_neg (by simpa using (chkH_iff x).2 V), if_neg (by omega), if_neg (by omega), if_neg (by omega)]
  by_cases hz : m.f1 = 0
  · rw [if_pos hz]
    have e : ∀ k, truth (l ++ [m]) k = truth l k := fun k => by rw [ht]; split <;> omega
    refine ⟨fun k => by rw [e]; exact h.r.low k, fun k => by rw [e]; exact h.r.high k, fun y hy => ?_, fun S hS hl => h.r.exact S (fun m' hm' => hS m' (by simp [hm'])) hl⟩
    obtain ⟨m', hm', hh⟩ := h.r.keys y hy
    exact ⟨m', by simp [hm'], hh⟩
  · rw [if_neg hz]
    have S := shrt_spec V.k0 (put_srt V.srt m.f0 m.f1) (put_pos V.pos m.f0 (show 1 ≤ m.f1 by omega)) x.f2
    have hmem : ∀ y ∈ putK x.f3 m.f0 m.f1, ∃ m' ∈ l ++ [m], m'.f0 = y.f0 ∧ 0 < m'.f1 := fun y hy => by
      rcases put_mem _ _ _ hy with hy | ⟨e, _⟩
      · obtain ⟨m', hm', hh⟩ := h.r.keys y hy
        exact ⟨m', by simp [hm'], hh⟩
      · exact ⟨m, by simp, e.symm, by omega⟩
    refine ⟨fun k => ?_, fun k => ?_, fun y hy => ?_, fun T hT hl => ?_⟩
    · have h1 := S.low k
      have h2 := h.r.low k
      rw [tot_put] at h1
      rw [ht]
      show tot (shrt _ _ _).1 k ≤ _
      omega
    · have h1 := S.high k
      have h2 := h.r.high k
      rw [tot_put] at h1
      rw [ht]
      show _ ≤ tot (shrt _ _ _).1 k + (shrt _ _ _).2
      omega
    · obtain ⟨z, hz, e, _⟩ := S.mem y hy
      rw [← e]; exact hmem z hz
    · have hl2 : ((putK x.f3 m.f0 m.f1).length : Int) < x.f0 := by
        have := srt_len (put_srt V.srt m.f0 m.f1) (S := T) (fun y hy => by
          obtain ⟨m', hm', e, hp⟩ := hmem y hy
          rw [← e]; exact hT m' hm' hp)
        rw [h.k]; omega
      show (shrt _ _ _).2 = 0
      rw [shrt_same hl2]
      exact h.r.exact T (fun m' hm' => hT m' (by simp [hm'])) hl
theorem Of.add {K : Int} {x : HV} {l : List S64} (h : Of K x l) {m : S64} (hk : m.f0.size ≤ 20) (h0 : 0 ≤ m.f1) (hs : sumN l + m.f1 ≤ 1099511627776) : (addH x m.f0 m.f1).2 = 0 ∧ Of K (addH x m.f0 m.f1).1 (l ++ [m]) := h.addW (by omega) h0 hs
/-! the counts in a map, and what is collected off it -/
def kL (s : ByteArray) : Lit := .string (ab s)
theorem kL_inj {a b : ByteArray} (h : kL a = kL b) : a = b := ab_inj (by simpa [kL] using h)
theorem kL_key (s : ByteArray) : WideAt.IsKeyLit (kL s) := trivial
/-- What a map of the counts of a list holds. -/
structure MapOf (D : DataW Unit) (l : L64) : Prop where
  isMap : Maps.IsMap D
  has : ∀ s, Maps.has D (kL s) = true ↔ ∃ x ∈ l, x.f0 = s
  at_ : ∀ s, D.atKey (kL s) (.lit (.int .i64 0)) = .lit (.int .i64 (tot l s))
theorem MapOf.nil : MapOf (.map []) [] := ⟨Maps.isMap_empty, fun s => by simp [Maps.has], fun s => rfl⟩
theorem MapOf.put {D : DataW Unit} {l : L64} (h : MapOf D l) (x : S64) : MapOf (D.put (kL x.f0) (.lit (.int .i64 (tot l x.f0 + x.f1)))) (l ++ [x]) := by
  refine ⟨h.isMap.put _ _, fun s => ?_, fun s => ?_⟩
  · by_cases e : s = x.f0
    · subst e
      rw [Maps.has_put_same h.isMap (kL_key _)]
      exact ⟨fun _ => ⟨x, by simp, rfl⟩, fun _ => rfl⟩
    · rw [Maps.has_put_other (fun e' => e (kL_inj e')), h.has]
      constructor
      · rintro ⟨y, hy, ey⟩; exact ⟨y, by simp [hy], ey⟩
      · rintro ⟨y, hy, ey⟩
        rcases List.mem_append.1 hy with hy | hy
        · exact ⟨y, hy, ey⟩
        · simp at hy; subst hy; exact absurd ey.symm e
  · by_cases e : s = x.f0
    · subst e
      rw [Maps.atKey_put_same h.isMap (kL_key _), tot_append]
      simp [tot_cons, tot_nil]
    · rw [Maps.atKey_put_other (fun e' => e (kL_inj e')), h.at_, tot_append, tot_cons, if_neg (fun e' => e e'.symm), tot_nil]
      congr 3; omega
/-- What has been collected off the map. -/
structure Got (D : DataW Unit) (left : Lit → Bool) (l items : L64) : Prop where
  apart : items.Pairwise (fun x y => x.f0 ≠ y.f0)
  mem : ∀ x, x ∈ items ↔ (∃ y ∈ l, y.f0 = x.f0) ∧ left (kL x.f0) = false ∧ x.f1 = tot l x.f0
theorem Got.start {D : DataW Unit} {l : L64} (h : MapOf D l) : Got D (Maps.has D) l [] := ⟨List.Pairwise.nil, fun x => by
  have := h.has x.f0
  simp only [List.not_mem_nil, false_iff]
  rintro ⟨h1, h2, _⟩
  rw [this.2 h1] at h2; cases h2⟩
theorem Got.step {D : DataW Unit} {left : Lit → Bool} {l items : L64} (h : Got D left l items) (hD : MapOf D l) {s : ByteArray} {c : Int} (hl : left (kL s) = true) (hat : ∀ zd, D.atKey (kL s) zd = .lit (.int .i64 c)) :
    Got D (fun z => left z && !z.sameKey (kL s)) l (items ++ [⟨s, c⟩]) := by
  have hc : c = tot l s := by have := hD.at_ s; rw [hat] at this; simpa using this
  have hh := (hD.has s).1 (Maps.has_true_of_atKey hat)
  have hnew : ∀ x ∈ items, x.f0 ≠ s := fun x hx e => by have := ((h.mem x).1 hx).2.1; rw [e, hl] at this; cases this
  refine ⟨List.pairwise_append.2 ⟨h.apart, List.pairwise_cons.2 ⟨by simp, List.Pairwise.nil⟩, fun a ha b hb => by simp at hb; subst hb; exact hnew a ha⟩, fun x => ?_⟩
  rw [List.mem_append, h.mem]
  by_cases e : x.f0 = s
  · constructor
    · rintro (⟨_, h2, _⟩ | h2)
      · rw [e, hl] at h2; cases h2
      · simp at h2; subst h2
        exact ⟨hh, by simp [Lit.sameKey, kL], hc⟩
    · rintro ⟨h1, h2, h3⟩
      right
      simp only [List.mem_singleton]
      cases x; simp at e h3 ⊢; subst e; exact ⟨rfl, h3.trans hc.symm⟩
  · have hs : (kL x.f0).sameKey (kL s) = false := Maps.sameKey_ne (fun e' => e (kL_inj e'))
    rw [hs]
    constructor
    · rintro (h2 | h2)
      · exact ⟨h2.1, by rw [h2.2.1]; rfl, h2.2.2⟩
      · simp at h2; subst h2; exact absurd rfl e
    · rintro ⟨h1, h2, h3⟩
      exact .inl ⟨h1, by simpa using h2, h3⟩
theorem apart_nodup {l : L64} (h : l.Pairwise (fun x y => x.f0 ≠ y.f0)) : l.Nodup := h.imp fun hh e => hh (by rw [e])
theorem Got.len {D : DataW Unit} {left : Lit → Bool} {l items : L64} (h : Got D left l items) : items.length ≤ l.length := by
  have := nodup_len (l := items.map (fun x => ab x.f0)) (S := l.map (fun x => ab x.f0)) (by
    unfold List.Nodup
    rw [List.pairwise_map]
    exact h.apart.imp fun hh e => hh (ab_inj e)) (fun k hk => by
    obtain ⟨y, hy, rfl⟩ := List.mem_map.1 hk
    obtain ⟨⟨z, hz, ez⟩, _⟩ := (h.mem y).1 hy
    exact List.mem_map.2 ⟨z, hz, by rw [ez]⟩)
  simpa using this
theorem Got.done {D : DataW Unit} {left : Lit → Bool} {a b items : L64} (h : Got D left (a ++ b) items) (hl : ∀ kl, left kl = false) (sa : Srt a) (pa : Pos a) (pb : Pos b) : items.Perm (mrgI a b) := by
  have sm := mrgI_srt sa b
  have pm := mrgI_pos pa pb
  have pab : Pos (a ++ b) := fun x hx => by rcases List.mem_append.1 hx with hx | hx; exact pa x hx; exact pb x hx
  refine (List.perm_ext_iff_of_nodup (apart_nodup h.apart) (apart_nodup (sm.imp fun hh => ltK_ne hh))).2 fun x => ?_
  rw [h.mem, hl, ← tot_pos pab]
  have et : tot (mrgI a b) x.f0 = tot (a ++ b) x.f0 := by rw [mrgI_tot, tot_append]
  constructor
  · rintro ⟨h1, _, h3⟩
    exact (mem_of_tot sm pm (k := x.f0) (n := x.f1) (by omega)).1 (by omega)
  · intro hx
    have h1 := tot_of_mem sm hx
    have h2 := pm x hx
    exact ⟨by omega, rfl, by omega⟩
/-- The program's way from the collected items. -/
theorem short_way {K : Int} (hK : 2 ≤ K) {l m : L64} (hp : l.Perm m) (hd : l.Pairwise (fun x y => y.f1 ≤ x.f1)) (hc : K ≤ l.length) (h : (K - 1).toNat < l.length) :
    l[(K - 1).toNat].f1 = gr m (K - 1).toNat ∧ ((l.takeWhile fun x => decide (l[(K - 1).toNat].f1 < x.f1)).map fun x => (⟨x.f0, x.f1 - l[(K - 1).toNat].f1⟩ : S64)).Perm (cutI (gr m (K - 1).toNat) m) := by
  have h1 := desc_isGr hd h
  have h2 : IsGr m (K - 1).toNat (gr m (K - 1).toNat) := gr_isGr (by rw [← hp.length_eq]; exact h)
  have e := (h1.perm hp).uniq h2
  refine ⟨e, ?_⟩
  rw [takeW_filter hd, e]
  exact cutI_perm hp
/-! what the laws ask of a summary of added keys -/
theorem truth_le {l : List S64} (h : ∀ m ∈ l, 0 ≤ m.f1) (k : ByteArray) : truth l k ≤ sumN l := by
  induction l with
  | nil => simp [truth, sumN]
  | cons m l ih =>
    rw [truth_cons]
    have h0 := h m (by simp)
    have := ih (fun y hy => h y (by simp [hy]))
    simp only [sumN, List.map_cons, List.sum_cons] at *
    split <;> omega
/-- The bounds of the count of a key. -/
def hiH (x : HV) (k : ByteArray) : Int := if x.f1 < tot x.f3 k + x.f2 then x.f1 else tot x.f3 k + x.f2
theorem Of.bounds {K : Int} {x : HV} {l : List S64} (h : Of K x l) (hN : ∀ m ∈ l, 0 ≤ m.f1) (k : ByteArray) : tot x.f3 k ≤ truth l k ∧ truth l k ≤ hiH x k := by
  refine ⟨h.r.low k, ?_⟩
  have h1 := truth_le hN k
  have h2 := h.all
  have h3 := h.r.high k
  unfold hiH
  split <;> omega
/-- As long as fewer than K different keys are added, all is exact. -/
theorem Of.exactly {K : Int} {x : HV} {l : List S64} (h : Of K x l) {S : List ByteArray} (hS : ∀ m ∈ l, 0 < m.f1 → m.f0 ∈ S) (hl : (S.length : Int) < K) : x.f2 = 0 ∧ ∀ k, tot x.f3 k = truth l k := by
  have h0 := h.r.exact S hS hl
  refine ⟨h0, fun k => ?_⟩
  have h1 := h.r.low k
  have h2 := h.r.high k
  omega
theorem Of.same {K : Int} {x y : HV} {l m : List S64} (h : Of K x l) (g : Of K y m) (hp : l.Perm m) {S : List ByteArray} (hS : ∀ m ∈ l, 0 < m.f1 → m.f0 ∈ S) (hl : (S.length : Int) < K) : x = y := by
  obtain ⟨h1, h2⟩ := h.exactly hS hl
  obtain ⟨g1, g2⟩ := g.exactly (S := S) (fun m' hm' => hS m' (hp.mem_iff.2 hm')) hl
  have V := h.val
  have U := g.val
  have e3 : x.f3 = y.f3 := ext_tot V.srt U.srt V.pos U.pos (fun k => by rw [h2, g2, truth_perm hp])
  have e0 : x.f0 = y.f0 := h.k.trans g.k.symm
  have e1 : x.f1 = y.f1 := by rw [h.all, g.all, sumN_perm hp]
  have e2 : x.f2 = y.f2 := by omega
  cases x; cases y; simp_all
end Go.Proofs.YtakobehkajphpaaGreat.K
