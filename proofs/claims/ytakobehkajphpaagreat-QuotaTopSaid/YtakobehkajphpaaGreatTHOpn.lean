/- Opening of arguments: what a row reads as data is read by a kind of the print's. -/
import Derived.Test.YtakobehkajphpaaGreatProg
import Derived.Test.YtakobehkajphpaaGreatTWAll
import Derived.ChangeArms
import Derived.WideShapes
import Derived.ChangeShapes
namespace Go.Proofs.YtakobehkajphpaaGreat.H
set_option linter.unusedVariables false
open Go.RowKit Go.Proofs.YtakobehkajphpaaGreatW.PrintWords Go.WideShapes

theorem list_of {α : Type} {Q : Nat → α → Prop} : ∀ (n : Nat), (∀ i, i < n → ∃ y, Q i y) → ∃ l : List α, l.length = n ∧ ∀ i y, l[i]? = some y → Q i y
  | 0, _ => ⟨[], rfl, by simp⟩
  | n + 1, h => by
    obtain ⟨l, hl, hq⟩ := list_of n (fun i hi => h i (by omega))
    obtain ⟨y, hy⟩ := h n (by omega)
    refine ⟨l ++ [y], by simp [hl], fun i z hz => ?_⟩
    by_cases hi : i < n
    · rw [List.getElem?_append_left (by omega)] at hz
      exact hq i z hz
    · rw [List.getElem?_append_right (by omega)] at hz
      have : i = n := by
        have := (List.getElem?_eq_some_iff.1 hz).1
        simp at this; omega
      subst this
      simp [hl] at hz
      rw [← hz]; exact hy

theorem addr_add_add (a : Addr) (m n : Nat) : (a.add m).add n = a.add (m + n) := by
  cases a
  simp only [Addr.add]
  split <;> split <;> simp_all <;> omega

def Opn {α : Type} (t : TypeId) (d : Kd α) (good : α → Prop) : Prop :=
  d.sz = Tryz.prog.cellsOf t ∧ ∀ (H : Type) (enc : TypeId × Value → H) (W : World) (fuel : Nat) (cs : List Value) (x : DataW H × List MemPlace), DataW.trod enc Tryz.prog W 0 (fun _ => true) true fuel t cs = some x → ∃ y, d.K W y cs ∧ good y

theorem opn_str {t : TypeId} (ht : Tryz.prog.underlying t = some .string) (hc : Tryz.prog.cellsOf t = 1) : Opn t Kd.string (fun s => s.size ≤ maxLen) :=
  ⟨hc.symm, fun H enc W fuel cs x h => by
    obtain ⟨s, rfl, _, hs⟩ := DataW.trod_string ht h
    exact ⟨s, rfl, hs⟩⟩

theorem opn_int {t : TypeId} {k : IntKind} (ht : Tryz.prog.underlying t = some (.int k)) (hc : Tryz.prog.cellsOf t = 1) : Opn t (Kd.int k) (fun n => (Lit.int k n).wf = true) :=
  ⟨hc.symm, fun H enc W fuel cs x h => by
    obtain ⟨s, rfl, _, hs⟩ := DataW.trod_int ht h
    exact ⟨s, rfl, hs⟩⟩

theorem opn_slice {α : Type} {t e : TypeId} {d : Kd α} {good : α → Prop} (E : Nat) (ht : Tryz.prog.underlying t = some (.slice e)) (hc : Tryz.prog.cellsOf t = 1) (he : Opn e d good) :
    Opn t (Kd.slice E d) (fun l => ∀ x ∈ l, good x) := by
  refine ⟨hc.symm, fun H enc W fuel cs x h => ?_⟩
  rcases DataW.trod_slice ht h with ⟨rfl, _⟩ | ⟨a, len, cap, elems, rest, n, _, rfl, _, _, hlc, hcm, hlen, hel, _, _⟩
  · exact ⟨[], ⟨none, 0, rfl, Nat.le_refl _, rfl, by simp, by simp⟩, by simp⟩
  · obtain ⟨l, hl, hq⟩ := list_of (Q := fun i y => ∃ c, W.cells? 0 (a.add (i * Tryz.prog.cellsOf e)) (Tryz.prog.cellsOf e) = some c ∧ d.K W y c ∧ good y) len (fun i hi => by
      have h1 := hel i hi
      rw [List.getElem?_eq_getElem (by omega)] at h1
      obtain ⟨c, h2, h3⟩ := Option.bind_eq_some_iff.1 h1
      obtain ⟨y, h4, h5⟩ := he.2 H enc W n c _ h3
      exact ⟨y, c, h2, h4, h5⟩)
    subst hl
    refine ⟨l, ⟨some a, cap, rfl, hlc, rfl, ?_, fun _ => ⟨a, rfl, fun j p hj => ?_⟩⟩, fun x hx => ?_⟩
    · unfold maxLen at hcm; omega
    · obtain ⟨c, h2, h4, _⟩ := hq j p hj
      refine ⟨c, d.K_len h4, h4, fun i u hu => ?_⟩
      unfold World.cells? at h2
      rw [if_pos (Nat.zero_le _)] at h2
      have hi := (List.getElem?_eq_some_iff.1 hu).1
      rw [d.K_len h4, he.1] at hi
      have h6 := mapM_some_get h2 i i (by simp [hi])
      rw [hu] at h6
      rw [he.1]
      rw [← addr_add_add]; exact h6
    · obtain ⟨i, hi⟩ := List.getElem?_of_mem hx
      obtain ⟨c, _, _, h5⟩ := hq i x hi
      exact h5

def OpnF {α : Type} (fs : List Field) (off : Nat) (d : Kd α) (good : α → Prop) : Prop :=
  ∀ (H : Type) (enc : TypeId × Value → H) (W : World) (n : Nat) (cs : List Value), (∀ f ∈ fs, ∃ x, DataW.trod enc Tryz.prog W 0 (fun _ => true) true n f.type ((cs.drop f.offset).take (Tryz.prog.cellsOf f.type)) = some x) →
    ∃ y, d.K W y ((cs.drop off).take d.sz) ∧ good y

theorem opnF_one {α : Type} {f : Field} {d : Kd α} {good : α → Prop} (h : Opn f.type d good) : OpnF [f] f.offset d good := by
  intro H enc W n cs hx
  obtain ⟨x, hx⟩ := hx f (by simp)
  rw [h.1]
  exact h.2 H enc W n _ x hx

theorem opnF_cons {α β : Type} {f : Field} {fs : List Field} {a : Kd α} {b : Kd β} {g0 : α → Prop} {g1 : β → Prop} (h : Opn f.type a g0) (hf : OpnF fs (f.offset + a.sz) b g1) :
    OpnF (f :: fs) f.offset (Kd.pair a b) (fun p => g0 p.1 ∧ g1 p.2) := by
  intro H enc W n cs hx
  obtain ⟨x, hx0⟩ := hx f (by simp)
  obtain ⟨y, hy, gy⟩ := h.2 H enc W n _ x hx0
  obtain ⟨z, hz, gz⟩ := hf H enc W n cs (fun f' hf' => hx f' (by simp [hf']))
  refine ⟨(y, z), ⟨_, _, ?_, hy, hz⟩, gy, gz⟩
  show List.take (a.sz + b.sz) _ = _
  rw [h.1, List.take_add, List.drop_drop]

theorem opn_struct {α β : Type} {t : TypeId} {fs : Array Field} {d : Kd α} {good : α → Prop} (f : β → α) (mk : α → β) (hf : ∀ x, f (mk x) = x) (ht : Tryz.prog.underlying t = some (.struct fs)) (hc : Tryz.prog.cellsOf t = d.sz) (hF : OpnF fs.toList 0 d good) :
    Opn t (Kd.iso d f) (fun y => good (f y)) := by
  refine ⟨hc.symm, fun H enc W fuel cs x h => ?_⟩
  obtain ⟨xs, n, _, _, hl, hlen, hfs⟩ := DataW.trod_struct ht h
  obtain ⟨y, hy, gy⟩ := hF H enc W n cs (fun f' hf' => by
    obtain ⟨i, hi⟩ := List.getElem?_of_mem hf'
    have h1 := hfs i f' (by simpa using hi)
    have h2 : i < fs.size := by have := (List.getElem?_eq_some_iff.1 hi).1; simpa using this
    rw [List.getElem?_eq_getElem (by omega)] at h1
    exact ⟨_, h1⟩)
  refine ⟨mk y, ?_, by show good (f (mk y)); rw [hf]; exact gy⟩
  show d.K W (f (mk y)) cs
  rw [hf]
  rw [List.drop_zero, List.take_of_length_le (by omega)] at hy
  exact hy

end Go.Proofs.YtakobehkajphpaaGreat.H
