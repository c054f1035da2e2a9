/- Opening of arguments that are structs or arrays. -/
import Derived.Test.YtakobehkajphpaaHOpn
import Derived.OpenShut
namespace Go.Proofs.Ytakobehkajphpaa.H
set_option linter.unusedVariables false
open Go Go.RowKit Go.Proofs.YtakobehkajphpaaW.PrintWords Go.WideShapes

set_option maxRecDepth 100000 in
theorem open_agg {α : Type} {t : TypeId} {fs : Array Field} {d : Kd α} {good : α → Prop} {H : Type} {enc : TypeId × Value → H} {W : World} {b : Nat} {v : Value} {dd : DataW H} {ps : List MemPlace} (ht : Try.prog.underlying t = some (.struct fs)) (ho : Opn t d good)
    (hval : Value.okWide Try.prog W .any b t v) (h : DataW.Trod enc Try.prog W 0 (fun _ => true) true t v dd ps) : ∃ (cs : List Value) (x : α), v = .agg cs.toArray ∧ d.K W x cs ∧ good x := by
  obtain ⟨cs, rfl, hsz⟩ := okWide_struct ht hval
  obtain ⟨fuel, hf⟩ := h
  obtain ⟨y, hK, hg⟩ := ho.2 H enc W fuel _ _ hf
  exact ⟨cs.toList, y, by simp, by simpa [Value.cells] using hK, hg⟩

set_option maxRecDepth 100000 in
theorem open_arr2 {t e : TypeId} {k : IntKind} {H : Type} {enc : TypeId × Value → H} {W : World} {b : Nat} {v : Value} {dd : DataW H} {ps : List MemPlace} (ht : Try.prog.underlying t = some (.array 2 e)) (he : Try.prog.underlying e = some (.int k)) (hc : Try.prog.cellsOf t = 2) (hc1 : Try.prog.cellsOf e = 1)
    (hval : Value.okWide Try.prog W .any b t v) (h : DataW.Trod enc Try.prog W 0 (fun _ => true) true t v dd ps) : ∃ x y : Int, v = .agg #[.int k x, .int k y] ∧ (Lit.int k x).wf = true ∧ (Lit.int k y).wf = true := by
  obtain ⟨cs, rfl, hsz, _⟩ : ∃ cs, v = .agg cs ∧ cs.size = Try.prog.cellsOf t ∧ Row.okWide Try.prog W .any b t cs := by
    have := hval
    simpa [Value.okWide, ht] using this
  rw [hc] at hsz
  obtain ⟨l⟩ := cs
  match l, hsz with
  | [c0, c1], _ =>
    obtain ⟨fuel, hf⟩ := h
    obtain ⟨xs, m, _, _, _, hl, hel⟩ := DataW.trod_array ht hf
    have h0 := hel 0 (by omega)
    have h1 := hel 1 (by omega)
    rw [List.getElem?_eq_getElem (by omega)] at h0 h1
    rw [hc1] at h0 h1
    obtain ⟨x, e0, _, w0⟩ := DataW.trod_int he h0
    obtain ⟨y, e1, _, w1⟩ := DataW.trod_int he h1
    simp [Value.cells] at e0 e1
    subst e0 e1
    exact ⟨x, y, rfl, w0, w1⟩
end Go.Proofs.Ytakobehkajphpaa.H
