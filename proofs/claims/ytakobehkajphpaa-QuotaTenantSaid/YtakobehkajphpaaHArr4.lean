/- Opening of an array of four whole numbers. -/
import Derived.Test.YtakobehkajphpaaGOpn2
namespace Go.Proofs.Ytakobehkajphpaa.H
open Go Go.RowKit Go.Proofs.YtakobehkajphpaaW.PrintWords Go.WideShapes
set_option maxRecDepth 100000 in
theorem open_arr4 {t e : TypeId} {k : IntKind} {H : Type} {enc : TypeId × Value → H} {W : World} {b : Nat} {v : Value} {dd : DataW H} {ps : List MemPlace} (ht : Try.prog.underlying t = some (.array 4 e)) (he : Try.prog.underlying e = some (.int k)) (hc : Try.prog.cellsOf t = 4) (hc1 : Try.prog.cellsOf e = 1)
    (hval : Value.okWide Try.prog W .any b t v) (h : DataW.Trod enc Try.prog W 0 (fun _ => true) true t v dd ps) : ∃ x0 x1 x2 x3 : Int, v = .agg #[.int k x0, .int k x1, .int k x2, .int k x3] := by
  obtain ⟨cs, rfl, hsz, _⟩ : ∃ cs, v = .agg cs ∧ cs.size = Try.prog.cellsOf t ∧ Row.okWide Try.prog W .any b t cs := by
    have := hval
    simpa [Value.okWide, ht] using this
  rw [hc] at hsz
  obtain ⟨l⟩ := cs
  match l, hsz with
  | [c0, c1, c2, c3], _ =>
    obtain ⟨fuel, hf⟩ := h
    obtain ⟨xs, m, _, _, _, hl, hel⟩ := DataW.trod_array ht hf
    have h0 := hel 0 (by omega)
    have h1 := hel 1 (by omega)
    have h2 := hel 2 (by omega)
    have h3 := hel 3 (by omega)
    rw [List.getElem?_eq_getElem (by omega)] at h0 h1 h2 h3
    rw [hc1] at h0 h1 h2 h3
    obtain ⟨x0, e0, _, w0⟩ := DataW.trod_int he h0
    obtain ⟨x1, e1, _, w1⟩ := DataW.trod_int he h1
    obtain ⟨x2, e2, _, w2⟩ := DataW.trod_int he h2
    obtain ⟨x3, e3, _, w3⟩ := DataW.trod_int he h3
    simp [Value.cells] at e0 e1 e2 e3
    subst e0 e1 e2 e3
    exact ⟨x0, x1, x2, x3, rfl⟩
end Go.Proofs.Ytakobehkajphpaa.H
