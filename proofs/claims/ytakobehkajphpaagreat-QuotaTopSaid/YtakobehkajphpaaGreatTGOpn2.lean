/- Opening of arguments that are structs or arrays. -/
import Derived.Test.YtakobehkajphpaaGreatTHOpn
import Derived.OpenShut
namespace Go.Proofs.YtakobehkajphpaaGreat.H
set_option linter.unusedVariables false
open Go Go.RowKit Go.Proofs.YtakobehkajphpaaGreatW.PrintWords Go.WideShapes

set_option maxRecDepth 100000 in
theorem open_agg {α : Type} {t : TypeId} {fs : Array Field} {d : Kd α} {good : α → Prop} {H : Type} {enc : TypeId × Value → H} {W : World} {b : Nat} {v : Value} {dd : DataW H} {ps : List MemPlace} (ht : Tryz.prog.underlying t = some (.struct fs)) (ho : Opn t d good)
    (hval : Value.okWide Tryz.prog W .any b t v) (h : DataW.Trod enc Tryz.prog W 0 (fun _ => true) true t v dd ps) : ∃ (cs : List Value) (x : α), v = .agg cs.toArray ∧ d.K W x cs ∧ good x := by
  obtain ⟨cs, rfl, hsz⟩ := okWide_struct ht hval
  obtain ⟨fuel, hf⟩ := h
  obtain ⟨y, hK, hg⟩ := ho.2 H enc W fuel _ _ hf
  exact ⟨cs.toList, y, by simp, by simpa [Value.cells] using hK, hg⟩

end Go.Proofs.YtakobehkajphpaaGreat.H
