/- cmp.Compare at int. -/
import Derived.Test.YtakobehkajphpaaGreatTGRow
namespace Go.Proofs.YtakobehkajphpaaGreat.K
open Go Go.RowKit Go.Proofs.YtakobehkajphpaaGreatW.PrintWords Go.Proofs.YtakobehkajphpaaGreatW.PrintLast Go.Proofs.YtakobehkajphpaaGreatW.PrintMore Go.Proofs.YtakobehkajphpaaGreat.PAll
set_option linter.unusedVariables false
set_option linter.unusedSimpArgs false
def cmpI (x y : Int) : Int := if x < y then -1 else if y < x then 1 else 0
set_option maxHeartbeats 1000000 in
theorem CmpInt_calls (x y : Int) (w : World) : Calls Tryz.prog 107 #[.int .i64 x, .int .i64 y] w fun e w' => e = .returned (.int .i64 (cmpI x y)) ∧ w' = w := by
  have h1 : (x != x) = false := by simp
  have h2 : (y != y) = false := by simp
  by_cases hx : x < y
  · have e : cmpI x y = -1 := by unfold cmpI; rw [if_pos hx]
    have E := Aside0.mk e
    clear e
    go_enter Tryz.func107, Tryz.ntmps107
    go_wp2
    go_ret
    exact ⟨by rw [E.out]; rfl, rfl⟩
  · by_cases hy : y < x
    · have e : cmpI x y = 1 := by unfold cmpI; rw [if_neg hx, if_pos hy]
      have E := Aside0.mk e
      clear e
      go_enter Tryz.func107, Tryz.ntmps107
      go_wp2
      go_ret
      exact ⟨by rw [E.out]; rfl, rfl⟩
    · have e : cmpI x y = 0 := by unfold cmpI; rw [if_neg hx, if_neg hy]
      have E := Aside0.mk e
      clear e
      go_enter Tryz.func107, Tryz.ntmps107
      go_wp2
      go_ret
      exact ⟨by rw [E.out]; rfl, rfl⟩
end Go.Proofs.YtakobehkajphpaaGreat.K
