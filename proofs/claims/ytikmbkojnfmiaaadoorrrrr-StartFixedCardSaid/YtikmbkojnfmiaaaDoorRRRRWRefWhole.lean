/- Walks over the reference's tree: vars, Whole. -/
import Derived.Test.YtikmbkojnfmiaaaDoorRRRROpen
import Derived.Test.YtikmbkojnfmiaaaDoorRRRRWRefDecl
import Derived.Test.YtikmbkojnfmiaaaDoorRRRRWRefSame
import Derived.Test.YtikmbkojnfmiaaaDoorRRRRBB
set_option linter.unusedVariables false
set_option linter.unusedSimpArgs false
set_option maxRecDepth 100000
namespace Go.Proofs.YtikmbkojnfmiaaaDoorRRRR
open Go.RowKit Go.Sort

theorem subs_zero (W : World) : SubsAt W Ex.zero none 0 := by
  unfold Ex.zero
  rw [SubsAt_iff]; exact ⟨Nat.le_refl _, by unfold maxLen; omega, fun h => absurd h (by simp [Ex.sub])⟩

end Go.Proofs.YtikmbkojnfmiaaaDoorRRRR
