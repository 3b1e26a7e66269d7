/- Walk over the reference's of (joined). -/
import Derived.Test.YtikmbkojnfmiaaaDoorRRRRRows
import Derived.Test.YtikmbkojnfmiaaaDoorRRRRBB
import Derived.Test.YtikmbkojnfmiaaaDoorRRRRBI
import Derived.Test.YtikmbkojnfmiaaaDoorRRRRWFind
import Derived.Test.YtikmbkojnfmiaaaDoorRRRRBD
import Derived.Test.YtikmbkojnfmiaaaDoorRRRRBE
import Derived.Test.YtikmbkojnfmiaaaDoorRRRRWRefTree
set_option linter.unusedVariables false
set_option linter.unusedSimpArgs false
set_option maxRecDepth 100000
namespace Go.Proofs.YtikmbkojnfmiaaaDoorRRRR
open Go.RowKit Go.Sort

theorem endR_both {a b : Int} (ha : a = 1 ∨ a = 2) : endR (bothK a b) = if a = b then (a, 0) else (0, 20) := by
  unfold bothK endR
  by_cases h : a = b
  · rw [if_pos h, if_pos ha, if_pos h]
  · rw [if_neg h, if_neg (by omega), if_neg h]
theorem endR_12 {a : Int} (ha : a = 1 ∨ a = 2) : endR a = (a, 0) := by unfold endR; rw [if_pos ha]
theorem formed_two {e : Ex} (h : e.formed = true) (hk : e.kind = 5) : 1 ≤ e.n ∧ e.n ≤ 16 := by
  rw [Ex.formed_eq, Bool.and_eq_true] at h
  have h1 := h.1
  rw [formedH, hk] at h1
  simp [formK] at h1
  omega

end Go.Proofs.YtikmbkojnfmiaaaDoorRRRR

/- Walk over the reference's Of. -/
namespace Go.Proofs.YtikmbkojnfmiaaaDoorRRRR
open Go.RowKit Go.Sort

theorem formed_right {e : Ex} (hr : e.right = 0) : e.formed = true := (Ex.right_zero.1 hr).2.2

end Go.Proofs.YtikmbkojnfmiaaaDoorRRRR
