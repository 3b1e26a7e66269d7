/- Walks over the reference's tree: numbered, shape. -/
import Derived.Test.YtikmbkojnfmiaaaDoorRRRRWRefLex
import Derived.Test.YtikmbkojnfmiaaaDoorRRRRBG
set_option linter.unusedVariables false
set_option linter.unusedSimpArgs false
set_option maxRecDepth 100000
namespace Go.Proofs.YtikmbkojnfmiaaaDoorRRRR
open Go.RowKit Go.Sort

/-- numbered. -/
def numB (k : Int) : Bool := k == 1 || k == 2 || k == 4 || k == 5
theorem nameB_empty {s : ByteArray} (h : s.toList.isEmpty = true) : nameB s = false := by
  cases hn : nameB s with
  | false => rfl
  | true => rw [nameB_ne hn] at h; cases h

end Go.Proofs.YtikmbkojnfmiaaaDoorRRRR
