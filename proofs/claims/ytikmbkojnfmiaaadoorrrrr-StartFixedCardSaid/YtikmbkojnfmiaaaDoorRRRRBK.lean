/- Walks over the reference's tree: Ops, part, text: they write what tree.show writes. -/
import Derived.Test.YtikmbkojnfmiaaaDoorRRRRWRefDigits
import Derived.Test.YtikmbkojnfmiaaaDoorRRRRWShow2
set_option linter.unusedVariables false
set_option linter.unusedSimpArgs false
set_option maxRecDepth 100000
namespace Go.Proofs.YtikmbkojnfmiaaaDoorRRRR
open Go.RowKit Go.Sort

theorem rt_size {e x : Ex} (hf : e.formed = true) (hz : e.size ≤ 100000) (hx : x ∈ e.sub) : x.showB.size ≤ 4000000 ∧ x.partB.size ≤ 4000000 := by
  have h1 := Ex.showB_size x (Ex.formed_sub hf hx)
  obtain ⟨k, hk⟩ := List.mem_iff_getElem?.1 hx
  have h2 := Ex.size_sub hk
  have h3 := brk_size x.kind x.showB
  unfold Ex.partB
  omega

end Go.Proofs.YtikmbkojnfmiaaaDoorRRRR
