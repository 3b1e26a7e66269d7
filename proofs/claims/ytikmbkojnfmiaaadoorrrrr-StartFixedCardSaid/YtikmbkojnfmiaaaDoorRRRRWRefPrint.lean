/- Walk over the reference's Print: its error is that of tree.Print. -/
import Derived.Test.YtikmbkojnfmiaaaDoorRRRRWRefWhole
import Derived.Test.YtikmbkojnfmiaaaDoorRRRRWTree7
import Derived.Test.YtikmbkojnfmiaaaDoorRRRRBK
import Derived.Test.YtikmbkojnfmiaaaDoorRRRRBC
set_option linter.unusedVariables false
set_option linter.unusedSimpArgs false
set_option maxRecDepth 100000
namespace Go.Proofs.YtikmbkojnfmiaaaDoorRRRR
open Go.RowKit Go.Sort

/-- The head, as the reference writes it. -/
theorem headB_ref (p : Pr) : headB p = ⟨#[110, 111, 100, 101, 32]⟩ ++ p.name ++ ⟨#[32, 40]⟩ ++ declsB p.ins ++ ⟨#[41, 32, 114, 101, 116, 117, 114, 110, 115, 32, 40]⟩ ++ declsB p.outs ++ ⟨#[41, 59, 10]⟩ := by
  unfold headB
  rw [listVB_decls, listVB_decls]
  apply WideShapes.bytes_inj
  simp
theorem loc_ref (s d : ByteArray) : s ++ ⟨#[32, 32]⟩ ++ d ++ ⟨#[59, 10]⟩ = s ++ (⟨#[32, 32]⟩ ++ d ++ ⟨#[59, 10]⟩) := by
  ext1; simp
theorem eqText_ref (s : ByteArray) (q : Qe) : eqText s q =
    (if q.delay = 1 then s ++ ⟨#[32, 32]⟩ ++ q.name ++ ⟨#[32, 61, 32]⟩ ++ q.first.showB ++ ⟨#[32, 102, 98, 121, 32]⟩ else if q.delay = 2 then s ++ ⟨#[32, 32]⟩ ++ q.name ++ ⟨#[32, 61, 32]⟩ ++ ⟨#[112, 114, 101, 32]⟩ else s ++ ⟨#[32, 32]⟩ ++ q.name ++ ⟨#[32, 61, 32]⟩) ++ q.e.showB ++ ⟨#[59, 10]⟩ := by
  unfold eqText
  split
  · ext1; simp
  · split
    · ext1; simp
    · ext1; simp
theorem declsB_size {l : List Va} (h : ∀ v ∈ l, Short v) : (declsB l).size ≤ 62 * l.length := by
  have := listGo_size l h 0 ⟨#[]⟩
  unfold declsB
  simp only [size_lit, List.size_toArray, List.length_nil] at this
  omega

end Go.Proofs.YtikmbkojnfmiaaaDoorRRRR
