/- Walks over the reference's tree: decl, decls, Literal. -/
import Derived.Test.YtikmbkojnfmiaaaDoorRRRRBC
import Derived.Test.YtikmbkojnfmiaaaDoorRRRRWRefTree
set_option linter.unusedVariables false
set_option linter.unusedSimpArgs false
set_option maxRecDepth 100000
namespace Go.Proofs.YtikmbkojnfmiaaaDoorRRRR
open Go.RowKit Go.Sort

theorem app_assoc (a b c : ByteArray) : a ++ b ++ c = a ++ (b ++ c) := by
  ext1; simp

theorem listGo_pre (a : ByteArray) : ∀ (l : List Va) (k : Nat) (s : ByteArray), listGo k (a ++ s) l = a ++ listGo k s l
  | [], _, _ => rfl
  | v :: l, k, s => by
    rw [listGo, listGo, ← listGo_pre a l]
    congr 1
    by_cases h : 0 < k
    · rw [if_pos h, if_pos h, app_assoc, app_assoc, app_assoc]
    · rw [if_neg h, if_neg h, app_assoc]
/-- The reference's decls. -/
def declsB (l : List Va) : ByteArray := listGo 0 ⟨#[]⟩ l
theorem listVB_decls (l : List Va) : listVB l = ⟨#[40]⟩ ++ declsB l ++ ⟨#[41]⟩ := by
  have h : (⟨#[40]⟩ : ByteArray) = ⟨#[40]⟩ ++ ⟨#[]⟩ := by ext1; simp
  unfold listVB declsB
  rw [← listGo_pre, ← h]

end Go.Proofs.YtikmbkojnfmiaaaDoorRRRR
