/- Walks over the reference's tree: Deep, shapes, Right. -/
import Derived.Test.YtikmbkojnfmiaaaDoorRRRRWRefShape
import Derived.Test.YtikmbkojnfmiaaaDoorRRRRBY
import Derived.Test.YtikmbkojnfmiaaaDoorRRRRBG
set_option linter.unusedVariables false
set_option linter.unusedSimpArgs false
set_option maxRecDepth 100000
namespace Go.Proofs.YtikmbkojnfmiaaaDoorRRRR
open Go.RowKit Go.Sort

theorem depthL_max : ∀ (l : List Ex) (a : Int), 0 ≤ a → Ex.depthL l a = max a (Ex.depthL l 0)
  | [], a, h => by simp [Ex.depthL]; omega
  | x :: l, a, h => by
    have hx := Ex.depth_bd x
    rw [Ex.depthL, Ex.depthL, depthL_max l (max a x.depth) (by omega), depthL_max l (max 0 x.depth) (by omega)]
    omega
theorem depthL_nn : ∀ (l : List Ex), 0 ≤ Ex.depthL l 0 := fun l => by
  cases l with
  | nil => simp [Ex.depthL]
  | cons x l => have := (depthL_ge (x :: l) 0 x (by simp)).2; omega
/-- The reference's Deep. -/
def deepP (e : Ex) (most : Int) : Int := min (max 1 most) e.depth

theorem formedL_cons (x : Ex) (l : List Ex) : Ex.formedL (x :: l) = (x.formed && Ex.formedL l) := by rw [Ex.formedL]

end Go.Proofs.YtikmbkojnfmiaaaDoorRRRR
