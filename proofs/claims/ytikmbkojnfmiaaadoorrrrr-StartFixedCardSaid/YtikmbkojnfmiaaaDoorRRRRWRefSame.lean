/- Walks over the reference's tree: SameExpr, sameVars, Same (of what is alike). -/
import Derived.Laws.StructEq
import Derived.Test.YtikmbkojnfmiaaaDoorRRRRBA
import Derived.Test.YtikmbkojnfmiaaaDoorRRRRBB
set_option linter.unusedVariables false
set_option linter.unusedSimpArgs false
set_option maxRecDepth 100000
namespace Go.Proofs.YtikmbkojnfmiaaaDoorRRRR
open Go.RowKit Go.Sort

mutual
theorem Ex.same_refl : ∀ e : Ex, e.same e = true
  | .mk k n s l => by
    have h := Ex.sameL_refl l
    simp [Ex.same, Ex.kind, Ex.n, Ex.name, Ex.sub, h]
theorem Ex.sameL_refl : ∀ l : List Ex, Ex.sameL l l = true
  | [] => by simp [Ex.sameL]
  | x :: l => by
    have h1 := Ex.same_refl x
    have h2 := Ex.sameL_refl l
    simp [Ex.sameL, h1, h2]
end

theorem eqVarSelf (v : Va) (w : World) : (Op.equalIn 10000 39 (.agg #[.string v.name, .int .i64 v.type, .int .i64 v.ck, .string v.cn]) (.agg #[.string v.name, .int .i64 v.type, .int .i64 v.ck, .string v.cn])).run Tryd.prog w = .ok true w := by
  have hS : Tryd.prog.underlying 39 = some (.struct (Tryd.prog.fieldsOf 39)) := by kernel_rfl
  have hp : Tryd.prog.stoodInHeld 39 = false := by kernel_rfl
  have hS2 : Tryd.prog.underlying 37 = some (.struct (Tryd.prog.fieldsOf 37)) := by kernel_rfl
  have hp2 : Tryd.prog.stoodInHeld 37 = false := by kernel_rfl
  have h2 : ∀ w, (Op.equalIn 9999 37 (.agg #[.int .i64 v.ck, .string v.cn]) (.agg #[.int .i64 v.ck, .string v.cn])).run Tryd.prog w = .ok true w := by
    intro w
    rw [show (9999 : Nat) = 9998 + 1 from rfl, run_equalIn_agg w 9998 37 _ _ hS2 hp2]
    simp only [Program.fieldsOf, Tryd.underlying37]
    go_simp
  rw [show (10000 : Nat) = 9999 + 1 from rfl, run_equalIn_agg w 9999 39 _ _ hS hp]
  simp only [Program.fieldsOf, Tryd.underlying39]
  go_simp
theorem gmVar : Tryd.prog.eqGuardType Tryd.prog.depth 39 = false := by kernel_rfl

end Go.Proofs.YtikmbkojnfmiaaaDoorRRRR
