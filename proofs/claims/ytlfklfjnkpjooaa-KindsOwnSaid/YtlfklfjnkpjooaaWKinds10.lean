/- Walk over kinds.Check (joined). -/
import Derived.Test.YtlfklfjnkpjooaaWKinds9
import Derived.Test.YtlfklfjnkpjooaaWKinds7
import Derived.WalkKit
import Derived.WalkSpells
import Derived.WalkLawsBesides
import Derived.Deep.QuietTactic
import Derived.BigQuiet
import Derived.Deep.Draws
import Derived.Lib.Hide
import Derived.Deep.LoopGhost
import Derived.StillTailTactics
import Derived.Deep.RegionHeld3
import Derived.Deep.RegionWith
import Derived.Lib.QuietBelow
set_option linter.unusedVariables false
set_option linter.unusedSimpArgs false
namespace Go.Proofs.Ytlfklfjnkpjooaa
open Go.RowKit Go.Sort

theorem check_any (p : Pr) (a : PrA) (w : World) (hp : PrAt w p a) (n1 : p.ins.length ≤ 1000000) (n2 : p.outs.length ≤ 1000000) (n3 : p.locals.length ≤ 1000000) (n4 : p.eqs.length ≤ 1000000) :
    Calls Try.prog 10 #[prV p a] w fun r w' => r = .returned (fV (checkF p)) ∧ Below w.heap.size w w' := by
  by_cases he : printE p = 0
  · by_cases hb : 8 < p.ins.length ∨ 8 < p.outs.length ∨ 24 < (varsOf p).length
    · exact check_big p a w hp n1 n2 n3 n4 he hb
    · exact check_small p a w hp n1 n2 n3 n4 he (by omega) (by omega) (by omega)
  · exact check_form p a w hp n1 n2 n3 n4 he

end Go.Proofs.Ytlfklfjnkpjooaa
