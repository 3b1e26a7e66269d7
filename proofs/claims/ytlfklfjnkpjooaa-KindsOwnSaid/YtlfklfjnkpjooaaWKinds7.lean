/- Walk over kinds.Check. -/
import Derived.Test.YtlfklfjnkpjooaaWKinds6
import Derived.Test.YtlfklfjnkpjooaaWVars
import Derived.Test.YtlfklfjnkpjooaaWPrint2
import Derived.WalkKit
import Derived.WalkSpells
import Derived.WalkLawsBesides
import Derived.Deep.QuietTactic
import Derived.BigQuiet
import Derived.Deep.Draws
import Derived.Lib.Hide
import Derived.Deep.LoopGhost
import Derived.StillTailTactics
import Derived.Deep.RegionHeld3
import Derived.Deep.RegionWith
import Derived.Lib.QuietBelow
set_option linter.unusedVariables false
set_option linter.unusedSimpArgs false
namespace Go.Proofs.Ytlfklfjnkpjooaa
open Go.RowKit Go.Sort

/-- A Fault as a value. -/
def fV (f : Int × Int × Int) : Value := .agg #[.int .i64 f.1, .int .i64 f.2.1, .int .i64 f.2.2]

set_option maxHeartbeats 4000000 in
set_option maxRecDepth 100000 in
theorem check_form (p : Pr) (a : PrA) (w : World) (hp : PrAt w p a) (n1 : p.ins.length ≤ 1000000) (n2 : p.outs.length ≤ 1000000) (n3 : p.locals.length ≤ 1000000) (n4 : p.eqs.length ≤ 1000000) (he : printE p ≠ 0) :
    Calls Try.prog 10 #[prV p a] w fun r w' => r = .returned (fV (checkF p)) ∧ Below w.heap.size w w' := by
  have hv : checkF p = (4, 0, printE p) := by unfold checkF; rw [if_pos he]
  have hprint := fun W h => print_any p a W (hp.later h) n1 n2 n3 n4
  have he' : (printE p != 0) = true := by simpa using he
  clear he
  obtain ⟨A1, c1, A2, c2, A3, c3, A4, c4⟩ := a
  unfold prV at *
  unfold fV
  dsimp only at *
  have HV := Lib.hid hv; clear hv
  go_enter Try.func10, Try.ntmps10
  go_wp2_with (go_at_call 16; refine (hprint _ (by repeat (first | exact Below.refl _ _ | (with_reducible assumption) | refine bel_trans ?_ (by with_reducible assumption) | refine bel_trans ?_ (below_regrown _ _ _) | refine bel_drew ?_ | refine bel_drewN ?_ _ | refine bel_alloc ?_ _ | refine bel_grow ?_ (by with_reducible assumption) (by omega)))).mono ?_; rintro r w1 ⟨rfl, hb1⟩; have hc1 := bcell hb1; have hfz1 := bfrozen hb1; have hz1 := hb1.size; (try simp at hz1); (try have hy1 : w.heap.size < w1.heap.size := by omega); (try have hy2 : w.heap.size + 1 < w1.heap.size := by omega); (try have hy3 : w.heap.size + 2 < w1.heap.size := by omega); (try have hy4 : wr.heap.size < w1.heap.size := by omega); (try have hy5 : wr.heap.size + 1 < w1.heap.size := by omega))
  go_ways
  refine bodyPost_ret (v := .agg #[.int .i64 (4), .int .i64 (0), .int .i64 (printE p)]) (by simp [results, Try.results10, go_sem, *]) rfl ⟨by rw [HV.out], ?_⟩
  repeat (first | exact Below.refl _ _ | (with_reducible assumption) | refine bel_trans ?_ (by with_reducible assumption) | refine Below.setCell ?_ (by simp) _ | refine bel_alloc ?_ _ | refine bel_grow ?_ (by with_reducible assumption) (by omega))

end Go.Proofs.Ytlfklfjnkpjooaa
