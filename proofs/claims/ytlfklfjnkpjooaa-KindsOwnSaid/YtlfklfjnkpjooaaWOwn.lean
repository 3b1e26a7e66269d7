/- Walk over the law KindsOwn: it answers true. -/
import Derived.Laws.StructEq
import Derived.Test.YtlfklfjnkpjooaaPlain7
import Derived.Test.YtlfklfjnkpjooaaWLight
import Derived.Test.YtlfklfjnkpjooaaWKnown
import Derived.WalkKit
import Derived.WalkSpells
import Derived.WalkLawsBesides
import Derived.Deep.QuietTactic
import Derived.BigQuiet
import Derived.Deep.Draws
import Derived.Lib.Hide
import Derived.Deep.LoopGhost
import Derived.StillTailTactics
import Derived.Deep.RegionHeld3
import Derived.Deep.RegionWith
import Derived.Lib.QuietBelow
set_option linter.unusedVariables false
set_option linter.unusedSimpArgs false
namespace Go.Proofs.Ytlfklfjnkpjooaa
open Go.RowKit Go.Sort

theorem eqFault (a b c : Int) (w : World) : (Op.equalIn 10000 36 (.agg #[.int .i64 a, .int .i64 b, .int .i64 c]) (.agg #[.int .i64 0, .int .i64 0, .int .i64 0])).run Try.prog w = .ok (a == 0 && b == 0 && c == 0) w := by
  have hS : Try.prog.underlying 36 = some (.struct (Try.prog.fieldsOf 36)) := by kernel_rfl
  have hp : Try.prog.stoodInHeld 36 = false := by kernel_rfl
  rw [show (10000 : Nat) = 9999 + 1 from rfl, run_equalIn_agg w 9999 36 _ _ hS hp]
  simp only [Program.fieldsOf, Try.underlying36]
  go_simp
  by_cases h1 : a = 0 <;> by_cases h2 : b = 0 <;> by_cases h3 : c = 0 <;> simp [h1, h2, h3]

set_option maxHeartbeats 8000000 in
set_option maxRecDepth 100000 in
theorem own_fault (p : Pr) (a : PrA) (w : World) (hp : PrAt w p a) (hck : checkF p ≠ (0, 0, 0)) :
    Calls Try.prog 4 #[prV p a] w fun r w' => r = .returned (.bool true) ∧ Below w.heap.size w w' := by
  have hlight := fun W h => light_any p a W (hp.later h)
  have hcheck := fun W h => check_any p a W (hp.later h)
  have hne : ((checkF p).1 == 0 && (checkF p).2.1 == 0 && (checkF p).2.2 == 0) = false := by
    rw [Bool.eq_false_iff]
    intro h
    simp only [Bool.and_eq_true, beq_iff_eq] at h
    exact hck (Prod.ext h.1.1 (Prod.ext h.1.2 h.2))
  have hfq : ∀ w, (Op.equalIn 10000 36 (.agg #[.int .i64 (checkF p).1, .int .i64 (checkF p).2.1, .int .i64 (checkF p).2.2]) (.agg #[.int .i64 0, .int .i64 0, .int .i64 0])).run Try.prog w = .ok false w := fun w => by rw [eqFault, hne]
  have hgm : Try.prog.eqGuardType Try.prog.depth 36 = false := by kernel_rfl
  clear hck hne
  obtain ⟨A1, c1, A2, c2, A3, c3, A4, c4⟩ := a
  unfold prV fV at *
  dsimp only at *
  generalize (checkF p).1 = k1 at *
  generalize (checkF p).2.1 = k2 at *
  generalize (checkF p).2.2 = k3 at *
  clear hp
  go_enter Try.func4, Try.ntmps4
  go_wp2_with (first | (go_at_call 5; go_loud (refine (hlight _ (by repeat (first | exact Below.refl _ _ | (with_reducible assumption) | refine bel_trans ?_ (by with_reducible assumption) | refine bel_trans ?_ (below_regrown _ _ _) | refine bel_drew ?_ | refine bel_drewN ?_ _ | refine bel_alloc ?_ _ | refine bel_grow ?_ (by with_reducible assumption) (by omega)))).mono ?_; rintro r wl ⟨⟨bl, rfl, hlb⟩, hbl⟩; have hcl := bcell hbl; have hzl := hbl.size; (try simp at hzl); have hyl : w.heap.size < wl.heap.size := (by omega); cases bl)) | (go_at_call 10; go_loud (refine (hcheck _ (by repeat (first | exact Below.refl _ _ | (with_reducible assumption) | refine bel_trans ?_ (by with_reducible assumption) | refine bel_trans ?_ (below_regrown _ _ _) | refine bel_drew ?_ | refine bel_drewN ?_ _ | refine bel_alloc ?_ _ | refine bel_grow ?_ (by with_reducible assumption) (by omega))) (by have := hlb (by trivial); omega) (by have := hlb (by trivial); omega) (by have := hlb (by trivial); omega) (by have := hlb (by trivial); omega)).mono ?_; rintro r wk ⟨rfl, hbk⟩; have hck := bcell hbk; have hzk := hbk.size; have hyk : w.heap.size < wk.heap.size := (by omega))) | (go_at_call 8; refine (hvars _ (by repeat (first | exact Below.refl _ _ | (with_reducible assumption) | refine bel_trans ?_ (by with_reducible assumption) | refine bel_trans ?_ (below_regrown _ _ _) | refine bel_drew ?_ | refine bel_drewN ?_ _ | refine bel_alloc ?_ _ | refine bel_grow ?_ (by with_reducible assumption) (by omega))) (by have := hlb (by trivial); omega) (by have := hlb (by trivial); omega) (by have := hlb (by trivial); omega)).mono ?_; rintro r wv ⟨⟨A, cap, rfl, hown⟩, hbv⟩; have hcv := bcell hbv; have hzv := hbv.size; have hyv : w.heap.size < wv.heap.size := (by omega); have hva := VarsAt.of_own hown) | (go_at_call 6; refine (known_any _).mono ?_; rintro r wn ⟨rfl, hbn⟩; have hcn := bcell hbn; have hzn := hbn.size))
  all_goals
    go_ret
    exact ⟨rfl, (by repeat (first | exact Below.refl _ _ | (with_reducible assumption) | refine bel_trans ?_ (by with_reducible assumption) | refine bel_trans ?_ (below_regrown _ _ _) | refine bel_drew ?_ | refine bel_drewN ?_ _ | refine bel_alloc ?_ _ | refine bel_grow ?_ (by with_reducible assumption) (by omega)))⟩

end Go.Proofs.Ytlfklfjnkpjooaa
