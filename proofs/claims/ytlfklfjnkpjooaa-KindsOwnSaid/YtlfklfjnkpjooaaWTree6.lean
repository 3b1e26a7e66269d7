/- Walks over the package tree: literal, variable. -/
import Derived.Test.YtlfklfjnkpjooaaWTree5
import Derived.WalkKit
import Derived.WalkSpells
import Derived.WalkLawsBesides
import Derived.Deep.QuietTactic
import Derived.BigQuiet
import Derived.Deep.Draws
import Derived.Lib.Hide
import Derived.Deep.LoopGhost
import Derived.StillTailTactics
import Derived.Deep.RegionHeld3
import Derived.Deep.RegionWith
import Derived.Lib.QuietBelow
set_option linter.unusedVariables false
set_option linter.unusedSimpArgs false
namespace Go.Proofs.Ytlfklfjnkpjooaa
open Go.RowKit Go.Sort

theorem ret_eq {a b : Bool} (h : a = b) : Ending.returned (.bool a) = .returned (.bool b) := by rw [h]

set_option maxHeartbeats 400000 in
theorem literal_any (e : Ex) (A : Option Addr) (cap : Nat) (w : World) (he : SubsAt w e A cap) :
    Calls Try.prog 43 #[exV e A cap] w fun r w' => r = .returned (.bool e.literal) ∧ Below w.heap.size w w' := by
  have hl := he.len
  unfold maxLen at hl
  obtain ⟨hl1, hl2⟩ := hl
  have hv : e.literal = if e.right = 0 then (if e.kind = 4 ∧ e.n = 1 then (match e.sub with | x :: _ => x.kind == 1 | [] => false) else (e.kind == 1 || e.kind == 2)) else false := rfl
  have hright := fun W h => right_any e A cap W (he.later h)
  unfold exV at hright ⊢
  cases h1 : (e.right != 0)
  case true =>
    rw [if_neg (by intro h; rw [h] at h1; simp at h1)] at hv
    have HV := Lib.hid hv; clear hv
    go_enter Try.func43, Try.ntmps43
    go_wp2_with (first | (go_at_call 24; refine (hright _ (by repeat (first | exact Below.refl _ _ | (with_reducible assumption) | refine bel_trans ?_ (by with_reducible assumption) | refine bel_trans ?_ (below_regrown _ _ _) | refine bel_drew ?_ | refine bel_drewN ?_ _ | refine bel_alloc ?_ _ | refine bel_grow ?_ (by with_reducible assumption) (by omega)))).mono ?_; rintro r w1 ⟨rfl, hb1⟩; have hc1 := bcell hb1; have hz1 := hb1.size; (try simp at hz1); (try have hy1 : w.heap.size < w1.heap.size := by omega); (try have hy2 : w.heap.size + 1 < w1.heap.size := by omega); (try have hy3 : w.heap.size + 2 < w1.heap.size := by omega); (try have hy4 : wr.heap.size < w1.heap.size := by omega); (try have hy5 : wr.heap.size + 1 < w1.heap.size := by omega)))
    go_ret
    exact ⟨ret_bool HV.out.symm, (by repeat (first | exact Below.refl _ _ | (with_reducible assumption) | refine bel_trans ?_ (by with_reducible assumption) | refine bel_trans ?_ (below_regrown _ _ _) | refine bel_drew ?_ | refine bel_drewN ?_ _ | refine bel_alloc ?_ _ | refine bel_grow ?_ (by with_reducible assumption) (by omega)))⟩
  have hr0 := bneI_false h1
  rw [if_pos hr0] at hv
  cases h2 : (e.kind == 4)
  case false =>
    rw [if_neg (by rintro ⟨h, _⟩; rw [h] at h2; simp at h2)] at hv
    cases h3 : (e.kind == 1)
    case true =>
      rw [h3, Bool.true_or] at hv
      clear hr0
      have HV := Lib.hid hv; clear hv
      go_enter Try.func43, Try.ntmps43
      go_wp2_with (first | (go_at_call 24; refine (hright _ (by repeat (first | exact Below.refl _ _ | (with_reducible assumption) | refine bel_trans ?_ (by with_reducible assumption) | refine bel_trans ?_ (below_regrown _ _ _) | refine bel_drew ?_ | refine bel_drewN ?_ _ | refine bel_alloc ?_ _ | refine bel_grow ?_ (by with_reducible assumption) (by omega)))).mono ?_; rintro r w1 ⟨rfl, hb1⟩; have hc1 := bcell hb1; have hz1 := hb1.size; (try simp at hz1); (try have hy1 : w.heap.size < w1.heap.size := by omega); (try have hy2 : w.heap.size + 1 < w1.heap.size := by omega); (try have hy3 : w.heap.size + 2 < w1.heap.size := by omega); (try have hy4 : wr.heap.size < w1.heap.size := by omega); (try have hy5 : wr.heap.size + 1 < w1.heap.size := by omega)))
      go_ret
      exact ⟨ret_bool HV.out.symm, (by repeat (first | exact Below.refl _ _ | (with_reducible assumption) | refine bel_trans ?_ (by with_reducible assumption) | refine bel_trans ?_ (below_regrown _ _ _) | refine bel_drew ?_ | refine bel_drewN ?_ _ | refine bel_alloc ?_ _ | refine bel_grow ?_ (by with_reducible assumption) (by omega)))⟩
    rw [h3, Bool.false_or] at hv
    clear hr0
    have HV := Lib.hid hv; clear hv
    go_enter Try.func43, Try.ntmps43
    go_wp2_with (first | (go_at_call 24; refine (hright _ (by repeat (first | exact Below.refl _ _ | (with_reducible assumption) | refine bel_trans ?_ (by with_reducible assumption) | refine bel_trans ?_ (below_regrown _ _ _) | refine bel_drew ?_ | refine bel_drewN ?_ _ | refine bel_alloc ?_ _ | refine bel_grow ?_ (by with_reducible assumption) (by omega)))).mono ?_; rintro r w1 ⟨rfl, hb1⟩; have hc1 := bcell hb1; have hz1 := hb1.size; (try simp at hz1); (try have hy1 : w.heap.size < w1.heap.size := by omega); (try have hy2 : w.heap.size + 1 < w1.heap.size := by omega); (try have hy3 : w.heap.size + 2 < w1.heap.size := by omega); (try have hy4 : wr.heap.size < w1.heap.size := by omega); (try have hy5 : wr.heap.size + 1 < w1.heap.size := by omega)))
    go_ret
    exact ⟨ret_bool HV.out.symm, (by repeat (first | exact Below.refl _ _ | (with_reducible assumption) | refine bel_trans ?_ (by with_reducible assumption) | refine bel_trans ?_ (below_regrown _ _ _) | refine bel_drew ?_ | refine bel_drewN ?_ _ | refine bel_alloc ?_ _ | refine bel_grow ?_ (by with_reducible assumption) (by omega)))⟩
  have hk4 := beqI_true h2
  cases h4 : (e.n == 1)
  case false =>
    rw [if_neg (by rintro ⟨_, h⟩; rw [h] at h4; simp at h4), hk4] at hv
    clear hr0 hk4
    have h5 : (e.kind == 1) = false := by rw [beqI_true h2]; rfl
    replace hv : e.literal = false := by rw [hv]; rfl
    have HV := Lib.hid hv; clear hv
    go_enter Try.func43, Try.ntmps43
    go_wp2_with (first | (go_at_call 24; refine (hright _ (by repeat (first | exact Below.refl _ _ | (with_reducible assumption) | refine bel_trans ?_ (by with_reducible assumption) | refine bel_trans ?_ (below_regrown _ _ _) | refine bel_drew ?_ | refine bel_drewN ?_ _ | refine bel_alloc ?_ _ | refine bel_grow ?_ (by with_reducible assumption) (by omega)))).mono ?_; rintro r w1 ⟨rfl, hb1⟩; have hc1 := bcell hb1; have hz1 := hb1.size; (try simp at hz1); (try have hy1 : w.heap.size < w1.heap.size := by omega); (try have hy2 : w.heap.size + 1 < w1.heap.size := by omega); (try have hy3 : w.heap.size + 2 < w1.heap.size := by omega); (try have hy4 : wr.heap.size < w1.heap.size := by omega); (try have hy5 : wr.heap.size + 1 < w1.heap.size := by omega)))
    go_ret
    exact ⟨ret_bool (by rw [HV.out, beqI_true h2]; rfl), (by repeat (first | exact Below.refl _ _ | (with_reducible assumption) | refine bel_trans ?_ (by with_reducible assumption) | refine bel_trans ?_ (below_regrown _ _ _) | refine bel_drew ?_ | refine bel_drewN ?_ _ | refine bel_alloc ?_ _ | refine bel_grow ?_ (by with_reducible assumption) (by omega)))⟩
  rw [if_pos ⟨hk4, beqI_true h4⟩] at hv
  have hf := (Ex.right_zero.1 hr0).2.2
  rw [Ex.formed_eq, formedH, hk4] at hf
  have hlen : e.sub.length = 1 := by
    simp only [formK, Bool.and_eq_true] at hf
    have := beqI_true hf.1.1.1.1.1.2
    simp at this
    omega
  clear hf
  have hx : e.sub[0]? = some e.sub[0] := List.getElem?_eq_getElem (by omega)
  generalize e.sub[0] = x at hx
  have hsub : e.sub = [x] := by
    generalize e.sub = l at hlen hx
    match l, hlen, hx with
    | [y], _, h => simp at h; rw [h]
  rw [hsub] at hv
  obtain ⟨b, off, A', cap', rfl, c0, c1, c2, c3, hs⟩ := he.get hx
  have hb0 := block_lt_of_cell c0
  dsimp only at hb0
  have hb0' : b < w.heap.size + 1 := by omega
  have hlen' : 0 < e.sub.length := by omega
  simp only [Nat.zero_mul, Nat.add_zero] at c0
  clear hr0 hk4 hx hlen c1 c2 c3
  have HS := Lib.hid hsub; clear hsub
  have HV := Lib.hid hv; clear hv
  go_enter Try.func43, Try.ntmps43
  go_wp2_with (first | (go_at_call 24; refine (hright _ (by repeat (first | exact Below.refl _ _ | (with_reducible assumption) | refine bel_trans ?_ (by with_reducible assumption) | refine bel_trans ?_ (below_regrown _ _ _) | refine bel_drew ?_ | refine bel_drewN ?_ _ | refine bel_alloc ?_ _ | refine bel_grow ?_ (by with_reducible assumption) (by omega)))).mono ?_; rintro r w1 ⟨rfl, hb1⟩; have hc1 := bcell hb1; have hz1 := hb1.size; (try simp at hz1); (try have hy1 : w.heap.size < w1.heap.size := by omega); (try have hy2 : w.heap.size + 1 < w1.heap.size := by omega); (try have hy3 : w.heap.size + 2 < w1.heap.size := by omega); (try have hy4 : wr.heap.size < w1.heap.size := by omega); (try have hy5 : wr.heap.size + 1 < w1.heap.size := by omega)))
  go_ret
  exact ⟨ret_bool HV.out.symm, (by repeat (first | exact Below.refl _ _ | (with_reducible assumption) | refine bel_trans ?_ (by with_reducible assumption) | refine bel_trans ?_ (below_regrown _ _ _) | refine bel_drew ?_ | refine bel_drewN ?_ _ | refine bel_alloc ?_ _ | refine bel_grow ?_ (by with_reducible assumption) (by omega)))⟩

set_option maxHeartbeats 400000 in
theorem variable_any (v : Va) (own : Bool) (w : World) :
    Calls Try.prog 42 #[vaV v, .bool own] w fun r w' => r = .returned (.bool (variableB v own)) ∧ Below w.heap.size w w' := by
  unfold variableB vaV
  cases h1 : nameB v.name
  · go_enter Try.func42, Try.ntmps42
    go_wp2_with (first | (go_at_call 41; refine (name_any _ _).mono ?_; rintro r w1 ⟨rfl, hb1⟩; have hc1 := bcell hb1; have hz1 := hb1.size; (try simp at hz1); (try have hy1 : w.heap.size < w1.heap.size := by omega); (try have hy2 : w.heap.size + 1 < w1.heap.size := by omega); (try have hy3 : w.heap.size + 2 < w1.heap.size := by omega); (try have hy4 : wr.heap.size < w1.heap.size := by omega); (try have hy5 : wr.heap.size + 1 < w1.heap.size := by omega)))
    all_goals (go_ret; exact ⟨ret_bool rfl, (by repeat (first | exact Below.refl _ _ | (with_reducible assumption) | refine bel_trans ?_ (by with_reducible assumption) | refine bel_trans ?_ (below_regrown _ _ _) | refine bel_drew ?_ | refine bel_drewN ?_ _ | refine bel_alloc ?_ _ | refine bel_grow ?_ (by with_reducible assumption) (by omega)))⟩)
  cases h2 : nameB v.cn <;> cases own <;>
  · go_enter Try.func42, Try.ntmps42
    go_wp2_with (first | (go_at_call 41; refine (name_any _ _).mono ?_; rintro r w1 ⟨rfl, hb1⟩; have hc1 := bcell hb1; have hz1 := hb1.size; (try simp at hz1); (try have hy1 : w.heap.size < w1.heap.size := by omega); (try have hy2 : w.heap.size + 1 < w1.heap.size := by omega); (try have hy3 : w.heap.size + 2 < w1.heap.size := by omega); (try have hy4 : wr.heap.size < w1.heap.size := by omega); (try have hy5 : wr.heap.size + 1 < w1.heap.size := by omega)))
    all_goals (first | (exfalso; simp_all; done) | (go_ret; exact ⟨ret_bool (by simp_all), (by repeat (first | exact Below.refl _ _ | (with_reducible assumption) | refine bel_trans ?_ (by with_reducible assumption) | refine bel_trans ?_ (below_regrown _ _ _) | refine bel_drew ?_ | refine bel_drewN ?_ _ | refine bel_alloc ?_ _ | refine bel_grow ?_ (by with_reducible assumption) (by omega)))⟩) | go_ways)

end Go.Proofs.Ytlfklfjnkpjooaa
