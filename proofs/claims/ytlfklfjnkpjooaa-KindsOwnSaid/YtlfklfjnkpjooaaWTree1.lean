/- Walks over the package tree: count, depth. -/
import Derived.Test.YtlfklfjnkpjooaaRows
import Derived.Test.YtlfklfjnkpjooaaRep
import Derived.WalkKit
import Derived.WalkSpells
import Derived.WalkLawsBesides
import Derived.Deep.QuietTactic
import Derived.BigQuiet
import Derived.Deep.Draws
import Derived.Lib.Hide
import Derived.Deep.LoopGhost
import Derived.StillTailTactics
import Derived.Deep.RegionHeld3
import Derived.Deep.RegionWith
import Derived.Lib.QuietBelow
set_option linter.unusedVariables false
set_option linter.unusedSimpArgs false
namespace Go.Proofs.Ytlfklfjnkpjooaa
open Go.RowKit

set_option maxHeartbeats 400000 in
theorem count_any (e : Ex) : ∀ (A : Option Addr) (cap : Nat) (most : Int) (w : World), SubsAt w e A cap → -1000000 ≤ most → most ≤ 1000000 →
    Calls Try.prog 35 #[exV e A cap, .int .i64 most] w fun r w' => r = .returned (.int .i64 (e.count most)) ∧ Below w.heap.size w w' := by
  induction e using Ex.ind with
  | h e ih =>
  intro A cap most w he hm hm2
  have hl := he.len
  unfold maxLen at hl
  obtain ⟨hl1, hl2⟩ := hl
  unfold exV
  go_enter Try.func35, Try.ntmps35
  go_wp2_with fail
  go_loopw [5, 11] (fun m i wr => ∃ (k : Nat) (m' : Int), k ≤ e.sub.length ∧ i = .int .i64 k ∧ m = .int .i64 m' ∧ 1 ≤ m' ∧ m' ≤ max 1 most ∧ Ex.countL (e.sub.drop k) m' most = e.count most ∧ Below w.heap.size w wr) (fun _ i _ => e.sub.length - (intOf i).toNat)
  case atStart => exact ⟨0, 1, Nat.zero_le _, rfl, rfl, by omega, by omega, by simp [Ex.count_eq], (by repeat (first | exact Below.refl _ _ | (with_reducible assumption) | refine bel_trans ?_ (by with_reducible assumption) | refine bel_trans ?_ (below_regrown _ _ _) | refine bel_drew ?_ | refine bel_drewN ?_ _ | refine bel_alloc ?_ _ | refine bel_grow ?_ (by with_reducible assumption) (by omega)))⟩
  case round =>
    obtain ⟨k, m', hk, rfl, rfl, h0, h1, hrem, hbel⟩ := hrel
    by_cases hlt : k < e.sub.length
    · have hx : e.sub[k]? = some e.sub[k] := List.getElem?_eq_getElem hlt
      have hmem : e.sub[k] ∈ e.sub := List.getElem_mem hlt
      have hd : e.sub.drop k = e.sub[k] :: e.sub.drop (k + 1) := List.drop_eq_getElem_cons hlt
      generalize e.sub[k] = x at hx hmem hd
      obtain ⟨b, off, A', cap', rfl, c0, c1, c2, c3, hs⟩ := (he.later hbel).get hx
      rw [hd, Ex.countL] at hrem
      have hbd := Ex.count_bd x (most - m')
      have ihx := ih x hmem
      by_cases hge : m' ≥ most
      · rw [if_pos hge] at hrem
        have HR := Lib.hid hrem; clear hrem hd hx
        go_wp2_with fail
        go_ret
        exact ⟨ret_int HR.out, (by repeat (first | exact Below.refl _ _ | (with_reducible assumption) | refine bel_trans ?_ (by with_reducible assumption) | refine bel_trans ?_ (below_regrown _ _ _) | refine bel_drew ?_ | refine bel_drewN ?_ _ | refine bel_alloc ?_ _ | refine bel_grow ?_ (by with_reducible assumption) (by omega)))⟩
      · rw [if_neg hge] at hrem
        have HR := Lib.hid hrem; clear hrem hd hx
        go_wp2_with (go_at_call 35; refine (ihx A' cap' (most - m') _ (hs.later (by repeat (first | exact Below.refl _ _ | (with_reducible assumption) | refine bel_trans ?_ (by with_reducible assumption) | refine bel_trans ?_ (below_regrown _ _ _) | refine bel_drew ?_ | refine bel_drewN ?_ _ | refine bel_alloc ?_ _ | refine bel_grow ?_ (by with_reducible assumption) (by omega)))) (by omega) (by omega)).mono ?_; rintro r w1 ⟨rfl, hb1⟩)
        go_roundw
        case rel => exact ⟨k + 1, m' + x.count (most - m'), by omega, by go_num, by go_num, by omega, by omega, HR.out, (by repeat (first | exact Below.refl _ _ | (with_reducible assumption) | refine bel_trans ?_ (by with_reducible assumption) | refine bel_trans ?_ (below_regrown _ _ _) | refine bel_drew ?_ | refine bel_drewN ?_ _ | refine bel_alloc ?_ _ | refine bel_grow ?_ (by with_reducible assumption) (by omega)))⟩
        case measure => simp [intOf]; omega
    · have hke : k = e.sub.length := by omega
      rw [hke, List.drop_length, Ex.countL] at hrem
      have HR := Lib.hid hrem; clear hrem hke
      go_wp2_with fail
      go_ret
      exact ⟨ret_int HR.out, (by repeat (first | exact Below.refl _ _ | (with_reducible assumption) | refine bel_trans ?_ (by with_reducible assumption) | refine bel_trans ?_ (below_regrown _ _ _) | refine bel_drew ?_ | refine bel_drewN ?_ _ | refine bel_alloc ?_ _ | refine bel_grow ?_ (by with_reducible assumption) (by omega)))⟩

end Go.Proofs.Ytlfklfjnkpjooaa
