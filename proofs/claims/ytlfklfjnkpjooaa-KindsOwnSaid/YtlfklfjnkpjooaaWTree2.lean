/- Walks over the package tree: depth, form, formed. -/
import Derived.Test.YtlfklfjnkpjooaaWTree1
import Derived.Test.YtlfklfjnkpjooaaPlain2
import Derived.WalkKit
import Derived.WalkSpells
import Derived.WalkLawsBesides
import Derived.Deep.QuietTactic
import Derived.BigQuiet
import Derived.Deep.Draws
import Derived.Lib.Hide
import Derived.Deep.LoopGhost
import Derived.StillTailTactics
import Derived.Deep.RegionHeld3
import Derived.Deep.RegionWith
import Derived.Lib.QuietBelow
set_option linter.unusedVariables false
set_option linter.unusedSimpArgs false
namespace Go.Proofs.Ytlfklfjnkpjooaa
open Go.RowKit

set_option maxHeartbeats 400000 in
theorem depth_any (e : Ex) : ∀ (A : Option Addr) (cap : Nat) (w : World), SubsAt w e A cap → e.size ≤ 1000000 →
    Calls Try.prog 36 #[exV e A cap] w fun r w' => r = .returned (.int .i64 e.depth) ∧ Below w.heap.size w w' := by
  induction e using Ex.ind with
  | h e ih =>
  intro A cap w he hz
  have hl := he.len
  unfold maxLen at hl
  obtain ⟨hl1, hl2⟩ := hl
  have hdb := Ex.depth_bd e
  unfold exV
  go_enter Try.func36, Try.ntmps36
  go_wp2_with fail
  go_loopw [3, 9] (fun m i wr => ∃ (k : Nat) (m' : Int), k ≤ e.sub.length ∧ i = .int .i64 k ∧ m = .int .i64 m' ∧ 0 ≤ m' ∧ m' ≤ 1000000 ∧ Ex.depthL (e.sub.drop k) m' + 1 = e.depth ∧ Below w.heap.size w wr) (fun _ i _ => e.sub.length - (intOf i).toNat)
  case atStart => exact ⟨0, 0, Nat.zero_le _, rfl, rfl, by omega, by omega, by simp [Ex.depth_eq], (by repeat (first | exact Below.refl _ _ | (with_reducible assumption) | refine bel_trans ?_ (by with_reducible assumption) | refine bel_trans ?_ (below_regrown _ _ _) | refine bel_drew ?_ | refine bel_drewN ?_ _ | refine bel_alloc ?_ _ | refine bel_grow ?_ (by with_reducible assumption) (by omega)))⟩
  case round =>
    obtain ⟨k, m', hk, rfl, rfl, h0, h1, hrem, hbel⟩ := hrel
    by_cases hlt : k < e.sub.length
    · have hx : e.sub[k]? = some e.sub[k] := List.getElem?_eq_getElem hlt
      have hmem : e.sub[k] ∈ e.sub := List.getElem_mem hlt
      have hd : e.sub.drop k = e.sub[k] :: e.sub.drop (k + 1) := List.drop_eq_getElem_cons hlt
      generalize e.sub[k] = x at hx hmem hd
      obtain ⟨b, off, A', cap', rfl, c0, c1, c2, c3, hs⟩ := (he.later hbel).get hx
      rw [hd, Ex.depthL] at hrem
      have hbd := Ex.depth_bd x
      have hsz := Ex.size_sub hx
      have ihx := ih x hmem
      have HR := Lib.hid hrem; clear hrem hd hx
      go_wp2_with (go_at_call 36; refine (ihx A' cap' _ (hs.later (by repeat (first | exact Below.refl _ _ | (with_reducible assumption) | refine bel_trans ?_ (by with_reducible assumption) | refine bel_trans ?_ (below_regrown _ _ _) | refine bel_drew ?_ | refine bel_drewN ?_ _ | refine bel_alloc ?_ _ | refine bel_grow ?_ (by with_reducible assumption) (by omega)))) (by omega)).mono ?_; rintro r w1 ⟨rfl, hb1⟩)
      go_roundw
      case rel => exact ⟨k + 1, max m' x.depth, by omega, by go_num, by first | rfl | go_num, by omega, by omega, HR.out, (by repeat (first | exact Below.refl _ _ | (with_reducible assumption) | refine bel_trans ?_ (by with_reducible assumption) | refine bel_trans ?_ (below_regrown _ _ _) | refine bel_drew ?_ | refine bel_drewN ?_ _ | refine bel_alloc ?_ _ | refine bel_grow ?_ (by with_reducible assumption) (by omega)))⟩
      case measure => simp [intOf]; omega
    · have hke : k = e.sub.length := by omega
      rw [hke, List.drop_length] at hrem
      rw [Ex.depthL] at hrem
      have HR := Lib.hid hrem; clear hrem hke
      go_wp2_with fail
      go_ret
      exact ⟨ret_int HR.out, (by repeat (first | exact Below.refl _ _ | (with_reducible assumption) | refine bel_trans ?_ (by with_reducible assumption) | refine bel_trans ?_ (below_regrown _ _ _) | refine bel_drew ?_ | refine bel_drewN ?_ _ | refine bel_alloc ?_ _ | refine bel_grow ?_ (by with_reducible assumption) (by omega)))⟩

set_option maxHeartbeats 1000000 in
theorem form_any (k : Int) (w : World) : Calls Try.prog 56 #[.int .i64 k] w fun r w' => r = .returned (.tuple #[.int .i64 (formK k).1, .int .i32 (formK k).2.1, .int .i32 (formK k).2.2.1, .bool (formK k).2.2.2.1, .bool (formK k).2.2.2.2]) ∧ w = w' := by
  go_enter Try.func56, Try.ntmps56
  go_wp2_with fail
  all_goals (refine bodyPost_ret (v := .tuple #[.int .i64 (formK k).1, .int .i32 (formK k).2.1, .int .i32 (formK k).2.2.1, .bool (formK k).2.2.2.1, .bool (formK k).2.2.2.2]) (by simp_all [results, Try.results56, go_sem, formK]) rfl ⟨rfl, rfl⟩)

end Go.Proofs.Ytlfklfjnkpjooaa
