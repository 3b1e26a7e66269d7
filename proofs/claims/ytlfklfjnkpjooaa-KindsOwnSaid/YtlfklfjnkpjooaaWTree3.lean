/- Walks over the package tree: SameExpr, formed. -/
import Derived.Test.YtlfklfjnkpjooaaWTree2
import Derived.WalkKit
import Derived.WalkSpells
import Derived.WalkLawsBesides
import Derived.Deep.QuietTactic
import Derived.BigQuiet
import Derived.Deep.Draws
import Derived.Lib.Hide
import Derived.Deep.LoopGhost
import Derived.StillTailTactics
import Derived.Deep.RegionHeld3
import Derived.Deep.RegionWith
import Derived.Lib.QuietBelow
set_option linter.unusedVariables false
set_option linter.unusedSimpArgs false
namespace Go.Proofs.Ytlfklfjnkpjooaa
open Go.RowKit Go.Sort

theorem beqI_true {a b : Int} (h : (a == b) = true) : a = b := by simpa using h
theorem bneI_false {a b : Int} (h : (a != b) = false) : a = b := by simpa using h
theorem bneI_eq {a b : Int} (h : (a != b) = false) : (a == b) = true := by simpa using h
theorem bneI_ne {a b : Int} (h : (a != b) = true) : (a == b) = false := by simpa using h

set_option maxHeartbeats 800000 in
theorem same_any (e : Ex) : ∀ (y : Ex) (A : Option Addr) (cap : Nat) (A2 : Option Addr) (cap2 : Nat) (w : World), SubsAt w e A cap → SubsAt w y A2 cap2 →
    Calls Try.prog 44 #[exV e A cap, exV y A2 cap2] w fun r w' => r = .returned (.bool (e.same y)) ∧ Below w.heap.size w w' := by
  induction e using Ex.ind with
  | h e ih =>
  intro y A cap A2 cap2 w he hy
  have hl := he.len
  have hl' := hy.len
  unfold maxLen at hl hl'
  obtain ⟨hl1, hl2⟩ := hl
  obtain ⟨hl3, hl4⟩ := hl'
  have hv := Ex.same_eq e y
  unfold exV
  cases h1 : (e.kind != y.kind)
  case true => rw [bneI_ne h1, Bool.false_and, Bool.false_and, Bool.false_and, Bool.false_and] at hv
               have HV := Lib.hid hv; clear hv
               go_enter Try.func44, Try.ntmps44
               go_wp2_with fail
               go_ret
               exact ⟨ret_bool HV.out.symm, (by repeat (first | exact Below.refl _ _ | (with_reducible assumption) | refine bel_trans ?_ (by with_reducible assumption) | refine bel_trans ?_ (below_regrown _ _ _) | refine bel_drew ?_ | refine bel_drewN ?_ _ | refine bel_alloc ?_ _ | refine bel_grow ?_ (by with_reducible assumption) (by omega)))⟩
  rw [bneI_eq h1, Bool.true_and] at hv
  cases h2 : (e.n != y.n)
  case true => rw [bneI_ne h2, Bool.false_and, Bool.false_and, Bool.false_and] at hv
               have HV := Lib.hid hv; clear hv
               go_enter Try.func44, Try.ntmps44
               go_wp2_with fail
               go_ret
               exact ⟨ret_bool HV.out.symm, (by repeat (first | exact Below.refl _ _ | (with_reducible assumption) | refine bel_trans ?_ (by with_reducible assumption) | refine bel_trans ?_ (below_regrown _ _ _) | refine bel_drew ?_ | refine bel_drewN ?_ _ | refine bel_alloc ?_ _ | refine bel_grow ?_ (by with_reducible assumption) (by omega)))⟩
  rw [bneI_eq h2, Bool.true_and] at hv
  cases h3 : (e.name.toList == y.name.toList)
  case false => rw [h3, Bool.false_and, Bool.false_and] at hv
                have HV := Lib.hid hv; clear hv
                go_enter Try.func44, Try.ntmps44
                go_wp2_with fail
                go_ret
                exact ⟨ret_bool HV.out.symm, (by repeat (first | exact Below.refl _ _ | (with_reducible assumption) | refine bel_trans ?_ (by with_reducible assumption) | refine bel_trans ?_ (below_regrown _ _ _) | refine bel_drew ?_ | refine bel_drewN ?_ _ | refine bel_alloc ?_ _ | refine bel_grow ?_ (by with_reducible assumption) (by omega)))⟩
  rw [h3, Bool.true_and] at hv
  cases h4 : ((e.sub.length : Int) != y.sub.length)
  case true => have h4n : (e.sub.length == y.sub.length) = false := by { simp at h4; simp; omega }; rw [h4n, Bool.false_and] at hv; clear h4n
               have HV := Lib.hid hv; clear hv
               go_enter Try.func44, Try.ntmps44
               go_wp2_with fail
               go_ret
               exact ⟨ret_bool HV.out.symm, (by repeat (first | exact Below.refl _ _ | (with_reducible assumption) | refine bel_trans ?_ (by with_reducible assumption) | refine bel_trans ?_ (below_regrown _ _ _) | refine bel_drew ?_ | refine bel_drewN ?_ _ | refine bel_alloc ?_ _ | refine bel_grow ?_ (by with_reducible assumption) (by omega)))⟩
  have h4n : e.sub.length = y.sub.length := by have := bneI_false h4; omega
  rw [h4n, beq_self_eq_true, Bool.true_and] at hv
  have HV := Lib.hid hv; clear hv
  have H4 := Lib.hid h4n; clear h4n
  go_enter Try.func44, Try.ntmps44
  go_wp2_with fail
  go_loopw [38] (fun i wr => ∃ (k : Nat), k ≤ e.sub.length ∧ i = .int .i64 k ∧ Ex.sameL (e.sub.drop k) (y.sub.drop k) = e.same y ∧ wr.cell? ⟨w.heap.size + 1, 3, none⟩ = some (.slice A2 y.sub.length cap2) ∧ Below w.heap.size w wr) (fun i _ => e.sub.length - (intOf i).toNat)
  case atStart => exact ⟨0, Nat.zero_le _, rfl, by rw [HV.out]; simp, by go_simp, (by repeat (first | exact Below.refl _ _ | (with_reducible assumption) | refine bel_trans ?_ (by with_reducible assumption) | refine bel_trans ?_ (below_regrown _ _ _) | refine bel_drew ?_ | refine bel_drewN ?_ _ | refine bel_alloc ?_ _ | refine bel_grow ?_ (by with_reducible assumption) (by omega)))⟩
  case round =>
    obtain ⟨k, hk, rfl, hrem, hbox, hbel⟩ := hrel
    have hbz := block_lt_of_cell hbox
    dsimp only at hbz
    have hbz' : w.heap.size < wr.heap.size := by omega
    by_cases hlt : k < e.sub.length
    · have hlt2 : k < y.sub.length := by have := H4.out; omega
      have hx : e.sub[k]? = some e.sub[k] := List.getElem?_eq_getElem hlt
      have hmem : e.sub[k] ∈ e.sub := List.getElem_mem hlt
      have hd : e.sub.drop k = e.sub[k] :: e.sub.drop (k + 1) := List.drop_eq_getElem_cons hlt
      generalize e.sub[k] = x at hx hmem hd
      obtain ⟨b, off, A', cap', rfl, c0, c1, c2, c3, hs⟩ := (he.later hbel).get hx
      have hx2 : y.sub[k]? = some y.sub[k] := List.getElem?_eq_getElem hlt2
      have hd2 : y.sub.drop k = y.sub[k] :: y.sub.drop (k + 1) := List.drop_eq_getElem_cons hlt2
      generalize y.sub[k] = x2 at hx2 hd2
      obtain ⟨b2, off2, A2', cap2', rfl, g0, g1, g2, g3, hy2⟩ := (hy.later hbel).get hx2
      rw [hd, hd2, Ex.sameL] at hrem
      have ihx := ih x hmem
      have hb2 := block_lt_of_cell g0
      dsimp only at hb2
      have hb2' : b2 < wr.heap.size + 1 := by omega
      cases hsm : x.same x2
      · rw [hsm] at hrem
        have HR := Lib.hid hrem; clear hrem hd hd2 hx hx2
        go_wp2_with fail
        refine wp_region_qb (by kernel_rfl) (by kernel_rfl) (fun hgq => ?_)
        repeat (quiet_step ((go_at_call 44; exact Calls.regrown_of (ihx x2 _ _ _ _ _ (hs.later (by repeat (first | exact Below.refl _ _ | (with_reducible assumption) | refine bel_trans ?_ (by with_reducible assumption) | refine bel_trans ?_ (below_regrown _ _ _) | refine bel_drew ?_ | refine bel_drewN ?_ _ | refine bel_alloc ?_ _ | refine bel_grow ?_ (by with_reducible assumption) (by omega)))) (hy2.later (by repeat (first | exact Below.refl _ _ | (with_reducible assumption) | refine bel_trans ?_ (by with_reducible assumption) | refine bel_trans ?_ (below_regrown _ _ _) | refine bel_drew ?_ | refine bel_drewN ?_ _ | refine bel_alloc ?_ _ | refine bel_grow ?_ (by with_reducible assumption) (by omega))))))))
        refine wpQuiet_nil ?_
        intro wq hwq
        replace hwq := bel_of_class hwq
        clear hgq
        have hcq := bcell hwq
        have hzq := hwq.size
        (try simp at hzq)
        (try have hyq1 : w.heap.size < wq.heap.size := by omega); (try have hyq2 : w.heap.size + 1 < wq.heap.size := by omega); (try have hyq3 : w.heap.size + 2 < wq.heap.size := by omega); (try have hyq4 : wr.heap.size < wq.heap.size := by omega)
        go_wp2_with fail
        go_ret
        exact ⟨ret_bool HR.out, (by repeat (first | exact Below.refl _ _ | (with_reducible assumption) | refine bel_trans ?_ (by with_reducible assumption) | refine bel_trans ?_ (below_regrown _ _ _) | refine bel_drew ?_ | refine bel_drewN ?_ _ | refine bel_alloc ?_ _ | refine bel_grow ?_ (by with_reducible assumption) (by omega)))⟩
      · rw [hsm] at hrem
        have HR := Lib.hid hrem; clear hrem hd hd2 hx hx2
        go_wp2_with fail
        refine wp_region_qb (by kernel_rfl) (by kernel_rfl) (fun hgq => ?_)
        repeat (quiet_step ((go_at_call 44; exact Calls.regrown_of (ihx x2 _ _ _ _ _ (hs.later (by repeat (first | exact Below.refl _ _ | (with_reducible assumption) | refine bel_trans ?_ (by with_reducible assumption) | refine bel_trans ?_ (below_regrown _ _ _) | refine bel_drew ?_ | refine bel_drewN ?_ _ | refine bel_alloc ?_ _ | refine bel_grow ?_ (by with_reducible assumption) (by omega)))) (hy2.later (by repeat (first | exact Below.refl _ _ | (with_reducible assumption) | refine bel_trans ?_ (by with_reducible assumption) | refine bel_trans ?_ (below_regrown _ _ _) | refine bel_drew ?_ | refine bel_drewN ?_ _ | refine bel_alloc ?_ _ | refine bel_grow ?_ (by with_reducible assumption) (by omega))))))))
        refine wpQuiet_nil ?_
        intro wq hwq
        replace hwq := bel_of_class hwq
        clear hgq
        have hcq := bcell hwq
        have hzq := hwq.size
        (try simp at hzq)
        (try have hyq1 : w.heap.size < wq.heap.size := by omega); (try have hyq2 : w.heap.size + 1 < wq.heap.size := by omega); (try have hyq3 : w.heap.size + 2 < wq.heap.size := by omega); (try have hyq4 : wr.heap.size < wq.heap.size := by omega)
        go_wp2_with fail
        go_roundw
        case rel => exact ⟨k + 1, by omega, by go_num, HR.out, (by repeat (first | (with_reducible assumption) | refine bel_cell (by with_reducible assumption) ?_ | refine cel_alloc ?_ | refine cel_drew ?_)), (by repeat (first | exact Below.refl _ _ | (with_reducible assumption) | refine bel_trans ?_ (by with_reducible assumption) | refine bel_trans ?_ (below_regrown _ _ _) | refine bel_drew ?_ | refine bel_drewN ?_ _ | refine bel_alloc ?_ _ | refine bel_grow ?_ (by with_reducible assumption) (by omega)))⟩
        case measure => simp [intOf]; omega
    · have hke : k = e.sub.length := by omega
      rw [hke, List.drop_length, Ex.sameL] at hrem
      have HR := Lib.hid hrem; clear hrem hke
      go_wp2_with fail
      go_ret
      exact ⟨ret_bool HR.out, (by repeat (first | exact Below.refl _ _ | (with_reducible assumption) | refine bel_trans ?_ (by with_reducible assumption) | refine bel_trans ?_ (below_regrown _ _ _) | refine bel_drew ?_ | refine bel_drewN ?_ _ | refine bel_alloc ?_ _ | refine bel_grow ?_ (by with_reducible assumption) (by omega)))⟩

end Go.Proofs.Ytlfklfjnkpjooaa
