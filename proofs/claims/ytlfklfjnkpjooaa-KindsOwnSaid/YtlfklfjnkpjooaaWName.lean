/- Walk over lex.Name. -/
import Derived.Test.YtlfklfjnkpjooaaWLex
import Derived.WideShapes
import Derived.WalkKit
import Derived.WalkSpells
import Derived.WalkLawsBesides
import Derived.Deep.QuietTactic
import Derived.BigQuiet
import Derived.Deep.Draws
import Derived.Lib.Hide
import Derived.Deep.LoopGhost
import Derived.StillTailTactics
import Derived.Deep.RegionHeld3
import Derived.Deep.RegionWith
import Derived.Lib.QuietBelow
set_option linter.unusedVariables false
set_option linter.unusedSimpArgs false
namespace Go.Proofs.Ytlfklfjnkpjooaa
open Go.RowKit

/-- lex.Name. -/
def nameB (s : ByteArray) : Bool := if h : 0 < s.size then decide (s.size ≤ 16) && letterB ((s[0]'h).toNat : Int) && decide (headAt innerB s (s.size + 1) 0 = s.size) && !wordB s else false

theorem eqS_true {a b : ByteArray} (h : a = b) : (a.toList == b.toList) = true := by subst h; simp
theorem eqS_iff {a b : ByteArray} : (a.toList == b.toList) = true ↔ a = b := by
  rw [beq_iff_eq, ByteArray.toList_eq, ByteArray.toList_eq]
  exact ⟨fun h => WideShapes.bytes_inj h, fun h => by rw [h]⟩
theorem eqS_false {a b : ByteArray} (h : a ≠ b) : (a.toList == b.toList) = false := by
  rw [← Bool.not_eq_true, eqS_iff]; exact h
theorem headAt_le (p : Int → Bool) (s : ByteArray) : ∀ f pos, headAt p s f pos ≤ s.size
  | 0, _ => Nat.le_refl _
  | f + 1, pos => by
    unfold headAt
    split
    · split
      · exact headAt_le p s f _
      · omega
    · exact Nat.le_refl _
theorem size_pos_toList {s : ByteArray} (h : 0 < s.size) : s.toList.isEmpty = false := by
  rw [ByteArray.toList_eq]
  cases h2 : s.data.toList with
  | nil => exfalso; rw [← ByteArray.size_data, ← Array.length_toList, h2] at h; simp at h
  | cons => rfl
theorem size_zero_toList {s : ByteArray} (h : ¬ 0 < s.size) : s = ⟨#[]⟩ := by
  ext1; apply Array.eq_empty_of_size_eq_zero; rw [ByteArray.size_data]; omega

theorem nameB_le {s : ByteArray} (h : nameB s = true) : s.size ≤ 16 := by
  unfold nameB at h
  split at h
  · simp at h; exact h.1.1.1
  · simp at h

set_option maxHeartbeats 1000000 in
theorem name_any (s : ByteArray) (w : World) : Calls Try.prog 41 #[.string s] w fun r w' => r = .returned (.bool (nameB s)) ∧ Below w.heap.size w w' := by
  by_cases h0 : 0 < s.size
  · have he := size_pos_toList h0
    by_cases h1 : s.size ≤ 16
    · have hb : s[0].toNat < 256 := UInt8.toNat_lt _
      have hv : nameB s = (letterB (s[0].toNat : Int) && decide (headAt innerB s (s.size + 1) 0 = s.size) && !wordB s) := by unfold nameB; rw [dif_pos h0]; simp [h1]
      have HV := Lib.hid hv; clear hv
      have hx : ((s.extract 0 (headAt innerB s (s.size + 1) 0)).toList == s.toList) = decide (headAt innerB s (s.size + 1) 0 = s.size) := by
        by_cases h : headAt innerB s (s.size + 1) 0 = s.size
        · rw [h, extract_whole]; simp
        · rw [decide_eq_false h]
          refine eqS_false fun e => ?_
          have := congrArg ByteArray.size e
          rw [ByteArray.size_extract] at this
          have := headAt_le innerB s (s.size + 1) 0
          omega
      cases h2 : letterB (s[0].toNat : Int) <;> cases h3 : decide (headAt innerB s (s.size + 1) 0 = s.size) <;> rw [h3] at hx <;> cases h4 : wordB s <;>
      · rw [h2, h3, h4] at HV
        go_enter Try.func41, Try.ntmps41
        go_wp2_with (first | (go_at_call 57; refine (letter_any _ _).mono ?_; rintro r w1 ⟨rfl, rfl⟩) | (go_at_call 58; refine (head_inner _ _ (by unfold maxLen; omega)).mono ?_; rintro r w1 ⟨rfl, hb1⟩) | (go_at_call 60; refine (word_any _ _).mono ?_; rintro r w1 ⟨rfl, rfl⟩))
        go_ret
        exact ⟨ret_bool (by rw [HV.out]; rfl), (by repeat (first | exact Below.refl _ _ | (with_reducible assumption) | refine bel_trans ?_ (by with_reducible assumption) | refine bel_trans ?_ (below_regrown _ _ _) | refine bel_drew ?_ | refine bel_drewN ?_ _ | refine bel_alloc ?_ _ | refine bel_grow ?_ (by with_reducible assumption) (by omega)))⟩
    · have hv : nameB s = false := by unfold nameB; rw [dif_pos h0]; simp [h1]
      have HV := Lib.hid hv; clear hv
      go_enter Try.func41, Try.ntmps41
      go_wp2_with fail
      go_ret
      exact ⟨ret_bool (by rw [HV.out]), (by repeat (first | exact Below.refl _ _ | (with_reducible assumption) | refine bel_trans ?_ (by with_reducible assumption) | refine bel_trans ?_ (below_regrown _ _ _) | refine bel_drew ?_ | refine bel_drewN ?_ _ | refine bel_alloc ?_ _ | refine bel_grow ?_ (by with_reducible assumption) (by omega)))⟩
  · have hv : nameB s = false := by unfold nameB; rw [dif_neg h0]
    have HV := Lib.hid hv; clear hv
    obtain rfl := size_zero_toList h0
    go_enter Try.func41, Try.ntmps41
    go_wp2_with fail
    go_ret
    exact ⟨ret_bool (by rw [HV.out]), (by repeat (first | exact Below.refl _ _ | (with_reducible assumption) | refine bel_trans ?_ (by with_reducible assumption) | refine bel_trans ?_ (below_regrown _ _ _) | refine bel_drew ?_ | refine bel_drewN ?_ _ | refine bel_alloc ?_ _ | refine bel_grow ?_ (by with_reducible assumption) (by omega)))⟩

end Go.Proofs.Ytlfklfjnkpjooaa
