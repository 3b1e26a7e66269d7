/- Walks over the package lex: letter, digit, inner, head, Word, Name. -/
import Derived.Test.YtlfklfjnkpjooaaRows
import Derived.Test.YtlfklfjnkpjooaaRep
import Derived.Laws.RangeAny
import Derived.WalkKit
import Derived.WalkSpells
import Derived.WalkLawsBesides
import Derived.Deep.QuietTactic
import Derived.BigQuiet
import Derived.Deep.Draws
import Derived.Lib.Hide
import Derived.Deep.LoopGhost
import Derived.StillTailTactics
import Derived.Deep.RegionHeld3
import Derived.Deep.RegionWith
import Derived.Lib.QuietBelow
set_option linter.unusedVariables false
set_option linter.unusedSimpArgs false
namespace Go.Proofs.Ytlfklfjnkpjooaa
open Go.RowKit

def letterB (c : Int) : Bool := decide (97 ≤ c ∧ c ≤ 122)
def digitB (c : Int) : Bool := decide (48 ≤ c ∧ c ≤ 57)
def innerB (c : Int) : Bool := letterB c || digitB c || decide (c = 95)

set_option maxHeartbeats 400000 in
theorem letter_any (c : Int) (w : World) : Calls Try.prog 57 #[.int .i32 c] w fun r w' => r = .returned (.bool (letterB c)) ∧ w = w' := by
  unfold letterB
  by_cases h : 97 ≤ c
  · go_enter Try.func57, Try.ntmps57
    go_wp2_with fail
    go_ret
    exact ⟨ret_bool (by simp [h]), rfl⟩
  · go_enter Try.func57, Try.ntmps57
    go_wp2_with fail
    go_ret
    exact ⟨ret_bool (by simp; omega), rfl⟩
set_option maxHeartbeats 400000 in
theorem digit_any (c : Int) (w : World) : Calls Try.prog 69 #[.int .i32 c] w fun r w' => r = .returned (.bool (digitB c)) ∧ w = w' := by
  unfold digitB
  by_cases h : 48 ≤ c
  · go_enter Try.func69, Try.ntmps69
    go_wp2_with fail
    go_ret
    exact ⟨ret_bool (by simp [h]), rfl⟩
  · go_enter Try.func69, Try.ntmps69
    go_wp2_with fail
    go_ret
    exact ⟨ret_bool (by simp; omega), rfl⟩
set_option maxHeartbeats 400000 in
theorem inner_any (c : Int) (w : World) : Calls Try.prog 59 #[.int .i32 c] w fun r w' => r = .returned (.bool (innerB c)) ∧ w = w' := by
  unfold innerB
  cases h : letterB c <;> cases h2 : digitB c <;>
  · go_enter Try.func59, Try.ntmps59
    go_wp2_with (first | (go_at_call 57; refine (letter_any _ _).mono ?_; rintro r w1 ⟨rfl, rfl⟩) | (go_at_call 69; refine (digit_any _ _).mono ?_; rintro r w1 ⟨rfl, rfl⟩))
    go_ret
    exact ⟨ret_bool (by first | rfl | (rw [Bool.eq_iff_iff]; simp)), rfl⟩

/-- lex.Word. -/
def wordB (s : ByteArray) : Bool := s.toList == [110, 111, 100, 101] || s.toList == [114, 101, 116, 117, 114, 110, 115] || s.toList == [118, 97, 114] || s.toList == [108, 101, 116] || s.toList == [116, 101, 108] || s.toList == [105, 102] || s.toList == [116, 104, 101, 110] || s.toList == [101, 108, 115, 101] || s.toList == [102, 98, 121] || s.toList == [112, 114, 101] || s.toList == [119, 104, 101, 110] || s.toList == [117, 110, 108, 101, 115, 115] || s.toList == [109, 101, 114, 103, 101] || s.toList == [110, 111, 116] || s.toList == [116, 114, 117, 101] || s.toList == [102, 97, 108, 115, 101] || s.toList == [105, 110, 116] || s.toList == [98, 111, 111, 108]

set_option maxHeartbeats 1000000 in
theorem word_any (s : ByteArray) (w : World) : Calls Try.prog 60 #[.string s] w fun r w' => r = .returned (.bool (wordB s)) ∧ w = w' := by
  go_enter Try.func60, Try.ntmps60
  go_wp2_with fail
  all_goals first
    | (exfalso; simp_all; done)
    | (go_ret; exact ⟨ret_bool (by simp [wordB, *]), rfl⟩)

/-- How many bytes of s, from the place pos on, are of runes of a kind. -/
def headAt (p : Int → Bool) (s : ByteArray) : Nat → Nat → Nat
  | 0, _ => s.size
  | fuel + 1, pos => if pos < s.size then (if p ((Utf8.decode s pos).1 : Int) then headAt p s fuel (pos + (Utf8.decode s pos).2) else pos) else s.size
theorem decode_step (s : ByteArray) (pos : Nat) : 1 ≤ (Utf8.decode s pos).2 := by
  simp only [Utf8.decode]
  repeat' split
  all_goals simp
theorem extract_whole (s : ByteArray) : s.extract 0 s.size = s := by
  ext1; simp

set_option maxHeartbeats 400000 in
theorem head_inner (s : ByteArray) (w : World) (hs : s.size ≤ maxLen) : Calls Try.prog 58 #[.string s, .func (.func 59) #[] #[]] w fun r w' => r = .returned (.string (s.extract 0 (headAt innerB s (s.size + 1) 0))) ∧ Below w.heap.size w w' := by
  unfold maxLen at hs
  go_enter Try.func58, Try.ntmps58
  go_wp2_with fail
  go_loopg [] (s.size + 1) (fun k wr => ∃ pos, s.size < k + pos ∧ headAt innerB s k pos = headAt innerB s (s.size + 1) 0 ∧ wr = w.iter s pos)
  case atStart => exact ⟨0, by omega, rfl, rfl⟩
  case round =>
    obtain ⟨pos, hk, hrem, rfl⟩ := hrel
    by_cases hlt : pos < s.size
    · have hnx := fun ty => run_next_any (P := Try.prog) w s pos ty hlt
      obtain ⟨k, rfl⟩ : ∃ k, gk = k + 1 := ⟨gk - 1, by omega⟩
      have hst := decode_step s pos
      rw [headAt, if_pos hlt] at hrem
      generalize (Utf8.decode s pos).1 = rn at hnx hrem
      generalize (Utf8.decode s pos).2 = sz at hnx hrem hst
      cases hp : innerB (rn : Int)
      · rw [hp, if_neg (by simp)] at hrem
        have HR := Lib.hid hrem; clear hrem
        go_wp2_with (go_at_call 59; refine (inner_any _ _).mono ?_; rintro r w1 ⟨rfl, rfl⟩)
        go_ret
        exact ⟨by rw [← HR.out]; rfl, bel_alloc (Below.refl _ _) _⟩
      · rw [hp, if_pos rfl] at hrem
        have HR := Lib.hid hrem; clear hrem
        go_wp2_with (go_at_call 59; refine (inner_any _ _).mono ?_; rintro r w1 ⟨rfl, rfl⟩)
        go_roundg k
        case measure => omega
        case rel => exact ⟨_, by omega, HR.out, rfl⟩
    · have hnx := fun ty => run_next_end (P := Try.prog) w s pos ty hlt
      have hr2 : headAt innerB s gk pos = s.size := by cases gk <;> simp [headAt, hlt]
      have HR := Lib.hid (hr2.symm.trans hrem); clear hrem hr2
      go_wp2_with fail
      go_ret
      exact ⟨ret_str (by rw [← HR.out, extract_whole]), bel_alloc (Below.refl _ _) _⟩

end Go.Proofs.Ytlfklfjnkpjooaa
