/- Walks over the reference's clocks: Within. -/
import Derived.Test.YtikmbkojnfmiaaaDoorRRRRBG
import Derived.Test.YtikmbkojnfmiaaaDoorRRRRWFind
import Derived.Test.YtikmbkojnfmiaaaDoorRRRRBI
import Derived.Test.YtikmbkojnfmiaaaDoorRRRRBJ
set_option linter.unusedVariables false
set_option linter.unusedSimpArgs false
set_option maxRecDepth 100000
namespace Go.Proofs.YtikmbkojnfmiaaaDoorRRRR
open Go.RowKit Go.Sort

theorem clkinfo : (Tryd.prog.info? 37).map (fun i => (i.zero, i.size, i.bytes)) = some (some (.agg #[.int .i64 0, .string ⟨#[]⟩]), 2, 24) := by kernel_rfl

/-- The cells of the parts' clocks. -/
def withV (k : Int) (s : ByteArray) (c : Int × ByteArray) (i : Nat) : List Value := [.int .i64 (withC k s c i).1, .string (withC k s c i).2]
def withVs (k : Int) (s : ByteArray) (c : Int × ByteArray) (n : Nat) : List Value := (List.range n).flatMap (withV k s c)
theorem withVs_snoc (k : Int) (s : ByteArray) (c : Int × ByteArray) (n : Nat) : withVs k s c (n + 1) = withVs k s c n ++ withV k s c n := by
  unfold withVs; rw [List.range_succ, List.flatMap_append]; simp
theorem withVs_len (k : Int) (s : ByteArray) (c : Int × ByteArray) (n : Nat) : (withVs k s c n).length = n * 2 := by
  induction n with
  | zero => rfl
  | succ n ih => rw [withVs_snoc, List.length_append, ih]; simp [withV]; omega
theorem withVs_at (k : Int) (s : ByteArray) (c : Int × ByteArray) {n i : Nat} (hi : i < n) : (withVs k s c n)[i * 2]? = some (.int .i64 (withC k s c i).1) ∧ (withVs k s c n)[i * 2 + 1]? = some (.string (withC k s c i).2) := by
  induction n with
  | zero => omega
  | succ n ih =>
    rw [withVs_snoc]
    have hl := withVs_len k s c n
    rcases Nat.lt_or_ge i n with h | h
    · rw [List.getElem?_append_left (by omega), List.getElem?_append_left (by omega)]
      exact ih h
    · obtain rfl : i = n := by omega
      rw [List.getElem?_append_right (by omega), List.getElem?_append_right (by omega), hl]
      simp [withV]

end Go.Proofs.YtikmbkojnfmiaaaDoorRRRR
