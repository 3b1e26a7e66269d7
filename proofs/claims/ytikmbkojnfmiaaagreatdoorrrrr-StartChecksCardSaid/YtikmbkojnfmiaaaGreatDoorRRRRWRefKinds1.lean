/- Walks over the reference's kinds: both, made. -/
import Derived.Test.YtikmbkojnfmiaaaGreatDoorRRRRRows
import Derived.Test.YtikmbkojnfmiaaaGreatDoorRRRRBB
import Derived.Test.YtikmbkojnfmiaaaGreatDoorRRRRBI
set_option linter.unusedVariables false
set_option linter.unusedSimpArgs false
set_option maxRecDepth 100000
namespace Go.Proofs.YtikmbkojnfmiaaaGreatDoorRRRR
open Go.RowKit Go.Sort

set_option maxHeartbeats 1000000 in
theorem both_any (a b : Int) (w : World) : Calls Tryz.prog 98 #[.int .i64 a, .int .i64 b] w fun r w' => r = .returned (.int .i64 (bothK a b)) ∧ w = w' := by
  by_cases h : a = b
  · have hv : bothK a b = a := by unfold bothK; rw [if_pos h]
    have t : (a == b) = true := by simpa using h
    clear h
    have HV := Lib.hid hv; clear hv
    go_enter Tryz.func98, Tryz.ntmps98
    go_wp2_with fail
    go_ret
    exact ⟨ret_int HV.out.symm, rfl⟩
  · have hv : bothK a b = 0 := by unfold bothK; rw [if_neg h]
    have t : (a == b) = false := by simpa using h
    clear h
    have HV := Lib.hid hv; clear hv
    go_enter Tryz.func98, Tryz.ntmps98
    go_wp2_with fail
    go_ret
    exact ⟨ret_int HV.out.symm, rfl⟩

set_option maxHeartbeats 1000000 in
theorem made_any (op t : Int) (w : World) : Calls Tryz.prog 97 #[.int .i64 op, .int .i64 t] w fun r w' => r = .returned (.int .i64 (madeK op t)) ∧ w = w' := by
  have hv : madeK op t = madeK op t := rfl
  rw (occs := .pos [2]) [madeK] at hv
  by_cases h0 : t = 0
  · rw [if_pos h0] at hv
    have t0 : (t == 0) = true := by simpa using h0
    clear h0
    have HV := Lib.hid hv; clear hv
    go_enter Tryz.func97, Tryz.ntmps97
    go_wp2_with fail
    go_ret
    exact ⟨ret_int HV.out.symm, rfl⟩
  rw [if_neg h0] at hv
  have t0 : (t == 0) = false := by simpa using h0
  by_cases h8 : 8 ≤ op
  · by_cases h10 : op ≤ 10
    · rw [if_pos ⟨h8, h10⟩] at hv
      have d8 : decide (8 ≤ op) = true := by simpa using h8
      have d10 : decide (op ≤ 10) = true := by simpa using h10
      have HV := Lib.hid hv; clear hv
      go_enter Tryz.func97, Tryz.ntmps97
      go_wp2_with fail
      go_ret
      exact ⟨ret_int HV.out.symm, rfl⟩
    rw [if_neg (by omega)] at hv
    have d8 : decide (8 ≤ op) = true := by simpa using h8
    have d10 : decide (op ≤ 10) = false := by simpa using h10
    by_cases h11 : op = 11 ∨ op = 12
    · rw [if_pos h11] at hv
      rcases h11 with h11 | h11
      · have e1 : (op == 11) = true := by simpa using h11
        clear h11
        have HV := Lib.hid hv; clear hv
        go_enter Tryz.func97, Tryz.ntmps97
        go_wp2_with fail
        go_ret
        exact ⟨ret_int HV.out.symm, rfl⟩
      · have e1 : (op == 11) = false := by rw [h11]; rfl
        have e2 : (op == 12) = true := by simpa using h11
        clear h11
        have HV := Lib.hid hv; clear hv
        go_enter Tryz.func97, Tryz.ntmps97
        go_wp2_with fail
        go_ret
        exact ⟨ret_int HV.out.symm, rfl⟩
    rw [if_neg h11] at hv
    have e1 : (op == 11) = false := by simp; omega
    have e2 : (op == 12) = false := by simp; omega
    by_cases h1 : t ≠ 1
    · rw [if_pos h1] at hv
      have t1 : (t != 1) = true := by simpa using h1
      clear h1
      have HV := Lib.hid hv; clear hv
      go_enter Tryz.func97, Tryz.ntmps97
      go_wp2_with fail
      go_ret
      exact ⟨ret_int HV.out.symm, rfl⟩
    rw [if_neg h1, if_neg (by omega)] at hv
    have t1 : (t != 1) = false := by simpa using h1
    have d7 : decide (op ≤ 7) = false := by simp; omega
    clear h1
    have HV := Lib.hid hv; clear hv
    go_enter Tryz.func97, Tryz.ntmps97
    go_wp2_with fail
    go_ret
    exact ⟨ret_int HV.out.symm, rfl⟩
  · rw [if_neg (by omega), if_neg (by omega)] at hv
    have d8 : decide (8 ≤ op) = false := by simpa using h8
    have e1 : (op == 11) = false := by simp; omega
    have e2 : (op == 12) = false := by simp; omega
    by_cases h1 : t ≠ 1
    · rw [if_pos h1] at hv
      have t1 : (t != 1) = true := by simpa using h1
      clear h1
      have HV := Lib.hid hv; clear hv
      go_enter Tryz.func97, Tryz.ntmps97
      go_wp2_with fail
      go_ret
      exact ⟨ret_int HV.out.symm, rfl⟩
    rw [if_neg h1, if_pos (by omega)] at hv
    have t1 : (t != 1) = false := by simpa using h1
    have d7 : decide (op ≤ 7) = true := by simp; omega
    clear h1
    have HV := Lib.hid hv; clear hv
    go_enter Tryz.func97, Tryz.ntmps97
    go_wp2_with fail
    go_ret
    exact ⟨ret_int HV.out.symm, rfl⟩

end Go.Proofs.YtikmbkojnfmiaaaGreatDoorRRRR
