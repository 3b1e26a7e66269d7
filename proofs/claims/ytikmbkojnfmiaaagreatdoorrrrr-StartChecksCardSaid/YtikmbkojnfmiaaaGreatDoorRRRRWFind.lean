/- Walk over the reference's Find. -/
import Derived.Test.YtikmbkojnfmiaaaGreatDoorRRRRRows
import Derived.Test.YtikmbkojnfmiaaaGreatDoorRRRRBB
import Derived.Test.YtikmbkojnfmiaaaGreatDoorRRRRBI
set_option linter.unusedVariables false
set_option linter.unusedSimpArgs false
set_option maxRecDepth 100000
namespace Go.Proofs.YtikmbkojnfmiaaaGreatDoorRRRR
open Go.RowKit Go.Sort

set_option maxHeartbeats 1000000 in
theorem refFind_any (l : List Va) (A : Option Addr) (cap : Nat) (s : ByteArray) (w : World) (hl : VarsAt w l A cap) :
    Calls Tryz.prog 19 #[.slice A l.length cap, .string s] w fun r w' => r = .returned (.int .i64 (refFind l s)) ∧ Below w.heap.size w w' := by
  have hlen := hl.len
  unfold maxLen at hlen
  obtain ⟨hlen1, hlen2⟩ := hlen
  go_enter Tryz.func19, Tryz.ntmps19
  go_wp2_with fail
  go_loopw [5] (fun i wr => ∃ k : Nat, k ≤ l.length ∧ i = .int .i64 k ∧ findI (l.drop k) s k = findV l s ∧ Below w.heap.size w wr) (fun i _ => l.length - (intOf i).toNat)
  case atStart => exact ⟨0, Nat.zero_le _, rfl, rfl, belA⟩
  case round =>
    obtain ⟨k, hk, rfl, hrem, hbel⟩ := hrel
    by_cases hlt : k < l.length
    · have hx : l[k]? = some l[k] := List.getElem?_eq_getElem hlt
      have hd : l.drop k = l[k] :: l.drop (k + 1) := List.drop_eq_getElem_cons hlt
      generalize l[k] = x at hx hd
      obtain ⟨b, off, rfl, hbb, ⟨d0, d1, d2, d3⟩⟩ := (hl.later hbel).get hx
      rw [hd] at hrem
      clear hd hx
      cases hcs : (x.name.toList == s.toList)
      · rw [findI_miss hcs] at hrem
        have HR := Lib.hid hrem; clear hrem
        go_wp2_with fail
        go_roundw
        case rel => exact ⟨k + 1, by omega, by go_num, by have := HR.out; rw [← this]; congr 1, belA⟩
        case measure => simp [intOf]; omega
      · rw [findI_hit hcs] at hrem
        have HR := Lib.hid hrem; clear hrem
        go_wp2_with fail
        go_ret
        exact ⟨ret_int (by unfold refFind; rw [← HR.out]; rfl), belA⟩
    · obtain rfl : k = l.length := by omega
      rw [List.drop_length, findI] at hrem
      have HR := Lib.hid hrem; clear hrem
      go_wp2_with fail
      go_ret
      exact ⟨ret_int (by unfold refFind; rw [← HR.out]; rfl), belA⟩

end Go.Proofs.YtikmbkojnfmiaaaGreatDoorRRRR
