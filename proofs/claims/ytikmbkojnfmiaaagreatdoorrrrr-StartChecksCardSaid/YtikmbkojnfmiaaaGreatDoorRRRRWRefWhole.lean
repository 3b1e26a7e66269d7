/- Walks over the reference's tree: vars, Whole. -/
import Derived.Test.YtikmbkojnfmiaaaGreatDoorRRRROpen
import Derived.Test.YtikmbkojnfmiaaaGreatDoorRRRRWRefDecl
import Derived.Test.YtikmbkojnfmiaaaGreatDoorRRRRWRefSame
import Derived.Test.YtikmbkojnfmiaaaGreatDoorRRRRBB
set_option linter.unusedVariables false
set_option linter.unusedSimpArgs false
set_option maxRecDepth 100000
namespace Go.Proofs.YtikmbkojnfmiaaaGreatDoorRRRR
open Go.RowKit Go.Sort

set_option maxHeartbeats 4000000 in
theorem rvars_any (l : List Va) (A : Option Addr) (cap : Nat) (own : Bool) (w : World) (hl : VarsAt w l A cap) :
    Calls Tryz.prog 79 #[.slice A l.length cap, .bool own] w fun r w' => r = .returned (.bool (l.all (variableB · own))) ∧ Below w.heap.size w w' := by
  have hlen := hl.len
  unfold maxLen at hlen
  obtain ⟨hlen1, hlen2⟩ := hlen
  go_enter Tryz.func79, Tryz.ntmps79
  go_wp2_with fail
  go_loopw [5] (fun i wr => ∃ k : Nat, k ≤ l.length ∧ i = .int .i64 k ∧ (l.drop k).all (variableB · own) = l.all (variableB · own) ∧ Below w.heap.size w wr) (fun i _ => l.length - (intOf i).toNat)
  case atStart => exact ⟨0, Nat.zero_le _, rfl, rfl, belA⟩
  case round =>
    obtain ⟨k, hk, rfl, hrem, hbel⟩ := hrel
    by_cases hlt : k < l.length
    · have hx : l[k]? = some l[k] := List.getElem?_eq_getElem hlt
      have hd : l.drop k = l[k] :: l.drop (k + 1) := List.drop_eq_getElem_cons hlt
      generalize l[k] = x at hx hd
      obtain ⟨b, off, rfl, hbb, ⟨d0, d1, d2, d3⟩⟩ := (hl.later hbel).get hx
      rw [hd, List.all_cons] at hrem
      have hn1 := fun W => name12_any x.name W
      have hn2 := fun W => name12_any x.cn W
      clear hd hx
      cases hvb : variableB x own
      · rw [hvb, Bool.false_and] at hrem
        have HR := Lib.hid hrem; clear hrem
        have HVB := Lib.hid hvb; clear hvb
        cases hb1 : nameB x.name <;> cases hb2 : nameB x.cn <;> cases own <;> rw [hb1] at hn1 <;> rw [hb2] at hn2 <;>
        · go_wp2_with (first | (go_at_call_of 78 (Value.string x.name); refine (hn1 _).mono ?_; rintro r w1 ⟨rfl, hbb1⟩; have hc1 := bcell hbb1; have hz1 := hbb1.size; (try simp at hz1); (try have hy1 := lt0 w w1); (try have hy2 := ltA w 1 w1); (try have hy3 := ltA w 2 w1); (try have hy4 := lt0 wr w1); (try have hy5 := ltA wr 1 w1)) | (go_at_call_of 78 (Value.string x.cn); refine (hn2 _).mono ?_; rintro r w2 ⟨rfl, hbb2⟩))
          all_goals first
            | (exfalso; have hh := HVB.out; clear hn1 hn2; simp_all [variableB]; done)
            | (go_ret; exact ⟨ret_bool HR.out, belA⟩)
      · rw [hvb, Bool.true_and] at hrem
        have HR := Lib.hid hrem; clear hrem
        have HVB := Lib.hid hvb; clear hvb
        cases hb1 : nameB x.name <;> cases hb2 : nameB x.cn <;> cases own <;> rw [hb1] at hn1 <;> rw [hb2] at hn2 <;> first
          | (exfalso; have hh := HVB.out; clear hn1 hn2; simp_all [variableB]; done)
          | skip
        all_goals
          go_wp2_with (first | (go_at_call_of 78 (Value.string x.name); refine (hn1 _).mono ?_; rintro r w1 ⟨rfl, hbb1⟩; have hc1 := bcell hbb1; have hz1 := hbb1.size; (try simp at hz1); (try have hy1 := lt0 w w1); (try have hy2 := ltA w 1 w1); (try have hy3 := ltA w 2 w1); (try have hy4 := lt0 wr w1); (try have hy5 := ltA wr 1 w1)) | (go_at_call_of 78 (Value.string x.cn); refine (hn2 _).mono ?_; rintro r w2 ⟨rfl, hbb2⟩))
          all_goals first
            | (exfalso; have hh := HVB.out; clear hn1 hn2; simp_all [variableB]; done)
            | (go_roundw
               case rel => exact ⟨k + 1, by omega, by go_num, HR.out, belA⟩
               case measure => simp [intOf]; omega)
    · obtain rfl : k = l.length := by omega
      rw [List.drop_length, List.all_nil] at hrem
      have HR := Lib.hid hrem; clear hrem
      go_wp2_with fail
      go_ret
      exact ⟨ret_bool HR.out, belA⟩

theorem subs_zero (W : World) : SubsAt W Ex.zero none 0 := by
  unfold Ex.zero
  rw [SubsAt_iff]; exact ⟨Nat.le_refl _, by unfold maxLen; omega, fun h => absurd h (by simp [Ex.sub])⟩

end Go.Proofs.YtikmbkojnfmiaaaGreatDoorRRRR
