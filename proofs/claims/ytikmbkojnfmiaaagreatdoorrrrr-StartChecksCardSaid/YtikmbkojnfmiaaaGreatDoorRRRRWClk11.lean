/- Walk over house.declared. -/
import Derived.Test.YtikmbkojnfmiaaaGreatDoorRRRRBG
set_option linter.unusedVariables false
set_option linter.unusedSimpArgs false
set_option maxRecDepth 100000
namespace Go.Proofs.YtikmbkojnfmiaaaGreatDoorRRRR
open Go.RowKit Go.Sort

set_option maxHeartbeats 2000000 in
theorem declared_any (l : List Va) (A : Option Addr) (cap : Nat) (v : Va) (w : World) (hg : Always w) (hl : VarsAt w l A cap) (hn : l.length ≤ 1000000) :
    Calls Tryz.prog 33 #[.slice A l.length cap, vaV v] w fun r w' => r = .returned (.int .i64 (declaredE l v)) ∧ Below w.heap.size w w' := by
  have hfind := fun W h => find_any l A cap v.cn W (hl.later h) hn
  have hgm := gmClock
  have hfq := fun w => eqClock v.ck v.cn 0 ⟨#[]⟩ w
  obtain ⟨a0, a1⟩ := hg
  have hgz : 0 < w.heap.size := block_lt_of_cell a0
  have hv : declaredE l v = if ckEq v.ck v.cn 0 ⟨#[]⟩ = true then 0 else (match findC l v.cn with | none => 19 | some c => if c.type ≠ 2 then 20 else if ckEq c.ck c.cn 0 ⟨#[]⟩ = true then 0 else 21) := by unfold declaredE; rfl
  unfold vaV
  cases hq : ckEq v.ck v.cn 0 ⟨#[]⟩
  case true =>
    rw [hq, if_pos rfl] at hv
    rw [hq] at hfq
    clear hq
    have HV := Lib.hid hv; clear hv
    go_enter Tryz.func33, Tryz.ntmps33
    go_wp2_with fail
    go_ret
    exact ⟨ret_int HV.out.symm, belA⟩
  rw [hq, if_neg (by simp)] at hv
  rw [hq] at hfq
  clear hq
  cases hf : findC l v.cn with
  | none =>
    rw [hf] at hv hfind
    clear hf
    unfold fcV vaV zeroVa at hfind
    dsimp only at hfind
    have HV := Lib.hid hv; clear hv
    go_enter Tryz.func33, Tryz.ntmps33
    go_wp2_with (first | (go_at_call 34; refine (hfind _ belA).mono ?_; rintro r w1 ⟨rfl, hb1⟩; have hc1 := bcell hb1; have hz1 := hb1.size; (try simp at hz1); (try have hy1 := lt0 w w1); (try have hy2 := ltA w 1 w1); (try have hy3 := ltA w 2 w1); (try have hy4 := lt0 wr w1); (try have hy5 := ltA wr 1 w1); (try have hgy1 : 0 < w1.heap.size := by omega)))
    go_ret
    exact ⟨ret_int HV.out.symm, belA⟩
  | some c =>
    rw [hf] at hv hfind
    clear hf
    unfold fcV vaV at hfind
    dsimp only at hfind hv
    have hfq2 := fun w => eqClock c.ck c.cn 0 ⟨#[]⟩ w
    cases ht : (c.type != 2)
    case true =>
      rw [if_pos (by simpa using ht)] at hv
      have HV := Lib.hid hv; clear hv
      go_enter Tryz.func33, Tryz.ntmps33
      go_wp2_with (first | (go_at_call 34; refine (hfind _ belA).mono ?_; rintro r w1 ⟨rfl, hb1⟩; have hc1 := bcell hb1; have hz1 := hb1.size; (try simp at hz1); (try have hy1 := lt0 w w1); (try have hy2 := ltA w 1 w1); (try have hy3 := ltA w 2 w1); (try have hy4 := lt0 wr w1); (try have hy5 := ltA wr 1 w1); (try have hgy1 : 0 < w1.heap.size := by omega)))
      go_ret
      exact ⟨ret_int HV.out.symm, belA⟩
    rw [if_neg (by simpa using ht)] at hv
    cases hq : ckEq c.ck c.cn 0 ⟨#[]⟩
    · rw [hq, if_neg (by simp)] at hv
      rw [hq] at hfq2
      clear hq
      have HV := Lib.hid hv; clear hv
      go_enter Tryz.func33, Tryz.ntmps33
      go_wp2_with (first | (go_at_call 34; refine (hfind _ belA).mono ?_; rintro r w1 ⟨rfl, hb1⟩; have hc1 := bcell hb1; have hz1 := hb1.size; (try simp at hz1); (try have hy1 := lt0 w w1); (try have hy2 := ltA w 1 w1); (try have hy3 := ltA w 2 w1); (try have hy4 := lt0 wr w1); (try have hy5 := ltA wr 1 w1); (try have hgy1 : 0 < w1.heap.size := by omega)))
      go_ret
      exact ⟨ret_int HV.out.symm, belA⟩
    · rw [hq, if_pos rfl] at hv
      rw [hq] at hfq2
      clear hq
      have HV := Lib.hid hv; clear hv
      go_enter Tryz.func33, Tryz.ntmps33
      go_wp2_with (first | (go_at_call 34; refine (hfind _ belA).mono ?_; rintro r w1 ⟨rfl, hb1⟩; have hc1 := bcell hb1; have hz1 := hb1.size; (try simp at hz1); (try have hy1 := lt0 w w1); (try have hy2 := ltA w 1 w1); (try have hy3 := ltA w 2 w1); (try have hy4 := lt0 wr w1); (try have hy5 := ltA wr 1 w1); (try have hgy1 : 0 < w1.heap.size := by omega)))
      go_ret
      exact ⟨ret_int HV.out.symm, belA⟩

end Go.Proofs.YtikmbkojnfmiaaaGreatDoorRRRR
