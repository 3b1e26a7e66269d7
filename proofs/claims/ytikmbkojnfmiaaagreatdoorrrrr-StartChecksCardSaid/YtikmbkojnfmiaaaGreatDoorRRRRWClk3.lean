/- Walk over house.of: variables. -/
import Derived.RegionTactic
import Derived.BigRegion
import Derived.Test.YtikmbkojnfmiaaaGreatDoorRRRRBG
set_option linter.unusedVariables false
set_option linter.unusedSimpArgs false
set_option maxRecDepth 100000
namespace Go.Proofs.YtikmbkojnfmiaaaGreatDoorRRRR
open Go.RowKit Go.Sort

set_option maxHeartbeats 4000000 in
set_option maxRecDepth 100000 in
theorem of_var (l : List Va) (A : Option Addr) (cap : Nat) (hn : l.length ≤ 1000000) (e : Ex) (hf : e.formed = true) (ih : ∀ x ∈ e.sub, OfP l A cap x) (Ae : Option Addr) (ce : Nat) (ck : Int) (cs : ByteArray) (w : World) (hg : Always w) (he : SubsAt w e Ae ce) (hl : VarsAt w l A cap)
    (hk : e.kind = 3) :
    Calls Tryz.prog 35 #[.slice A l.length cap, exV e Ae ce, .agg #[.int .i64 ck, .string cs]] w fun r w' => r = .returned (.int .i64 (e.clk l (ck, cs))) ∧ Below w.heap.size w w' := by
  have hfind := fun W h => find_any l A cap e.name W (hl.later h) hn
  have hall := fun c s W h => all_any l A cap e ih Ae ce c s W (hg.later h) (he.later h) (hl.later h)
  have hs1 : subC e.kind e.name (ck, cs) = (ck, cs) := by unfold subC; rw [if_neg (by omega), if_neg (by omega)]
  have hs2 : subD e.kind e.name (ck, cs) = (ck, cs) := by unfold subD; rw [if_neg (by omega), if_neg (by omega)]
  have t3 : (e.kind == 3) = true := by rw [hk]; rfl
  have hgm := gmClock
  clear hf ih
  unfold exV
  cases hfd : findC l e.name with
  | none =>
    have ho : ownC l e.kind e.name ck cs = 19 := by unfold ownC; rw [if_pos hk, hfd]
    rw [hfd] at hfind
    have hv := clk_own (c := (ck, cs)) ho (by omega)
    clear hfd ho hs1 hs2 hk
    have HV := Lib.hid hv; clear hv
    unfold fcV vaV zeroVa at hfind
    dsimp only at hfind
    go_enter Tryz.func35, Tryz.ntmps35
    go_wp2_with fail
    go_region
    all_goals
      go_wp2_with (first | (go_at_call 34; refine (hfind _ belA).mono ?_; rintro r w1 ⟨rfl, hb1⟩; have hc1 := bcell hb1; have hz1 := hb1.size; (try simp at hz1); (try have hy1 := lt0 w w1); (try have hy2 := ltA w 1 w1); (try have hy3 := ltA w 2 w1); (try have hy4 := lt0 wr w1); (try have hy5 := ltA wr 1 w1); (try have hy6 := ltA w 3 w1); (try have hgy1 : 0 < w1.heap.size := by omega)))
      go_ret
      exact ⟨ret_int HV.out.symm, belA⟩
  | some v =>
    rw [hfd] at hfind
    have hfq := fun w => eqClock v.ck v.cn ck cs w
    unfold fcV vaV at hfind
    dsimp only at hfind
    cases hq : ckEq v.ck v.cn ck cs
    · rw [hq] at hfq
      have ho : ownC l e.kind e.name ck cs = 21 := by unfold ownC; rw [if_pos hk, hfd]; simp only [hq]; rfl
      have hv := clk_own (c := (ck, cs)) ho (by simp)
      clear hfd ho hs1 hs2 hq hk
      have HV := Lib.hid hv; clear hv
      go_enter Tryz.func35, Tryz.ntmps35
      go_wp2_with fail
      go_region
      all_goals
        go_wp2_with (first | (go_at_call 34; refine (hfind _ belA).mono ?_; rintro r w1 ⟨rfl, hb1⟩; have hc1 := bcell hb1; have hz1 := hb1.size; (try simp at hz1); (try have hy1 := lt0 w w1); (try have hy2 := ltA w 1 w1); (try have hy3 := ltA w 2 w1); (try have hy4 := lt0 wr w1); (try have hy5 := ltA wr 1 w1); (try have hy6 := ltA w 3 w1); (try have hgy1 : 0 < w1.heap.size := by omega)))
        go_ret
        exact ⟨ret_int HV.out.symm, belA⟩
    · rw [hq] at hfq
      have ho : ownC l e.kind e.name ck cs = 0 := by unfold ownC; rw [if_pos hk, hfd]; simp only [hq]; rfl
      have hv := clk_sub (c := (ck, cs)) ho
      rw [hs1, hs2] at hv
      clear hfd ho hs1 hs2 hq hk
      have HV := Lib.hid hv; clear hv
      go_enter Tryz.func35, Tryz.ntmps35
      go_wp2_with fail
      go_region
      all_goals
        go_wp2_with (first | (go_at_call 34; refine (hfind _ belA).mono ?_; rintro r w1 ⟨rfl, hb1⟩; have hc1 := bcell hb1; have hz1 := hb1.size; (try simp at hz1); (try have hy1 := lt0 w w1); (try have hy2 := ltA w 1 w1); (try have hy3 := ltA w 2 w1); (try have hy4 := lt0 wr w1); (try have hy5 := ltA wr 1 w1); (try have hy6 := ltA w 3 w1); (try have hgy1 : 0 < w1.heap.size := by omega)) | (go_at_call 45; refine (hall _ _ _ belA).mono ?_; rintro r w1 ⟨rfl, hb1⟩; have hc1 := bcell hb1; have hz1 := hb1.size; (try simp at hz1); (try have hy1 := lt0 w w1); (try have hy2 := ltA w 1 w1); (try have hy3 := ltA w 2 w1); (try have hy4 := lt0 wr w1); (try have hy5 := ltA wr 1 w1); (try have hy6 := ltA w 3 w1); (try have hgy1 : 0 < w1.heap.size := by omega)))
        go_ret
        exact ⟨ret_int HV.out.symm, belA⟩

end Go.Proofs.YtikmbkojnfmiaaaGreatDoorRRRR
