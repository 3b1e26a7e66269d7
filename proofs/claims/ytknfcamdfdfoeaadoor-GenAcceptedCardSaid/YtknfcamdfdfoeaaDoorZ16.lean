/- What a program that has no fault of names and types is. No program of Go in sight. -/
import Derived.Test.YtknfcamdfdfoeaaDoorZ15
import Derived.Test.YtknfcamdfdfoeaaDoorZ09
import Derived.Test.YtknfcamdfdfoeaaDoorZ02
import Derived.RegionTactic
import Derived.BigRegion
set_option linter.unusedVariables false
set_option linter.unusedSimpArgs false
set_option maxRecDepth 100000
namespace Go.Proofs.YtknfcamdfdfoeaaDoor
open Go.RowKit

/-- Each equation's variable is there. -/
theorem check_found {p : Pr} (h : checkF p = (0, 0, 0)) : ∀ q ∈ p.eqs, ∃ j, findV (varsOf p) q.name = some j := by
  unfold checkF at h
  by_cases he : printE p ≠ 0
  · rw [if_pos he] at h; simp at h
  rw [if_neg he] at h
  by_cases hb : 8 < p.ins.length ∨ 8 < p.outs.length ∨ 24 < (varsOf p).length
  · rw [if_pos hb] at h; simp at h
  rw [if_neg hb] at h
  unfold dupF at h
  cases hd : dupGo (varsOf p) 0 (varsOf p) with
  | some k => rw [hd] at h; simp at h
  | none =>
  rw [hd] at h
  simp only at h
  unfold eqsF at h
  cases hq : (eqGo (varsOf p) p.ins.length 0 (fun _ => none) p.eqs).1 with
  | some k => rw [hq] at h; simp at h
  | none =>
  intro q hqm
  obtain ⟨d', hz⟩ := (eqGo_none p.eqs 0 _ hq).2.1 q hqm
  obtain ⟨j, hj, _⟩ := eqE_zero hz
  exact ⟨j, hj⟩
end Go.Proofs.YtknfcamdfdfoeaaDoor

/- Walk over house.declared. -/
namespace Go.Proofs.YtknfcamdfdfoeaaDoor
open Go.RowKit Go.Sort

set_option maxHeartbeats 2000000 in
theorem declared_any (l : List Va) (A : Option Addr) (cap : Nat) (v : Va) (w : World) (hg : Always w) (hl : VarsAt w l A cap) (hn : l.length ≤ 1000000) :
    Calls Tryd.prog 48 #[.slice A l.length cap, vaV v] w fun r w' => r = .returned (.int .i64 (declaredE l v)) ∧ Below w.heap.size w w' := by
  have hfind := fun W h => find_any l A cap v.cn W (hl.later h) hn
  have hgm := gmClock
  have hfq := fun w => eqClock v.ck v.cn 0 ⟨#[]⟩ w
  obtain ⟨a0, a1⟩ := hg
  have hgz : 0 < w.heap.size := block_lt_of_cell a0
  have hv : declaredE l v = if ckEq v.ck v.cn 0 ⟨#[]⟩ = true then 0 else (match findC l v.cn with | none => 19 | some c => if c.type ≠ 2 then 20 else if ckEq c.ck c.cn 0 ⟨#[]⟩ = true then 0 else 21) := by unfold declaredE; rfl
  unfold vaV
  cases hq : ckEq v.ck v.cn 0 ⟨#[]⟩
  case true =>
    rw [hq, if_pos rfl] at hv
    rw [hq] at hfq
    clear hq
    have HV := Lib.hid hv; clear hv
    go_enter Tryd.func48, Tryd.ntmps48
    go_wp2_with fail
    go_ret
    exact ⟨ret_int HV.out.symm, belA⟩
  rw [hq, if_neg (by simp)] at hv
  rw [hq] at hfq
  clear hq
  cases hf : findC l v.cn with
  | none =>
    rw [hf] at hv hfind
    clear hf
    unfold fcV vaV zeroVa at hfind
    dsimp only at hfind
    have HV := Lib.hid hv; clear hv
    go_enter Tryd.func48, Tryd.ntmps48
    go_wp2_with (first | (go_at_call 49; refine (hfind _ belA).mono ?_; rintro r w1 ⟨rfl, hb1⟩; have hc1 := bcell hb1; have hz1 := hb1.size; (try simp at hz1); (try have hy1 := lt0 w w1); (try have hy2 := ltA w 1 w1); (try have hy3 := ltA w 2 w1); (try have hy4 := lt0 wr w1); (try have hy5 := ltA wr 1 w1); (try have hgy1 : 0 < w1.heap.size := by omega)))
    go_ret
    exact ⟨ret_int HV.out.symm, belA⟩
  | some c =>
    rw [hf] at hv hfind
    clear hf
    unfold fcV vaV at hfind
    dsimp only at hfind hv
    have hfq2 := fun w => eqClock c.ck c.cn 0 ⟨#[]⟩ w
    cases ht : (c.type != 2)
    case true =>
      rw [if_pos (by simpa using ht)] at hv
      have HV := Lib.hid hv; clear hv
      go_enter Tryd.func48, Tryd.ntmps48
      go_wp2_with (first | (go_at_call 49; refine (hfind _ belA).mono ?_; rintro r w1 ⟨rfl, hb1⟩; have hc1 := bcell hb1; have hz1 := hb1.size; (try simp at hz1); (try have hy1 := lt0 w w1); (try have hy2 := ltA w 1 w1); (try have hy3 := ltA w 2 w1); (try have hy4 := lt0 wr w1); (try have hy5 := ltA wr 1 w1); (try have hgy1 : 0 < w1.heap.size := by omega)))
      go_ret
      exact ⟨ret_int HV.out.symm, belA⟩
    rw [if_neg (by simpa using ht)] at hv
    cases hq : ckEq c.ck c.cn 0 ⟨#[]⟩
    · rw [hq, if_neg (by simp)] at hv
      rw [hq] at hfq2
      clear hq
      have HV := Lib.hid hv; clear hv
      go_enter Tryd.func48, Tryd.ntmps48
      go_wp2_with (first | (go_at_call 49; refine (hfind _ belA).mono ?_; rintro r w1 ⟨rfl, hb1⟩; have hc1 := bcell hb1; have hz1 := hb1.size; (try simp at hz1); (try have hy1 := lt0 w w1); (try have hy2 := ltA w 1 w1); (try have hy3 := ltA w 2 w1); (try have hy4 := lt0 wr w1); (try have hy5 := ltA wr 1 w1); (try have hgy1 : 0 < w1.heap.size := by omega)))
      go_ret
      exact ⟨ret_int HV.out.symm, belA⟩
    · rw [hq, if_pos rfl] at hv
      rw [hq] at hfq2
      clear hq
      have HV := Lib.hid hv; clear hv
      go_enter Tryd.func48, Tryd.ntmps48
      go_wp2_with (first | (go_at_call 49; refine (hfind _ belA).mono ?_; rintro r w1 ⟨rfl, hb1⟩; have hc1 := bcell hb1; have hz1 := hb1.size; (try simp at hz1); (try have hy1 := lt0 w w1); (try have hy2 := ltA w 1 w1); (try have hy3 := ltA w 2 w1); (try have hy4 := lt0 wr w1); (try have hy5 := ltA wr 1 w1); (try have hgy1 : 0 < w1.heap.size := by omega)))
      go_ret
      exact ⟨ret_int HV.out.symm, belA⟩

end Go.Proofs.YtknfcamdfdfoeaaDoor

/- Walks over the package clocks: all, of. -/
namespace Go.Proofs.YtknfcamdfdfoeaaDoor
open Go.RowKit Go.Sort

/-- The contract of house.of at an expression. -/
def OfP (l : List Va) (A : Option Addr) (cap : Nat) (x : Ex) : Prop := ∀ (Ae : Option Addr) (ce : Nat) (ck : Int) (cs : ByteArray) (W : World), Always W → SubsAt W x Ae ce → VarsAt W l A cap →
    Calls Tryd.prog 50 #[.slice A l.length cap, exV x Ae ce, .agg #[.int .i64 ck, .string cs]] W fun r w' => r = .returned (.int .i64 (x.clk l (ck, cs))) ∧ Below W.heap.size W w'

set_option maxHeartbeats 2000000 in
theorem all_any (l : List Va) (A : Option Addr) (cap : Nat) (e : Ex) (ih : ∀ x ∈ e.sub, OfP l A cap x) (Ae : Option Addr) (ce : Nat) (ck : Int) (cs : ByteArray) (w : World) (hg : Always w) (he : SubsAt w e Ae ce) (hl : VarsAt w l A cap) :
    Calls Tryd.prog 62 #[.slice A l.length cap, .slice Ae e.sub.length ce, .agg #[.int .i64 ck, .string cs]] w fun r w' => r = .returned (.int .i64 (Ex.clkL l e.sub (ck, cs) (ck, cs))) ∧ Below w.heap.size w w' := by
  have hlen := he.len
  unfold maxLen at hlen
  obtain ⟨hlen1, hlen2⟩ := hlen
  go_enter Tryd.func62, Tryd.ntmps62
  go_wp2_with fail
  refine wp_name fun W0 hW0 => ?_
  have hb0 : Below w.heap.size w W0 := by rw [hW0]; exact belA
  have hz0 : w.heap.size < W0.heap.size := by rw [hW0]; simp
  have f0 : W0.cell? ⟨w.heap.size, 0, none⟩ = some (.int .i64 ck) := by rw [hW0]; go_simp
  have f1 : W0.cell? ⟨w.heap.size, 1, none⟩ = some (.string cs) := by rw [hW0]; go_simp
  clear hW0
  replace hl := hl.later hb0
  replace he := he.later hb0
  replace hg := hg.later hb0
  go_loopw [12] (fun i wr => ∃ k : Nat, k ≤ e.sub.length ∧ i = .int .i64 k ∧ Ex.clkL l (e.sub.drop k) (ck, cs) (ck, cs) = Ex.clkL l e.sub (ck, cs) (ck, cs) ∧ Below W0.heap.size W0 wr) (fun i _ => e.sub.length - (intOf i).toNat)
  case atStart => exact ⟨0, Nat.zero_le _, rfl, rfl, Below.refl _ _⟩
  case round =>
    obtain ⟨k, hk, rfl, hrem, hbel⟩ := hrel
    have hc := bcell hbel
    have hzr := hbel.size
    have hr1 : w.heap.size < wr.heap.size := by omega
    by_cases hlt : k < e.sub.length
    · have hx : e.sub[k]? = some e.sub[k] := List.getElem?_eq_getElem hlt
      have hmem : e.sub[k] ∈ e.sub := List.getElem_mem hlt
      have hd : e.sub.drop k = e.sub[k] :: e.sub.drop (k + 1) := List.drop_eq_getElem_cons hlt
      generalize e.sub[k] = x at hx hmem hd
      obtain ⟨b, off, A', cap', rfl, c0, c1, c2, c3, hs⟩ := (he.later hbel).get hx
      rw [hd, Ex.clkL] at hrem
      have ihx := fun W h1 h2 h3 => ih x hmem A' cap' ck cs W h1 h2 h3
      unfold exV at ihx
      clear hd hx hmem ih
      by_cases hz : x.clk l (ck, cs) ≠ 0
      · rw [if_pos hz] at hrem
        have t1 : (x.clk l (ck, cs) != 0) = true := by simpa using hz
        have HR := Lib.hid hrem; clear hrem hz
        generalize x.clk l (ck, cs) = xc at *
        go_wp2_with (first | (go_at_call 50; refine (ihx _ (hg.later belA) (hs.later belA) (hl.later belA)).mono ?_; rintro r w1 ⟨rfl, hb1⟩; have hc1 := bcell hb1; have hz1 := hb1.size; (try simp at hz1); (try have hy1 := lt0 w w1); (try have hy2 := ltA w 1 w1); (try have hy3 := ltA w 2 w1); (try have hy4 := lt0 wr w1); (try have hy5 := ltA wr 1 w1)))
        go_ret
        exact ⟨ret_int HR.out, belA⟩
      · rw [if_neg hz] at hrem
        have t1 : (x.clk l (ck, cs) != 0) = false := by simpa using hz
        have HR := Lib.hid hrem; clear hrem hz
        generalize x.clk l (ck, cs) = xc at *
        go_wp2_with (first | (go_at_call 50; refine (ihx _ (hg.later belA) (hs.later belA) (hl.later belA)).mono ?_; rintro r w1 ⟨rfl, hb1⟩; have hc1 := bcell hb1; have hz1 := hb1.size; (try simp at hz1); (try have hy1 := lt0 w w1); (try have hy2 := ltA w 1 w1); (try have hy3 := ltA w 2 w1); (try have hy4 := lt0 wr w1); (try have hy5 := ltA wr 1 w1)))
        go_roundw
        case rel => exact ⟨k + 1, by omega, by go_num, HR.out, belA⟩
        case measure => simp [intOf]; omega
    · have hke : k = e.sub.length := by omega
      rw [hke, List.drop_length, Ex.clkL] at hrem
      have HR := Lib.hid hrem; clear hrem hke
      go_wp2_with fail
      go_ret
      exact ⟨ret_int HR.out, belA⟩

theorem clk_own {l : List Va} {e : Ex} {c : Int × ByteArray} {f : Int} (h : ownC l e.kind e.name c.1 c.2 = f) (hf : f ≠ 0) : e.clk l c = f := by
  rw [Ex.clk_eq, h, if_pos hf]
theorem clk_sub {l : List Va} {e : Ex} {c : Int × ByteArray} (h : ownC l e.kind e.name c.1 c.2 = 0) : e.clk l c = Ex.clkL l e.sub (subC e.kind e.name c) (subD e.kind e.name c) := by
  rw [Ex.clk_eq, h, if_neg (by omega)]

end Go.Proofs.YtknfcamdfdfoeaaDoor

/- Walk over house.of: variables. -/
namespace Go.Proofs.YtknfcamdfdfoeaaDoor
open Go.RowKit Go.Sort

set_option maxHeartbeats 4000000 in
set_option maxRecDepth 100000 in
theorem of_var (l : List Va) (A : Option Addr) (cap : Nat) (hn : l.length ≤ 1000000) (e : Ex) (hf : e.formed = true) (ih : ∀ x ∈ e.sub, OfP l A cap x) (Ae : Option Addr) (ce : Nat) (ck : Int) (cs : ByteArray) (w : World) (hg : Always w) (he : SubsAt w e Ae ce) (hl : VarsAt w l A cap)
    (hk : e.kind = 3) :
    Calls Tryd.prog 50 #[.slice A l.length cap, exV e Ae ce, .agg #[.int .i64 ck, .string cs]] w fun r w' => r = .returned (.int .i64 (e.clk l (ck, cs))) ∧ Below w.heap.size w w' := by
  have hfind := fun W h => find_any l A cap e.name W (hl.later h) hn
  have hall := fun c s W h => all_any l A cap e ih Ae ce c s W (hg.later h) (he.later h) (hl.later h)
  have hs1 : subC e.kind e.name (ck, cs) = (ck, cs) := by unfold subC; rw [if_neg (by omega), if_neg (by omega)]
  have hs2 : subD e.kind e.name (ck, cs) = (ck, cs) := by unfold subD; rw [if_neg (by omega), if_neg (by omega)]
  have t3 : (e.kind == 3) = true := by rw [hk]; rfl
  have hgm := gmClock
  clear hf ih
  unfold exV
  cases hfd : findC l e.name with
  | none =>
    have ho : ownC l e.kind e.name ck cs = 19 := by unfold ownC; rw [if_pos hk, hfd]
    rw [hfd] at hfind
    have hv := clk_own (c := (ck, cs)) ho (by omega)
    clear hfd ho hs1 hs2 hk
    have HV := Lib.hid hv; clear hv
    unfold fcV vaV zeroVa at hfind
    dsimp only at hfind
    go_enter Tryd.func50, Tryd.ntmps50
    go_wp2_with fail
    go_region
    all_goals
      go_wp2_with (first | (go_at_call 49; refine (hfind _ belA).mono ?_; rintro r w1 ⟨rfl, hb1⟩; have hc1 := bcell hb1; have hz1 := hb1.size; (try simp at hz1); (try have hy1 := lt0 w w1); (try have hy2 := ltA w 1 w1); (try have hy3 := ltA w 2 w1); (try have hy4 := lt0 wr w1); (try have hy5 := ltA wr 1 w1); (try have hy6 := ltA w 3 w1); (try have hgy1 : 0 < w1.heap.size := by omega)))
      go_ret
      exact ⟨ret_int HV.out.symm, belA⟩
  | some v =>
    rw [hfd] at hfind
    have hfq := fun w => eqClock v.ck v.cn ck cs w
    unfold fcV vaV at hfind
    dsimp only at hfind
    cases hq : ckEq v.ck v.cn ck cs
    · rw [hq] at hfq
      have ho : ownC l e.kind e.name ck cs = 21 := by unfold ownC; rw [if_pos hk, hfd]; simp only [hq]; rfl
      have hv := clk_own (c := (ck, cs)) ho (by simp)
      clear hfd ho hs1 hs2 hq hk
      have HV := Lib.hid hv; clear hv
      go_enter Tryd.func50, Tryd.ntmps50
      go_wp2_with fail
      go_region
      all_goals
        go_wp2_with (first | (go_at_call 49; refine (hfind _ belA).mono ?_; rintro r w1 ⟨rfl, hb1⟩; have hc1 := bcell hb1; have hz1 := hb1.size; (try simp at hz1); (try have hy1 := lt0 w w1); (try have hy2 := ltA w 1 w1); (try have hy3 := ltA w 2 w1); (try have hy4 := lt0 wr w1); (try have hy5 := ltA wr 1 w1); (try have hy6 := ltA w 3 w1); (try have hgy1 : 0 < w1.heap.size := by omega)))
        go_ret
        exact ⟨ret_int HV.out.symm, belA⟩
    · rw [hq] at hfq
      have ho : ownC l e.kind e.name ck cs = 0 := by unfold ownC; rw [if_pos hk, hfd]; simp only [hq]; rfl
      have hv := clk_sub (c := (ck, cs)) ho
      rw [hs1, hs2] at hv
      clear hfd ho hs1 hs2 hq hk
      have HV := Lib.hid hv; clear hv
      go_enter Tryd.func50, Tryd.ntmps50
      go_wp2_with fail
      go_region
      all_goals
        go_wp2_with (first | (go_at_call 49; refine (hfind _ belA).mono ?_; rintro r w1 ⟨rfl, hb1⟩; have hc1 := bcell hb1; have hz1 := hb1.size; (try simp at hz1); (try have hy1 := lt0 w w1); (try have hy2 := ltA w 1 w1); (try have hy3 := ltA w 2 w1); (try have hy4 := lt0 wr w1); (try have hy5 := ltA wr 1 w1); (try have hy6 := ltA w 3 w1); (try have hgy1 : 0 < w1.heap.size := by omega)) | (go_at_call 62; refine (hall _ _ _ belA).mono ?_; rintro r w1 ⟨rfl, hb1⟩; have hc1 := bcell hb1; have hz1 := hb1.size; (try simp at hz1); (try have hy1 := lt0 w w1); (try have hy2 := ltA w 1 w1); (try have hy3 := ltA w 2 w1); (try have hy4 := lt0 wr w1); (try have hy5 := ltA wr 1 w1); (try have hy6 := ltA w 3 w1); (try have hgy1 : 0 < w1.heap.size := by omega)))
        go_ret
        exact ⟨ret_int HV.out.symm, belA⟩

end Go.Proofs.YtknfcamdfdfoeaaDoor
