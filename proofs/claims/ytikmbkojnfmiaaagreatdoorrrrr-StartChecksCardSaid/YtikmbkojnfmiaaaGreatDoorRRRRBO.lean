/- Walks over the reference's clocks: base, own. -/
import Derived.Test.YtikmbkojnfmiaaaGreatDoorRRRRBG
import Derived.Test.YtikmbkojnfmiaaaGreatDoorRRRRWFind
import Derived.Test.YtikmbkojnfmiaaaGreatDoorRRRRBI
import Derived.Test.YtikmbkojnfmiaaaGreatDoorRRRRBJ
import Derived.Test.YtikmbkojnfmiaaaGreatDoorRRRRWRefTree
import Derived.Test.YtikmbkojnfmiaaaGreatDoorRRRRBN
import Derived.Test.YtikmbkojnfmiaaaGreatDoorRRRRWClk12
set_option linter.unusedVariables false
set_option linter.unusedSimpArgs false
set_option maxRecDepth 100000
namespace Go.Proofs.YtikmbkojnfmiaaaGreatDoorRRRR
open Go.RowKit Go.Sort

set_option maxHeartbeats 1000000 in
theorem base_any (v : Va) (w : World) : Calls Tryz.prog 38 #[vaV v] w fun r w' => r = .returned (.bool (ckEq v.ck v.cn 0 ⟨#[]⟩)) ∧ Below w.heap.size w w' := by
  have hgm := gmClock
  have hfq := fun w => eqClock v.ck v.cn 0 ⟨#[]⟩ w
  unfold vaV
  cases hq : ckEq v.ck v.cn 0 ⟨#[]⟩
  · rw [hq] at hfq
    clear hq
    go_enter Tryz.func38, Tryz.ntmps38
    go_wp2_with fail
    go_ret
    exact ⟨rfl, belA⟩
  · rw [hq] at hfq
    clear hq
    go_enter Tryz.func38, Tryz.ntmps38
    go_wp2_with fail
    go_ret
    exact ⟨rfl, belA⟩

set_option maxHeartbeats 4000000 in
theorem refOwn_any (e : Ex) (Ae : Option Addr) (ce : Nat) (ck : Int) (cn : ByteArray) (l : List Va) (A : Option Addr) (cap : Nat) (w : World) (hl : VarsAt w l A cap) :
    Calls Tryz.prog 65 #[exV e Ae ce, .agg #[.int .i64 ck, .string cn], .slice A l.length cap] w fun r w' => r = .returned (.int .i64 (ownR l e.kind e.name (ck, cn))) ∧ Below w.heap.size w w' := by
  have hfind := fun W h => refFind_any l A cap e.name W (hl.later h)
  have hgm := gmClock
  have hv : ownR l e.kind e.name (ck, cn) = ownR l e.kind e.name (ck, cn) := rfl
  rw (occs := .pos [2]) [ownR] at hv
  have hll := hl.len
  unfold maxLen at hll
  obtain ⟨hll1, hll2⟩ := hll
  unfold exV
  cases hnm : e.name.toList.isEmpty
  case true =>
    rw [hnm, if_pos rfl] at hv
    have HV := Lib.hid hv; clear hv
    go_enter Tryz.func65, Tryz.ntmps65
    go_wp2_with fail
    go_ret
    exact ⟨ret_int HV.out.symm, belA⟩
  rw [hnm, if_neg (by simp)] at hv
  rcases refFind_cases l e.name with ⟨hrf, hfc⟩ | ⟨k, v, hrf, hx, hfc⟩
  · rw [hfc] at hv
    rw [hrf] at hfind
    dsimp only at hv
    clear hrf hfc
    have HV := Lib.hid hv; clear hv
    go_enter Tryz.func65, Tryz.ntmps65
    go_wp2_with (first | (go_at_call 19; refine (hfind _ belA).mono ?_; rintro r w1 ⟨rfl, hb1⟩; have hc1 := bcell hb1; have hz1 := hb1.size; (try simp at hz1); (try have hy1 := lt0 w w1); (try have hy2 := ltA w 1 w1); (try have hy3 := ltA w 2 w1); (try have hy4 := lt0 wr w1); (try have hy5 := ltA wr 1 w1)))
    go_ret
    exact ⟨ret_int HV.out.symm, belA⟩
  rw [hfc] at hv
  rw [hrf] at hfind
  dsimp only at hv
  clear hrf hfc
  have hkl : k < l.length := (List.getElem?_eq_some_iff.1 hx).1
  have hkl2 : (k : Int) < (l.length : Int) := by omega
  have tkk : ¬ ((k : Int) < 0) := by omega
  obtain ⟨b, off, rfl, hbb, ⟨d0, d1, d2, d3⟩⟩ := hl.get hx
  have hbase := fun W => base_any v W
  unfold vaV at hbase
  have hbb1 : b < w.heap.size + 1 := by omega
  have hbb2 : b < w.heap.size + 1 + 1 := by omega
  clear hx
  by_cases h3 : e.kind = 3
  · have q3 : (e.kind == 3) = true := by rw [h3]; rfl
    have n3 : (e.kind != 3) = false := by rw [h3]; rfl
    have hfq := fun w => eqClock ck cn v.ck v.cn w
    have hwn : wantC e.kind e.name v = (v.ck, v.cn) := by unfold wantC; rw [if_pos h3]
    rw [hwn] at hv
    clear hwn
    dsimp only at hv
    cases hq : ckEq ck cn v.ck v.cn
    · rw [hq] at hfq hv
      rw [if_pos rfl] at hv
      clear hq h3
      have HV := Lib.hid hv; clear hv
      go_enter Tryz.func65, Tryz.ntmps65
      go_wp2_with (first | (go_at_call 19; refine (hfind _ belA).mono ?_; rintro r w1 ⟨rfl, hb1⟩; have hc1 := bcell hb1; have hf1 := bfrozen hb1; have hz1 := hb1.size; (try simp at hz1); have hy0 : w.heap.size < w1.heap.size := (by omega); have hy1 : w.heap.size + 1 < w1.heap.size := (by omega); have hyb : b < w1.heap.size := (by omega); have hyb1 : b < w1.heap.size + 1 := (by omega)) | (go_at_call 38; refine (hbase _).mono ?_; rintro r w2 ⟨rfl, hb2⟩))
      go_ret
      exact ⟨ret_int HV.out.symm, (by repeat (first | exact Below.refl _ _ | (with_reducible assumption) | refine Below.setCell ?_ (by first | (simp; done) | (simp; omega) | (show w.heap.size ≤ wr.heap.size; omega)) _ | refine bel_trans ?_ (by with_reducible assumption) | refine bel_trans ?_ (below_regrown _ _ _) | refine bel_drew ?_ | refine bel_drewN ?_ _ | refine bel_alloc ?_ _ | refine bel_grow ?_ (by with_reducible assumption) (by omega)))⟩
    · rw [hq] at hfq hv
      rw [if_neg (by simp), if_neg (by rintro ⟨h, _⟩; exact h h3)] at hv
      clear hq h3
      have HV := Lib.hid hv; clear hv
      go_enter Tryz.func65, Tryz.ntmps65
      go_wp2_with (first | (go_at_call 19; refine (hfind _ belA).mono ?_; rintro r w1 ⟨rfl, hb1⟩; have hc1 := bcell hb1; have hf1 := bfrozen hb1; have hz1 := hb1.size; (try simp at hz1); have hy0 : w.heap.size < w1.heap.size := (by omega); have hy1 : w.heap.size + 1 < w1.heap.size := (by omega); have hyb : b < w1.heap.size := (by omega); have hyb1 : b < w1.heap.size + 1 := (by omega)) | (go_at_call 38; refine (hbase _).mono ?_; rintro r w2 ⟨rfl, hb2⟩))
      go_ret
      exact ⟨ret_int HV.out.symm, (by repeat (first | exact Below.refl _ _ | (with_reducible assumption) | refine Below.setCell ?_ (by first | (simp; done) | (simp; omega) | (show w.heap.size ≤ wr.heap.size; omega)) _ | refine bel_trans ?_ (by with_reducible assumption) | refine bel_trans ?_ (below_regrown _ _ _) | refine bel_drew ?_ | refine bel_drewN ?_ _ | refine bel_alloc ?_ _ | refine bel_grow ?_ (by with_reducible assumption) (by omega)))⟩
  have q3 : (e.kind == 3) = false := by simpa using h3
  have n3 : (e.kind != 3) = true := by simpa using h3
  have hcase : ∀ (wk : Int) (ws : ByteArray), wantC e.kind e.name v = (wk, ws) → (∀ b0 : Bool, ckEq v.ck v.cn 0 ⟨#[]⟩ = b0 → ckEq ck cn wk ws = true → (b0 = false → ownR l e.kind e.name (ck, cn) = 21) ∧ (b0 = true → ownR l e.kind e.name (ck, cn) = 0)) ∧ (ckEq ck cn wk ws = false → ownR l e.kind e.name (ck, cn) = 21) := by
    intro wk ws hw
    rw [hw] at hv
    dsimp only at hv
    refine ⟨fun b0 hb0 hq => ?_, fun hq => ?_⟩
    · rw [hq, if_neg (by simp), hb0] at hv
      refine ⟨fun h => ?_, fun h => ?_⟩
      · subst h; rw [hv, if_pos ⟨h3, rfl⟩]
      · subst h; rw [hv, if_neg (by rintro ⟨_, h⟩; simp at h)]
    · rw [hq, if_pos rfl] at hv; exact hv
  clear hv
  have HC := Lib.hid hcase; clear hcase
  by_cases h8 : e.kind = 8
  · have q8 : (e.kind == 8) = true := by rw [h8]; rfl
    have hwn : wantC e.kind e.name v = (1, e.name) := by unfold wantC; rw [if_neg h3, if_pos h8]
    clear h3 h8
    have hfq := fun w => eqClock ck cn (1) (e.name) w
    cases hq : ckEq ck cn (1) (e.name)
    · have hv := (HC.out _ _ hwn).2 hq
      rw [hq] at hfq
      clear hq hwn HC
      have HV := Lib.hid hv; clear hv
      go_enter Tryz.func65, Tryz.ntmps65
      go_wp2_with (first | (go_at_call 19; refine (hfind _ belA).mono ?_; rintro r w1 ⟨rfl, hb1⟩; have hc1 := bcell hb1; have hf1 := bfrozen hb1; have hz1 := hb1.size; (try simp at hz1); have hy0 : w.heap.size < w1.heap.size := (by omega); have hy1 : w.heap.size + 1 < w1.heap.size := (by omega); have hyb : b < w1.heap.size := (by omega); have hyb1 : b < w1.heap.size + 1 := (by omega)) | (go_at_call 38; refine (hbase _).mono ?_; rintro r w2 ⟨rfl, hb2⟩))
      go_ret
      exact ⟨ret_int HV.out.symm, (by repeat (first | exact Below.refl _ _ | (with_reducible assumption) | refine Below.setCell ?_ (by first | (simp; done) | (simp; omega) | (show w.heap.size ≤ wr.heap.size; omega)) _ | refine bel_trans ?_ (by with_reducible assumption) | refine bel_trans ?_ (below_regrown _ _ _) | refine bel_drew ?_ | refine bel_drewN ?_ _ | refine bel_alloc ?_ _ | refine bel_grow ?_ (by with_reducible assumption) (by omega)))⟩
    · have hv0 := (HC.out _ _ hwn).1
      rw [hq] at hfq
      cases hq0 : ckEq v.ck v.cn 0 ⟨#[]⟩
      · have hv := (hv0 _ hq0 hq).1 rfl
        rw [hq0] at hbase
        clear hq hq0 hv0 hwn HC
        have HV := Lib.hid hv; clear hv
        go_enter Tryz.func65, Tryz.ntmps65
        go_wp2_with (first | (go_at_call 19; refine (hfind _ belA).mono ?_; rintro r w1 ⟨rfl, hb1⟩; have hc1 := bcell hb1; have hf1 := bfrozen hb1; have hz1 := hb1.size; (try simp at hz1); have hy0 : w.heap.size < w1.heap.size := (by omega); have hy1 : w.heap.size + 1 < w1.heap.size := (by omega); have hyb : b < w1.heap.size := (by omega); have hyb1 : b < w1.heap.size + 1 := (by omega)) | (go_at_call 38; refine (hbase _).mono ?_; rintro r w2 ⟨rfl, hb2⟩))
        go_ret
        exact ⟨ret_int HV.out.symm, (by repeat (first | exact Below.refl _ _ | (with_reducible assumption) | refine Below.setCell ?_ (by first | (simp; done) | (simp; omega) | (show w.heap.size ≤ wr.heap.size; omega)) _ | refine bel_trans ?_ (by with_reducible assumption) | refine bel_trans ?_ (below_regrown _ _ _) | refine bel_drew ?_ | refine bel_drewN ?_ _ | refine bel_alloc ?_ _ | refine bel_grow ?_ (by with_reducible assumption) (by omega)))⟩
      · have hv := (hv0 _ hq0 hq).2 rfl
        rw [hq0] at hbase
        clear hq hq0 hv0 hwn HC
        have HV := Lib.hid hv; clear hv
        go_enter Tryz.func65, Tryz.ntmps65
        go_wp2_with (first | (go_at_call 19; refine (hfind _ belA).mono ?_; rintro r w1 ⟨rfl, hb1⟩; have hc1 := bcell hb1; have hf1 := bfrozen hb1; have hz1 := hb1.size; (try simp at hz1); have hy0 : w.heap.size < w1.heap.size := (by omega); have hy1 : w.heap.size + 1 < w1.heap.size := (by omega); have hyb : b < w1.heap.size := (by omega); have hyb1 : b < w1.heap.size + 1 := (by omega)) | (go_at_call 38; refine (hbase _).mono ?_; rintro r w2 ⟨rfl, hb2⟩))
        go_ret
        exact ⟨ret_int HV.out.symm, (by repeat (first | exact Below.refl _ _ | (with_reducible assumption) | refine Below.setCell ?_ (by first | (simp; done) | (simp; omega) | (show w.heap.size ≤ wr.heap.size; omega)) _ | refine bel_trans ?_ (by with_reducible assumption) | refine bel_trans ?_ (below_regrown _ _ _) | refine bel_drew ?_ | refine bel_drewN ?_ _ | refine bel_alloc ?_ _ | refine bel_grow ?_ (by with_reducible assumption) (by omega)))⟩
  have q8 : (e.kind == 8) = false := by simpa using h8
  by_cases h9 : e.kind = 9
  · have q9 : (e.kind == 9) = true := by rw [h9]; rfl
    have hwn : wantC e.kind e.name v = (2, e.name) := by unfold wantC; rw [if_neg h3, if_neg h8, if_pos h9]
    clear h3 h8 h9
    have hfq := fun w => eqClock ck cn (2) (e.name) w
    cases hq : ckEq ck cn (2) (e.name)
    · have hv := (HC.out _ _ hwn).2 hq
      rw [hq] at hfq
      clear hq hwn HC
      have HV := Lib.hid hv; clear hv
      go_enter Tryz.func65, Tryz.ntmps65
      go_wp2_with (first | (go_at_call 19; refine (hfind _ belA).mono ?_; rintro r w1 ⟨rfl, hb1⟩; have hc1 := bcell hb1; have hf1 := bfrozen hb1; have hz1 := hb1.size; (try simp at hz1); have hy0 : w.heap.size < w1.heap.size := (by omega); have hy1 : w.heap.size + 1 < w1.heap.size := (by omega); have hyb : b < w1.heap.size := (by omega); have hyb1 : b < w1.heap.size + 1 := (by omega)) | (go_at_call 38; refine (hbase _).mono ?_; rintro r w2 ⟨rfl, hb2⟩))
      go_ret
      exact ⟨ret_int HV.out.symm, (by repeat (first | exact Below.refl _ _ | (with_reducible assumption) | refine Below.setCell ?_ (by first | (simp; done) | (simp; omega) | (show w.heap.size ≤ wr.heap.size; omega)) _ | refine bel_trans ?_ (by with_reducible assumption) | refine bel_trans ?_ (below_regrown _ _ _) | refine bel_drew ?_ | refine bel_drewN ?_ _ | refine bel_alloc ?_ _ | refine bel_grow ?_ (by with_reducible assumption) (by omega)))⟩
    · have hv0 := (HC.out _ _ hwn).1
      rw [hq] at hfq
      cases hq0 : ckEq v.ck v.cn 0 ⟨#[]⟩
      · have hv := (hv0 _ hq0 hq).1 rfl
        rw [hq0] at hbase
        clear hq hq0 hv0 hwn HC
        have HV := Lib.hid hv; clear hv
        go_enter Tryz.func65, Tryz.ntmps65
        go_wp2_with (first | (go_at_call 19; refine (hfind _ belA).mono ?_; rintro r w1 ⟨rfl, hb1⟩; have hc1 := bcell hb1; have hf1 := bfrozen hb1; have hz1 := hb1.size; (try simp at hz1); have hy0 : w.heap.size < w1.heap.size := (by omega); have hy1 : w.heap.size + 1 < w1.heap.size := (by omega); have hyb : b < w1.heap.size := (by omega); have hyb1 : b < w1.heap.size + 1 := (by omega)) | (go_at_call 38; refine (hbase _).mono ?_; rintro r w2 ⟨rfl, hb2⟩))
        go_ret
        exact ⟨ret_int HV.out.symm, (by repeat (first | exact Below.refl _ _ | (with_reducible assumption) | refine Below.setCell ?_ (by first | (simp; done) | (simp; omega) | (show w.heap.size ≤ wr.heap.size; omega)) _ | refine bel_trans ?_ (by with_reducible assumption) | refine bel_trans ?_ (below_regrown _ _ _) | refine bel_drew ?_ | refine bel_drewN ?_ _ | refine bel_alloc ?_ _ | refine bel_grow ?_ (by with_reducible assumption) (by omega)))⟩
      · have hv := (hv0 _ hq0 hq).2 rfl
        rw [hq0] at hbase
        clear hq hq0 hv0 hwn HC
        have HV := Lib.hid hv; clear hv
        go_enter Tryz.func65, Tryz.ntmps65
        go_wp2_with (first | (go_at_call 19; refine (hfind _ belA).mono ?_; rintro r w1 ⟨rfl, hb1⟩; have hc1 := bcell hb1; have hf1 := bfrozen hb1; have hz1 := hb1.size; (try simp at hz1); have hy0 : w.heap.size < w1.heap.size := (by omega); have hy1 : w.heap.size + 1 < w1.heap.size := (by omega); have hyb : b < w1.heap.size := (by omega); have hyb1 : b < w1.heap.size + 1 := (by omega)) | (go_at_call 38; refine (hbase _).mono ?_; rintro r w2 ⟨rfl, hb2⟩))
        go_ret
        exact ⟨ret_int HV.out.symm, (by repeat (first | exact Below.refl _ _ | (with_reducible assumption) | refine Below.setCell ?_ (by first | (simp; done) | (simp; omega) | (show w.heap.size ≤ wr.heap.size; omega)) _ | refine bel_trans ?_ (by with_reducible assumption) | refine bel_trans ?_ (below_regrown _ _ _) | refine bel_drew ?_ | refine bel_drewN ?_ _ | refine bel_alloc ?_ _ | refine bel_grow ?_ (by with_reducible assumption) (by omega)))⟩
  have q9 : (e.kind == 9) = false := by simpa using h9
  have hwn : wantC e.kind e.name v = (0, ⟨#[]⟩) := by unfold wantC; rw [if_neg h3, if_neg h8, if_neg h9]
  clear h3 h8 h9
  have hfq := fun w => eqClock ck cn (0) (⟨#[]⟩) w
  cases hq : ckEq ck cn (0) (⟨#[]⟩)
  · have hv := (HC.out _ _ hwn).2 hq
    rw [hq] at hfq
    clear hq hwn HC
    have HV := Lib.hid hv; clear hv
    go_enter Tryz.func65, Tryz.ntmps65
    go_wp2_with (first | (go_at_call 19; refine (hfind _ belA).mono ?_; rintro r w1 ⟨rfl, hb1⟩; have hc1 := bcell hb1; have hf1 := bfrozen hb1; have hz1 := hb1.size; (try simp at hz1); have hy0 : w.heap.size < w1.heap.size := (by omega); have hy1 : w.heap.size + 1 < w1.heap.size := (by omega); have hyb : b < w1.heap.size := (by omega); have hyb1 : b < w1.heap.size + 1 := (by omega)) | (go_at_call 38; refine (hbase _).mono ?_; rintro r w2 ⟨rfl, hb2⟩))
    go_ret
    exact ⟨ret_int HV.out.symm, (by repeat (first | exact Below.refl _ _ | (with_reducible assumption) | refine Below.setCell ?_ (by first | (simp; done) | (simp; omega) | (show w.heap.size ≤ wr.heap.size; omega)) _ | refine bel_trans ?_ (by with_reducible assumption) | refine bel_trans ?_ (below_regrown _ _ _) | refine bel_drew ?_ | refine bel_drewN ?_ _ | refine bel_alloc ?_ _ | refine bel_grow ?_ (by with_reducible assumption) (by omega)))⟩
  · have hv0 := (HC.out _ _ hwn).1
    rw [hq] at hfq
    cases hq0 : ckEq v.ck v.cn 0 ⟨#[]⟩
    · have hv := (hv0 _ hq0 hq).1 rfl
      rw [hq0] at hbase
      clear hq hq0 hv0 hwn HC
      have HV := Lib.hid hv; clear hv
      go_enter Tryz.func65, Tryz.ntmps65
      go_wp2_with (first | (go_at_call 19; refine (hfind _ belA).mono ?_; rintro r w1 ⟨rfl, hb1⟩; have hc1 := bcell hb1; have hf1 := bfrozen hb1; have hz1 := hb1.size; (try simp at hz1); have hy0 : w.heap.size < w1.heap.size := (by omega); have hy1 : w.heap.size + 1 < w1.heap.size := (by omega); have hyb : b < w1.heap.size := (by omega); have hyb1 : b < w1.heap.size + 1 := (by omega)) | (go_at_call 38; refine (hbase _).mono ?_; rintro r w2 ⟨rfl, hb2⟩))
      go_ret
      exact ⟨ret_int HV.out.symm, (by repeat (first | exact Below.refl _ _ | (with_reducible assumption) | refine Below.setCell ?_ (by first | (simp; done) | (simp; omega) | (show w.heap.size ≤ wr.heap.size; omega)) _ | refine bel_trans ?_ (by with_reducible assumption) | refine bel_trans ?_ (below_regrown _ _ _) | refine bel_drew ?_ | refine bel_drewN ?_ _ | refine bel_alloc ?_ _ | refine bel_grow ?_ (by with_reducible assumption) (by omega)))⟩
    · have hv := (hv0 _ hq0 hq).2 rfl
      rw [hq0] at hbase
      clear hq hq0 hv0 hwn HC
      have HV := Lib.hid hv; clear hv
      go_enter Tryz.func65, Tryz.ntmps65
      go_wp2_with (first | (go_at_call 19; refine (hfind _ belA).mono ?_; rintro r w1 ⟨rfl, hb1⟩; have hc1 := bcell hb1; have hf1 := bfrozen hb1; have hz1 := hb1.size; (try simp at hz1); have hy0 : w.heap.size < w1.heap.size := (by omega); have hy1 : w.heap.size + 1 < w1.heap.size := (by omega); have hyb : b < w1.heap.size := (by omega); have hyb1 : b < w1.heap.size + 1 := (by omega)) | (go_at_call 38; refine (hbase _).mono ?_; rintro r w2 ⟨rfl, hb2⟩))
      go_ret
      exact ⟨ret_int HV.out.symm, (by repeat (first | exact Below.refl _ _ | (with_reducible assumption) | refine Below.setCell ?_ (by first | (simp; done) | (simp; omega) | (show w.heap.size ≤ wr.heap.size; omega)) _ | refine bel_trans ?_ (by with_reducible assumption) | refine bel_trans ?_ (below_regrown _ _ _) | refine bel_drew ?_ | refine bel_drewN ?_ _ | refine bel_alloc ?_ _ | refine bel_grow ?_ (by with_reducible assumption) (by omega)))⟩

end Go.Proofs.YtikmbkojnfmiaaaGreatDoorRRRR

/- Walks over the reference's clocks: Within. -/
namespace Go.Proofs.YtikmbkojnfmiaaaGreatDoorRRRR
open Go.RowKit Go.Sort

theorem clkinfo : (Tryz.prog.info? 41).map (fun i => (i.zero, i.size, i.bytes)) = some (some (.agg #[.int .i64 0, .string ⟨#[]⟩]), 2, 24) := by kernel_rfl

/-- The cells of the parts' clocks. -/
def withV (k : Int) (s : ByteArray) (c : Int × ByteArray) (i : Nat) : List Value := [.int .i64 (withC k s c i).1, .string (withC k s c i).2]
def withVs (k : Int) (s : ByteArray) (c : Int × ByteArray) (n : Nat) : List Value := (List.range n).flatMap (withV k s c)
theorem withVs_snoc (k : Int) (s : ByteArray) (c : Int × ByteArray) (n : Nat) : withVs k s c (n + 1) = withVs k s c n ++ withV k s c n := by
  unfold withVs; rw [List.range_succ, List.flatMap_append]; simp
theorem withVs_len (k : Int) (s : ByteArray) (c : Int × ByteArray) (n : Nat) : (withVs k s c n).length = n * 2 := by
  induction n with
  | zero => rfl
  | succ n ih => rw [withVs_snoc, List.length_append, ih]; simp [withV]; omega
theorem withVs_at (k : Int) (s : ByteArray) (c : Int × ByteArray) {n i : Nat} (hi : i < n) : (withVs k s c n)[i * 2]? = some (.int .i64 (withC k s c i).1) ∧ (withVs k s c n)[i * 2 + 1]? = some (.string (withC k s c i).2) := by
  induction n with
  | zero => omega
  | succ n ih =>
    rw [withVs_snoc]
    have hl := withVs_len k s c n
    rcases Nat.lt_or_ge i n with h | h
    · rw [List.getElem?_append_left (by omega), List.getElem?_append_left (by omega)]
      exact ih h
    · obtain rfl : i = n := by omega
      rw [List.getElem?_append_right (by omega), List.getElem?_append_right (by omega), hl]
      simp [withV]

set_option maxHeartbeats 4000000 in
theorem within_any (e : Ex) (Ae : Option Addr) (ce : Nat) (ck : Int) (cn : ByteArray) (w : World) (hn : e.sub.length ≤ 1000000) :
    Calls Tryz.prog 66 #[exV e Ae ce, .agg #[.int .i64 ck, .string cn]] w fun r w' => (∃ v, r = .returned v ∧ w'.ownsRow w.heap.size 41 2 v e.sub.length (withVs e.kind e.name (ck, cn) e.sub.length)) ∧ Below w.heap.size w w' := by
  unfold exV
  by_cases h10 : e.kind = 10
  · have q8 : (e.kind == 8) = false := by rw [h10]; rfl
    have q9 : (e.kind == 9) = false := by rw [h10]; rfl
    have q10 : (e.kind == 10) = true := by rw [h10]; rfl
    have hw : ∀ i : Nat, withV e.kind e.name (ck, cn) i = [.int .i64 (1 + (i : Int)), .string e.name] := fun i => by unfold withV withC; rw [if_pos h10]
    clear h10
    have HW := Lib.hid hw; clear hw
    go_enter Tryz.func66, Tryz.ntmps66
    go_wp2_with fail
    refine wp_name fun W0 hW0 => ?_
    have hb0 : Below w.heap.size w W0 := by rw [hW0]; exact belA
    have hz0 : w.heap.size < W0.heap.size := by rw [hW0]; first | omega | (simp; done) | (simp; omega)
    have p0 : W0.cell? ⟨w.heap.size, 0, none⟩ = some (.int .i64 e.kind) := by rw [hW0]; go_simp
    have p2 : W0.cell? ⟨w.heap.size, 2, none⟩ = some (.string e.name) := by rw [hW0]; go_simp
    have p3 : W0.cell? ⟨w.heap.size, 3, none⟩ = some (.slice Ae e.sub.length ce) := by rw [hW0]; go_simp
    have c0 : W0.cell? ⟨w.heap.size + 1, 0, none⟩ = some (.int .i64 ck) := by rw [hW0]; go_simp
    have c1 : W0.cell? ⟨w.heap.size + 1, 1, none⟩ = some (.string cn) := by rw [hW0]; go_simp
    have hz0' : w.heap.size + 1 < W0.heap.size := by rw [hW0]; first | omega | (simp; done) | (simp; omega)
    clear hW0
    go_loopw [5, 6] (fun v i wr => ∃ (k : Nat), k ≤ e.sub.length ∧ i = .int .i64 k ∧ wr.ownsRow W0.heap.size 41 2 v k (withVs e.kind e.name (ck, cn) k) ∧ Below W0.heap.size W0 wr) (fun _ i _ => e.sub.length - (intOf i).toNat)
    case atStart => exact ⟨0, Nat.zero_le _, rfl, World.ownsRow_nil _ _ _ _, Below.refl _ _⟩
    case round =>
      obtain ⟨k, hk, rfl, hown, hbel⟩ := hrel
      have hc := bcell hbel
      have hzr := hbel.size
      have hr0 : w.heap.size < wr.heap.size := by omega
      have hr1 : w.heap.size + 1 < wr.heap.size := by omega
      by_cases hlt : k < e.sub.length
      · go_wp2_with (first | (at_builtin; (refine wpList_app rfl (.tmp 33) (.tmp 35) 98 rfl W0.heap.size 41 _ 2 24 Tryz.underlying98 clkinfo rfl (by omega) u5 k (withVs e.kind e.name (ck, cn) k) _ 1 [.int .i64 (1 + (k : Int)), .string e.name] rfl (by repeat (first | (with_reducible assumption) | refine own_alloc ?_ | refine own_apart ?_ (fun b hb => by have := (hown.lt b hb).2; omega) _ _)) rfl rfl (fun j u hj => by rw [cell_new' (by simp)]; simpa using hj) (by simp [Value.oneCell']) (by omega) (by omega) (by first | omega | (simp; omega)) ?_; intro v2 w2 hown2 hb2; have hz2 := hb2.size; (try simp at hz2))))
        go_roundw
        case rel => exact ⟨k + 1, by omega, by go_num, by rw [withVs_snoc, HW.out]; exact hown2, (by repeat (first | exact Below.refl _ _ | (with_reducible assumption) | refine bel_grow ?_ (by with_reducible assumption) (by omega) | refine Below.setCell ?_ (by show W0.heap.size ≤ wr.heap.size; omega) _ | refine bel_trans ?_ (by with_reducible assumption) | refine bel_alloc ?_ _))⟩
        case measure => simp [intOf]; omega
      · obtain rfl : k = e.sub.length := by omega
        go_wp2_with fail
        go_ret
        exact ⟨⟨_, rfl, own_less hown (by omega)⟩, belA⟩
  have q10 : (e.kind == 10) = false := by simpa using h10
  by_cases h8 : e.kind = 8
  · have q8 : (e.kind == 8) = true := by rw [h8]; rfl
    have hw : ∀ i : Nat, withV e.kind e.name (ck, cn) i = [.int .i64 0, .string ⟨#[]⟩] := fun i => by unfold withV withC; rw [if_neg h10, if_pos (.inl h8)]
    clear h10 h8
    have HW := Lib.hid hw; clear hw
    go_enter Tryz.func66, Tryz.ntmps66
    go_wp2_with fail
    refine wp_name fun W0 hW0 => ?_
    have hb0 : Below w.heap.size w W0 := by rw [hW0]; exact belA
    have hz0 : w.heap.size < W0.heap.size := by rw [hW0]; first | omega | (simp; done) | (simp; omega)
    have p0 : W0.cell? ⟨w.heap.size, 0, none⟩ = some (.int .i64 e.kind) := by rw [hW0]; go_simp
    have p2 : W0.cell? ⟨w.heap.size, 2, none⟩ = some (.string e.name) := by rw [hW0]; go_simp
    have p3 : W0.cell? ⟨w.heap.size, 3, none⟩ = some (.slice Ae e.sub.length ce) := by rw [hW0]; go_simp
    have c0 : W0.cell? ⟨w.heap.size + 1, 0, none⟩ = some (.int .i64 ck) := by rw [hW0]; go_simp
    have c1 : W0.cell? ⟨w.heap.size + 1, 1, none⟩ = some (.string cn) := by rw [hW0]; go_simp
    have hz0' : w.heap.size + 1 < W0.heap.size := by rw [hW0]; first | omega | (simp; done) | (simp; omega)
    clear hW0
    go_loopw [5, 6] (fun v i wr => ∃ (k : Nat), k ≤ e.sub.length ∧ i = .int .i64 k ∧ wr.ownsRow W0.heap.size 41 2 v k (withVs e.kind e.name (ck, cn) k) ∧ Below W0.heap.size W0 wr) (fun _ i _ => e.sub.length - (intOf i).toNat)
    case atStart => exact ⟨0, Nat.zero_le _, rfl, World.ownsRow_nil _ _ _ _, Below.refl _ _⟩
    case round =>
      obtain ⟨k, hk, rfl, hown, hbel⟩ := hrel
      have hc := bcell hbel
      have hzr := hbel.size
      have hr0 : w.heap.size < wr.heap.size := by omega
      have hr1 : w.heap.size + 1 < wr.heap.size := by omega
      by_cases hlt : k < e.sub.length
      · go_wp2_with (first | (at_builtin; (refine wpList_app rfl (.tmp 33) (.tmp 35) 98 rfl W0.heap.size 41 _ 2 24 Tryz.underlying98 clkinfo rfl (by omega) u5 k (withVs e.kind e.name (ck, cn) k) _ 1 [.int .i64 0, .string ⟨#[]⟩] rfl (by repeat (first | (with_reducible assumption) | refine own_alloc ?_ | refine own_apart ?_ (fun b hb => by have := (hown.lt b hb).2; omega) _ _)) rfl rfl (fun j u hj => by rw [cell_new' (by simp)]; simpa using hj) (by simp [Value.oneCell']) (by omega) (by omega) (by first | omega | (simp; omega)) ?_; intro v2 w2 hown2 hb2; have hz2 := hb2.size; (try simp at hz2))))
        go_roundw
        case rel => exact ⟨k + 1, by omega, by go_num, by rw [withVs_snoc, HW.out]; exact hown2, (by repeat (first | exact Below.refl _ _ | (with_reducible assumption) | refine bel_grow ?_ (by with_reducible assumption) (by omega) | refine Below.setCell ?_ (by show W0.heap.size ≤ wr.heap.size; omega) _ | refine bel_trans ?_ (by with_reducible assumption) | refine bel_alloc ?_ _))⟩
        case measure => simp [intOf]; omega
      · obtain rfl : k = e.sub.length := by omega
        go_wp2_with fail
        go_ret
        exact ⟨⟨_, rfl, own_less hown (by omega)⟩, belA⟩
  have q8 : (e.kind == 8) = false := by simpa using h8
  by_cases h9 : e.kind = 9
  · have q9 : (e.kind == 9) = true := by rw [h9]; rfl
    have hw : ∀ i : Nat, withV e.kind e.name (ck, cn) i = [.int .i64 0, .string ⟨#[]⟩] := fun i => by unfold withV withC; rw [if_neg h10, if_pos (.inr h9)]
    clear h10 h8 h9
    have HW := Lib.hid hw; clear hw
    go_enter Tryz.func66, Tryz.ntmps66
    go_wp2_with fail
    refine wp_name fun W0 hW0 => ?_
    have hb0 : Below w.heap.size w W0 := by rw [hW0]; exact belA
    have hz0 : w.heap.size < W0.heap.size := by rw [hW0]; first | omega | (simp; done) | (simp; omega)
    have p0 : W0.cell? ⟨w.heap.size, 0, none⟩ = some (.int .i64 e.kind) := by rw [hW0]; go_simp
    have p2 : W0.cell? ⟨w.heap.size, 2, none⟩ = some (.string e.name) := by rw [hW0]; go_simp
    have p3 : W0.cell? ⟨w.heap.size, 3, none⟩ = some (.slice Ae e.sub.length ce) := by rw [hW0]; go_simp
    have c0 : W0.cell? ⟨w.heap.size + 1, 0, none⟩ = some (.int .i64 ck) := by rw [hW0]; go_simp
    have c1 : W0.cell? ⟨w.heap.size + 1, 1, none⟩ = some (.string cn) := by rw [hW0]; go_simp
    have hz0' : w.heap.size + 1 < W0.heap.size := by rw [hW0]; first | omega | (simp; done) | (simp; omega)
    clear hW0
    go_loopw [5, 6] (fun v i wr => ∃ (k : Nat), k ≤ e.sub.length ∧ i = .int .i64 k ∧ wr.ownsRow W0.heap.size 41 2 v k (withVs e.kind e.name (ck, cn) k) ∧ Below W0.heap.size W0 wr) (fun _ i _ => e.sub.length - (intOf i).toNat)
    case atStart => exact ⟨0, Nat.zero_le _, rfl, World.ownsRow_nil _ _ _ _, Below.refl _ _⟩
    case round =>
      obtain ⟨k, hk, rfl, hown, hbel⟩ := hrel
      have hc := bcell hbel
      have hzr := hbel.size
      have hr0 : w.heap.size < wr.heap.size := by omega
      have hr1 : w.heap.size + 1 < wr.heap.size := by omega
      by_cases hlt : k < e.sub.length
      · go_wp2_with (first | (at_builtin; (refine wpList_app rfl (.tmp 33) (.tmp 35) 98 rfl W0.heap.size 41 _ 2 24 Tryz.underlying98 clkinfo rfl (by omega) u5 k (withVs e.kind e.name (ck, cn) k) _ 1 [.int .i64 0, .string ⟨#[]⟩] rfl (by repeat (first | (with_reducible assumption) | refine own_alloc ?_ | refine own_apart ?_ (fun b hb => by have := (hown.lt b hb).2; omega) _ _)) rfl rfl (fun j u hj => by rw [cell_new' (by simp)]; simpa using hj) (by simp [Value.oneCell']) (by omega) (by omega) (by first | omega | (simp; omega)) ?_; intro v2 w2 hown2 hb2; have hz2 := hb2.size; (try simp at hz2))))
        go_roundw
        case rel => exact ⟨k + 1, by omega, by go_num, by rw [withVs_snoc, HW.out]; exact hown2, (by repeat (first | exact Below.refl _ _ | (with_reducible assumption) | refine bel_grow ?_ (by with_reducible assumption) (by omega) | refine Below.setCell ?_ (by show W0.heap.size ≤ wr.heap.size; omega) _ | refine bel_trans ?_ (by with_reducible assumption) | refine bel_alloc ?_ _))⟩
        case measure => simp [intOf]; omega
      · obtain rfl : k = e.sub.length := by omega
        go_wp2_with fail
        go_ret
        exact ⟨⟨_, rfl, own_less hown (by omega)⟩, belA⟩
  have q9 : (e.kind == 9) = false := by simpa using h9
  have hw : ∀ i : Nat, withV e.kind e.name (ck, cn) i = [.int .i64 ck, .string cn] := fun i => by unfold withV withC; rw [if_neg h10, if_neg (by omega)]
  clear h10 h8 h9
  have HW := Lib.hid hw; clear hw
  go_enter Tryz.func66, Tryz.ntmps66
  go_wp2_with fail
  refine wp_name fun W0 hW0 => ?_
  have hb0 : Below w.heap.size w W0 := by rw [hW0]; exact belA
  have hz0 : w.heap.size < W0.heap.size := by rw [hW0]; first | omega | (simp; done) | (simp; omega)
  have p0 : W0.cell? ⟨w.heap.size, 0, none⟩ = some (.int .i64 e.kind) := by rw [hW0]; go_simp
  have p2 : W0.cell? ⟨w.heap.size, 2, none⟩ = some (.string e.name) := by rw [hW0]; go_simp
  have p3 : W0.cell? ⟨w.heap.size, 3, none⟩ = some (.slice Ae e.sub.length ce) := by rw [hW0]; go_simp
  have c0 : W0.cell? ⟨w.heap.size + 1, 0, none⟩ = some (.int .i64 ck) := by rw [hW0]; go_simp
  have c1 : W0.cell? ⟨w.heap.size + 1, 1, none⟩ = some (.string cn) := by rw [hW0]; go_simp
  have hz0' : w.heap.size + 1 < W0.heap.size := by rw [hW0]; first | omega | (simp; done) | (simp; omega)
  clear hW0
  go_loopw [5, 6] (fun v i wr => ∃ (k : Nat), k ≤ e.sub.length ∧ i = .int .i64 k ∧ wr.ownsRow W0.heap.size 41 2 v k (withVs e.kind e.name (ck, cn) k) ∧ Below W0.heap.size W0 wr) (fun _ i _ => e.sub.length - (intOf i).toNat)
  case atStart => exact ⟨0, Nat.zero_le _, rfl, World.ownsRow_nil _ _ _ _, Below.refl _ _⟩
  case round =>
    obtain ⟨k, hk, rfl, hown, hbel⟩ := hrel
    have hc := bcell hbel
    have hzr := hbel.size
    have hr0 : w.heap.size < wr.heap.size := by omega
    have hr1 : w.heap.size + 1 < wr.heap.size := by omega
    by_cases hlt : k < e.sub.length
    · go_wp2_with (first | (at_builtin; (refine wpList_app rfl (.tmp 33) (.tmp 35) 98 rfl W0.heap.size 41 _ 2 24 Tryz.underlying98 clkinfo rfl (by omega) u5 k (withVs e.kind e.name (ck, cn) k) _ 1 [.int .i64 ck, .string cn] rfl (by repeat (first | (with_reducible assumption) | refine own_alloc ?_ | refine own_apart ?_ (fun b hb => by have := (hown.lt b hb).2; omega) _ _)) rfl rfl (fun j u hj => by rw [cell_new' (by simp)]; simpa using hj) (by simp [Value.oneCell']) (by omega) (by omega) (by first | omega | (simp; omega)) ?_; intro v2 w2 hown2 hb2; have hz2 := hb2.size; (try simp at hz2))))
      go_roundw
      case rel => exact ⟨k + 1, by omega, by go_num, by rw [withVs_snoc, HW.out]; exact hown2, (by repeat (first | exact Below.refl _ _ | (with_reducible assumption) | refine bel_grow ?_ (by with_reducible assumption) (by omega) | refine Below.setCell ?_ (by show W0.heap.size ≤ wr.heap.size; omega) _ | refine bel_trans ?_ (by with_reducible assumption) | refine bel_alloc ?_ _))⟩
      case measure => simp [intOf]; omega
    · obtain rfl : k = e.sub.length := by omega
      go_wp2_with fail
      go_ret
      exact ⟨⟨_, rfl, own_less hown (by omega)⟩, belA⟩

end Go.Proofs.YtikmbkojnfmiaaaGreatDoorRRRR

/- Walks over the reference's clocks: of, Of. -/
namespace Go.Proofs.YtikmbkojnfmiaaaGreatDoorRRRR
open Go.RowKit Go.Sort

/-- The contract of the reference's of. -/
def RclkP (l : List Va) (A : Option Addr) (cap : Nat) (x : Ex) : Prop := ∀ (A' : Option Addr) (c' : Nat) (ck : Int) (cn : ByteArray) (W : World), SubsAt W x A' c' → VarsAt W l A cap →
    Calls Tryz.prog 51 #[exV x A' c', .agg #[.int .i64 ck, .string cn], .slice A l.length cap] W fun r w' => r = .returned (.int .i64 (x.clk l (ck, cn))) ∧ Below W.heap.size W w'

set_option maxHeartbeats 4000000 in
theorem rclk_any (e : Ex) : e.formed = true → ∀ (l : List Va) (A : Option Addr) (cap : Nat), RclkP l A cap e := by
  induction e using Ex.ind with
  | h e ih0 =>
  intro hf l A cap Ae ce ck cn w he hl
  have ih : ∀ x ∈ e.sub, RclkP l A cap x := fun x hx => ih0 x hx (Ex.formed_sub hf hx) l A cap
  have hR := Lib.hid (clkR_eq (l := l) hf (ck, cn))
  have hl3 : e.sub.length ≤ 3 := by
    have hlen := (Ex.formed_kind hf).1
    unfold formK at hlen
    repeat' split at hlen
    all_goals first | omega | (simp at hlen; omega)
  have hown := fun W h => refOwn_any e Ae ce ck cn l A cap W (hl.later h)
  have hwith := fun W => within_any e Ae ce ck cn W (by omega)
  have hlen := he.len
  unfold maxLen at hlen
  obtain ⟨hl1, hl2⟩ := hlen
  clear ih0 hf
  unfold exV at *
  generalize hf0 : ownR l e.kind e.name (ck, cn) = f0 at *
  clear hf0
  go_enter Tryz.func51, Tryz.ntmps51
  go_wp2_with (first | (go_at_call 65; refine (hown _ belA).mono ?_; rintro r w1 ⟨rfl, hb1⟩; have hc1 := bcell hb1; have hz1 := hb1.size; (try simp at hz1); have hy0 : w.heap.size < w1.heap.size := (by omega); have hy1 : w.heap.size + 1 < w1.heap.size := (by omega)) | (go_at_call 66; refine (hwith _).mono ?_; rintro r w2 ⟨⟨v, rfl, hrow⟩, hb2⟩; have hc2 := bcell hb2; have hz2 := hb2.size; have hy2 : w.heap.size < w2.heap.size := (by omega); have hy3 : w.heap.size + 1 < w2.heap.size := (by omega)))
  refine wp_name fun W0 hW0 => ?_
  have hb0 : Below w.heap.size w W0 := by rw [hW0]; exact belA
  have hz0 : w.heap.size < W0.heap.size := by rw [hW0]; first | omega | (simp; done) | (simp; omega)
  have p3 : W0.cell? ⟨w.heap.size, 3, none⟩ = some (.slice Ae e.sub.length ce) := by rw [hW0]; go_simp
  have hrow0 : W0.ownsRow w1.heap.size 41 2 v e.sub.length (withVs e.kind e.name (ck, cn) e.sub.length) := by rw [hW0]; exact hrow
  clear hW0 hc1 hc2 hrow
  have he0 := he.later hb0
  have hl0 := hl.later hb0
  go_loopw [7, 9] (fun f i wr => ∃ (k : Nat) (g : Int), k ≤ e.sub.length ∧ i = .int .i64 k ∧ f = .int .i64 g ∧ (if g ≠ 0 then g else clkW l e.kind e.name (ck, cn) k (e.sub.drop k)) = e.clk l (ck, cn) ∧ Below W0.heap.size W0 wr) (fun _ i _ => e.sub.length - (intOf i).toNat)
  case atStart => exact ⟨0, f0, Nat.zero_le _, rfl, rfl, by rw [hR.out]; rfl, Below.refl _ _⟩
  case round =>
    obtain ⟨k, g, hk, rfl, rfl, hrem, hbel⟩ := hrel
    have hc := bcell hbel
    have hzr := hbel.size
    have hr0 : w.heap.size < wr.heap.size := by omega
    by_cases hg : g = 0
    · have g0 : (g == 0) = true := by simpa using hg
      rw [if_neg (by omega)] at hrem
      by_cases hlt : k < e.sub.length
      · have hx : e.sub[k]? = some e.sub[k] := List.getElem?_eq_getElem hlt
        have hmem : e.sub[k] ∈ e.sub := List.getElem_mem hlt
        have hd : e.sub.drop k = e.sub[k] :: e.sub.drop (k + 1) := List.drop_eq_getElem_cons hlt
        generalize e.sub[k] = x at hx hmem hd
        obtain ⟨b, off, A', cap', rfl, c0, c1, c2, c3, hs⟩ := (he0.later hbel).get hx
        have hbw : b < wr.heap.size := block_lt_of_cell c0
        rw [hd, clkW] at hrem
        obtain ⟨gb, gc, rfl, hg1, hg2, hg3, hg4, hcells⟩ := own_get (own_bel hrow0 hbel) (by omega)
        have hat := withVs_at e.kind e.name (ck, cn) hlt
        have e0 := hcells _ _ hat.1
        have e1 := hcells _ _ hat.2
        unfold maxLen at hg4
        generalize withC e.kind e.name (ck, cn) k = wc at hrem e0 e1
        obtain ⟨wk, ws⟩ := wc
        dsimp only at hrem e0 e1
        have hof := fun W h => ih x hmem A' cap' wk ws W (hs.later h) ((hl0.later hbel).later h)
        unfold exV at hof
        have hkn : k < e.sub.length := hlt
        clear hd hx hat hcells hg
        by_cases hz : x.clk l (wk, ws) = 0
        · rw [if_neg (by omega)] at hrem
          have HR := Lib.hid hrem; clear hrem
          have HZ := Lib.hid hz; clear hz
          go_wp2_with fail
          refine wp_region_qb (by kernel_rfl) (by kernel_rfl) (fun hgq => ?_)
          repeat (quiet_step ((first | (go_at_call 51; exact Calls.regrown_of (hof _ belA)))))
          refine wpQuiet_nil ?_
          intro wq hwq
          replace hwq := bel_of_class hwq
          clear hgq
          have hcq := bcell hwq
          have hzq := hwq.size
          (try simp at hzq)
          (try have hyq1 := lt0 w wq); (try have hyq2 := ltA w 1 wq); (try have hyq3 := ltA w 2 wq); (try have hyq4 := lt0 wr wq)
          go_wp2_with fail
          go_roundw
          case rel => exact ⟨k + 1, x.clk l (wk, ws), by omega, by go_num, rfl, by rw [if_neg (by have := HZ.out; omega)]; exact HR.out, belA⟩
          case measure => simp [intOf]; omega
        · rw [if_pos hz] at hrem
          have HR := Lib.hid hrem; clear hrem
          have HZ := Lib.hid hz; clear hz
          go_wp2_with fail
          refine wp_region_qb (by kernel_rfl) (by kernel_rfl) (fun hgq => ?_)
          repeat (quiet_step ((first | (go_at_call 51; exact Calls.regrown_of (hof _ belA)))))
          refine wpQuiet_nil ?_
          intro wq hwq
          replace hwq := bel_of_class hwq
          clear hgq
          have hcq := bcell hwq
          have hzq := hwq.size
          (try simp at hzq)
          (try have hyq1 := lt0 w wq); (try have hyq2 := ltA w 1 wq); (try have hyq3 := ltA w 2 wq); (try have hyq4 := lt0 wr wq)
          go_wp2_with fail
          go_roundw
          case rel => exact ⟨k + 1, x.clk l (wk, ws), by omega, by go_num, rfl, by rw [if_pos HZ.out]; exact HR.out, belA⟩
          case measure => simp [intOf]; omega
      · obtain rfl : k = e.sub.length := by omega
        rw [List.drop_length, clkW] at hrem
        subst hg
        have HR := Lib.hid hrem; clear hrem
        go_wp2_with fail
        go_ret
        exact ⟨ret_int HR.out, belA⟩
    · have g0 : (g == 0) = false := by simpa using hg
      rw [if_pos hg] at hrem
      have HR := Lib.hid hrem; clear hrem hg
      by_cases hlt : k < e.sub.length
      · go_wp2_with fail
        go_ret
        exact ⟨ret_int HR.out, belA⟩
      · go_wp2_with fail
        go_ret
        exact ⟨ret_int HR.out, belA⟩

set_option maxHeartbeats 1000000 in
theorem refClkOf_any (e : Ex) (hok : e.OK) (Ae : Option Addr) (ce : Nat) (ck : Int) (cn : ByteArray) (l : List Va) (A : Option Addr) (cap : Nat) (w : World) (he : SubsAt w e Ae ce) (hl : VarsAt w l A cap) :
    Calls Tryz.prog 39 #[exV e Ae ce, .agg #[.int .i64 ck, .string cn], .slice A l.length cap] w fun r w' => r = .returned (.int .i64 (clkOf l e (ck, cn))) ∧ Below w.heap.size w w' := by
  have hright := fun W h => refRight_any e Ae ce W (he.later h) hok
  clear hok
  by_cases hr : e.right = 0
  · have hof := fun W h1 h2 => rclk_any e ((Ex.right_zero.1 hr).2.2) l A cap Ae ce ck cn W h1 h2
    have hv : clkOf l e (ck, cn) = e.clk l (ck, cn) := by unfold clkOf; rw [if_neg (by omega)]
    have h1 : (e.right != 0) = false := by simpa using hr
    clear hr
    have HV := Lib.hid hv; clear hv
    unfold exV at *
    go_enter Tryz.func39, Tryz.ntmps39
    go_wp2_with (first | (go_at_call 50; refine (hright _ belA).mono ?_; rintro r w1 ⟨rfl, hb1⟩; have hc1 := bcell hb1; have hz1 := hb1.size; (try simp at hz1); (try have hy1 := lt0 w w1); (try have hy2 := ltA w 1 w1); (try have hy3 := ltA w 2 w1); (try have hy4 := lt0 wr w1); (try have hy5 := ltA wr 1 w1)) | (go_at_call 51; refine (hof _ (he.later belA) (hl.later belA)).mono ?_; rintro r wc ⟨rfl, hbc⟩))
    go_ret
    exact ⟨ret_int HV.out.symm, belA⟩
  · have hv : clkOf l e (ck, cn) = e.right := by unfold clkOf; rw [if_pos hr]
    have h1 : (e.right != 0) = true := by simpa using hr
    clear hr
    have HV := Lib.hid hv; clear hv
    unfold exV at *
    go_enter Tryz.func39, Tryz.ntmps39
    go_wp2_with (first | (go_at_call 50; refine (hright _ belA).mono ?_; rintro r w1 ⟨rfl, hb1⟩; have hc1 := bcell hb1; have hz1 := hb1.size; (try simp at hz1); (try have hy1 := lt0 w w1); (try have hy2 := ltA w 1 w1); (try have hy3 := ltA w 2 w1); (try have hy4 := lt0 wr w1); (try have hy5 := ltA wr 1 w1)))
    go_ret
    exact ⟨ret_int HV.out.symm, belA⟩

end Go.Proofs.YtikmbkojnfmiaaaGreatDoorRRRR

/- Walk over the reference's Check of clocks. -/
namespace Go.Proofs.YtikmbkojnfmiaaaGreatDoorRRRR
open Go.RowKit Go.Sort

set_option maxHeartbeats 4000000 in
set_option maxRecDepth 100000 in
theorem rclkCheck_fault (p : Pr) (a : PrA) (w : World) (hp : PrAt w p a) (hok : PrOK p) (n1 : p.ins.length ≤ 1000000) (n2 : p.outs.length ≤ 1000000) (n3 : p.locals.length ≤ 1000000) (n4 : p.eqs.length ≤ 1000000) (hck : checkF p ≠ (0, 0, 0)) :
    Calls Tryz.prog 30 #[prV p a] w fun r w' => r = .returned (fV (checkF p)) ∧ Below w.heap.size w w' := by
  have hcheck := fun W h => rcheck_any p a W (hp.later h) hok n1 n2 n3 n4
  have he : ((checkF p).2.2 != 0) = true := by simpa using check_E hck
  clear hck hok
  obtain ⟨A1, c1, A2, c2, A3, c3, A4, c4⟩ := a
  unfold prV fV at *
  dsimp only at *
  generalize checkF p = f at *
  obtain ⟨f0, f1, f2⟩ := f
  dsimp only at *
  go_enter Tryz.func30, Tryz.ntmps30
  go_wp2_with (first | (go_at_call 37; refine (hcheck _ belA).mono ?_; rintro r wa ⟨rfl, hba⟩; have hca := bcell hba; have hfa := bfrozen hba; have hza : w.heap.size + 2 ≤ wa.heap.size := (by have := hba.size; simpa using this); have hya : w.heap.size < wa.heap.size := (by omega); have hya1 : w.heap.size + 1 < wa.heap.size := (by omega)))
  refine bodyPost_ret (v := .agg #[.int .i64 f0, .int .i64 f1, .int .i64 f2]) (by simp [results, Tryz.results30, go_sem, *]) rfl ⟨rfl, ?_⟩
  exact belS

end Go.Proofs.YtikmbkojnfmiaaaGreatDoorRRRR

/- Walk over the reference's Check of clocks: the loops. -/
namespace Go.Proofs.YtikmbkojnfmiaaaGreatDoorRRRR
open Go.RowKit Go.Sort

set_option maxHeartbeats 8000000 in
set_option maxRecDepth 100000 in
theorem rclkCheck_clean (p : Pr) (a : PrA) (w : World) (hp : PrAt w p a) (hok : PrOK p) (n1 : p.ins.length ≤ 1000000) (n2 : p.outs.length ≤ 1000000) (n3 : p.locals.length ≤ 1000000) (n4 : p.eqs.length ≤ 1000000) (hck : checkF p = (0, 0, 0)) :
    Calls Tryz.prog 30 #[prV p a] w fun r w' => r = .returned (fV (clkF p)) ∧ Below w.heap.size w w' := by
  have hv0 : clkF p = clkVF p (clkGoV (varsOf p) 0 (varsOf p)) := by unfold clkF; rw [if_neg (by rw [hck]; simp)]
  obtain ⟨hpe, hL24⟩ := check_zero hck
  have hqs := (whole_parts (whole_of_print hpe)).2.2.2.2
  have hfnd := Lib.hid (check_found hck)
  have hcheck := fun W h => rcheck_any p a W (hp.later h) hok n1 n2 n3 n4
  have hvars := fun W h => refVars_any p a W (hp.later h) n1 n2 n3
  rw [hck] at hcheck
  clear hck hpe
  have HV0 := Lib.hid hv0; clear hv0
  have HQS := Lib.hid hqs; clear hqs
  have HOK := Lib.hid hok.eqs; clear hok
  have hp4 := hp.eqs
  have hlq := hp.eqs.len
  obtain ⟨A1, c1, A2, c2, A3, c3, A4, c4⟩ := a
  unfold maxLen at hlq
  unfold prV fV at *
  dsimp only at *
  obtain ⟨hlq1, hlq2⟩ := hlq
  have hqf : clkVF p none = clkQF (clkGoQ (varsOf p) 0 p.eqs) := rfl
  have HQF := Lib.hid hqf; clear hqf
  generalize hL : varsOf p = L at *
  clear hL hp
  go_enter Tryz.func30, Tryz.ntmps30
  go_wp2_with (first | (go_at_call 37; refine (hcheck _ belA).mono ?_; rintro r wa ⟨rfl, hba⟩; have hca := bcell hba; have hfa := bfrozen hba; have hza : w.heap.size + 2 ≤ wa.heap.size := (by have := hba.size; simpa using this); have hya : w.heap.size < wa.heap.size := (by omega); have hya1 : w.heap.size + 1 < wa.heap.size := (by omega)) | (go_at_call 18; refine (hvars _ belA).mono ?_; rintro r wb ⟨⟨A, cap, rfl, hown⟩, hbb⟩; have hcb := bcell hbb; have hfb := bfrozen hbb; have hzb := hbb.size; (try simp at hzb); have hyb : w.heap.size < wb.heap.size := (by omega); have hyb1 : w.heap.size + 1 < wb.heap.size := (by omega); have hva := VarsAt.of_own hown))
  refine wp_name fun W0 hW0 => ?_
  have hb0 : Below w.heap.size w W0 := by rw [hW0]; exact belA
  have hz0 : w.heap.size < W0.heap.size := by rw [hW0]; omega
  have hz1 : w.heap.size + 1 < W0.heap.size := by rw [hW0]; omega
  have x4 : W0.cell? ⟨w.heap.size, 4, none⟩ = some (.slice A4 p.eqs.length c4) := by rw [hW0]; go_simp
  have f0 : W0.cell? ⟨w.heap.size + 1, 0, none⟩ = some (.int .i64 0) := by rw [hW0]; go_simp
  have f1 : W0.cell? ⟨w.heap.size + 1, 1, none⟩ = some (.int .i64 0) := by rw [hW0]; go_simp
  have f2 : W0.cell? ⟨w.heap.size + 1, 2, none⟩ = some (.int .i64 0) := by rw [hW0]; go_simp
  have z0 : W0.frozen? ⟨w.heap.size + 1, 0, none⟩ = false := by rw [hW0]; go_simp
  have z1 : W0.frozen? ⟨w.heap.size + 1, 1, none⟩ = false := by rw [hW0]; go_simp
  have z2 : W0.frozen? ⟨w.heap.size + 1, 2, none⟩ = false := by rw [hW0]; go_simp
  have hva0 : VarsAt W0 L A cap := by rw [hW0]; exact hva
  have hll := hva0.len
  unfold maxLen at hll
  obtain ⟨hll1, hll2⟩ := hll
  clear hW0
  have hp40 := hp4.later hb0
  clear hcheck hvars hown hva hca hcb hfa hfb hp4
  go_loopw [5] (fun i wr => ∃ k : Nat, k ≤ L.length ∧ i = .int .i64 k ∧ clkGoV L k (L.drop k) = clkGoV L 0 L ∧ Below W0.heap.size W0 wr) (fun i _ => L.length - (intOf i).toNat)
  case atStart => exact ⟨0, Nat.zero_le _, rfl, rfl, Below.refl _ _⟩
  case round =>
    obtain ⟨k, hk, rfl, hrem, hbel⟩ := hrel
    have hc := bcell hbel
    have hfz := bfrozen hbel
    have hzr := hbel.size
    have hr1 : w.heap.size < wr.heap.size := by omega
    have hr2 : w.heap.size + 1 < wr.heap.size := by omega
    by_cases hlt : k < L.length
    · have hx : L[k]? = some L[k] := List.getElem?_eq_getElem hlt
      have hd : L.drop k = L[k] :: L.drop (k + 1) := List.drop_eq_getElem_cons hlt
      generalize L[k] = x at hx hd
      obtain ⟨b, off, hA, hbb, ⟨d0, d1, d2, d3⟩⟩ := hva0.get hx
      subst hA
      have hbr : b < wr.heap.size := by omega
      rw [hd, clkGoV] at hrem
      have hbase := fun (v : Va) W => base_any v W
      have hbx := hbase x
      have hfind := fun W h => refFind_any L (some ⟨b, off, none⟩) cap x.cn W ((hva0.later hbel).later h)
      have hdec : declaredE L x = declaredE L x := rfl
      rw (occs := .pos [2]) [declaredE] at hdec
      unfold vaV at hbx
      clear hd hx
      cases hq : ckEq x.ck x.cn 0 ⟨#[]⟩
      case true =>
        rw [hq, if_pos rfl] at hdec
        rw [hdec, if_neg (by simp)] at hrem
        rw [hq] at hbx
        have HR := Lib.hid hrem; clear hrem hdec hq hfind hbase
        go_wp2_with (first | (go_at_call_of 38 (Value.string x.name); refine (hbx _).mono ?_; rintro r w1 ⟨rfl, hb1⟩; have hc1 := bcell hb1; have hf1 := bfrozen hb1; have hz1 := hb1.size; have hy1 : w.heap.size < w1.heap.size := (by omega); have hy2 : w.heap.size + 1 < w1.heap.size := (by omega); have hy3 : b < w1.heap.size := (by omega)) | (go_at_call 19; refine (hfind _ belA).mono ?_; rintro r w2 ⟨rfl, hb2⟩; have hc2 := bcell hb2; have hf2 := bfrozen hb2; have hz2 := hb2.size; have hy4 : w.heap.size < w2.heap.size := (by omega); have hy5 : w.heap.size + 1 < w2.heap.size := (by omega); have hy6 : b < w2.heap.size := (by omega)) | (go_at_call 38; refine (hbc _).mono ?_; rintro r w3 ⟨rfl, hb3⟩; have hc3 := bcell hb3; have hf3 := bfrozen hb3; have hz3 := hb3.size; have hy7 : w.heap.size < w3.heap.size := (by omega); have hy8 : w.heap.size + 1 < w3.heap.size := (by omega)))
        go_roundw
        case rel => exact ⟨k + 1, by omega, by go_num, HR.out, belA⟩
        case measure => simp [intOf]; omega
      rw [hq, if_neg (by simp)] at hdec
      rw [hq] at hbx
      clear hq
      rcases refFind_cases L x.cn with ⟨hrf, hfc⟩ | ⟨j, c, hrf, hxj, hfc⟩
      · rw [hfc] at hdec
        rw [hrf] at hfind
        dsimp only at hdec
        rw [hdec, if_pos (by decide)] at hrem
        have hv : clkF p = (2, (k : Int), 19) := by rw [HV0.out, ← hrem]; rfl
        clear hrem hdec hrf hfc hbase
        have HV := Lib.hid hv; clear hv
        go_wp2_with (first | (go_at_call_of 38 (Value.string x.name); refine (hbx _).mono ?_; rintro r w1 ⟨rfl, hb1⟩; have hc1 := bcell hb1; have hf1 := bfrozen hb1; have hz1 := hb1.size; have hy1 : w.heap.size < w1.heap.size := (by omega); have hy2 : w.heap.size + 1 < w1.heap.size := (by omega); have hy3 : b < w1.heap.size := (by omega)) | (go_at_call 19; refine (hfind _ belA).mono ?_; rintro r w2 ⟨rfl, hb2⟩; have hc2 := bcell hb2; have hf2 := bfrozen hb2; have hz2 := hb2.size; have hy4 : w.heap.size < w2.heap.size := (by omega); have hy5 : w.heap.size + 1 < w2.heap.size := (by omega); have hy6 : b < w2.heap.size := (by omega)) | (go_at_call 38; refine (hbc _).mono ?_; rintro r w3 ⟨rfl, hb3⟩; have hc3 := bcell hb3; have hf3 := bfrozen hb3; have hz3 := hb3.size; have hy7 : w.heap.size < w3.heap.size := (by omega); have hy8 : w.heap.size + 1 < w3.heap.size := (by omega)))
        refine bodyPost_ret (v := .agg #[.int .i64 (2), .int .i64 ((k : Int)), .int .i64 (19)]) (by simp [results, Tryz.results30, go_sem, *]) rfl ⟨by rw [HV.out], ?_⟩
        exact belS
      rw [hfc] at hdec
      rw [hrf] at hfind
      dsimp only at hdec
      have hjl : j < L.length := (List.getElem?_eq_some_iff.1 hxj).1
      have hjl2 : (j : Int) < (L.length : Int) := by omega
      have tjj : ¬ ((j : Int) < 0) := by omega
      obtain ⟨b', off', hA', _, ⟨y0, y1, y2, y3⟩⟩ := hva0.get hxj
      have hA2 : b = b' ∧ off = off' := by simpa using hA'
      obtain ⟨rfl, rfl⟩ := hA2
      have hbc := hbase c
      unfold vaV at hbc
      clear hxj hA' hrf hfc hbase
      by_cases ht : c.type ≠ 2
      · rw [if_pos ht] at hdec
        rw [hdec, if_pos (by decide)] at hrem
        have hv : clkF p = (2, (k : Int), 20) := by rw [HV0.out, ← hrem]; rfl
        have t2 : (c.type != 2) = true := by simpa using ht
        clear hrem hdec ht hbc
        have HV := Lib.hid hv; clear hv
        go_wp2_with (first | (go_at_call_of 38 (Value.string x.name); refine (hbx _).mono ?_; rintro r w1 ⟨rfl, hb1⟩; have hc1 := bcell hb1; have hf1 := bfrozen hb1; have hz1 := hb1.size; have hy1 : w.heap.size < w1.heap.size := (by omega); have hy2 : w.heap.size + 1 < w1.heap.size := (by omega); have hy3 : b < w1.heap.size := (by omega)) | (go_at_call 19; refine (hfind _ belA).mono ?_; rintro r w2 ⟨rfl, hb2⟩; have hc2 := bcell hb2; have hf2 := bfrozen hb2; have hz2 := hb2.size; have hy4 : w.heap.size < w2.heap.size := (by omega); have hy5 : w.heap.size + 1 < w2.heap.size := (by omega); have hy6 : b < w2.heap.size := (by omega)) | (go_at_call 38; refine (hbc _).mono ?_; rintro r w3 ⟨rfl, hb3⟩; have hc3 := bcell hb3; have hf3 := bfrozen hb3; have hz3 := hb3.size; have hy7 : w.heap.size < w3.heap.size := (by omega); have hy8 : w.heap.size + 1 < w3.heap.size := (by omega)))
        refine bodyPost_ret (v := .agg #[.int .i64 (2), .int .i64 ((k : Int)), .int .i64 (20)]) (by simp [results, Tryz.results30, go_sem, *]) rfl ⟨by rw [HV.out], ?_⟩
        exact belS
      rw [if_neg ht] at hdec
      have t2 : (c.type != 2) = false := by simpa using ht
      clear ht
      cases hq2 : ckEq c.ck c.cn 0 ⟨#[]⟩
      · rw [hq2, if_neg (by simp)] at hdec
        rw [hq2] at hbc
        rw [hdec, if_pos (by decide)] at hrem
        have hv : clkF p = (2, (k : Int), 21) := by rw [HV0.out, ← hrem]; rfl
        clear hrem hdec hq2
        have HV := Lib.hid hv; clear hv
        go_wp2_with (first | (go_at_call_of 38 (Value.string x.name); refine (hbx _).mono ?_; rintro r w1 ⟨rfl, hb1⟩; have hc1 := bcell hb1; have hf1 := bfrozen hb1; have hz1 := hb1.size; have hy1 : w.heap.size < w1.heap.size := (by omega); have hy2 : w.heap.size + 1 < w1.heap.size := (by omega); have hy3 : b < w1.heap.size := (by omega)) | (go_at_call 19; refine (hfind _ belA).mono ?_; rintro r w2 ⟨rfl, hb2⟩; have hc2 := bcell hb2; have hf2 := bfrozen hb2; have hz2 := hb2.size; have hy4 : w.heap.size < w2.heap.size := (by omega); have hy5 : w.heap.size + 1 < w2.heap.size := (by omega); have hy6 : b < w2.heap.size := (by omega)) | (go_at_call 38; refine (hbc _).mono ?_; rintro r w3 ⟨rfl, hb3⟩; have hc3 := bcell hb3; have hf3 := bfrozen hb3; have hz3 := hb3.size; have hy7 : w.heap.size < w3.heap.size := (by omega); have hy8 : w.heap.size + 1 < w3.heap.size := (by omega)))
        refine bodyPost_ret (v := .agg #[.int .i64 (2), .int .i64 ((k : Int)), .int .i64 (21)]) (by simp [results, Tryz.results30, go_sem, *]) rfl ⟨by rw [HV.out], ?_⟩
        exact belS
      · rw [hq2, if_pos rfl] at hdec
        rw [hq2] at hbc
        rw [hdec, if_neg (by simp)] at hrem
        have HR := Lib.hid hrem; clear hrem hdec hq2
        go_wp2_with (first | (go_at_call_of 38 (Value.string x.name); refine (hbx _).mono ?_; rintro r w1 ⟨rfl, hb1⟩; have hc1 := bcell hb1; have hf1 := bfrozen hb1; have hz1 := hb1.size; have hy1 : w.heap.size < w1.heap.size := (by omega); have hy2 : w.heap.size + 1 < w1.heap.size := (by omega); have hy3 : b < w1.heap.size := (by omega)) | (go_at_call 19; refine (hfind _ belA).mono ?_; rintro r w2 ⟨rfl, hb2⟩; have hc2 := bcell hb2; have hf2 := bfrozen hb2; have hz2 := hb2.size; have hy4 : w.heap.size < w2.heap.size := (by omega); have hy5 : w.heap.size + 1 < w2.heap.size := (by omega); have hy6 : b < w2.heap.size := (by omega)) | (go_at_call 38; refine (hbc _).mono ?_; rintro r w3 ⟨rfl, hb3⟩; have hc3 := bcell hb3; have hf3 := bfrozen hb3; have hz3 := hb3.size; have hy7 : w.heap.size < w3.heap.size := (by omega); have hy8 : w.heap.size + 1 < w3.heap.size := (by omega)))
        go_roundw
        case rel => exact ⟨k + 1, by omega, by go_num, HR.out, belA⟩
        case measure => simp [intOf]; omega
    obtain rfl : k = L.length := by omega
    rw [List.drop_length, clkGoV] at hrem
    have hv1 : clkF p = clkQF (clkGoQ L 0 p.eqs) := by rw [HV0.out, ← hrem]; exact HQF.out
    have HV1 := Lib.hid hv1; clear hv1 hrem
    go_wp2_with fail
    clear hc hfz hzr hr1 hr2
    go_loopw [7] (fun i wr => ∃ k : Nat, k ≤ p.eqs.length ∧ i = .int .i64 k ∧ clkGoQ L k (p.eqs.drop k) = clkGoQ L 0 p.eqs ∧ Below W0.heap.size W0 wr) (fun i _ => p.eqs.length - (intOf i).toNat)
    case atStart => exact ⟨0, Nat.zero_le _, rfl, rfl, hbel⟩
    case round =>
      clear hbel
      obtain ⟨k, hk, rfl, hrem, hbel⟩ := hrel
      have hc := bcell hbel
      have hfz := bfrozen hbel
      have hzr := hbel.size
      have hr1 : w.heap.size < wr.heap.size := by omega
      have hr2 : w.heap.size + 1 < wr.heap.size := by omega
      by_cases hlt : k < p.eqs.length
      · have hx : p.eqs[k]? = some p.eqs[k] := List.getElem?_eq_getElem hlt
        have hd : p.eqs.drop k = p.eqs[k] :: p.eqs.drop (k + 1) := List.drop_eq_getElem_cons hlt
        generalize p.eqs[k] = q at hx hd
        obtain ⟨b, off, E1, k1, E2, k2, rfl, hbb, ⟨g0, g1, g2, g3, g4, g5, g6, g7, g8, g9, s1, s2⟩⟩ := hp40.get hx
        have hbr : b < wr.heap.size := by omega
        rw [hd, clkGoQ] at hrem
        have hmem := List.mem_of_getElem? hx
        have hr0 : q.e.right = 0 := (eqB_right (HQS.out q hmem)).1
        obtain ⟨j0, hj0⟩ := hfnd.out q hmem
        rcases refFind_cases L q.name with ⟨hrf, hfc⟩ | ⟨j, v, hrf, hxj, hfc⟩
        · exfalso
          unfold refFind at hrf
          rw [hj0] at hrf
          obtain ⟨kk, _, hkk, _⟩ := findV_some hj0
          simp only [Option.getD_some] at hrf
          omega
        have hfind := fun W h => refFind_any L A cap q.name W ((hva0.later hbel).later h)
        rw [hrf] at hfind
        have hjl : j < L.length := (List.getElem?_eq_some_iff.1 hxj).1
        have hjl2 : (j : Int) < (L.length : Int) := by omega
        have tjj : ¬ ((j : Int) < 0) := by omega
        have hof := fun W h => refClkOf_any q.e (HOK.out q hmem).2.2.2 E2 k2 v.ck v.cn L A cap W ((s2.later hbel).later h) ((hva0.later hbel).later h)
        have hcl : clockOf L q.name = (v.ck, v.cn) := by unfold clockOf; rw [hfc]
        have hce : clkOf L q.e (v.ck, v.cn) = q.e.clk L (v.ck, v.cn) := by unfold clkOf; rw [if_neg (by omega)]
        rw [hcl] at hrem
        rw [hce] at hof
        obtain ⟨bv, ov, hA', hbv, ⟨y0, y1, y2, y3⟩⟩ := hva0.get hxj
        subst hA'
        have hbvr : bv < wr.heap.size := by omega
        unfold exV at hof
        clear hxj hrf hfc hcl hce hj0 hr0 hmem hd hx y0 y1
        generalize q.e.clk L (v.ck, v.cn) = de at *
        by_cases hde : de ≠ 0
        · rw [if_pos hde] at hrem
          have hv : clkF p = (3, (k : Int), de) := by rw [HV1.out, ← hrem]; rfl
          have t1 : (de != 0) = true := by simpa using hde
          clear hrem hde
          have HV := Lib.hid hv; clear hv
          go_wp2_with (first | (go_at_call 19; refine (hfind _ belA).mono ?_; rintro r w2 ⟨rfl, hb2⟩; have hc2 := bcell hb2; have hf2 := bfrozen hb2; have hz2 := hb2.size; have hy4 : w.heap.size < w2.heap.size := (by omega); have hy5 : w.heap.size + 1 < w2.heap.size := (by omega); have hy6 : b < w2.heap.size := (by omega); have hy7 : bv < w2.heap.size := (by omega)))
          refine wp_region_qb (by kernel_rfl) (by kernel_rfl) (fun hgq => ?_)
          repeat (quiet_step ((first | (go_at_call 39; exact Calls.regrown_of (hof _ belA)))))
          refine wpQuiet_nil ?_
          intro wq hwq
          replace hwq := bel_of_class hwq
          clear hgq
          have hcq := bcell hwq
          have hzq := hwq.size
          (try simp at hzq)
          (try have hyq1 := lt0 w wq); (try have hyq2 := ltA w 1 wq); (try have hyq3 := ltA w 2 wq); (try have hyq4 := lt0 wr wq)
          have hfq2 := bfrozen hwq
          go_wp2_with fail
          refine bodyPost_ret (v := .agg #[.int .i64 (3), .int .i64 ((k : Int)), .int .i64 (de)]) (by simp [results, Tryz.results30, go_sem, *]) rfl ⟨by rw [HV.out], ?_⟩
          exact belS
        · rw [if_neg hde] at hrem
          have t1 : (de != 0) = false := by simpa using hde
          have HR := Lib.hid hrem; clear hrem hde
          go_wp2_with (first | (go_at_call 19; refine (hfind _ belA).mono ?_; rintro r w2 ⟨rfl, hb2⟩; have hc2 := bcell hb2; have hf2 := bfrozen hb2; have hz2 := hb2.size; have hy4 : w.heap.size < w2.heap.size := (by omega); have hy5 : w.heap.size + 1 < w2.heap.size := (by omega); have hy6 : b < w2.heap.size := (by omega); have hy7 : bv < w2.heap.size := (by omega)))
          refine wp_region_qb (by kernel_rfl) (by kernel_rfl) (fun hgq => ?_)
          repeat (quiet_step ((first | (go_at_call 39; exact Calls.regrown_of (hof _ belA)))))
          refine wpQuiet_nil ?_
          intro wq hwq
          replace hwq := bel_of_class hwq
          clear hgq
          have hcq := bcell hwq
          have hzq := hwq.size
          (try simp at hzq)
          (try have hyq1 := lt0 w wq); (try have hyq2 := ltA w 1 wq); (try have hyq3 := ltA w 2 wq); (try have hyq4 := lt0 wr wq)
          go_wp2_with fail
          go_roundw
          case rel => exact ⟨k + 1, by omega, by go_num, HR.out, belA⟩
          case measure => simp [intOf]; omega
      obtain rfl : k = p.eqs.length := by omega
      rw [List.drop_length, clkGoQ] at hrem
      have hv : clkF p = (0, 0, 0) := by rw [HV1.out, ← hrem]; rfl
      clear hrem
      have HV := Lib.hid hv; clear hv
      go_wp2_with fail
      refine bodyPost_ret (v := .agg #[.int .i64 (0), .int .i64 (0), .int .i64 (0)]) (by simp [results, Tryz.results30, go_sem, *]) rfl ⟨by rw [HV.out], ?_⟩
      exact belS

theorem rclkCheck_any (p : Pr) (a : PrA) (w : World) (hp : PrAt w p a) (hok : PrOK p) (n1 : p.ins.length ≤ 1000000) (n2 : p.outs.length ≤ 1000000) (n3 : p.locals.length ≤ 1000000) (n4 : p.eqs.length ≤ 1000000) :
    Calls Tryz.prog 30 #[prV p a] w fun r w' => r = .returned (fV (clkF p)) ∧ Below w.heap.size w w' := by
  by_cases hck : checkF p = (0, 0, 0)
  · exact rclkCheck_clean p a w hp hok n1 n2 n3 n4 hck
  · have hv : clkF p = checkF p := by unfold clkF; rw [if_pos hck]
    rw [hv]
    exact rclkCheck_fault p a w hp hok n1 n2 n3 n4 hck

end Go.Proofs.YtikmbkojnfmiaaaGreatDoorRRRR
