/- Walks over the package tree: depth, form, formed. -/
import Derived.Test.YtknfcamdfdfoeaaDoorZ05
import Derived.Test.YtknfcamdfdfoeaaDoorZ01
set_option linter.unusedVariables false
set_option linter.unusedSimpArgs false
set_option maxRecDepth 100000
namespace Go.Proofs.YtknfcamdfdfoeaaDoor
open Go.RowKit

set_option maxHeartbeats 400000 in
theorem depth_any (e : Ex) : ∀ (A : Option Addr) (cap : Nat) (w : World), SubsAt w e A cap → e.size ≤ 1000000 →
    Calls Tryd.prog 86 #[exV e A cap] w fun r w' => r = .returned (.int .i64 e.depth) ∧ Below w.heap.size w w' := by
  induction e using Ex.ind with
  | h e ih =>
  intro A cap w he hz
  have hl := he.len
  unfold maxLen at hl
  obtain ⟨hl1, hl2⟩ := hl
  have hdb := Ex.depth_bd e
  unfold exV
  go_enter Tryd.func86, Tryd.ntmps86
  go_wp2_with fail
  go_loopw [3, 9] (fun m i wr => ∃ (k : Nat) (m' : Int), k ≤ e.sub.length ∧ i = .int .i64 k ∧ m = .int .i64 m' ∧ 0 ≤ m' ∧ m' ≤ 1000000 ∧ Ex.depthL (e.sub.drop k) m' + 1 = e.depth ∧ Below w.heap.size w wr) (fun _ i _ => e.sub.length - (intOf i).toNat)
  case atStart => exact ⟨0, 0, Nat.zero_le _, rfl, rfl, by omega, by omega, by simp [Ex.depth_eq], belA⟩
  case round =>
    obtain ⟨k, m', hk, rfl, rfl, h0, h1, hrem, hbel⟩ := hrel
    by_cases hlt : k < e.sub.length
    · have hx : e.sub[k]? = some e.sub[k] := List.getElem?_eq_getElem hlt
      have hmem : e.sub[k] ∈ e.sub := List.getElem_mem hlt
      have hd : e.sub.drop k = e.sub[k] :: e.sub.drop (k + 1) := List.drop_eq_getElem_cons hlt
      generalize e.sub[k] = x at hx hmem hd
      obtain ⟨b, off, A', cap', rfl, c0, c1, c2, c3, hs⟩ := (he.later hbel).get hx
      rw [hd, Ex.depthL] at hrem
      have hbd := Ex.depth_bd x
      have hsz := Ex.size_sub hx
      have ihx := ih x hmem
      have HR := Lib.hid hrem; clear hrem hd hx
      go_wp2_with (go_at_call 86; refine (ihx A' cap' _ (hs.later belA) (by omega)).mono ?_; rintro r w1 ⟨rfl, hb1⟩)
      go_roundw
      case rel => exact ⟨k + 1, max m' x.depth, by omega, by go_num, by first | rfl | go_num, by omega, by omega, HR.out, belA⟩
      case measure => simp [intOf]; omega
    · have hke : k = e.sub.length := by omega
      rw [hke, List.drop_length] at hrem
      rw [Ex.depthL] at hrem
      have HR := Lib.hid hrem; clear hrem hke
      go_wp2_with fail
      go_ret
      exact ⟨ret_int HR.out, belA⟩

set_option maxHeartbeats 1000000 in
theorem form_any (k : Int) (w : World) : Calls Tryd.prog 89 #[.int .i64 k] w fun r w' => r = .returned (.tuple #[.int .i64 (formK k).1, .int .i32 (formK k).2.1, .int .i32 (formK k).2.2.1, .bool (formK k).2.2.2.1, .bool (formK k).2.2.2.2]) ∧ w = w' := by
  go_enter Tryd.func89, Tryd.ntmps89
  go_wp2_with fail
  all_goals (refine bodyPost_ret (v := .tuple #[.int .i64 (formK k).1, .int .i32 (formK k).2.1, .int .i32 (formK k).2.2.1, .bool (formK k).2.2.2.1, .bool (formK k).2.2.2.2]) (by simp_all [results, Tryd.results89, go_sem, formK]) rfl ⟨rfl, rfl⟩)

end Go.Proofs.YtknfcamdfdfoeaaDoor

/- Walks over the package tree: SameExpr, formed. -/
namespace Go.Proofs.YtknfcamdfdfoeaaDoor
open Go.RowKit Go.Sort

theorem beqI_true {a b : Int} (h : (a == b) = true) : a = b := by simpa using h
theorem bneI_false {a b : Int} (h : (a != b) = false) : a = b := by simpa using h
theorem bneI_eq {a b : Int} (h : (a != b) = false) : (a == b) = true := by simpa using h
theorem bneI_ne {a b : Int} (h : (a != b) = true) : (a == b) = false := by simpa using h

set_option maxHeartbeats 800000 in
theorem same_any (e : Ex) : ∀ (y : Ex) (A : Option Addr) (cap : Nat) (A2 : Option Addr) (cap2 : Nat) (w : World), SubsAt w e A cap → SubsAt w y A2 cap2 →
    Calls Tryd.prog 74 #[exV e A cap, exV y A2 cap2] w fun r w' => r = .returned (.bool (e.same y)) ∧ Below w.heap.size w w' := by
  induction e using Ex.ind with
  | h e ih =>
  intro y A cap A2 cap2 w he hy
  have hl := he.len
  have hl' := hy.len
  unfold maxLen at hl hl'
  obtain ⟨hl1, hl2⟩ := hl
  obtain ⟨hl3, hl4⟩ := hl'
  have hv := Ex.same_eq e y
  unfold exV
  cases h1 : (e.kind != y.kind)
  case true => rw [bneI_ne h1, Bool.false_and, Bool.false_and, Bool.false_and, Bool.false_and] at hv
               have HV := Lib.hid hv; clear hv
               go_enter Tryd.func74, Tryd.ntmps74
               go_wp2_with fail
               go_ret
               exact ⟨ret_bool HV.out.symm, belA⟩
  rw [bneI_eq h1, Bool.true_and] at hv
  cases h2 : (e.n != y.n)
  case true => rw [bneI_ne h2, Bool.false_and, Bool.false_and, Bool.false_and] at hv
               have HV := Lib.hid hv; clear hv
               go_enter Tryd.func74, Tryd.ntmps74
               go_wp2_with fail
               go_ret
               exact ⟨ret_bool HV.out.symm, belA⟩
  rw [bneI_eq h2, Bool.true_and] at hv
  cases h3 : (e.name.toList == y.name.toList)
  case false => rw [h3, Bool.false_and, Bool.false_and] at hv
                have HV := Lib.hid hv; clear hv
                go_enter Tryd.func74, Tryd.ntmps74
                go_wp2_with fail
                go_ret
                exact ⟨ret_bool HV.out.symm, belA⟩
  rw [h3, Bool.true_and] at hv
  cases h4 : ((e.sub.length : Int) != y.sub.length)
  case true => have h4n : (e.sub.length == y.sub.length) = false := by { simp at h4; simp; omega }; rw [h4n, Bool.false_and] at hv; clear h4n
               have HV := Lib.hid hv; clear hv
               go_enter Tryd.func74, Tryd.ntmps74
               go_wp2_with fail
               go_ret
               exact ⟨ret_bool HV.out.symm, belA⟩
  have h4n : e.sub.length = y.sub.length := by have := bneI_false h4; omega
  rw [h4n, beq_self_eq_true, Bool.true_and] at hv
  have HV := Lib.hid hv; clear hv
  have H4 := Lib.hid h4n; clear h4n
  go_enter Tryd.func74, Tryd.ntmps74
  go_wp2_with fail
  go_loopw [38] (fun i wr => ∃ (k : Nat), k ≤ e.sub.length ∧ i = .int .i64 k ∧ Ex.sameL (e.sub.drop k) (y.sub.drop k) = e.same y ∧ wr.cell? ⟨w.heap.size + 1, 3, none⟩ = some (.slice A2 y.sub.length cap2) ∧ Below w.heap.size w wr) (fun i _ => e.sub.length - (intOf i).toNat)
  case atStart => exact ⟨0, Nat.zero_le _, rfl, by rw [HV.out]; simp, by go_simp, belA⟩
  case round =>
    obtain ⟨k, hk, rfl, hrem, hbox, hbel⟩ := hrel
    have hbz := block_lt_of_cell hbox
    dsimp only at hbz
    have hbz' : w.heap.size < wr.heap.size := by omega
    by_cases hlt : k < e.sub.length
    · have hlt2 : k < y.sub.length := by have := H4.out; omega
      have hx : e.sub[k]? = some e.sub[k] := List.getElem?_eq_getElem hlt
      have hmem : e.sub[k] ∈ e.sub := List.getElem_mem hlt
      have hd : e.sub.drop k = e.sub[k] :: e.sub.drop (k + 1) := List.drop_eq_getElem_cons hlt
      generalize e.sub[k] = x at hx hmem hd
      obtain ⟨b, off, A', cap', rfl, c0, c1, c2, c3, hs⟩ := (he.later hbel).get hx
      have hx2 : y.sub[k]? = some y.sub[k] := List.getElem?_eq_getElem hlt2
      have hd2 : y.sub.drop k = y.sub[k] :: y.sub.drop (k + 1) := List.drop_eq_getElem_cons hlt2
      generalize y.sub[k] = x2 at hx2 hd2
      obtain ⟨b2, off2, A2', cap2', rfl, g0, g1, g2, g3, hy2⟩ := (hy.later hbel).get hx2
      rw [hd, hd2, Ex.sameL] at hrem
      have ihx := ih x hmem
      have hb2 := block_lt_of_cell g0
      dsimp only at hb2
      have hb2' : b2 < wr.heap.size + 1 := by omega
      cases hsm : x.same x2
      · rw [hsm] at hrem
        have HR := Lib.hid hrem; clear hrem hd hd2 hx hx2
        go_wp2_with fail
        refine wp_region_qb (by kernel_rfl) (by kernel_rfl) (fun hgq => ?_)
        repeat (quiet_step ((go_at_call 74; exact Calls.regrown_of (ihx x2 _ _ _ _ _ (hs.later belA) (hy2.later belA)))))
        refine wpQuiet_nil ?_
        intro wq hwq
        replace hwq := bel_of_class hwq
        clear hgq
        have hcq := bcell hwq
        have hzq := hwq.size
        (try simp at hzq)
        (try have hyq1 := lt0 w wq); (try have hyq2 := ltA w 1 wq); (try have hyq3 := ltA w 2 wq); (try have hyq4 := lt0 wr wq)
        go_wp2_with fail
        go_ret
        exact ⟨ret_bool HR.out, belA⟩
      · rw [hsm] at hrem
        have HR := Lib.hid hrem; clear hrem hd hd2 hx hx2
        go_wp2_with fail
        refine wp_region_qb (by kernel_rfl) (by kernel_rfl) (fun hgq => ?_)
        repeat (quiet_step ((go_at_call 74; exact Calls.regrown_of (ihx x2 _ _ _ _ _ (hs.later belA) (hy2.later belA)))))
        refine wpQuiet_nil ?_
        intro wq hwq
        replace hwq := bel_of_class hwq
        clear hgq
        have hcq := bcell hwq
        have hzq := hwq.size
        (try simp at hzq)
        (try have hyq1 := lt0 w wq); (try have hyq2 := ltA w 1 wq); (try have hyq3 := ltA w 2 wq); (try have hyq4 := lt0 wr wq)
        go_wp2_with fail
        go_roundw
        case rel => exact ⟨k + 1, by omega, by go_num, HR.out, (by repeat (first | (with_reducible assumption) | refine bel_cell (by with_reducible assumption) ?_ | refine cel_alloc ?_ | refine cel_drew ?_)), belA⟩
        case measure => simp [intOf]; omega
    · have hke : k = e.sub.length := by omega
      rw [hke, List.drop_length, Ex.sameL] at hrem
      have HR := Lib.hid hrem; clear hrem hke
      go_wp2_with fail
      go_ret
      exact ⟨ret_bool HR.out, belA⟩

end Go.Proofs.YtknfcamdfdfoeaaDoor

/- Walks over the package tree: formed, Right, literal. -/
namespace Go.Proofs.YtknfcamdfdfoeaaDoor
open Go.RowKit Go.Sort

set_option maxHeartbeats 1000000 in
theorem formed_any (e : Ex) : ∀ (A : Option Addr) (cap : Nat) (w : World), SubsAt w e A cap →
    Calls Tryd.prog 87 #[exV e A cap] w fun r w' => r = .returned (.bool e.formed) ∧ Below w.heap.size w w' := by
  induction e using Ex.ind with
  | h e ih =>
  intro A cap w he
  have hl := he.len
  unfold maxLen at hl
  obtain ⟨hl1, hl2⟩ := hl
  have hv := Ex.formed_eq e
  unfold formedH at hv
  unfold exV
  cases h1 : (formK e.kind).2.2.2.2
  case false => simp only [h1, Bool.false_and] at hv
                have HV := Lib.hid hv; clear hv
                go_enter Tryd.func87, Tryd.ntmps87
                go_wp2_with (first | (go_at_call 89; refine (form_any _ _).mono ?_; rintro r w1 ⟨rfl, rfl⟩))
                go_ret
                exact ⟨ret_bool HV.out.symm, belA⟩
  cases h2 : ((e.sub.length : Int) != (formK e.kind).1)
  case true => simp only [bneI_ne h2, Bool.false_and, Bool.and_false] at hv
               have HV := Lib.hid hv; clear hv
               go_enter Tryd.func87, Tryd.ntmps87
               go_wp2_with (first | (go_at_call 89; refine (form_any _ _).mono ?_; rintro r w1 ⟨rfl, rfl⟩))
               go_ret
               exact ⟨ret_bool HV.out.symm, belA⟩
  cases h3 : decide (e.n < (formK e.kind).2.1)
  case true => simp only [h3, Bool.false_and, Bool.and_false, Bool.not_true] at hv
               have HV := Lib.hid hv; clear hv
               go_enter Tryd.func87, Tryd.ntmps87
               go_wp2_with (first | (go_at_call 89; refine (form_any _ _).mono ?_; rintro r w1 ⟨rfl, rfl⟩))
               go_ret
               exact ⟨ret_bool HV.out.symm, belA⟩
  cases h4 : decide ((formK e.kind).2.2.1 < e.n)
  case true => simp only [h4, Bool.false_and, Bool.and_false, Bool.not_true] at hv
               have HV := Lib.hid hv; clear hv
               go_enter Tryd.func87, Tryd.ntmps87
               go_wp2_with (first | (go_at_call 89; refine (form_any _ _).mono ?_; rintro r w1 ⟨rfl, rfl⟩))
               go_ret
               exact ⟨ret_bool HV.out.symm, belA⟩
  replace hv : e.formed = (((formK e.kind).2.2.2.1 == nameB e.name) && ((formK e.kind).2.2.2.1 || e.name.toList.isEmpty) && Ex.formedL e.sub) := by
    rw [hv]; simp only [h1, bneI_eq h2, h3, h4, Bool.not_false, Bool.true_and]
  cases h5 : (formK e.kind).2.2.2.1
  case false =>
    cases h6 : nameB e.name
    case true => simp only [h5, h6, Bool.false_beq, Bool.not_true, Bool.false_and] at hv
                 have HV := Lib.hid hv; clear hv
                 go_enter Tryd.func87, Tryd.ntmps87
                 go_wp2_with (first | (go_at_call 89; refine (form_any _ _).mono ?_; rintro r w1 ⟨rfl, rfl⟩) | (go_at_call 70; refine (name_any _ _).mono ?_; rintro r w1 ⟨rfl, hb1⟩; have hc1 := bcell hb1; have hz1 := hb1.size; (try simp at hz1); (try have hy1 := lt0 w w1); (try have hy2 := ltA w 1 w1); (try have hy3 := ltA w 2 w1); (try have hy4 := lt0 wr w1); (try have hy5 := ltA wr 1 w1)))
                 go_ret
                 exact ⟨ret_bool HV.out.symm, belA⟩
    cases h7 : e.name.toList.isEmpty
    case false => simp only [h5, h6, h7, Bool.false_or, Bool.and_false, Bool.false_and] at hv
                  have HV := Lib.hid hv; clear hv
                  go_enter Tryd.func87, Tryd.ntmps87
                  go_wp2_with (first | (go_at_call 89; refine (form_any _ _).mono ?_; rintro r w1 ⟨rfl, rfl⟩) | (go_at_call 70; refine (name_any _ _).mono ?_; rintro r w1 ⟨rfl, hb1⟩; have hc1 := bcell hb1; have hz1 := hb1.size; (try simp at hz1); (try have hy1 := lt0 w w1); (try have hy2 := ltA w 1 w1); (try have hy3 := ltA w 2 w1); (try have hy4 := lt0 wr w1); (try have hy5 := ltA wr 1 w1)))
                  go_ret
                  exact ⟨ret_bool HV.out.symm, belA⟩
    rw [h5, h6, h7] at hv
    have HV := Lib.hid hv; clear hv
    go_enter Tryd.func87, Tryd.ntmps87
    go_wp2_with (first | (go_at_call 89; refine (form_any _ _).mono ?_; rintro r w1 ⟨rfl, rfl⟩) | (go_at_call 70; refine (name_any _ _).mono ?_; rintro r w1 ⟨rfl, hb1⟩; have hc1 := bcell hb1; have hz1 := hb1.size; (try simp at hz1); (try have hy1 := lt0 w w1); (try have hy2 := ltA w 1 w1); (try have hy3 := ltA w 2 w1); (try have hy4 := lt0 wr w1); (try have hy5 := ltA wr 1 w1)))
    go_loopw [59] (fun i wr => ∃ (k : Nat), k ≤ e.sub.length ∧ i = .int .i64 k ∧ Ex.formedL (e.sub.drop k) = e.formed ∧ Below w.heap.size w wr) (fun i _ => e.sub.length - (intOf i).toNat)
    case atStart => exact ⟨0, Nat.zero_le _, rfl, by rw [HV.out]; simp, belA⟩
    case round =>
      obtain ⟨k, hk, rfl, hrem, hbel⟩ := hrel
      by_cases hlt : k < e.sub.length
      · have hx : e.sub[k]? = some e.sub[k] := List.getElem?_eq_getElem hlt
        have hmem : e.sub[k] ∈ e.sub := List.getElem_mem hlt
        have hd : e.sub.drop k = e.sub[k] :: e.sub.drop (k + 1) := List.drop_eq_getElem_cons hlt
        generalize e.sub[k] = x at hx hmem hd
        obtain ⟨b, off, A', cap', rfl, c0, c1, c2, c3, hs⟩ := (he.later hbel).get hx
        rw [hd, Ex.formedL] at hrem
        have ihx := ih x hmem
        cases hfx : x.formed
        · rw [hfx, Bool.false_and] at hrem
          have HR := Lib.hid hrem; clear hrem hd hx
          go_wp2_with (go_at_call 87; refine (ihx A' cap' _ (hs.later belA)).mono ?_; rintro r w2 ⟨rfl, hb2⟩)
          go_ret
          exact ⟨ret_bool HR.out, belA⟩
        · rw [hfx, Bool.true_and] at hrem
          have HR := Lib.hid hrem; clear hrem hd hx
          go_wp2_with (go_at_call 87; refine (ihx A' cap' _ (hs.later belA)).mono ?_; rintro r w2 ⟨rfl, hb2⟩)
          go_roundw
          case rel => exact ⟨k + 1, by omega, by go_num, HR.out, belA⟩
          case measure => simp [intOf]; omega
      · have hke : k = e.sub.length := by omega
        rw [hke, List.drop_length] at hrem
        rw [Ex.formedL] at hrem
        have HR := Lib.hid hrem; clear hrem hke
        go_wp2_with fail
        go_ret
        exact ⟨ret_bool HR.out, belA⟩
  case true =>
    cases h6 : nameB e.name
    case false => simp only [h5, h6, Bool.true_beq, Bool.false_and] at hv
                  have HV := Lib.hid hv; clear hv
                  go_enter Tryd.func87, Tryd.ntmps87
                  go_wp2_with (first | (go_at_call 89; refine (form_any _ _).mono ?_; rintro r w1 ⟨rfl, rfl⟩) | (go_at_call 70; refine (name_any _ _).mono ?_; rintro r w1 ⟨rfl, hb1⟩; have hc1 := bcell hb1; have hz1 := hb1.size; (try simp at hz1); (try have hy1 := lt0 w w1); (try have hy2 := ltA w 1 w1); (try have hy3 := ltA w 2 w1); (try have hy4 := lt0 wr w1); (try have hy5 := ltA wr 1 w1)))
                  go_ret
                  exact ⟨ret_bool HV.out.symm, belA⟩
    rw [h5, h6] at hv
    have HV := Lib.hid hv; clear hv
    go_enter Tryd.func87, Tryd.ntmps87
    go_wp2_with (first | (go_at_call 89; refine (form_any _ _).mono ?_; rintro r w1 ⟨rfl, rfl⟩) | (go_at_call 70; refine (name_any _ _).mono ?_; rintro r w1 ⟨rfl, hb1⟩; have hc1 := bcell hb1; have hz1 := hb1.size; (try simp at hz1); (try have hy1 := lt0 w w1); (try have hy2 := ltA w 1 w1); (try have hy3 := ltA w 2 w1); (try have hy4 := lt0 wr w1); (try have hy5 := ltA wr 1 w1)))
    go_loopw [59] (fun i wr => ∃ (k : Nat), k ≤ e.sub.length ∧ i = .int .i64 k ∧ Ex.formedL (e.sub.drop k) = e.formed ∧ Below w.heap.size w wr) (fun i _ => e.sub.length - (intOf i).toNat)
    case atStart => exact ⟨0, Nat.zero_le _, rfl, by rw [HV.out]; simp, belA⟩
    case round =>
      obtain ⟨k, hk, rfl, hrem, hbel⟩ := hrel
      by_cases hlt : k < e.sub.length
      · have hx : e.sub[k]? = some e.sub[k] := List.getElem?_eq_getElem hlt
        have hmem : e.sub[k] ∈ e.sub := List.getElem_mem hlt
        have hd : e.sub.drop k = e.sub[k] :: e.sub.drop (k + 1) := List.drop_eq_getElem_cons hlt
        generalize e.sub[k] = x at hx hmem hd
        obtain ⟨b, off, A', cap', rfl, c0, c1, c2, c3, hs⟩ := (he.later hbel).get hx
        rw [hd, Ex.formedL] at hrem
        have ihx := ih x hmem
        cases hfx : x.formed
        · rw [hfx, Bool.false_and] at hrem
          have HR := Lib.hid hrem; clear hrem hd hx
          go_wp2_with (go_at_call 87; refine (ihx A' cap' _ (hs.later belA)).mono ?_; rintro r w2 ⟨rfl, hb2⟩)
          go_ret
          exact ⟨ret_bool HR.out, belA⟩
        · rw [hfx, Bool.true_and] at hrem
          have HR := Lib.hid hrem; clear hrem hd hx
          go_wp2_with (go_at_call 87; refine (ihx A' cap' _ (hs.later belA)).mono ?_; rintro r w2 ⟨rfl, hb2⟩)
          go_roundw
          case rel => exact ⟨k + 1, by omega, by go_num, HR.out, belA⟩
          case measure => simp [intOf]; omega
      · have hke : k = e.sub.length := by omega
        rw [hke, List.drop_length] at hrem
        rw [Ex.formedL] at hrem
        have HR := Lib.hid hrem; clear hrem hke
        go_wp2_with fail
        go_ret
        exact ⟨ret_bool HR.out, belA⟩

end Go.Proofs.YtknfcamdfdfoeaaDoor

/- Walks over the package tree: Right, literal, variable. -/
namespace Go.Proofs.YtknfcamdfdfoeaaDoor
open Go.RowKit Go.Sort

set_option maxHeartbeats 400000 in
theorem right_any (e : Ex) (A : Option Addr) (cap : Nat) (w : World) (he : SubsAt w e A cap) :
    Calls Tryd.prog 72 #[exV e A cap] w fun r w' => r = .returned (.int .i64 e.right) ∧ Below w.heap.size w w' := by
  have hv : e.right = if 120 < e.count 121 then 3 else if 12 < e.depth then 17 else if e.formed then 0 else 4 := rfl
  have hcount := fun W h => count_any e A cap 121 W (he.later h) (by omega) (by omega)
  by_cases h1 : 120 < e.count 121
  · rw [if_pos h1] at hv
    have HV := Lib.hid hv; clear hv
    unfold exV at hcount ⊢
    go_enter Tryd.func72, Tryd.ntmps72
    go_wp2_with (first | (go_at_call 85; refine (hcount _ belA).mono ?_; rintro r w1 ⟨rfl, hb1⟩; have hc1 := bcell hb1; have hz1 := hb1.size; (try simp at hz1); (try have hy1 := lt0 w w1); (try have hy2 := ltA w 1 w1); (try have hy3 := ltA w 2 w1); (try have hy4 := lt0 wr w1); (try have hy5 := ltA wr 1 w1)))
    go_ret
    exact ⟨ret_int HV.out.symm, belA⟩
  rw [if_neg h1] at hv
  have hsz := Ex.count_size e 121 (by omega)
  have hdepth := fun W h => depth_any e A cap W (he.later h) (by omega)
  clear hsz
  by_cases h2 : 12 < e.depth
  · rw [if_pos h2] at hv
    have HV := Lib.hid hv; clear hv
    unfold exV at hcount hdepth ⊢
    go_enter Tryd.func72, Tryd.ntmps72
    go_wp2_with (first | (go_at_call 85; refine (hcount _ belA).mono ?_; rintro r w1 ⟨rfl, hb1⟩; have hc1 := bcell hb1; have hz1 := hb1.size; (try simp at hz1); (try have hy1 := lt0 w w1); (try have hy2 := ltA w 1 w1); (try have hy3 := ltA w 2 w1); (try have hy4 := lt0 wr w1); (try have hy5 := ltA wr 1 w1)) | (go_at_call 86; refine (hdepth _ belA).mono ?_; rintro r w1 ⟨rfl, hb1⟩; have hc1 := bcell hb1; have hz1 := hb1.size; (try simp at hz1); (try have hy1 := lt0 w w1); (try have hy2 := ltA w 1 w1); (try have hy3 := ltA w 2 w1); (try have hy4 := lt0 wr w1); (try have hy5 := ltA wr 1 w1)))
    go_ret
    exact ⟨ret_int HV.out.symm, belA⟩
  rw [if_neg h2] at hv
  have hformed := fun W h => formed_any e A cap W (he.later h)
  cases h3 : e.formed
  · rw [h3, if_neg (by simp)] at hv
    have HV := Lib.hid hv; clear hv
    unfold exV at hcount hdepth hformed ⊢
    go_enter Tryd.func72, Tryd.ntmps72
    go_wp2_with (first | (go_at_call 85; refine (hcount _ belA).mono ?_; rintro r w1 ⟨rfl, hb1⟩; have hc1 := bcell hb1; have hz1 := hb1.size; (try simp at hz1); (try have hy1 := lt0 w w1); (try have hy2 := ltA w 1 w1); (try have hy3 := ltA w 2 w1); (try have hy4 := lt0 wr w1); (try have hy5 := ltA wr 1 w1)) | (go_at_call 86; refine (hdepth _ belA).mono ?_; rintro r w1 ⟨rfl, hb1⟩; have hc1 := bcell hb1; have hz1 := hb1.size; (try simp at hz1); (try have hy1 := lt0 w w1); (try have hy2 := ltA w 1 w1); (try have hy3 := ltA w 2 w1); (try have hy4 := lt0 wr w1); (try have hy5 := ltA wr 1 w1)) | (go_at_call 87; refine (hformed _ belA).mono ?_; rintro r w1 ⟨rfl, hb1⟩; have hc1 := bcell hb1; have hz1 := hb1.size; (try simp at hz1); (try have hy1 := lt0 w w1); (try have hy2 := ltA w 1 w1); (try have hy3 := ltA w 2 w1); (try have hy4 := lt0 wr w1); (try have hy5 := ltA wr 1 w1)))
    go_ret
    exact ⟨ret_int HV.out.symm, belA⟩
  · rw [h3, if_pos rfl] at hv
    have HV := Lib.hid hv; clear hv
    unfold exV at hcount hdepth hformed ⊢
    go_enter Tryd.func72, Tryd.ntmps72
    go_wp2_with (first | (go_at_call 85; refine (hcount _ belA).mono ?_; rintro r w1 ⟨rfl, hb1⟩; have hc1 := bcell hb1; have hz1 := hb1.size; (try simp at hz1); (try have hy1 := lt0 w w1); (try have hy2 := ltA w 1 w1); (try have hy3 := ltA w 2 w1); (try have hy4 := lt0 wr w1); (try have hy5 := ltA wr 1 w1)) | (go_at_call 86; refine (hdepth _ belA).mono ?_; rintro r w1 ⟨rfl, hb1⟩; have hc1 := bcell hb1; have hz1 := hb1.size; (try simp at hz1); (try have hy1 := lt0 w w1); (try have hy2 := ltA w 1 w1); (try have hy3 := ltA w 2 w1); (try have hy4 := lt0 wr w1); (try have hy5 := ltA wr 1 w1)) | (go_at_call 87; refine (hformed _ belA).mono ?_; rintro r w1 ⟨rfl, hb1⟩; have hc1 := bcell hb1; have hz1 := hb1.size; (try simp at hz1); (try have hy1 := lt0 w w1); (try have hy2 := ltA w 1 w1); (try have hy3 := ltA w 2 w1); (try have hy4 := lt0 wr w1); (try have hy5 := ltA wr 1 w1)))
    go_ret
    exact ⟨ret_int HV.out.symm, belA⟩

end Go.Proofs.YtknfcamdfdfoeaaDoor
