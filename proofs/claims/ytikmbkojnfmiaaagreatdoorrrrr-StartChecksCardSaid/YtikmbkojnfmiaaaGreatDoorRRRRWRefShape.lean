/- Walks over the reference's tree: numbered, shape. -/
import Derived.Test.YtikmbkojnfmiaaaGreatDoorRRRRWRefLex
import Derived.Test.YtikmbkojnfmiaaaGreatDoorRRRRBG
set_option linter.unusedVariables false
set_option linter.unusedSimpArgs false
set_option maxRecDepth 100000
namespace Go.Proofs.YtikmbkojnfmiaaaGreatDoorRRRR
open Go.RowKit Go.Sort

/-- numbered. -/
def numB (k : Int) : Bool := k == 1 || k == 2 || k == 4 || k == 5
set_option maxHeartbeats 1000000 in
theorem numbered_any (k : Int) (w : World) : Calls Tryz.prog 99 #[.int .i64 k] w fun r w' => r = .returned (.bool (numB k)) ∧ w = w' := by
  have hv : numB k = (k == 1 || k == 2 || k == 4 || k == 5) := rfl
  cases h1 : (k == 1) <;> cases h2 : (k == 2) <;> cases h4 : (k == 4) <;> cases h5 : (k == 5) <;>
  · rw [h1, h2, h4, h5] at hv
    have HV := Lib.hid hv
    clear hv
    go_enter Tryz.func99, Tryz.ntmps99
    go_wp2_with fail
    go_ret
    exact ⟨ret_bool HV.out.symm, rfl⟩
theorem nameB_empty {s : ByteArray} (h : s.toList.isEmpty = true) : nameB s = false := by
  cases hn : nameB s with
  | false => rfl
  | true => rw [nameB_ne hn] at h; cases h

set_option maxHeartbeats 4000000 in
set_option maxRecDepth 100000 in
theorem shape_1 (e : Ex) (A : Option Addr) (cap : Nat) (w : World) (hn0 : I32 e.n) (hk : e.kind = 1) :
    Calls Tryz.prog 85 #[exV e A cap] w fun r w' => r = .returned (.bool (formedH e.kind e.n e.name e.sub.length)) ∧ Below w.heap.size w w' := by
  unfold I32 at hn0
  obtain ⟨hn1, hn2⟩ := hn0
  have hnm := fun W => name12_any e.name W
  have hnu := fun W => numbered_any e.kind W
  have hnv : numB e.kind = true := by rw [hk]; rfl
  rw [hnv] at hnu
  have t1 : (e.kind == 1) = true := by rw [hk]; rfl
  by_cases hl : e.sub.length = 0
  · have l1 : ((e.sub.length : Int) == 0) = true := by rw [hl]; rfl
    by_cases h : 0 ≤ e.n
    · have s1 : decide (0 ≤ e.n) = true := by simpa using h
      cases hs : e.name.toList.isEmpty
      · have hs2 : e.name.toList ≠ [] := by intro h; rw [h] at hs; cases hs
        have hv : formedH e.kind e.n e.name e.sub.length = false := by unfold formedH formK; rw [hk]; simp [hs2]
        have HV := Lib.hid hv; clear hv
        clear hk
        (try clear hl); (try clear hl2); (try clear h); (try clear h2); (try clear h3); (try clear hs2); (try clear hs1)
        unfold exV
        go_enter Tryz.func85, Tryz.ntmps85
        go_wp2_with (first | (go_at_call 78; refine (hnm _).mono ?_; rintro r w1 ⟨rfl, hb1⟩; have hc1 := bcell hb1; have hz1 := hb1.size; (try simp at hz1); (try have hy1 := lt0 w w1); (try have hy2 := ltA w 1 w1); (try have hy3 := ltA w 2 w1); (try have hy4 := lt0 wr w1); (try have hy5 := ltA wr 1 w1)) | (go_at_call 99; refine (hnu _).mono ?_; rintro r w1 ⟨rfl, rfl⟩))
        all_goals
          go_ret
          exact ⟨ret_bool HV.out.symm, belA⟩
      · have hs1 := nameB_empty hs
        have hs2 : e.name.toList = [] := by simpa using hs
        have hv : formedH e.kind e.n e.name e.sub.length = true := by unfold formedH formK; rw [hk]; simp [hl, hs1, hs2, h, hn2, Int.not_lt.2 h, Int.not_lt.2 hn2]
        have HV := Lib.hid hv; clear hv
        clear hk
        (try clear hl); (try clear hl2); (try clear h); (try clear h2); (try clear h3); (try clear hs2); (try clear hs1)
        unfold exV
        go_enter Tryz.func85, Tryz.ntmps85
        go_wp2_with (first | (go_at_call 78; refine (hnm _).mono ?_; rintro r w1 ⟨rfl, hb1⟩; have hc1 := bcell hb1; have hz1 := hb1.size; (try simp at hz1); (try have hy1 := lt0 w w1); (try have hy2 := ltA w 1 w1); (try have hy3 := ltA w 2 w1); (try have hy4 := lt0 wr w1); (try have hy5 := ltA wr 1 w1)) | (go_at_call 99; refine (hnu _).mono ?_; rintro r w1 ⟨rfl, rfl⟩))
        all_goals
          go_ret
          exact ⟨ret_bool HV.out.symm, belA⟩
    · have s1 : decide (0 ≤ e.n) = false := by simpa using h
      have hv : formedH e.kind e.n e.name e.sub.length = false := by unfold formedH formK; rw [hk]; simp [Int.not_le.1 h]
      have HV := Lib.hid hv; clear hv
      clear hk
      (try clear hl); (try clear hl2); (try clear h); (try clear h2); (try clear h3); (try clear hs2); (try clear hs1)
      unfold exV
      go_enter Tryz.func85, Tryz.ntmps85
      go_wp2_with (first | (go_at_call 78; refine (hnm _).mono ?_; rintro r w1 ⟨rfl, hb1⟩; have hc1 := bcell hb1; have hz1 := hb1.size; (try simp at hz1); (try have hy1 := lt0 w w1); (try have hy2 := ltA w 1 w1); (try have hy3 := ltA w 2 w1); (try have hy4 := lt0 wr w1); (try have hy5 := ltA wr 1 w1)) | (go_at_call 99; refine (hnu _).mono ?_; rintro r w1 ⟨rfl, rfl⟩))
      all_goals
        go_ret
        exact ⟨ret_bool HV.out.symm, belA⟩
  · have l1 : ((e.sub.length : Int) == 0) = false := by rw [beq_eq_false_iff_ne]; omega
    have hl2 : ¬ (e.sub.length : Int) = 0 := by omega
    have hv : formedH e.kind e.n e.name e.sub.length = false := by unfold formedH formK; rw [hk]; simp [hl2, hl]
    have HV := Lib.hid hv; clear hv
    clear hk
    (try clear hl); (try clear hl2); (try clear h); (try clear h2); (try clear h3); (try clear hs2); (try clear hs1)
    unfold exV
    go_enter Tryz.func85, Tryz.ntmps85
    go_wp2_with (first | (go_at_call 78; refine (hnm _).mono ?_; rintro r w1 ⟨rfl, hb1⟩; have hc1 := bcell hb1; have hz1 := hb1.size; (try simp at hz1); (try have hy1 := lt0 w w1); (try have hy2 := ltA w 1 w1); (try have hy3 := ltA w 2 w1); (try have hy4 := lt0 wr w1); (try have hy5 := ltA wr 1 w1)) | (go_at_call 99; refine (hnu _).mono ?_; rintro r w1 ⟨rfl, rfl⟩))
    all_goals
      go_ret
      exact ⟨ret_bool HV.out.symm, belA⟩

set_option maxHeartbeats 4000000 in
set_option maxRecDepth 100000 in
theorem shape_2 (e : Ex) (A : Option Addr) (cap : Nat) (w : World) (hn0 : I32 e.n) (hk : e.kind = 2) :
    Calls Tryz.prog 85 #[exV e A cap] w fun r w' => r = .returned (.bool (formedH e.kind e.n e.name e.sub.length)) ∧ Below w.heap.size w w' := by
  unfold I32 at hn0
  obtain ⟨hn1, hn2⟩ := hn0
  have hnm := fun W => name12_any e.name W
  have hnu := fun W => numbered_any e.kind W
  have hnv : numB e.kind = true := by rw [hk]; rfl
  rw [hnv] at hnu
  have t1 : (e.kind == 1) = false := by rw [hk]; rfl
  have t2 : (e.kind == 2) = true := by rw [hk]; rfl
  by_cases hl : e.sub.length = 0
  · have l1 : ((e.sub.length : Int) == 0) = true := by rw [hl]; rfl
    by_cases h : e.n = 0
    · have s1 : (e.n == 0) = true := by rw [h]; rfl
      cases hs : e.name.toList.isEmpty
      · have hs2 : e.name.toList ≠ [] := by intro h; rw [h] at hs; cases hs
        have hv : formedH e.kind e.n e.name e.sub.length = false := by unfold formedH formK; rw [hk]; simp [hs2]
        have HV := Lib.hid hv; clear hv
        clear hk
        (try clear hl); (try clear hl2); (try clear h); (try clear h2); (try clear h3); (try clear hs2); (try clear hs1)
        unfold exV
        go_enter Tryz.func85, Tryz.ntmps85
        go_wp2_with (first | (go_at_call 78; refine (hnm _).mono ?_; rintro r w1 ⟨rfl, hb1⟩; have hc1 := bcell hb1; have hz1 := hb1.size; (try simp at hz1); (try have hy1 := lt0 w w1); (try have hy2 := ltA w 1 w1); (try have hy3 := ltA w 2 w1); (try have hy4 := lt0 wr w1); (try have hy5 := ltA wr 1 w1)) | (go_at_call 99; refine (hnu _).mono ?_; rintro r w1 ⟨rfl, rfl⟩))
        all_goals
          go_ret
          exact ⟨ret_bool HV.out.symm, belA⟩
      · have hs1 := nameB_empty hs
        have hs2 : e.name.toList = [] := by simpa using hs
        have hv : formedH e.kind e.n e.name e.sub.length = true := by unfold formedH formK; rw [hk]; simp [hl, hs1, hs2, h]
        have HV := Lib.hid hv; clear hv
        clear hk
        (try clear hl); (try clear hl2); (try clear h); (try clear h2); (try clear h3); (try clear hs2); (try clear hs1)
        unfold exV
        go_enter Tryz.func85, Tryz.ntmps85
        go_wp2_with (first | (go_at_call 78; refine (hnm _).mono ?_; rintro r w1 ⟨rfl, hb1⟩; have hc1 := bcell hb1; have hz1 := hb1.size; (try simp at hz1); (try have hy1 := lt0 w w1); (try have hy2 := ltA w 1 w1); (try have hy3 := ltA w 2 w1); (try have hy4 := lt0 wr w1); (try have hy5 := ltA wr 1 w1)) | (go_at_call 99; refine (hnu _).mono ?_; rintro r w1 ⟨rfl, rfl⟩))
        all_goals
          go_ret
          exact ⟨ret_bool HV.out.symm, belA⟩
    · have s1 : (e.n == 0) = false := by simpa using h
      by_cases h2 : e.n = 1
      · have s2 : (e.n == 1) = true := by rw [h2]; rfl
        cases hs : e.name.toList.isEmpty
        · have hs2 : e.name.toList ≠ [] := by intro h; rw [h] at hs; cases hs
          have hv : formedH e.kind e.n e.name e.sub.length = false := by unfold formedH formK; rw [hk]; simp [hs2]
          have HV := Lib.hid hv; clear hv
          clear hk
          (try clear hl); (try clear hl2); (try clear h); (try clear h2); (try clear h3); (try clear hs2); (try clear hs1)
          unfold exV
          go_enter Tryz.func85, Tryz.ntmps85
          go_wp2_with (first | (go_at_call 78; refine (hnm _).mono ?_; rintro r w1 ⟨rfl, hb1⟩; have hc1 := bcell hb1; have hz1 := hb1.size; (try simp at hz1); (try have hy1 := lt0 w w1); (try have hy2 := ltA w 1 w1); (try have hy3 := ltA w 2 w1); (try have hy4 := lt0 wr w1); (try have hy5 := ltA wr 1 w1)) | (go_at_call 99; refine (hnu _).mono ?_; rintro r w1 ⟨rfl, rfl⟩))
          all_goals
            go_ret
            exact ⟨ret_bool HV.out.symm, belA⟩
        · have hs1 := nameB_empty hs
          have hs2 : e.name.toList = [] := by simpa using hs
          have hv : formedH e.kind e.n e.name e.sub.length = true := by unfold formedH formK; rw [hk]; simp [hl, hs1, hs2, h2]
          have HV := Lib.hid hv; clear hv
          clear hk
          (try clear hl); (try clear hl2); (try clear h); (try clear h2); (try clear h3); (try clear hs2); (try clear hs1)
          unfold exV
          go_enter Tryz.func85, Tryz.ntmps85
          go_wp2_with (first | (go_at_call 78; refine (hnm _).mono ?_; rintro r w1 ⟨rfl, hb1⟩; have hc1 := bcell hb1; have hz1 := hb1.size; (try simp at hz1); (try have hy1 := lt0 w w1); (try have hy2 := ltA w 1 w1); (try have hy3 := ltA w 2 w1); (try have hy4 := lt0 wr w1); (try have hy5 := ltA wr 1 w1)) | (go_at_call 99; refine (hnu _).mono ?_; rintro r w1 ⟨rfl, rfl⟩))
          all_goals
            go_ret
            exact ⟨ret_bool HV.out.symm, belA⟩
      · have s2 : (e.n == 1) = false := by simpa using h2
        have h3 : e.n < 0 ∨ 1 < e.n := by omega
        rcases h3 with h3 | h3
        · have hv : formedH e.kind e.n e.name e.sub.length = false := by unfold formedH formK; rw [hk]; simp [h3]
          have HV := Lib.hid hv; clear hv
          clear hk
          (try clear hl); (try clear hl2); (try clear h); (try clear h2); (try clear h3); (try clear hs2); (try clear hs1)
          unfold exV
          go_enter Tryz.func85, Tryz.ntmps85
          go_wp2_with (first | (go_at_call 78; refine (hnm _).mono ?_; rintro r w1 ⟨rfl, hb1⟩; have hc1 := bcell hb1; have hz1 := hb1.size; (try simp at hz1); (try have hy1 := lt0 w w1); (try have hy2 := ltA w 1 w1); (try have hy3 := ltA w 2 w1); (try have hy4 := lt0 wr w1); (try have hy5 := ltA wr 1 w1)) | (go_at_call 99; refine (hnu _).mono ?_; rintro r w1 ⟨rfl, rfl⟩))
          all_goals
            go_ret
            exact ⟨ret_bool HV.out.symm, belA⟩
        · have hv : formedH e.kind e.n e.name e.sub.length = false := by unfold formedH formK; rw [hk]; simp [h3]
          have HV := Lib.hid hv; clear hv
          clear hk
          (try clear hl); (try clear hl2); (try clear h); (try clear h2); (try clear h3); (try clear hs2); (try clear hs1)
          unfold exV
          go_enter Tryz.func85, Tryz.ntmps85
          go_wp2_with (first | (go_at_call 78; refine (hnm _).mono ?_; rintro r w1 ⟨rfl, hb1⟩; have hc1 := bcell hb1; have hz1 := hb1.size; (try simp at hz1); (try have hy1 := lt0 w w1); (try have hy2 := ltA w 1 w1); (try have hy3 := ltA w 2 w1); (try have hy4 := lt0 wr w1); (try have hy5 := ltA wr 1 w1)) | (go_at_call 99; refine (hnu _).mono ?_; rintro r w1 ⟨rfl, rfl⟩))
          all_goals
            go_ret
            exact ⟨ret_bool HV.out.symm, belA⟩
  · have l1 : ((e.sub.length : Int) == 0) = false := by rw [beq_eq_false_iff_ne]; omega
    have hl2 : ¬ (e.sub.length : Int) = 0 := by omega
    have hv : formedH e.kind e.n e.name e.sub.length = false := by unfold formedH formK; rw [hk]; simp [hl2, hl]
    have HV := Lib.hid hv; clear hv
    clear hk
    (try clear hl); (try clear hl2); (try clear h); (try clear h2); (try clear h3); (try clear hs2); (try clear hs1)
    unfold exV
    go_enter Tryz.func85, Tryz.ntmps85
    go_wp2_with (first | (go_at_call 78; refine (hnm _).mono ?_; rintro r w1 ⟨rfl, hb1⟩; have hc1 := bcell hb1; have hz1 := hb1.size; (try simp at hz1); (try have hy1 := lt0 w w1); (try have hy2 := ltA w 1 w1); (try have hy3 := ltA w 2 w1); (try have hy4 := lt0 wr w1); (try have hy5 := ltA wr 1 w1)) | (go_at_call 99; refine (hnu _).mono ?_; rintro r w1 ⟨rfl, rfl⟩))
    all_goals
      go_ret
      exact ⟨ret_bool HV.out.symm, belA⟩

set_option maxHeartbeats 4000000 in
set_option maxRecDepth 100000 in
theorem shape_3 (e : Ex) (A : Option Addr) (cap : Nat) (w : World) (hn0 : I32 e.n) (hk : e.kind = 3) :
    Calls Tryz.prog 85 #[exV e A cap] w fun r w' => r = .returned (.bool (formedH e.kind e.n e.name e.sub.length)) ∧ Below w.heap.size w w' := by
  unfold I32 at hn0
  obtain ⟨hn1, hn2⟩ := hn0
  have hnm := fun W => name12_any e.name W
  have hnu := fun W => numbered_any e.kind W
  have hnv : numB e.kind = false := by rw [hk]; rfl
  rw [hnv] at hnu
  have t1 : (e.kind == 1) = false := by rw [hk]; rfl
  have t2 : (e.kind == 2) = false := by rw [hk]; rfl
  have t3 : (e.kind == 3) = true := by rw [hk]; rfl
  by_cases hl : e.sub.length = 0
  · have l1 : ((e.sub.length : Int) == 0) = true := by rw [hl]; rfl
    by_cases h : e.n = 0
    · have s1 : (e.n == 0) = true := by rw [h]; rfl
      cases hs : nameB e.name
      · rw [hs] at hnm
        have hv : formedH e.kind e.n e.name e.sub.length = false := by unfold formedH formK; rw [hk]; simp [hs]
        have HV := Lib.hid hv; clear hv
        clear hk
        (try clear hl); (try clear hl2); (try clear h); (try clear h2); (try clear h3); (try clear hs2); (try clear hs1)
        unfold exV
        go_enter Tryz.func85, Tryz.ntmps85
        go_wp2_with (first | (go_at_call 78; refine (hnm _).mono ?_; rintro r w1 ⟨rfl, hb1⟩; have hc1 := bcell hb1; have hz1 := hb1.size; (try simp at hz1); (try have hy1 := lt0 w w1); (try have hy2 := ltA w 1 w1); (try have hy3 := ltA w 2 w1); (try have hy4 := lt0 wr w1); (try have hy5 := ltA wr 1 w1)) | (go_at_call 99; refine (hnu _).mono ?_; rintro r w1 ⟨rfl, rfl⟩))
        all_goals
          go_ret
          exact ⟨ret_bool HV.out.symm, belA⟩
      · rw [hs] at hnm
        have hv : formedH e.kind e.n e.name e.sub.length = true := by unfold formedH formK; rw [hk]; simp [hl, hs, h]
        have HV := Lib.hid hv; clear hv
        clear hk
        (try clear hl); (try clear hl2); (try clear h); (try clear h2); (try clear h3); (try clear hs2); (try clear hs1)
        unfold exV
        go_enter Tryz.func85, Tryz.ntmps85
        go_wp2_with (first | (go_at_call 78; refine (hnm _).mono ?_; rintro r w1 ⟨rfl, hb1⟩; have hc1 := bcell hb1; have hz1 := hb1.size; (try simp at hz1); (try have hy1 := lt0 w w1); (try have hy2 := ltA w 1 w1); (try have hy3 := ltA w 2 w1); (try have hy4 := lt0 wr w1); (try have hy5 := ltA wr 1 w1)) | (go_at_call 99; refine (hnu _).mono ?_; rintro r w1 ⟨rfl, rfl⟩))
        all_goals
          go_ret
          exact ⟨ret_bool HV.out.symm, belA⟩
    · have s1 : (e.n == 0) = false := by simpa using h
      have h3 : e.n < 0 ∨ 0 < e.n := by omega
      rcases h3 with h3 | h3
      · have hv : formedH e.kind e.n e.name e.sub.length = false := by unfold formedH formK; rw [hk]; simp [h3]
        have HV := Lib.hid hv; clear hv
        clear hk
        (try clear hl); (try clear hl2); (try clear h); (try clear h2); (try clear h3); (try clear hs2); (try clear hs1)
        unfold exV
        go_enter Tryz.func85, Tryz.ntmps85
        go_wp2_with (first | (go_at_call 78; refine (hnm _).mono ?_; rintro r w1 ⟨rfl, hb1⟩; have hc1 := bcell hb1; have hz1 := hb1.size; (try simp at hz1); (try have hy1 := lt0 w w1); (try have hy2 := ltA w 1 w1); (try have hy3 := ltA w 2 w1); (try have hy4 := lt0 wr w1); (try have hy5 := ltA wr 1 w1)) | (go_at_call 99; refine (hnu _).mono ?_; rintro r w1 ⟨rfl, rfl⟩))
        all_goals
          go_ret
          exact ⟨ret_bool HV.out.symm, belA⟩
      · have hv : formedH e.kind e.n e.name e.sub.length = false := by unfold formedH formK; rw [hk]; simp [h3]
        have HV := Lib.hid hv; clear hv
        clear hk
        (try clear hl); (try clear hl2); (try clear h); (try clear h2); (try clear h3); (try clear hs2); (try clear hs1)
        unfold exV
        go_enter Tryz.func85, Tryz.ntmps85
        go_wp2_with (first | (go_at_call 78; refine (hnm _).mono ?_; rintro r w1 ⟨rfl, hb1⟩; have hc1 := bcell hb1; have hz1 := hb1.size; (try simp at hz1); (try have hy1 := lt0 w w1); (try have hy2 := ltA w 1 w1); (try have hy3 := ltA w 2 w1); (try have hy4 := lt0 wr w1); (try have hy5 := ltA wr 1 w1)) | (go_at_call 99; refine (hnu _).mono ?_; rintro r w1 ⟨rfl, rfl⟩))
        all_goals
          go_ret
          exact ⟨ret_bool HV.out.symm, belA⟩
  · have l1 : ((e.sub.length : Int) == 0) = false := by rw [beq_eq_false_iff_ne]; omega
    have hl2 : ¬ (e.sub.length : Int) = 0 := by omega
    have hv : formedH e.kind e.n e.name e.sub.length = false := by unfold formedH formK; rw [hk]; simp [hl2, hl]
    have HV := Lib.hid hv; clear hv
    clear hk
    (try clear hl); (try clear hl2); (try clear h); (try clear h2); (try clear h3); (try clear hs2); (try clear hs1)
    unfold exV
    go_enter Tryz.func85, Tryz.ntmps85
    go_wp2_with (first | (go_at_call 78; refine (hnm _).mono ?_; rintro r w1 ⟨rfl, hb1⟩; have hc1 := bcell hb1; have hz1 := hb1.size; (try simp at hz1); (try have hy1 := lt0 w w1); (try have hy2 := ltA w 1 w1); (try have hy3 := ltA w 2 w1); (try have hy4 := lt0 wr w1); (try have hy5 := ltA wr 1 w1)) | (go_at_call 99; refine (hnu _).mono ?_; rintro r w1 ⟨rfl, rfl⟩))
    all_goals
      go_ret
      exact ⟨ret_bool HV.out.symm, belA⟩

set_option maxHeartbeats 4000000 in
set_option maxRecDepth 100000 in
theorem shape_4 (e : Ex) (A : Option Addr) (cap : Nat) (w : World) (hn0 : I32 e.n) (hk : e.kind = 4) :
    Calls Tryz.prog 85 #[exV e A cap] w fun r w' => r = .returned (.bool (formedH e.kind e.n e.name e.sub.length)) ∧ Below w.heap.size w w' := by
  unfold I32 at hn0
  obtain ⟨hn1, hn2⟩ := hn0
  have hnm := fun W => name12_any e.name W
  have hnu := fun W => numbered_any e.kind W
  have hnv : numB e.kind = true := by rw [hk]; rfl
  rw [hnv] at hnu
  have t1 : (e.kind == 1) = false := by rw [hk]; rfl
  have t2 : (e.kind == 2) = false := by rw [hk]; rfl
  have t3 : (e.kind == 3) = false := by rw [hk]; rfl
  have t4 : (e.kind == 4) = true := by rw [hk]; rfl
  by_cases hl : e.sub.length = 1
  · have l1 : ((e.sub.length : Int) == 1) = true := by rw [hl]; rfl
    by_cases h : 1 ≤ e.n
    · have s1 : decide (1 ≤ e.n) = true := by simpa using h
      by_cases h2 : e.n ≤ 2
      · have s2 : decide (e.n ≤ 2) = true := by simpa using h2
        cases hs : e.name.toList.isEmpty
        · have hs2 : e.name.toList ≠ [] := by intro h; rw [h] at hs; cases hs
          have hv : formedH e.kind e.n e.name e.sub.length = false := by unfold formedH formK; rw [hk]; simp [hs2]
          have HV := Lib.hid hv; clear hv
          clear hk
          (try clear hl); (try clear hl2); (try clear h); (try clear h2); (try clear h3); (try clear hs2); (try clear hs1)
          unfold exV
          go_enter Tryz.func85, Tryz.ntmps85
          go_wp2_with (first | (go_at_call 78; refine (hnm _).mono ?_; rintro r w1 ⟨rfl, hb1⟩; have hc1 := bcell hb1; have hz1 := hb1.size; (try simp at hz1); (try have hy1 := lt0 w w1); (try have hy2 := ltA w 1 w1); (try have hy3 := ltA w 2 w1); (try have hy4 := lt0 wr w1); (try have hy5 := ltA wr 1 w1)) | (go_at_call 99; refine (hnu _).mono ?_; rintro r w1 ⟨rfl, rfl⟩))
          all_goals
            go_ret
            exact ⟨ret_bool HV.out.symm, belA⟩
        · have hs1 := nameB_empty hs
          have hs2 : e.name.toList = [] := by simpa using hs
          have hv : formedH e.kind e.n e.name e.sub.length = true := by unfold formedH formK; rw [hk]; simp [hl, hs1, hs2, h, h2, Int.not_lt.2 h, Int.not_lt.2 h2]
          have HV := Lib.hid hv; clear hv
          clear hk
          (try clear hl); (try clear hl2); (try clear h); (try clear h2); (try clear h3); (try clear hs2); (try clear hs1)
          unfold exV
          go_enter Tryz.func85, Tryz.ntmps85
          go_wp2_with (first | (go_at_call 78; refine (hnm _).mono ?_; rintro r w1 ⟨rfl, hb1⟩; have hc1 := bcell hb1; have hz1 := hb1.size; (try simp at hz1); (try have hy1 := lt0 w w1); (try have hy2 := ltA w 1 w1); (try have hy3 := ltA w 2 w1); (try have hy4 := lt0 wr w1); (try have hy5 := ltA wr 1 w1)) | (go_at_call 99; refine (hnu _).mono ?_; rintro r w1 ⟨rfl, rfl⟩))
          all_goals
            go_ret
            exact ⟨ret_bool HV.out.symm, belA⟩
      · have s2 : decide (e.n ≤ 2) = false := by simpa using h2
        have hv : formedH e.kind e.n e.name e.sub.length = false := by unfold formedH formK; rw [hk]; simp [Int.not_le.1 h2]
        have HV := Lib.hid hv; clear hv
        clear hk
        (try clear hl); (try clear hl2); (try clear h); (try clear h2); (try clear h3); (try clear hs2); (try clear hs1)
        unfold exV
        go_enter Tryz.func85, Tryz.ntmps85
        go_wp2_with (first | (go_at_call 78; refine (hnm _).mono ?_; rintro r w1 ⟨rfl, hb1⟩; have hc1 := bcell hb1; have hz1 := hb1.size; (try simp at hz1); (try have hy1 := lt0 w w1); (try have hy2 := ltA w 1 w1); (try have hy3 := ltA w 2 w1); (try have hy4 := lt0 wr w1); (try have hy5 := ltA wr 1 w1)) | (go_at_call 99; refine (hnu _).mono ?_; rintro r w1 ⟨rfl, rfl⟩))
        all_goals
          go_ret
          exact ⟨ret_bool HV.out.symm, belA⟩
    · have s1 : decide (1 ≤ e.n) = false := by simpa using h
      have hv : formedH e.kind e.n e.name e.sub.length = false := by unfold formedH formK; rw [hk]; simp [Int.not_le.1 h]
      have HV := Lib.hid hv; clear hv
      clear hk
      (try clear hl); (try clear hl2); (try clear h); (try clear h2); (try clear h3); (try clear hs2); (try clear hs1)
      unfold exV
      go_enter Tryz.func85, Tryz.ntmps85
      go_wp2_with (first | (go_at_call 78; refine (hnm _).mono ?_; rintro r w1 ⟨rfl, hb1⟩; have hc1 := bcell hb1; have hz1 := hb1.size; (try simp at hz1); (try have hy1 := lt0 w w1); (try have hy2 := ltA w 1 w1); (try have hy3 := ltA w 2 w1); (try have hy4 := lt0 wr w1); (try have hy5 := ltA wr 1 w1)) | (go_at_call 99; refine (hnu _).mono ?_; rintro r w1 ⟨rfl, rfl⟩))
      all_goals
        go_ret
        exact ⟨ret_bool HV.out.symm, belA⟩
  · have l1 : ((e.sub.length : Int) == 1) = false := by rw [beq_eq_false_iff_ne]; omega
    have hl2 : ¬ (e.sub.length : Int) = 1 := by omega
    have hv : formedH e.kind e.n e.name e.sub.length = false := by unfold formedH formK; rw [hk]; simp [hl2, hl]
    have HV := Lib.hid hv; clear hv
    clear hk
    (try clear hl); (try clear hl2); (try clear h); (try clear h2); (try clear h3); (try clear hs2); (try clear hs1)
    unfold exV
    go_enter Tryz.func85, Tryz.ntmps85
    go_wp2_with (first | (go_at_call 78; refine (hnm _).mono ?_; rintro r w1 ⟨rfl, hb1⟩; have hc1 := bcell hb1; have hz1 := hb1.size; (try simp at hz1); (try have hy1 := lt0 w w1); (try have hy2 := ltA w 1 w1); (try have hy3 := ltA w 2 w1); (try have hy4 := lt0 wr w1); (try have hy5 := ltA wr 1 w1)) | (go_at_call 99; refine (hnu _).mono ?_; rintro r w1 ⟨rfl, rfl⟩))
    all_goals
      go_ret
      exact ⟨ret_bool HV.out.symm, belA⟩

set_option maxHeartbeats 4000000 in
set_option maxRecDepth 100000 in
theorem shape_5 (e : Ex) (A : Option Addr) (cap : Nat) (w : World) (hn0 : I32 e.n) (hk : e.kind = 5) :
    Calls Tryz.prog 85 #[exV e A cap] w fun r w' => r = .returned (.bool (formedH e.kind e.n e.name e.sub.length)) ∧ Below w.heap.size w w' := by
  unfold I32 at hn0
  obtain ⟨hn1, hn2⟩ := hn0
  have hnm := fun W => name12_any e.name W
  have hnu := fun W => numbered_any e.kind W
  have hnv : numB e.kind = true := by rw [hk]; rfl
  rw [hnv] at hnu
  have t1 : (e.kind == 1) = false := by rw [hk]; rfl
  have t2 : (e.kind == 2) = false := by rw [hk]; rfl
  have t3 : (e.kind == 3) = false := by rw [hk]; rfl
  have t4 : (e.kind == 4) = false := by rw [hk]; rfl
  have t5 : (e.kind == 5) = true := by rw [hk]; rfl
  by_cases hl : e.sub.length = 2
  · have l1 : ((e.sub.length : Int) == 2) = true := by rw [hl]; rfl
    by_cases h : 1 ≤ e.n
    · have s1 : decide (1 ≤ e.n) = true := by simpa using h
      by_cases h2 : e.n ≤ 16
      · have s2 : decide (e.n ≤ 16) = true := by simpa using h2
        cases hs : e.name.toList.isEmpty
        · have hs2 : e.name.toList ≠ [] := by intro h; rw [h] at hs; cases hs
          have hv : formedH e.kind e.n e.name e.sub.length = false := by unfold formedH formK; rw [hk]; simp [hs2]
          have HV := Lib.hid hv; clear hv
          clear hk
          (try clear hl); (try clear hl2); (try clear h); (try clear h2); (try clear h3); (try clear hs2); (try clear hs1)
          unfold exV
          go_enter Tryz.func85, Tryz.ntmps85
          go_wp2_with (first | (go_at_call 78; refine (hnm _).mono ?_; rintro r w1 ⟨rfl, hb1⟩; have hc1 := bcell hb1; have hz1 := hb1.size; (try simp at hz1); (try have hy1 := lt0 w w1); (try have hy2 := ltA w 1 w1); (try have hy3 := ltA w 2 w1); (try have hy4 := lt0 wr w1); (try have hy5 := ltA wr 1 w1)) | (go_at_call 99; refine (hnu _).mono ?_; rintro r w1 ⟨rfl, rfl⟩))
          all_goals
            go_ret
            exact ⟨ret_bool HV.out.symm, belA⟩
        · have hs1 := nameB_empty hs
          have hs2 : e.name.toList = [] := by simpa using hs
          have hv : formedH e.kind e.n e.name e.sub.length = true := by unfold formedH formK; rw [hk]; simp [hl, hs1, hs2, h, h2, Int.not_lt.2 h, Int.not_lt.2 h2]
          have HV := Lib.hid hv; clear hv
          clear hk
          (try clear hl); (try clear hl2); (try clear h); (try clear h2); (try clear h3); (try clear hs2); (try clear hs1)
          unfold exV
          go_enter Tryz.func85, Tryz.ntmps85
          go_wp2_with (first | (go_at_call 78; refine (hnm _).mono ?_; rintro r w1 ⟨rfl, hb1⟩; have hc1 := bcell hb1; have hz1 := hb1.size; (try simp at hz1); (try have hy1 := lt0 w w1); (try have hy2 := ltA w 1 w1); (try have hy3 := ltA w 2 w1); (try have hy4 := lt0 wr w1); (try have hy5 := ltA wr 1 w1)) | (go_at_call 99; refine (hnu _).mono ?_; rintro r w1 ⟨rfl, rfl⟩))
          all_goals
            go_ret
            exact ⟨ret_bool HV.out.symm, belA⟩
      · have s2 : decide (e.n ≤ 16) = false := by simpa using h2
        have hv : formedH e.kind e.n e.name e.sub.length = false := by unfold formedH formK; rw [hk]; simp [Int.not_le.1 h2]
        have HV := Lib.hid hv; clear hv
        clear hk
        (try clear hl); (try clear hl2); (try clear h); (try clear h2); (try clear h3); (try clear hs2); (try clear hs1)
        unfold exV
        go_enter Tryz.func85, Tryz.ntmps85
        go_wp2_with (first | (go_at_call 78; refine (hnm _).mono ?_; rintro r w1 ⟨rfl, hb1⟩; have hc1 := bcell hb1; have hz1 := hb1.size; (try simp at hz1); (try have hy1 := lt0 w w1); (try have hy2 := ltA w 1 w1); (try have hy3 := ltA w 2 w1); (try have hy4 := lt0 wr w1); (try have hy5 := ltA wr 1 w1)) | (go_at_call 99; refine (hnu _).mono ?_; rintro r w1 ⟨rfl, rfl⟩))
        all_goals
          go_ret
          exact ⟨ret_bool HV.out.symm, belA⟩
    · have s1 : decide (1 ≤ e.n) = false := by simpa using h
      have hv : formedH e.kind e.n e.name e.sub.length = false := by unfold formedH formK; rw [hk]; simp [Int.not_le.1 h]
      have HV := Lib.hid hv; clear hv
      clear hk
      (try clear hl); (try clear hl2); (try clear h); (try clear h2); (try clear h3); (try clear hs2); (try clear hs1)
      unfold exV
      go_enter Tryz.func85, Tryz.ntmps85
      go_wp2_with (first | (go_at_call 78; refine (hnm _).mono ?_; rintro r w1 ⟨rfl, hb1⟩; have hc1 := bcell hb1; have hz1 := hb1.size; (try simp at hz1); (try have hy1 := lt0 w w1); (try have hy2 := ltA w 1 w1); (try have hy3 := ltA w 2 w1); (try have hy4 := lt0 wr w1); (try have hy5 := ltA wr 1 w1)) | (go_at_call 99; refine (hnu _).mono ?_; rintro r w1 ⟨rfl, rfl⟩))
      all_goals
        go_ret
        exact ⟨ret_bool HV.out.symm, belA⟩
  · have l1 : ((e.sub.length : Int) == 2) = false := by rw [beq_eq_false_iff_ne]; omega
    have hl2 : ¬ (e.sub.length : Int) = 2 := by omega
    have hv : formedH e.kind e.n e.name e.sub.length = false := by unfold formedH formK; rw [hk]; simp [hl2, hl]
    have HV := Lib.hid hv; clear hv
    clear hk
    (try clear hl); (try clear hl2); (try clear h); (try clear h2); (try clear h3); (try clear hs2); (try clear hs1)
    unfold exV
    go_enter Tryz.func85, Tryz.ntmps85
    go_wp2_with (first | (go_at_call 78; refine (hnm _).mono ?_; rintro r w1 ⟨rfl, hb1⟩; have hc1 := bcell hb1; have hz1 := hb1.size; (try simp at hz1); (try have hy1 := lt0 w w1); (try have hy2 := ltA w 1 w1); (try have hy3 := ltA w 2 w1); (try have hy4 := lt0 wr w1); (try have hy5 := ltA wr 1 w1)) | (go_at_call 99; refine (hnu _).mono ?_; rintro r w1 ⟨rfl, rfl⟩))
    all_goals
      go_ret
      exact ⟨ret_bool HV.out.symm, belA⟩

set_option maxHeartbeats 4000000 in
set_option maxRecDepth 100000 in
theorem shape_6 (e : Ex) (A : Option Addr) (cap : Nat) (w : World) (hn0 : I32 e.n) (hk : e.kind = 6) :
    Calls Tryz.prog 85 #[exV e A cap] w fun r w' => r = .returned (.bool (formedH e.kind e.n e.name e.sub.length)) ∧ Below w.heap.size w w' := by
  unfold I32 at hn0
  obtain ⟨hn1, hn2⟩ := hn0
  have hnm := fun W => name12_any e.name W
  have hnu := fun W => numbered_any e.kind W
  have hnv : numB e.kind = false := by rw [hk]; rfl
  rw [hnv] at hnu
  have t1 : (e.kind == 1) = false := by rw [hk]; rfl
  have t2 : (e.kind == 2) = false := by rw [hk]; rfl
  have t3 : (e.kind == 3) = false := by rw [hk]; rfl
  have t4 : (e.kind == 4) = false := by rw [hk]; rfl
  have t5 : (e.kind == 5) = false := by rw [hk]; rfl
  have t6 : (e.kind == 6) = true := by rw [hk]; rfl
  by_cases hl : e.sub.length = 3
  · have l1 : ((e.sub.length : Int) == 3) = true := by rw [hl]; rfl
    by_cases h : e.n = 0
    · have s1 : (e.n == 0) = true := by rw [h]; rfl
      cases hs : e.name.toList.isEmpty
      · have hs2 : e.name.toList ≠ [] := by intro h; rw [h] at hs; cases hs
        have hv : formedH e.kind e.n e.name e.sub.length = false := by unfold formedH formK; rw [hk]; simp [hs2]
        have HV := Lib.hid hv; clear hv
        clear hk
        (try clear hl); (try clear hl2); (try clear h); (try clear h2); (try clear h3); (try clear hs2); (try clear hs1)
        unfold exV
        go_enter Tryz.func85, Tryz.ntmps85
        go_wp2_with (first | (go_at_call 78; refine (hnm _).mono ?_; rintro r w1 ⟨rfl, hb1⟩; have hc1 := bcell hb1; have hz1 := hb1.size; (try simp at hz1); (try have hy1 := lt0 w w1); (try have hy2 := ltA w 1 w1); (try have hy3 := ltA w 2 w1); (try have hy4 := lt0 wr w1); (try have hy5 := ltA wr 1 w1)) | (go_at_call 99; refine (hnu _).mono ?_; rintro r w1 ⟨rfl, rfl⟩))
        all_goals
          go_ret
          exact ⟨ret_bool HV.out.symm, belA⟩
      · have hs1 := nameB_empty hs
        have hs2 : e.name.toList = [] := by simpa using hs
        have hv : formedH e.kind e.n e.name e.sub.length = true := by unfold formedH formK; rw [hk]; simp [hl, hs1, hs2, h]
        have HV := Lib.hid hv; clear hv
        clear hk
        (try clear hl); (try clear hl2); (try clear h); (try clear h2); (try clear h3); (try clear hs2); (try clear hs1)
        unfold exV
        go_enter Tryz.func85, Tryz.ntmps85
        go_wp2_with (first | (go_at_call 78; refine (hnm _).mono ?_; rintro r w1 ⟨rfl, hb1⟩; have hc1 := bcell hb1; have hz1 := hb1.size; (try simp at hz1); (try have hy1 := lt0 w w1); (try have hy2 := ltA w 1 w1); (try have hy3 := ltA w 2 w1); (try have hy4 := lt0 wr w1); (try have hy5 := ltA wr 1 w1)) | (go_at_call 99; refine (hnu _).mono ?_; rintro r w1 ⟨rfl, rfl⟩))
        all_goals
          go_ret
          exact ⟨ret_bool HV.out.symm, belA⟩
    · have s1 : (e.n == 0) = false := by simpa using h
      have h3 : e.n < 0 ∨ 0 < e.n := by omega
      rcases h3 with h3 | h3
      · have hv : formedH e.kind e.n e.name e.sub.length = false := by unfold formedH formK; rw [hk]; simp [h3]
        have HV := Lib.hid hv; clear hv
        clear hk
        (try clear hl); (try clear hl2); (try clear h); (try clear h2); (try clear h3); (try clear hs2); (try clear hs1)
        unfold exV
        go_enter Tryz.func85, Tryz.ntmps85
        go_wp2_with (first | (go_at_call 78; refine (hnm _).mono ?_; rintro r w1 ⟨rfl, hb1⟩; have hc1 := bcell hb1; have hz1 := hb1.size; (try simp at hz1); (try have hy1 := lt0 w w1); (try have hy2 := ltA w 1 w1); (try have hy3 := ltA w 2 w1); (try have hy4 := lt0 wr w1); (try have hy5 := ltA wr 1 w1)) | (go_at_call 99; refine (hnu _).mono ?_; rintro r w1 ⟨rfl, rfl⟩))
        all_goals
          go_ret
          exact ⟨ret_bool HV.out.symm, belA⟩
      · have hv : formedH e.kind e.n e.name e.sub.length = false := by unfold formedH formK; rw [hk]; simp [h3]
        have HV := Lib.hid hv; clear hv
        clear hk
        (try clear hl); (try clear hl2); (try clear h); (try clear h2); (try clear h3); (try clear hs2); (try clear hs1)
        unfold exV
        go_enter Tryz.func85, Tryz.ntmps85
        go_wp2_with (first | (go_at_call 78; refine (hnm _).mono ?_; rintro r w1 ⟨rfl, hb1⟩; have hc1 := bcell hb1; have hz1 := hb1.size; (try simp at hz1); (try have hy1 := lt0 w w1); (try have hy2 := ltA w 1 w1); (try have hy3 := ltA w 2 w1); (try have hy4 := lt0 wr w1); (try have hy5 := ltA wr 1 w1)) | (go_at_call 99; refine (hnu _).mono ?_; rintro r w1 ⟨rfl, rfl⟩))
        all_goals
          go_ret
          exact ⟨ret_bool HV.out.symm, belA⟩
  · have l1 : ((e.sub.length : Int) == 3) = false := by rw [beq_eq_false_iff_ne]; omega
    have hl2 : ¬ (e.sub.length : Int) = 3 := by omega
    have hv : formedH e.kind e.n e.name e.sub.length = false := by unfold formedH formK; rw [hk]; simp [hl2, hl]
    have HV := Lib.hid hv; clear hv
    clear hk
    (try clear hl); (try clear hl2); (try clear h); (try clear h2); (try clear h3); (try clear hs2); (try clear hs1)
    unfold exV
    go_enter Tryz.func85, Tryz.ntmps85
    go_wp2_with (first | (go_at_call 78; refine (hnm _).mono ?_; rintro r w1 ⟨rfl, hb1⟩; have hc1 := bcell hb1; have hz1 := hb1.size; (try simp at hz1); (try have hy1 := lt0 w w1); (try have hy2 := ltA w 1 w1); (try have hy3 := ltA w 2 w1); (try have hy4 := lt0 wr w1); (try have hy5 := ltA wr 1 w1)) | (go_at_call 99; refine (hnu _).mono ?_; rintro r w1 ⟨rfl, rfl⟩))
    all_goals
      go_ret
      exact ⟨ret_bool HV.out.symm, belA⟩

set_option maxHeartbeats 4000000 in
set_option maxRecDepth 100000 in
theorem shape_7 (e : Ex) (A : Option Addr) (cap : Nat) (w : World) (hn0 : I32 e.n) (hk : e.kind = 7) :
    Calls Tryz.prog 85 #[exV e A cap] w fun r w' => r = .returned (.bool (formedH e.kind e.n e.name e.sub.length)) ∧ Below w.heap.size w w' := by
  unfold I32 at hn0
  obtain ⟨hn1, hn2⟩ := hn0
  have hnm := fun W => name12_any e.name W
  have hnu := fun W => numbered_any e.kind W
  have hnv : numB e.kind = false := by rw [hk]; rfl
  rw [hnv] at hnu
  have t1 : (e.kind == 1) = false := by rw [hk]; rfl
  have t2 : (e.kind == 2) = false := by rw [hk]; rfl
  have t3 : (e.kind == 3) = false := by rw [hk]; rfl
  have t4 : (e.kind == 4) = false := by rw [hk]; rfl
  have t5 : (e.kind == 5) = false := by rw [hk]; rfl
  have t6 : (e.kind == 6) = false := by rw [hk]; rfl
  have t7 : (e.kind == 7) = true := by rw [hk]; rfl
  by_cases hl : e.sub.length = 2
  · have l1 : ((e.sub.length : Int) == 2) = true := by rw [hl]; rfl
    by_cases h : e.n = 0
    · have s1 : (e.n == 0) = true := by rw [h]; rfl
      cases hs : e.name.toList.isEmpty
      · have hs2 : e.name.toList ≠ [] := by intro h; rw [h] at hs; cases hs
        have hv : formedH e.kind e.n e.name e.sub.length = false := by unfold formedH formK; rw [hk]; simp [hs2]
        have HV := Lib.hid hv; clear hv
        clear hk
        (try clear hl); (try clear hl2); (try clear h); (try clear h2); (try clear h3); (try clear hs2); (try clear hs1)
        unfold exV
        go_enter Tryz.func85, Tryz.ntmps85
        go_wp2_with (first | (go_at_call 78; refine (hnm _).mono ?_; rintro r w1 ⟨rfl, hb1⟩; have hc1 := bcell hb1; have hz1 := hb1.size; (try simp at hz1); (try have hy1 := lt0 w w1); (try have hy2 := ltA w 1 w1); (try have hy3 := ltA w 2 w1); (try have hy4 := lt0 wr w1); (try have hy5 := ltA wr 1 w1)) | (go_at_call 99; refine (hnu _).mono ?_; rintro r w1 ⟨rfl, rfl⟩))
        all_goals
          go_ret
          exact ⟨ret_bool HV.out.symm, belA⟩
      · have hs1 := nameB_empty hs
        have hs2 : e.name.toList = [] := by simpa using hs
        have hv : formedH e.kind e.n e.name e.sub.length = true := by unfold formedH formK; rw [hk]; simp [hl, hs1, hs2, h]
        have HV := Lib.hid hv; clear hv
        clear hk
        (try clear hl); (try clear hl2); (try clear h); (try clear h2); (try clear h3); (try clear hs2); (try clear hs1)
        unfold exV
        go_enter Tryz.func85, Tryz.ntmps85
        go_wp2_with (first | (go_at_call 78; refine (hnm _).mono ?_; rintro r w1 ⟨rfl, hb1⟩; have hc1 := bcell hb1; have hz1 := hb1.size; (try simp at hz1); (try have hy1 := lt0 w w1); (try have hy2 := ltA w 1 w1); (try have hy3 := ltA w 2 w1); (try have hy4 := lt0 wr w1); (try have hy5 := ltA wr 1 w1)) | (go_at_call 99; refine (hnu _).mono ?_; rintro r w1 ⟨rfl, rfl⟩))
        all_goals
          go_ret
          exact ⟨ret_bool HV.out.symm, belA⟩
    · have s1 : (e.n == 0) = false := by simpa using h
      have h3 : e.n < 0 ∨ 0 < e.n := by omega
      rcases h3 with h3 | h3
      · have hv : formedH e.kind e.n e.name e.sub.length = false := by unfold formedH formK; rw [hk]; simp [h3]
        have HV := Lib.hid hv; clear hv
        clear hk
        (try clear hl); (try clear hl2); (try clear h); (try clear h2); (try clear h3); (try clear hs2); (try clear hs1)
        unfold exV
        go_enter Tryz.func85, Tryz.ntmps85
        go_wp2_with (first | (go_at_call 78; refine (hnm _).mono ?_; rintro r w1 ⟨rfl, hb1⟩; have hc1 := bcell hb1; have hz1 := hb1.size; (try simp at hz1); (try have hy1 := lt0 w w1); (try have hy2 := ltA w 1 w1); (try have hy3 := ltA w 2 w1); (try have hy4 := lt0 wr w1); (try have hy5 := ltA wr 1 w1)) | (go_at_call 99; refine (hnu _).mono ?_; rintro r w1 ⟨rfl, rfl⟩))
        all_goals
          go_ret
          exact ⟨ret_bool HV.out.symm, belA⟩
      · have hv : formedH e.kind e.n e.name e.sub.length = false := by unfold formedH formK; rw [hk]; simp [h3]
        have HV := Lib.hid hv; clear hv
        clear hk
        (try clear hl); (try clear hl2); (try clear h); (try clear h2); (try clear h3); (try clear hs2); (try clear hs1)
        unfold exV
        go_enter Tryz.func85, Tryz.ntmps85
        go_wp2_with (first | (go_at_call 78; refine (hnm _).mono ?_; rintro r w1 ⟨rfl, hb1⟩; have hc1 := bcell hb1; have hz1 := hb1.size; (try simp at hz1); (try have hy1 := lt0 w w1); (try have hy2 := ltA w 1 w1); (try have hy3 := ltA w 2 w1); (try have hy4 := lt0 wr w1); (try have hy5 := ltA wr 1 w1)) | (go_at_call 99; refine (hnu _).mono ?_; rintro r w1 ⟨rfl, rfl⟩))
        all_goals
          go_ret
          exact ⟨ret_bool HV.out.symm, belA⟩
  · have l1 : ((e.sub.length : Int) == 2) = false := by rw [beq_eq_false_iff_ne]; omega
    have hl2 : ¬ (e.sub.length : Int) = 2 := by omega
    have hv : formedH e.kind e.n e.name e.sub.length = false := by unfold formedH formK; rw [hk]; simp [hl2, hl]
    have HV := Lib.hid hv; clear hv
    clear hk
    (try clear hl); (try clear hl2); (try clear h); (try clear h2); (try clear h3); (try clear hs2); (try clear hs1)
    unfold exV
    go_enter Tryz.func85, Tryz.ntmps85
    go_wp2_with (first | (go_at_call 78; refine (hnm _).mono ?_; rintro r w1 ⟨rfl, hb1⟩; have hc1 := bcell hb1; have hz1 := hb1.size; (try simp at hz1); (try have hy1 := lt0 w w1); (try have hy2 := ltA w 1 w1); (try have hy3 := ltA w 2 w1); (try have hy4 := lt0 wr w1); (try have hy5 := ltA wr 1 w1)) | (go_at_call 99; refine (hnu _).mono ?_; rintro r w1 ⟨rfl, rfl⟩))
    all_goals
      go_ret
      exact ⟨ret_bool HV.out.symm, belA⟩

set_option maxHeartbeats 4000000 in
set_option maxRecDepth 100000 in
theorem shape_8 (e : Ex) (A : Option Addr) (cap : Nat) (w : World) (hn0 : I32 e.n) (hk : e.kind = 8) :
    Calls Tryz.prog 85 #[exV e A cap] w fun r w' => r = .returned (.bool (formedH e.kind e.n e.name e.sub.length)) ∧ Below w.heap.size w w' := by
  unfold I32 at hn0
  obtain ⟨hn1, hn2⟩ := hn0
  have hnm := fun W => name12_any e.name W
  have hnu := fun W => numbered_any e.kind W
  have hnv : numB e.kind = false := by rw [hk]; rfl
  rw [hnv] at hnu
  have t1 : (e.kind == 1) = false := by rw [hk]; rfl
  have t2 : (e.kind == 2) = false := by rw [hk]; rfl
  have t3 : (e.kind == 3) = false := by rw [hk]; rfl
  have t4 : (e.kind == 4) = false := by rw [hk]; rfl
  have t5 : (e.kind == 5) = false := by rw [hk]; rfl
  have t6 : (e.kind == 6) = false := by rw [hk]; rfl
  have t7 : (e.kind == 7) = false := by rw [hk]; rfl
  have t8 : (e.kind == 8) = true := by rw [hk]; rfl
  by_cases hl : e.sub.length = 1
  · have l1 : ((e.sub.length : Int) == 1) = true := by rw [hl]; rfl
    by_cases h : e.n = 0
    · have s1 : (e.n == 0) = true := by rw [h]; rfl
      cases hs : nameB e.name
      · rw [hs] at hnm
        have hv : formedH e.kind e.n e.name e.sub.length = false := by unfold formedH formK; rw [hk]; simp [hs]
        have HV := Lib.hid hv; clear hv
        clear hk
        (try clear hl); (try clear hl2); (try clear h); (try clear h2); (try clear h3); (try clear hs2); (try clear hs1)
        unfold exV
        go_enter Tryz.func85, Tryz.ntmps85
        go_wp2_with (first | (go_at_call 78; refine (hnm _).mono ?_; rintro r w1 ⟨rfl, hb1⟩; have hc1 := bcell hb1; have hz1 := hb1.size; (try simp at hz1); (try have hy1 := lt0 w w1); (try have hy2 := ltA w 1 w1); (try have hy3 := ltA w 2 w1); (try have hy4 := lt0 wr w1); (try have hy5 := ltA wr 1 w1)) | (go_at_call 99; refine (hnu _).mono ?_; rintro r w1 ⟨rfl, rfl⟩))
        all_goals
          go_ret
          exact ⟨ret_bool HV.out.symm, belA⟩
      · rw [hs] at hnm
        have hv : formedH e.kind e.n e.name e.sub.length = true := by unfold formedH formK; rw [hk]; simp [hl, hs, h]
        have HV := Lib.hid hv; clear hv
        clear hk
        (try clear hl); (try clear hl2); (try clear h); (try clear h2); (try clear h3); (try clear hs2); (try clear hs1)
        unfold exV
        go_enter Tryz.func85, Tryz.ntmps85
        go_wp2_with (first | (go_at_call 78; refine (hnm _).mono ?_; rintro r w1 ⟨rfl, hb1⟩; have hc1 := bcell hb1; have hz1 := hb1.size; (try simp at hz1); (try have hy1 := lt0 w w1); (try have hy2 := ltA w 1 w1); (try have hy3 := ltA w 2 w1); (try have hy4 := lt0 wr w1); (try have hy5 := ltA wr 1 w1)) | (go_at_call 99; refine (hnu _).mono ?_; rintro r w1 ⟨rfl, rfl⟩))
        all_goals
          go_ret
          exact ⟨ret_bool HV.out.symm, belA⟩
    · have s1 : (e.n == 0) = false := by simpa using h
      have h3 : e.n < 0 ∨ 0 < e.n := by omega
      rcases h3 with h3 | h3
      · have hv : formedH e.kind e.n e.name e.sub.length = false := by unfold formedH formK; rw [hk]; simp [h3]
        have HV := Lib.hid hv; clear hv
        clear hk
        (try clear hl); (try clear hl2); (try clear h); (try clear h2); (try clear h3); (try clear hs2); (try clear hs1)
        unfold exV
        go_enter Tryz.func85, Tryz.ntmps85
        go_wp2_with (first | (go_at_call 78; refine (hnm _).mono ?_; rintro r w1 ⟨rfl, hb1⟩; have hc1 := bcell hb1; have hz1 := hb1.size; (try simp at hz1); (try have hy1 := lt0 w w1); (try have hy2 := ltA w 1 w1); (try have hy3 := ltA w 2 w1); (try have hy4 := lt0 wr w1); (try have hy5 := ltA wr 1 w1)) | (go_at_call 99; refine (hnu _).mono ?_; rintro r w1 ⟨rfl, rfl⟩))
        all_goals
          go_ret
          exact ⟨ret_bool HV.out.symm, belA⟩
      · have hv : formedH e.kind e.n e.name e.sub.length = false := by unfold formedH formK; rw [hk]; simp [h3]
        have HV := Lib.hid hv; clear hv
        clear hk
        (try clear hl); (try clear hl2); (try clear h); (try clear h2); (try clear h3); (try clear hs2); (try clear hs1)
        unfold exV
        go_enter Tryz.func85, Tryz.ntmps85
        go_wp2_with (first | (go_at_call 78; refine (hnm _).mono ?_; rintro r w1 ⟨rfl, hb1⟩; have hc1 := bcell hb1; have hz1 := hb1.size; (try simp at hz1); (try have hy1 := lt0 w w1); (try have hy2 := ltA w 1 w1); (try have hy3 := ltA w 2 w1); (try have hy4 := lt0 wr w1); (try have hy5 := ltA wr 1 w1)) | (go_at_call 99; refine (hnu _).mono ?_; rintro r w1 ⟨rfl, rfl⟩))
        all_goals
          go_ret
          exact ⟨ret_bool HV.out.symm, belA⟩
  · have l1 : ((e.sub.length : Int) == 1) = false := by rw [beq_eq_false_iff_ne]; omega
    have hl2 : ¬ (e.sub.length : Int) = 1 := by omega
    have hv : formedH e.kind e.n e.name e.sub.length = false := by unfold formedH formK; rw [hk]; simp [hl2, hl]
    have HV := Lib.hid hv; clear hv
    clear hk
    (try clear hl); (try clear hl2); (try clear h); (try clear h2); (try clear h3); (try clear hs2); (try clear hs1)
    unfold exV
    go_enter Tryz.func85, Tryz.ntmps85
    go_wp2_with (first | (go_at_call 78; refine (hnm _).mono ?_; rintro r w1 ⟨rfl, hb1⟩; have hc1 := bcell hb1; have hz1 := hb1.size; (try simp at hz1); (try have hy1 := lt0 w w1); (try have hy2 := ltA w 1 w1); (try have hy3 := ltA w 2 w1); (try have hy4 := lt0 wr w1); (try have hy5 := ltA wr 1 w1)) | (go_at_call 99; refine (hnu _).mono ?_; rintro r w1 ⟨rfl, rfl⟩))
    all_goals
      go_ret
      exact ⟨ret_bool HV.out.symm, belA⟩

set_option maxHeartbeats 4000000 in
set_option maxRecDepth 100000 in
theorem shape_9 (e : Ex) (A : Option Addr) (cap : Nat) (w : World) (hn0 : I32 e.n) (hk : e.kind = 9) :
    Calls Tryz.prog 85 #[exV e A cap] w fun r w' => r = .returned (.bool (formedH e.kind e.n e.name e.sub.length)) ∧ Below w.heap.size w w' := by
  unfold I32 at hn0
  obtain ⟨hn1, hn2⟩ := hn0
  have hnm := fun W => name12_any e.name W
  have hnu := fun W => numbered_any e.kind W
  have hnv : numB e.kind = false := by rw [hk]; rfl
  rw [hnv] at hnu
  have t1 : (e.kind == 1) = false := by rw [hk]; rfl
  have t2 : (e.kind == 2) = false := by rw [hk]; rfl
  have t3 : (e.kind == 3) = false := by rw [hk]; rfl
  have t4 : (e.kind == 4) = false := by rw [hk]; rfl
  have t5 : (e.kind == 5) = false := by rw [hk]; rfl
  have t6 : (e.kind == 6) = false := by rw [hk]; rfl
  have t7 : (e.kind == 7) = false := by rw [hk]; rfl
  have t8 : (e.kind == 8) = false := by rw [hk]; rfl
  have t9 : (e.kind == 9) = true := by rw [hk]; rfl
  by_cases hl : e.sub.length = 1
  · have l1 : ((e.sub.length : Int) == 1) = true := by rw [hl]; rfl
    by_cases h : e.n = 0
    · have s1 : (e.n == 0) = true := by rw [h]; rfl
      cases hs : nameB e.name
      · rw [hs] at hnm
        have hv : formedH e.kind e.n e.name e.sub.length = false := by unfold formedH formK; rw [hk]; simp [hs]
        have HV := Lib.hid hv; clear hv
        clear hk
        (try clear hl); (try clear hl2); (try clear h); (try clear h2); (try clear h3); (try clear hs2); (try clear hs1)
        unfold exV
        go_enter Tryz.func85, Tryz.ntmps85
        go_wp2_with (first | (go_at_call 78; refine (hnm _).mono ?_; rintro r w1 ⟨rfl, hb1⟩; have hc1 := bcell hb1; have hz1 := hb1.size; (try simp at hz1); (try have hy1 := lt0 w w1); (try have hy2 := ltA w 1 w1); (try have hy3 := ltA w 2 w1); (try have hy4 := lt0 wr w1); (try have hy5 := ltA wr 1 w1)) | (go_at_call 99; refine (hnu _).mono ?_; rintro r w1 ⟨rfl, rfl⟩))
        all_goals
          go_ret
          exact ⟨ret_bool HV.out.symm, belA⟩
      · rw [hs] at hnm
        have hv : formedH e.kind e.n e.name e.sub.length = true := by unfold formedH formK; rw [hk]; simp [hl, hs, h]
        have HV := Lib.hid hv; clear hv
        clear hk
        (try clear hl); (try clear hl2); (try clear h); (try clear h2); (try clear h3); (try clear hs2); (try clear hs1)
        unfold exV
        go_enter Tryz.func85, Tryz.ntmps85
        go_wp2_with (first | (go_at_call 78; refine (hnm _).mono ?_; rintro r w1 ⟨rfl, hb1⟩; have hc1 := bcell hb1; have hz1 := hb1.size; (try simp at hz1); (try have hy1 := lt0 w w1); (try have hy2 := ltA w 1 w1); (try have hy3 := ltA w 2 w1); (try have hy4 := lt0 wr w1); (try have hy5 := ltA wr 1 w1)) | (go_at_call 99; refine (hnu _).mono ?_; rintro r w1 ⟨rfl, rfl⟩))
        all_goals
          go_ret
          exact ⟨ret_bool HV.out.symm, belA⟩
    · have s1 : (e.n == 0) = false := by simpa using h
      have h3 : e.n < 0 ∨ 0 < e.n := by omega
      rcases h3 with h3 | h3
      · have hv : formedH e.kind e.n e.name e.sub.length = false := by unfold formedH formK; rw [hk]; simp [h3]
        have HV := Lib.hid hv; clear hv
        clear hk
        (try clear hl); (try clear hl2); (try clear h); (try clear h2); (try clear h3); (try clear hs2); (try clear hs1)
        unfold exV
        go_enter Tryz.func85, Tryz.ntmps85
        go_wp2_with (first | (go_at_call 78; refine (hnm _).mono ?_; rintro r w1 ⟨rfl, hb1⟩; have hc1 := bcell hb1; have hz1 := hb1.size; (try simp at hz1); (try have hy1 := lt0 w w1); (try have hy2 := ltA w 1 w1); (try have hy3 := ltA w 2 w1); (try have hy4 := lt0 wr w1); (try have hy5 := ltA wr 1 w1)) | (go_at_call 99; refine (hnu _).mono ?_; rintro r w1 ⟨rfl, rfl⟩))
        all_goals
          go_ret
          exact ⟨ret_bool HV.out.symm, belA⟩
      · have hv : formedH e.kind e.n e.name e.sub.length = false := by unfold formedH formK; rw [hk]; simp [h3]
        have HV := Lib.hid hv; clear hv
        clear hk
        (try clear hl); (try clear hl2); (try clear h); (try clear h2); (try clear h3); (try clear hs2); (try clear hs1)
        unfold exV
        go_enter Tryz.func85, Tryz.ntmps85
        go_wp2_with (first | (go_at_call 78; refine (hnm _).mono ?_; rintro r w1 ⟨rfl, hb1⟩; have hc1 := bcell hb1; have hz1 := hb1.size; (try simp at hz1); (try have hy1 := lt0 w w1); (try have hy2 := ltA w 1 w1); (try have hy3 := ltA w 2 w1); (try have hy4 := lt0 wr w1); (try have hy5 := ltA wr 1 w1)) | (go_at_call 99; refine (hnu _).mono ?_; rintro r w1 ⟨rfl, rfl⟩))
        all_goals
          go_ret
          exact ⟨ret_bool HV.out.symm, belA⟩
  · have l1 : ((e.sub.length : Int) == 1) = false := by rw [beq_eq_false_iff_ne]; omega
    have hl2 : ¬ (e.sub.length : Int) = 1 := by omega
    have hv : formedH e.kind e.n e.name e.sub.length = false := by unfold formedH formK; rw [hk]; simp [hl2, hl]
    have HV := Lib.hid hv; clear hv
    clear hk
    (try clear hl); (try clear hl2); (try clear h); (try clear h2); (try clear h3); (try clear hs2); (try clear hs1)
    unfold exV
    go_enter Tryz.func85, Tryz.ntmps85
    go_wp2_with (first | (go_at_call 78; refine (hnm _).mono ?_; rintro r w1 ⟨rfl, hb1⟩; have hc1 := bcell hb1; have hz1 := hb1.size; (try simp at hz1); (try have hy1 := lt0 w w1); (try have hy2 := ltA w 1 w1); (try have hy3 := ltA w 2 w1); (try have hy4 := lt0 wr w1); (try have hy5 := ltA wr 1 w1)) | (go_at_call 99; refine (hnu _).mono ?_; rintro r w1 ⟨rfl, rfl⟩))
    all_goals
      go_ret
      exact ⟨ret_bool HV.out.symm, belA⟩

set_option maxHeartbeats 4000000 in
set_option maxRecDepth 100000 in
theorem shape_10 (e : Ex) (A : Option Addr) (cap : Nat) (w : World) (hn0 : I32 e.n) (hk : e.kind = 10) :
    Calls Tryz.prog 85 #[exV e A cap] w fun r w' => r = .returned (.bool (formedH e.kind e.n e.name e.sub.length)) ∧ Below w.heap.size w w' := by
  unfold I32 at hn0
  obtain ⟨hn1, hn2⟩ := hn0
  have hnm := fun W => name12_any e.name W
  have hnu := fun W => numbered_any e.kind W
  have hnv : numB e.kind = false := by rw [hk]; rfl
  rw [hnv] at hnu
  have t1 : (e.kind == 1) = false := by rw [hk]; rfl
  have t2 : (e.kind == 2) = false := by rw [hk]; rfl
  have t3 : (e.kind == 3) = false := by rw [hk]; rfl
  have t4 : (e.kind == 4) = false := by rw [hk]; rfl
  have t5 : (e.kind == 5) = false := by rw [hk]; rfl
  have t6 : (e.kind == 6) = false := by rw [hk]; rfl
  have t7 : (e.kind == 7) = false := by rw [hk]; rfl
  have t8 : (e.kind == 8) = false := by rw [hk]; rfl
  have t9 : (e.kind == 9) = false := by rw [hk]; rfl
  have t10 : (e.kind == 10) = true := by rw [hk]; rfl
  by_cases hl : e.sub.length = 2
  · have l1 : ((e.sub.length : Int) == 2) = true := by rw [hl]; rfl
    by_cases h : e.n = 0
    · have s1 : (e.n == 0) = true := by rw [h]; rfl
      cases hs : nameB e.name
      · rw [hs] at hnm
        have hv : formedH e.kind e.n e.name e.sub.length = false := by unfold formedH formK; rw [hk]; simp [hs]
        have HV := Lib.hid hv; clear hv
        clear hk
        (try clear hl); (try clear hl2); (try clear h); (try clear h2); (try clear h3); (try clear hs2); (try clear hs1)
        unfold exV
        go_enter Tryz.func85, Tryz.ntmps85
        go_wp2_with (first | (go_at_call 78; refine (hnm _).mono ?_; rintro r w1 ⟨rfl, hb1⟩; have hc1 := bcell hb1; have hz1 := hb1.size; (try simp at hz1); (try have hy1 := lt0 w w1); (try have hy2 := ltA w 1 w1); (try have hy3 := ltA w 2 w1); (try have hy4 := lt0 wr w1); (try have hy5 := ltA wr 1 w1)) | (go_at_call 99; refine (hnu _).mono ?_; rintro r w1 ⟨rfl, rfl⟩))
        all_goals
          go_ret
          exact ⟨ret_bool HV.out.symm, belA⟩
      · rw [hs] at hnm
        have hv : formedH e.kind e.n e.name e.sub.length = true := by unfold formedH formK; rw [hk]; simp [hl, hs, h]
        have HV := Lib.hid hv; clear hv
        clear hk
        (try clear hl); (try clear hl2); (try clear h); (try clear h2); (try clear h3); (try clear hs2); (try clear hs1)
        unfold exV
        go_enter Tryz.func85, Tryz.ntmps85
        go_wp2_with (first | (go_at_call 78; refine (hnm _).mono ?_; rintro r w1 ⟨rfl, hb1⟩; have hc1 := bcell hb1; have hz1 := hb1.size; (try simp at hz1); (try have hy1 := lt0 w w1); (try have hy2 := ltA w 1 w1); (try have hy3 := ltA w 2 w1); (try have hy4 := lt0 wr w1); (try have hy5 := ltA wr 1 w1)) | (go_at_call 99; refine (hnu _).mono ?_; rintro r w1 ⟨rfl, rfl⟩))
        all_goals
          go_ret
          exact ⟨ret_bool HV.out.symm, belA⟩
    · have s1 : (e.n == 0) = false := by simpa using h
      have h3 : e.n < 0 ∨ 0 < e.n := by omega
      rcases h3 with h3 | h3
      · have hv : formedH e.kind e.n e.name e.sub.length = false := by unfold formedH formK; rw [hk]; simp [h3]
        have HV := Lib.hid hv; clear hv
        clear hk
        (try clear hl); (try clear hl2); (try clear h); (try clear h2); (try clear h3); (try clear hs2); (try clear hs1)
        unfold exV
        go_enter Tryz.func85, Tryz.ntmps85
        go_wp2_with (first | (go_at_call 78; refine (hnm _).mono ?_; rintro r w1 ⟨rfl, hb1⟩; have hc1 := bcell hb1; have hz1 := hb1.size; (try simp at hz1); (try have hy1 := lt0 w w1); (try have hy2 := ltA w 1 w1); (try have hy3 := ltA w 2 w1); (try have hy4 := lt0 wr w1); (try have hy5 := ltA wr 1 w1)) | (go_at_call 99; refine (hnu _).mono ?_; rintro r w1 ⟨rfl, rfl⟩))
        all_goals
          go_ret
          exact ⟨ret_bool HV.out.symm, belA⟩
      · have hv : formedH e.kind e.n e.name e.sub.length = false := by unfold formedH formK; rw [hk]; simp [h3]
        have HV := Lib.hid hv; clear hv
        clear hk
        (try clear hl); (try clear hl2); (try clear h); (try clear h2); (try clear h3); (try clear hs2); (try clear hs1)
        unfold exV
        go_enter Tryz.func85, Tryz.ntmps85
        go_wp2_with (first | (go_at_call 78; refine (hnm _).mono ?_; rintro r w1 ⟨rfl, hb1⟩; have hc1 := bcell hb1; have hz1 := hb1.size; (try simp at hz1); (try have hy1 := lt0 w w1); (try have hy2 := ltA w 1 w1); (try have hy3 := ltA w 2 w1); (try have hy4 := lt0 wr w1); (try have hy5 := ltA wr 1 w1)) | (go_at_call 99; refine (hnu _).mono ?_; rintro r w1 ⟨rfl, rfl⟩))
        all_goals
          go_ret
          exact ⟨ret_bool HV.out.symm, belA⟩
  · have l1 : ((e.sub.length : Int) == 2) = false := by rw [beq_eq_false_iff_ne]; omega
    have hl2 : ¬ (e.sub.length : Int) = 2 := by omega
    have hv : formedH e.kind e.n e.name e.sub.length = false := by unfold formedH formK; rw [hk]; simp [hl2, hl]
    have HV := Lib.hid hv; clear hv
    clear hk
    (try clear hl); (try clear hl2); (try clear h); (try clear h2); (try clear h3); (try clear hs2); (try clear hs1)
    unfold exV
    go_enter Tryz.func85, Tryz.ntmps85
    go_wp2_with (first | (go_at_call 78; refine (hnm _).mono ?_; rintro r w1 ⟨rfl, hb1⟩; have hc1 := bcell hb1; have hz1 := hb1.size; (try simp at hz1); (try have hy1 := lt0 w w1); (try have hy2 := ltA w 1 w1); (try have hy3 := ltA w 2 w1); (try have hy4 := lt0 wr w1); (try have hy5 := ltA wr 1 w1)) | (go_at_call 99; refine (hnu _).mono ?_; rintro r w1 ⟨rfl, rfl⟩))
    all_goals
      go_ret
      exact ⟨ret_bool HV.out.symm, belA⟩

set_option maxHeartbeats 4000000 in
set_option maxRecDepth 100000 in
theorem shape_else (e : Ex) (A : Option Addr) (cap : Nat) (w : World) (hk : ∀ k : Int, 1 ≤ k → k ≤ 10 → e.kind ≠ k) :
    Calls Tryz.prog 85 #[exV e A cap] w fun r w' => r = .returned (.bool (formedH e.kind e.n e.name e.sub.length)) ∧ Below w.heap.size w w' := by
  have t1 : (e.kind == 1) = false := by simpa using hk 1 (by omega) (by omega)
  have t2 : (e.kind == 2) = false := by simpa using hk 2 (by omega) (by omega)
  have t3 : (e.kind == 3) = false := by simpa using hk 3 (by omega) (by omega)
  have t4 : (e.kind == 4) = false := by simpa using hk 4 (by omega) (by omega)
  have t5 : (e.kind == 5) = false := by simpa using hk 5 (by omega) (by omega)
  have t6 : (e.kind == 6) = false := by simpa using hk 6 (by omega) (by omega)
  have t7 : (e.kind == 7) = false := by simpa using hk 7 (by omega) (by omega)
  have t8 : (e.kind == 8) = false := by simpa using hk 8 (by omega) (by omega)
  have t9 : (e.kind == 9) = false := by simpa using hk 9 (by omega) (by omega)
  have t10 : (e.kind == 10) = false := by simpa using hk 10 (by omega) (by omega)
  have hv : formedH e.kind e.n e.name e.sub.length = false := by
    unfold formedH formK
    simp only [beq_eq_false_iff_ne] at t1 t2 t3 t4 t5 t6 t7 t8 t9 t10
    simp [t1, t2, t3, t4, t5, t6, t7, t8, t9, t10]
  clear hk
  have HV := Lib.hid hv; clear hv
  unfold exV
  go_enter Tryz.func85, Tryz.ntmps85
  go_wp2_with fail
  go_ret
  exact ⟨ret_bool HV.out.symm, belA⟩

theorem shape_any (e : Ex) (A : Option Addr) (cap : Nat) (w : World) (hn0 : I32 e.n) :
    Calls Tryz.prog 85 #[exV e A cap] w fun r w' => r = .returned (.bool (formedH e.kind e.n e.name e.sub.length)) ∧ Below w.heap.size w w' := by
  by_cases h1 : e.kind = 1
  · exact shape_1 e A cap w hn0 h1
  by_cases h2 : e.kind = 2
  · exact shape_2 e A cap w hn0 h2
  by_cases h3 : e.kind = 3
  · exact shape_3 e A cap w hn0 h3
  by_cases h4 : e.kind = 4
  · exact shape_4 e A cap w hn0 h4
  by_cases h5 : e.kind = 5
  · exact shape_5 e A cap w hn0 h5
  by_cases h6 : e.kind = 6
  · exact shape_6 e A cap w hn0 h6
  by_cases h7 : e.kind = 7
  · exact shape_7 e A cap w hn0 h7
  by_cases h8 : e.kind = 8
  · exact shape_8 e A cap w hn0 h8
  by_cases h9 : e.kind = 9
  · exact shape_9 e A cap w hn0 h9
  by_cases h10 : e.kind = 10
  · exact shape_10 e A cap w hn0 h10
  exact shape_else e A cap w fun k h1 h2 => by omega

end Go.Proofs.YtikmbkojnfmiaaaGreatDoorRRRR
