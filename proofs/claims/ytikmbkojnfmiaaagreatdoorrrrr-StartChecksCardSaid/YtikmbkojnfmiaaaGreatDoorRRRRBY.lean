/- Walks over the reference's Parts and Light. -/
import Derived.Test.YtikmbkojnfmiaaaGreatDoorRRRRBA
import Derived.Test.YtikmbkojnfmiaaaGreatDoorRRRRBB
set_option linter.unusedVariables false
set_option linter.unusedSimpArgs false
set_option maxRecDepth 100000
namespace Go.Proofs.YtikmbkojnfmiaaaGreatDoorRRRR
open Go.RowKit Go.Sort

set_option maxHeartbeats 1000000 in
theorem parts_any (e : Ex) : ∀ (A : Option Addr) (cap : Nat) (most : Int) (w : World), SubsAt w e A cap → -1000000 ≤ most → most ≤ 1000000 →
    Calls Tryz.prog 10 #[exV e A cap, .int .i64 most] w fun r w' => r = .returned (.int .i64 (e.count most)) ∧ Below w.heap.size w w' := by
  induction e using Ex.ind with
  | h e ih =>
  intro A cap most w he hm hm2
  have hl := he.len
  unfold maxLen at hl
  obtain ⟨hl1, hl2⟩ := hl
  unfold exV
  go_enter Tryz.func10, Tryz.ntmps10
  go_wp2_with fail
  refine wp_name fun W0 hW0 => ?_
  have hb0 : Below w.heap.size w W0 := by rw [hW0]; exact belA
  have hz0 : w.heap.size < W0.heap.size := by rw [hW0]; simp
  have p3 : W0.cell? ⟨w.heap.size, 3, none⟩ = some (.slice A e.sub.length cap) := by rw [hW0]; go_simp
  clear hW0
  replace he := he.later hb0
  go_loopw [5, 6] (fun m i wr => ∃ (k : Nat) (m' : Int), k ≤ e.sub.length ∧ i = .int .i64 k ∧ m = .int .i64 m' ∧ 1 ≤ m' ∧ m' ≤ max 1 most ∧ Ex.countL (e.sub.drop k) m' most = e.count most ∧ Below W0.heap.size W0 wr) (fun _ i _ => e.sub.length - (intOf i).toNat)
  case atStart => exact ⟨0, 1, Nat.zero_le _, rfl, rfl, by omega, by omega, by simp [Ex.count_eq], Below.refl _ _⟩
  case round =>
    obtain ⟨k, m', hk, rfl, rfl, h0, h1, hrem, hbel⟩ := hrel
    have hc := bcell hbel
    have hzr := hbel.size
    by_cases hlt : k < e.sub.length
    · have hx : e.sub[k]? = some e.sub[k] := List.getElem?_eq_getElem hlt
      have hmem : e.sub[k] ∈ e.sub := List.getElem_mem hlt
      have hd : e.sub.drop k = e.sub[k] :: e.sub.drop (k + 1) := List.drop_eq_getElem_cons hlt
      generalize e.sub[k] = x at hx hmem hd
      obtain ⟨b, off, A', cap', rfl, c0, c1, c2, c3, hs⟩ := (he.later hbel).get hx
      rw [hd, Ex.countL] at hrem
      have hbd := Ex.count_bd x (most - m')
      have ihx := ih x hmem
      by_cases hge : m' ≥ most
      · rw [if_pos hge] at hrem
        have HR := Lib.hid hrem; clear hrem hd hx
        have hge' : ¬ m' < most := by omega
        go_wp2_with fail
        go_ret
        exact ⟨ret_int HR.out, belA⟩
      · rw [if_neg hge] at hrem
        have HR := Lib.hid hrem; clear hrem hd hx
        have hge' : m' < most := by omega
        go_wp2_with (go_at_call 10; refine (ihx A' cap' (most - m') _ (hs.later belA) (by omega) (by omega)).mono ?_; rintro r w1 ⟨rfl, hb1⟩)
        go_roundw
        case rel => exact ⟨k + 1, m' + x.count (most - m'), by omega, by go_num, by go_num, by omega, by omega, HR.out, belA⟩
        case measure => simp [intOf]; omega
    · have hke : k = e.sub.length := by omega
      rw [hke, List.drop_length, Ex.countL] at hrem
      have HR := Lib.hid hrem; clear hrem hke
      go_wp2_with fail
      go_ret
      exact ⟨ret_int HR.out, belA⟩

/-- What Light says. -/
def LightR (p : Pr) (r : Ending) : Prop := ∃ b, r = .returned (.bool b) ∧ (b = true → p.ins.length ≤ 60 ∧ p.outs.length ≤ 60 ∧ p.locals.length ≤ 60 ∧ p.eqs.length ≤ 60)
theorem LightR.no (p : Pr) : LightR p (.returned (.bool false)) := ⟨false, rfl, by simp⟩
theorem LightR.yes {p : Pr} (h1 : p.ins.length ≤ 60) (h2 : p.outs.length ≤ 60) (h3 : p.locals.length ≤ 60) (h4 : p.eqs.length ≤ 60) : LightR p (.returned (.bool true)) := ⟨true, rfl, fun _ => ⟨h1, h2, h3, h4⟩⟩

set_option maxHeartbeats 4000000 in
theorem light_any (p : Pr) (a : PrA) (w : World) (hp : PrAt w p a) :
    Calls Tryz.prog 4 #[prV p a] w fun r w' => LightR p r ∧ Below w.heap.size w w' := by
  have hp4 := hp.eqs
  have hq1 := hp.ins.len
  have hq2 := hp.outs.len
  have hq3 := hp.locals.len
  have hq4 := hp.eqs.len
  obtain ⟨A1, c1, A2, c2, A3, c3, A4, c4⟩ := a
  unfold maxLen at hq1 hq2 hq3 hq4
  unfold prV
  dsimp only at *
  obtain ⟨hq11, hq12⟩ := hq1
  obtain ⟨hq21, hq22⟩ := hq2
  obtain ⟨hq31, hq32⟩ := hq3
  obtain ⟨hq41, hq42⟩ := hq4
  by_cases g1 : 60 < p.ins.length
  · clear hp4
    go_enter Tryz.func4, Tryz.ntmps4
    go_wp2_with fail
    go_ret
    exact ⟨LightR.no _, belA⟩
  by_cases g2 : 60 < p.outs.length
  · clear hp4
    go_enter Tryz.func4, Tryz.ntmps4
    go_wp2_with fail
    go_ret
    exact ⟨LightR.no _, belA⟩
  by_cases g3 : 60 < p.locals.length
  · clear hp4
    go_enter Tryz.func4, Tryz.ntmps4
    go_wp2_with fail
    go_ret
    exact ⟨LightR.no _, belA⟩
  by_cases g4 : 60 < p.eqs.length
  · clear hp4
    go_enter Tryz.func4, Tryz.ntmps4
    go_wp2_with fail
    go_ret
    exact ⟨LightR.no _, belA⟩
  by_cases g5 : 2000 < p.name.size
  · clear hp4
    go_enter Tryz.func4, Tryz.ntmps4
    go_wp2_with fail
    go_ret
    exact ⟨LightR.no _, belA⟩
  clear hp
  go_enter Tryz.func4, Tryz.ntmps4
  go_wp2_with fail
  refine wp_name fun W0 hW0 => ?_
  have hb0 : Below w.heap.size w W0 := by rw [hW0]; exact belA
  have hz0 : w.heap.size < W0.heap.size := by rw [hW0]; simp
  have p4 : W0.cell? ⟨w.heap.size, 4, none⟩ = some (.slice A4 p.eqs.length c4) := by rw [hW0]; go_simp
  clear hW0
  replace hp4 := hp4.later hb0
  go_loopw [3, 4] (fun m i wr => ∃ (k : Nat) (m' : Int), k ≤ p.eqs.length ∧ i = .int .i64 k ∧ m = .int .i64 m' ∧ 0 ≤ m' ∧ m' ≤ 600 * (k : Int) ∧ Below W0.heap.size W0 wr) (fun _ i _ => p.eqs.length - (intOf i).toNat)
  case atStart => exact ⟨0, 0, Nat.zero_le _, rfl, rfl, by omega, by omega, Below.refl _ _⟩
  case round =>
    obtain ⟨k, m', hk, rfl, rfl, h0, h1, hbel⟩ := hrel
    have hc := bcell hbel
    have hzr := hbel.size
    have hr1 : w.heap.size < wr.heap.size := by omega
    by_cases hlt : k < p.eqs.length
    · have hx : p.eqs[k]? = some p.eqs[k] := List.getElem?_eq_getElem hlt
      have hd : p.eqs.drop k = p.eqs[k] :: p.eqs.drop (k + 1) := List.drop_eq_getElem_cons hlt
      generalize p.eqs[k] = q at hx hd
      obtain ⟨b, off, B1, n1, B2, n2, rfl, hbb, ⟨g0, g1, g2, g3, g4, g5, g6, g7, g8, g9, s1, s2⟩⟩ := (hp4.later hbel).get hx
      have hc1 := Ex.count_bd q.first 300
      have hc2 := Ex.count_bd q.e 300
      have hp1 := fun W h => parts_any q.first B1 n1 300 W (s1.later h) (by omega) (by omega)
      have hp2 := fun W h => parts_any q.e B2 n2 300 W (s2.later h) (by omega) (by omega)
      unfold exV at hp1 hp2
      clear hd hx
      generalize q.first.count 300 = x1 at *
      generalize q.e.count 300 = x2 at *
      by_cases t1 : 3000 < m' + x2 + x1
      · go_wp2_with fail
        refine wp_region_qb (by kernel_rfl) (by kernel_rfl) (fun hgq => ?_)
        repeat (quiet_step ((first | (go_at_call_of 10 B1; exact Calls.regrown_of (hp1 _ belA)) | (go_at_call_of 10 B2; exact Calls.regrown_of (hp2 _ belA)))))
        refine wpQuiet_nil ?_
        intro wq hwq
        replace hwq := bel_of_class hwq
        clear hgq
        have hcq := bcell hwq
        have hzq := hwq.size
        (try simp at hzq)
        (try have hyq1 := lt0 w wq); (try have hyq2 := ltA w 1 wq); (try have hyq3 := ltA w 2 wq); (try have hyq4 := lt0 wr wq)
        have hyq : w.heap.size < wq.heap.size := by omega
        have hyqb : b < wq.heap.size := by omega
        go_wp2_with (first | (go_at_call_of 10 B1; refine (hp1 _ belA).mono ?_; rintro r wa ⟨rfl, hba⟩; have hca := bcell hba; have hza := hba.size; have hya : w.heap.size < wa.heap.size := (by omega)) | (go_at_call_of 10 B2; refine (hp2 _ belA).mono ?_; rintro r wb ⟨rfl, hbb⟩; have hcb := bcell hbb; have hzb := hbb.size; have hyb : w.heap.size < wb.heap.size := (by omega)))
        go_ret
        exact ⟨LightR.no _, belA⟩
      by_cases t2 : x2 ≥ 300
      · go_wp2_with fail
        refine wp_region_qb (by kernel_rfl) (by kernel_rfl) (fun hgq => ?_)
        repeat (quiet_step ((first | (go_at_call_of 10 B1; exact Calls.regrown_of (hp1 _ belA)) | (go_at_call_of 10 B2; exact Calls.regrown_of (hp2 _ belA)))))
        refine wpQuiet_nil ?_
        intro wq hwq
        replace hwq := bel_of_class hwq
        clear hgq
        have hcq := bcell hwq
        have hzq := hwq.size
        (try simp at hzq)
        (try have hyq1 := lt0 w wq); (try have hyq2 := ltA w 1 wq); (try have hyq3 := ltA w 2 wq); (try have hyq4 := lt0 wr wq)
        have hyq : w.heap.size < wq.heap.size := by omega
        have hyqb : b < wq.heap.size := by omega
        go_wp2_with (first | (go_at_call_of 10 B1; refine (hp1 _ belA).mono ?_; rintro r wa ⟨rfl, hba⟩; have hca := bcell hba; have hza := hba.size; have hya : w.heap.size < wa.heap.size := (by omega)) | (go_at_call_of 10 B2; refine (hp2 _ belA).mono ?_; rintro r wb ⟨rfl, hbb⟩; have hcb := bcell hbb; have hzb := hbb.size; have hyb : w.heap.size < wb.heap.size := (by omega)))
        go_ret
        exact ⟨LightR.no _, belA⟩
      by_cases t3 : x1 ≥ 300
      · go_wp2_with fail
        refine wp_region_qb (by kernel_rfl) (by kernel_rfl) (fun hgq => ?_)
        repeat (quiet_step ((first | (go_at_call_of 10 B1; exact Calls.regrown_of (hp1 _ belA)) | (go_at_call_of 10 B2; exact Calls.regrown_of (hp2 _ belA)))))
        refine wpQuiet_nil ?_
        intro wq hwq
        replace hwq := bel_of_class hwq
        clear hgq
        have hcq := bcell hwq
        have hzq := hwq.size
        (try simp at hzq)
        (try have hyq1 := lt0 w wq); (try have hyq2 := ltA w 1 wq); (try have hyq3 := ltA w 2 wq); (try have hyq4 := lt0 wr wq)
        have hyq : w.heap.size < wq.heap.size := by omega
        have hyqb : b < wq.heap.size := by omega
        go_wp2_with (first | (go_at_call_of 10 B1; refine (hp1 _ belA).mono ?_; rintro r wa ⟨rfl, hba⟩; have hca := bcell hba; have hza := hba.size; have hya : w.heap.size < wa.heap.size := (by omega)) | (go_at_call_of 10 B2; refine (hp2 _ belA).mono ?_; rintro r wb ⟨rfl, hbb⟩; have hcb := bcell hbb; have hzb := hbb.size; have hyb : w.heap.size < wb.heap.size := (by omega)))
        go_ret
        exact ⟨LightR.no _, belA⟩
      go_wp2_with fail
      refine wp_region_qb (by kernel_rfl) (by kernel_rfl) (fun hgq => ?_)
      repeat (quiet_step ((first | (go_at_call_of 10 B1; exact Calls.regrown_of (hp1 _ belA)) | (go_at_call_of 10 B2; exact Calls.regrown_of (hp2 _ belA)))))
      refine wpQuiet_nil ?_
      intro wq hwq
      replace hwq := bel_of_class hwq
      clear hgq
      have hcq := bcell hwq
      have hzq := hwq.size
      (try simp at hzq)
      (try have hyq1 := lt0 w wq); (try have hyq2 := ltA w 1 wq); (try have hyq3 := ltA w 2 wq); (try have hyq4 := lt0 wr wq)
      have hyq : w.heap.size < wq.heap.size := by omega
      have hyqb : b < wq.heap.size := by omega
      go_wp2_with (first | (go_at_call_of 10 B1; refine (hp1 _ belA).mono ?_; rintro r wa ⟨rfl, hba⟩; have hca := bcell hba; have hza := hba.size; have hya : w.heap.size < wa.heap.size := (by omega)) | (go_at_call_of 10 B2; refine (hp2 _ belA).mono ?_; rintro r wb ⟨rfl, hbb⟩; have hcb := bcell hbb; have hzb := hbb.size; have hyb : w.heap.size < wb.heap.size := (by omega)))
      go_roundw
      case rel => exact ⟨k + 1, m' + x2 + x1, by omega, by go_num, by go_num, by omega, by omega, belA⟩
      case measure => simp [intOf]; omega
    obtain rfl : k = p.eqs.length := by omega
    go_wp2_with fail
    go_ret
    exact ⟨LightR.yes (by omega) (by omega) (by omega) (by omega), belA⟩

end Go.Proofs.YtikmbkojnfmiaaaGreatDoorRRRR

/- Walk over the reference's Light, with the sizes of expressions. -/
namespace Go.Proofs.YtikmbkojnfmiaaaGreatDoorRRRR
open Go.RowKit Go.Sort

/-- What Light says. -/
def LightS (p : Pr) (r : Ending) : Prop := ∃ b, r = .returned (.bool b) ∧ (b = true → p.ins.length ≤ 60 ∧ p.outs.length ≤ 60 ∧ p.locals.length ≤ 60 ∧ p.eqs.length ≤ 60 ∧ ∀ q ∈ p.eqs, q.first.size ≤ 1000000 ∧ q.e.size ≤ 1000000)
theorem LightS.no (p : Pr) : LightS p (.returned (.bool false)) := ⟨false, rfl, by simp⟩
theorem LightS.yes {p : Pr} (h1 : p.ins.length ≤ 60) (h2 : p.outs.length ≤ 60) (h3 : p.locals.length ≤ 60) (h4 : p.eqs.length ≤ 60) (h5 : ∀ q ∈ p.eqs, q.first.count 300 < 300 ∧ q.e.count 300 < 300) : LightS p (.returned (.bool true)) := ⟨true, rfl, fun _ => ⟨h1, h2, h3, h4, fun q hq => by
  obtain ⟨c1, c2⟩ := h5 q hq
  have := Ex.count_size q.first 300 c1
  have := Ex.count_size q.e 300 c2
  omega⟩⟩

set_option maxHeartbeats 4000000 in
theorem lightS_any (p : Pr) (a : PrA) (w : World) (hp : PrAt w p a) :
    Calls Tryz.prog 4 #[prV p a] w fun r w' => LightS p r ∧ Below w.heap.size w w' := by
  have hp4 := hp.eqs
  have hq1 := hp.ins.len
  have hq2 := hp.outs.len
  have hq3 := hp.locals.len
  have hq4 := hp.eqs.len
  obtain ⟨A1, c1, A2, c2, A3, c3, A4, c4⟩ := a
  unfold maxLen at hq1 hq2 hq3 hq4
  unfold prV
  dsimp only at *
  obtain ⟨hq11, hq12⟩ := hq1
  obtain ⟨hq21, hq22⟩ := hq2
  obtain ⟨hq31, hq32⟩ := hq3
  obtain ⟨hq41, hq42⟩ := hq4
  by_cases g1 : 60 < p.ins.length
  · clear hp4
    go_enter Tryz.func4, Tryz.ntmps4
    go_wp2_with fail
    go_ret
    exact ⟨LightS.no _, belA⟩
  by_cases g2 : 60 < p.outs.length
  · clear hp4
    go_enter Tryz.func4, Tryz.ntmps4
    go_wp2_with fail
    go_ret
    exact ⟨LightS.no _, belA⟩
  by_cases g3 : 60 < p.locals.length
  · clear hp4
    go_enter Tryz.func4, Tryz.ntmps4
    go_wp2_with fail
    go_ret
    exact ⟨LightS.no _, belA⟩
  by_cases g4 : 60 < p.eqs.length
  · clear hp4
    go_enter Tryz.func4, Tryz.ntmps4
    go_wp2_with fail
    go_ret
    exact ⟨LightS.no _, belA⟩
  by_cases g5 : 2000 < p.name.size
  · clear hp4
    go_enter Tryz.func4, Tryz.ntmps4
    go_wp2_with fail
    go_ret
    exact ⟨LightS.no _, belA⟩
  clear hp
  go_enter Tryz.func4, Tryz.ntmps4
  go_wp2_with fail
  refine wp_name fun W0 hW0 => ?_
  have hb0 : Below w.heap.size w W0 := by rw [hW0]; exact belA
  have hz0 : w.heap.size < W0.heap.size := by rw [hW0]; simp
  have p4 : W0.cell? ⟨w.heap.size, 4, none⟩ = some (.slice A4 p.eqs.length c4) := by rw [hW0]; go_simp
  clear hW0
  replace hp4 := hp4.later hb0
  go_loopw [3, 4] (fun m i wr => ∃ (k : Nat) (m' : Int), k ≤ p.eqs.length ∧ i = .int .i64 k ∧ m = .int .i64 m' ∧ 0 ≤ m' ∧ m' ≤ 600 * (k : Int) ∧ Hid (∀ y ∈ p.eqs.take k, y.first.count 300 < 300 ∧ y.e.count 300 < 300) ∧ Below W0.heap.size W0 wr) (fun _ i _ => p.eqs.length - (intOf i).toNat)
  case atStart => exact ⟨0, 0, Nat.zero_le _, rfl, rfl, by omega, by omega, Lib.hid (fun y hy => by simp at hy), Below.refl _ _⟩
  case round =>
    obtain ⟨k, m', hk, rfl, rfl, h0, h1, HS, hbel⟩ := hrel
    have hc := bcell hbel
    have hzr := hbel.size
    have hr1 : w.heap.size < wr.heap.size := by omega
    by_cases hlt : k < p.eqs.length
    · have hx : p.eqs[k]? = some p.eqs[k] := List.getElem?_eq_getElem hlt
      have hd : p.eqs.drop k = p.eqs[k] :: p.eqs.drop (k + 1) := List.drop_eq_getElem_cons hlt
      generalize p.eqs[k] = q at hx hd
      obtain ⟨b, off, B1, n1, B2, n2, rfl, hbb, ⟨g0, g1, g2, g3, g4, g5, g6, g7, g8, g9, s1, s2⟩⟩ := (hp4.later hbel).get hx
      have hc1 := Ex.count_bd q.first 300
      have hc2 := Ex.count_bd q.e 300
      have hp1 := fun W h => parts_any q.first B1 n1 300 W (s1.later h) (by omega) (by omega)
      have hp2 := fun W h => parts_any q.e B2 n2 300 W (s2.later h) (by omega) (by omega)
      unfold exV at hp1 hp2
      have HK := Lib.hid (show q.first.count 300 < 300 → q.e.count 300 < 300 → ∀ y ∈ p.eqs.take (k + 1), y.first.count 300 < 300 ∧ y.e.count 300 < 300 from fun g1 g2 y hy => by
        rw [List.take_add_one, hx] at hy
        simp only [Option.toList, List.mem_append, List.mem_singleton] at hy
        rcases hy with hy | rfl
        · exact HS.out y hy
        · exact ⟨g1, g2⟩)
      clear hd hx
      generalize q.first.count 300 = x1 at *
      generalize q.e.count 300 = x2 at *
      by_cases t1 : 3000 < m' + x2 + x1
      · go_wp2_with fail
        refine wp_region_qb (by kernel_rfl) (by kernel_rfl) (fun hgq => ?_)
        repeat (quiet_step ((first | (go_at_call_of 10 B1; exact Calls.regrown_of (hp1 _ belA)) | (go_at_call_of 10 B2; exact Calls.regrown_of (hp2 _ belA)))))
        refine wpQuiet_nil ?_
        intro wq hwq
        replace hwq := bel_of_class hwq
        clear hgq
        have hcq := bcell hwq
        have hzq := hwq.size
        (try simp at hzq)
        (try have hyq1 := lt0 w wq); (try have hyq2 := ltA w 1 wq); (try have hyq3 := ltA w 2 wq); (try have hyq4 := lt0 wr wq)
        have hyq : w.heap.size < wq.heap.size := by omega
        have hyqb : b < wq.heap.size := by omega
        go_wp2_with (first | (go_at_call_of 10 B1; refine (hp1 _ belA).mono ?_; rintro r wa ⟨rfl, hba⟩; have hca := bcell hba; have hza := hba.size; have hya : w.heap.size < wa.heap.size := (by omega)) | (go_at_call_of 10 B2; refine (hp2 _ belA).mono ?_; rintro r wb ⟨rfl, hbb⟩; have hcb := bcell hbb; have hzb := hbb.size; have hyb : w.heap.size < wb.heap.size := (by omega)))
        go_ret
        exact ⟨LightS.no _, belA⟩
      by_cases t2 : x2 ≥ 300
      · go_wp2_with fail
        refine wp_region_qb (by kernel_rfl) (by kernel_rfl) (fun hgq => ?_)
        repeat (quiet_step ((first | (go_at_call_of 10 B1; exact Calls.regrown_of (hp1 _ belA)) | (go_at_call_of 10 B2; exact Calls.regrown_of (hp2 _ belA)))))
        refine wpQuiet_nil ?_
        intro wq hwq
        replace hwq := bel_of_class hwq
        clear hgq
        have hcq := bcell hwq
        have hzq := hwq.size
        (try simp at hzq)
        (try have hyq1 := lt0 w wq); (try have hyq2 := ltA w 1 wq); (try have hyq3 := ltA w 2 wq); (try have hyq4 := lt0 wr wq)
        have hyq : w.heap.size < wq.heap.size := by omega
        have hyqb : b < wq.heap.size := by omega
        go_wp2_with (first | (go_at_call_of 10 B1; refine (hp1 _ belA).mono ?_; rintro r wa ⟨rfl, hba⟩; have hca := bcell hba; have hza := hba.size; have hya : w.heap.size < wa.heap.size := (by omega)) | (go_at_call_of 10 B2; refine (hp2 _ belA).mono ?_; rintro r wb ⟨rfl, hbb⟩; have hcb := bcell hbb; have hzb := hbb.size; have hyb : w.heap.size < wb.heap.size := (by omega)))
        go_ret
        exact ⟨LightS.no _, belA⟩
      by_cases t3 : x1 ≥ 300
      · go_wp2_with fail
        refine wp_region_qb (by kernel_rfl) (by kernel_rfl) (fun hgq => ?_)
        repeat (quiet_step ((first | (go_at_call_of 10 B1; exact Calls.regrown_of (hp1 _ belA)) | (go_at_call_of 10 B2; exact Calls.regrown_of (hp2 _ belA)))))
        refine wpQuiet_nil ?_
        intro wq hwq
        replace hwq := bel_of_class hwq
        clear hgq
        have hcq := bcell hwq
        have hzq := hwq.size
        (try simp at hzq)
        (try have hyq1 := lt0 w wq); (try have hyq2 := ltA w 1 wq); (try have hyq3 := ltA w 2 wq); (try have hyq4 := lt0 wr wq)
        have hyq : w.heap.size < wq.heap.size := by omega
        have hyqb : b < wq.heap.size := by omega
        go_wp2_with (first | (go_at_call_of 10 B1; refine (hp1 _ belA).mono ?_; rintro r wa ⟨rfl, hba⟩; have hca := bcell hba; have hza := hba.size; have hya : w.heap.size < wa.heap.size := (by omega)) | (go_at_call_of 10 B2; refine (hp2 _ belA).mono ?_; rintro r wb ⟨rfl, hbb⟩; have hcb := bcell hbb; have hzb := hbb.size; have hyb : w.heap.size < wb.heap.size := (by omega)))
        go_ret
        exact ⟨LightS.no _, belA⟩
      go_wp2_with fail
      refine wp_region_qb (by kernel_rfl) (by kernel_rfl) (fun hgq => ?_)
      repeat (quiet_step ((first | (go_at_call_of 10 B1; exact Calls.regrown_of (hp1 _ belA)) | (go_at_call_of 10 B2; exact Calls.regrown_of (hp2 _ belA)))))
      refine wpQuiet_nil ?_
      intro wq hwq
      replace hwq := bel_of_class hwq
      clear hgq
      have hcq := bcell hwq
      have hzq := hwq.size
      (try simp at hzq)
      (try have hyq1 := lt0 w wq); (try have hyq2 := ltA w 1 wq); (try have hyq3 := ltA w 2 wq); (try have hyq4 := lt0 wr wq)
      have hyq : w.heap.size < wq.heap.size := by omega
      have hyqb : b < wq.heap.size := by omega
      go_wp2_with (first | (go_at_call_of 10 B1; refine (hp1 _ belA).mono ?_; rintro r wa ⟨rfl, hba⟩; have hca := bcell hba; have hza := hba.size; have hya : w.heap.size < wa.heap.size := (by omega)) | (go_at_call_of 10 B2; refine (hp2 _ belA).mono ?_; rintro r wb ⟨rfl, hbb⟩; have hcb := bcell hbb; have hzb := hbb.size; have hyb : w.heap.size < wb.heap.size := (by omega)))
      go_roundw
      case rel => exact ⟨k + 1, m' + x2 + x1, by omega, by go_num, by go_num, by omega, by omega, Lib.hid (HK.out (by omega) (by omega)), belA⟩
      case measure => simp [intOf]; omega
    obtain rfl : k = p.eqs.length := by omega
    go_wp2_with fail
    go_ret
    exact ⟨LightS.yes (by omega) (by omega) (by omega) (by omega) (by have := HS.out; rwa [List.take_length] at this), belA⟩

end Go.Proofs.YtikmbkojnfmiaaaGreatDoorRRRR
