/- Walks over the reference's tree: Deep, shapes, Right. -/
import Derived.Test.YtikmbkojnfmiaaaGreatDoorRRRRWRefShape
import Derived.Test.YtikmbkojnfmiaaaGreatDoorRRRRBY
import Derived.Test.YtikmbkojnfmiaaaGreatDoorRRRRBG
set_option linter.unusedVariables false
set_option linter.unusedSimpArgs false
set_option maxRecDepth 100000
namespace Go.Proofs.YtikmbkojnfmiaaaGreatDoorRRRR
open Go.RowKit Go.Sort

theorem depthL_max : ∀ (l : List Ex) (a : Int), 0 ≤ a → Ex.depthL l a = max a (Ex.depthL l 0)
  | [], a, h => by simp [Ex.depthL]; omega
  | x :: l, a, h => by
    have hx := Ex.depth_bd x
    rw [Ex.depthL, Ex.depthL, depthL_max l (max a x.depth) (by omega), depthL_max l (max 0 x.depth) (by omega)]
    omega
theorem depthL_nn : ∀ (l : List Ex), 0 ≤ Ex.depthL l 0 := fun l => by
  cases l with
  | nil => simp [Ex.depthL]
  | cons x l => have := (depthL_ge (x :: l) 0 x (by simp)).2; omega
/-- The reference's Deep. -/
def deepP (e : Ex) (most : Int) : Int := min (max 1 most) e.depth

set_option maxHeartbeats 1000000 in
theorem deep_any (e : Ex) : ∀ (A : Option Addr) (cap : Nat) (most : Int) (w : World), SubsAt w e A cap → -1000 ≤ most → most ≤ 1000 →
    Calls Tryz.prog 63 #[exV e A cap, .int .i64 most] w fun r w' => r = .returned (.int .i64 (deepP e most)) ∧ Below w.heap.size w w' := by
  induction e using Ex.ind with
  | h e ih =>
  intro A cap most w he hm hm2
  have hl := he.len
  unfold maxLen at hl
  obtain ⟨hl1, hl2⟩ := hl
  have hdb := Ex.depth_bd e
  by_cases h1 : most ≤ 1
  · have hv : deepP e most = 1 := by unfold deepP; omega
    have HV := Lib.hid hv; clear hv
    unfold exV
    go_enter Tryz.func63, Tryz.ntmps63
    go_wp2_with fail
    go_ret
    exact ⟨ret_int HV.out.symm, belA⟩
  have h1' : ¬ most ≤ 1 := h1
  unfold exV
  go_enter Tryz.func63, Tryz.ntmps63
  go_wp2_with fail
  refine wp_name fun W0 hW0 => ?_
  have hb0 : Below w.heap.size w W0 := by rw [hW0]; exact belA
  have hz0 : w.heap.size < W0.heap.size := by rw [hW0]; simp
  have p3 : W0.cell? ⟨w.heap.size, 3, none⟩ = some (.slice A e.sub.length cap) := by rw [hW0]; go_simp
  clear hW0
  replace he := he.later hb0
  go_loopw [5, 6] (fun m i wr => ∃ (k : Nat) (m' : Int), k ≤ e.sub.length ∧ i = .int .i64 k ∧ m = .int .i64 m' ∧ 0 ≤ m' ∧ m' ≤ most - 1 ∧ min (most - 1) (Ex.depthL (e.sub.drop k) m') + 1 = deepP e most ∧ Below W0.heap.size W0 wr) (fun _ i _ => e.sub.length - (intOf i).toNat)
  case atStart => exact ⟨0, 0, Nat.zero_le _, rfl, rfl, by omega, by omega, by unfold deepP; rw [Ex.depth_eq, List.drop_zero]; omega, Below.refl _ _⟩
  case round =>
    obtain ⟨k, m', hk, rfl, rfl, h0, h2, hrem, hbel⟩ := hrel
    have hc := bcell hbel
    have hzr := hbel.size
    by_cases hlt : k < e.sub.length
    · have hx : e.sub[k]? = some e.sub[k] := List.getElem?_eq_getElem hlt
      have hmem : e.sub[k] ∈ e.sub := List.getElem_mem hlt
      have hd : e.sub.drop k = e.sub[k] :: e.sub.drop (k + 1) := List.drop_eq_getElem_cons hlt
      generalize e.sub[k] = x at hx hmem hd
      obtain ⟨b, off, A', cap', rfl, c0, c1, c2, c3, hs⟩ := (he.later hbel).get hx
      rw [hd, Ex.depthL] at hrem
      have ihx := fun W h => ih x hmem A' cap' (most - 1) W h (by omega) (by omega)
      have hdx := Ex.depth_bd x
      have hnn := depthL_nn (e.sub.drop (k + 1))
      rw [depthL_max _ _ (by omega)] at hrem
      have hdp : deepP x (most - 1) = min (most - 1) x.depth := by unfold deepP; omega
      have hmx := depthL_max (e.sub.drop (k + 1))
      generalize hD : Ex.depthL (e.sub.drop (k + 1)) 0 = D at hrem hnn hmx
      by_cases hgt : m' < deepP x (most - 1)
      · have hfin : min (most - 1) (Ex.depthL (e.sub.drop (k + 1)) (deepP x (most - 1))) + 1 = deepP e most := by
          rw [hmx _ (by omega), ← hrem, hdp]; omega
        have hb1 : 0 ≤ deepP x (most - 1) := by omega
        have hb2 : deepP x (most - 1) ≤ most - 1 := by omega
        have HR := Lib.hid hfin
        clear hrem hd hx hD hmx hdp hfin
        generalize deepP x (most - 1) = dx at *
        go_wp2_with (go_at_call 63; refine (ihx _ (hs.later belA)).mono ?_; rintro r w1 ⟨rfl, hb1⟩)
        go_roundw
        case rel => exact ⟨k + 1, _, by omega, by go_num, rfl, by omega, by omega, HR.out, belA⟩
        case measure => simp [intOf]; omega
      · have hfin : min (most - 1) (Ex.depthL (e.sub.drop (k + 1)) m') + 1 = deepP e most := by
          rw [hmx _ (by omega), ← hrem]; rw [hdp] at hgt; omega
        have HR := Lib.hid hfin
        clear hrem hd hx hD hmx hdp hfin
        generalize deepP x (most - 1) = dx at *
        go_wp2_with (go_at_call 63; refine (ihx _ (hs.later belA)).mono ?_; rintro r w1 ⟨rfl, hb1⟩)
        go_roundw
        case rel => exact ⟨k + 1, _, by omega, by go_num, rfl, by omega, by omega, HR.out, belA⟩
        case measure => simp [intOf]; omega
    · have hke : k = e.sub.length := by omega
      rw [hke, List.drop_length, Ex.depthL] at hrem
      have hfin : m' + 1 = deepP e most := by omega
      have HR := Lib.hid hfin; clear hrem hke hfin
      go_wp2_with fail
      go_ret
      exact ⟨ret_int HR.out, belA⟩

theorem formedL_cons (x : Ex) (l : List Ex) : Ex.formedL (x :: l) = (x.formed && Ex.formedL l) := by rw [Ex.formedL]

set_option maxHeartbeats 1000000 in
theorem shapes_any (e : Ex) : ∀ (A : Option Addr) (cap : Nat) (w : World), SubsAt w e A cap → e.OK →
    Calls Tryz.prog 64 #[exV e A cap] w fun r w' => r = .returned (.bool e.formed) ∧ Below w.heap.size w w' := by
  induction e using Ex.ind with
  | h e ih =>
  intro A cap w he hok
  have hl := he.len
  unfold maxLen at hl
  obtain ⟨hl1, hl2⟩ := hl
  have hI : I32 e.n := by cases e; simp only [Ex.OK, Ex.n] at *; exact hok.2.1
  have hshape := fun W => shape_any e A cap W hI
  have hv : e.formed = (formedH e.kind e.n e.name e.sub.length && Ex.formedL e.sub) := Ex.formed_eq e
  have HSUB := Lib.hid (fun x hx => Ex.OK_sub hok (x := x) hx)
  clear hok hI
  generalize formedH e.kind e.n e.name e.sub.length = hf at *
  have HV := Lib.hid hv; clear hv
  unfold exV at *
  go_enter Tryz.func64, Tryz.ntmps64
  go_wp2_with (first | (go_at_call 85; refine (hshape _).mono ?_; rintro r w1 ⟨rfl, hb1⟩; have hc1 := bcell hb1; have hz1 := hb1.size; (try simp at hz1); (try have hy1 := lt0 w w1); (try have hy2 := ltA w 1 w1); (try have hy3 := ltA w 2 w1); (try have hy4 := lt0 wr w1); (try have hy5 := ltA wr 1 w1)))
  refine wp_name fun W0 hW0 => ?_
  have hb0 : Below w.heap.size w W0 := by rw [hW0]; exact belA
  have hz0 : w.heap.size < W0.heap.size := by rw [hW0]; omega
  have p3 : W0.cell? ⟨w.heap.size, 3, none⟩ = some (.slice A e.sub.length cap) := by rw [hW0]; go_simp
  clear hW0
  replace he := he.later hb0
  go_loopw [3, 4] (fun b i wr => ∃ (k : Nat) (bb : Bool), k ≤ e.sub.length ∧ i = .int .i64 k ∧ b = .bool bb ∧ (bb && Ex.formedL (e.sub.drop k)) = e.formed ∧ Below W0.heap.size W0 wr) (fun _ i _ => e.sub.length - (intOf i).toNat)
  case atStart => exact ⟨0, hf, Nat.zero_le _, rfl, rfl, by rw [HV.out]; rfl, Below.refl _ _⟩
  case round =>
    obtain ⟨k, bb, hk, rfl, rfl, hrem, hbel⟩ := hrel
    have hc := bcell hbel
    have hzr := hbel.size
    have hr1 : w.heap.size < wr.heap.size := by omega
    by_cases hlt : k < e.sub.length
    · cases bb
      · have HR := Lib.hid hrem; clear hrem
        go_wp2_with fail
        go_ret
        exact ⟨ret_bool HR.out, belA⟩
      · have hx : e.sub[k]? = some e.sub[k] := List.getElem?_eq_getElem hlt
        have hmem : e.sub[k] ∈ e.sub := List.getElem_mem hlt
        have hd : e.sub.drop k = e.sub[k] :: e.sub.drop (k + 1) := List.drop_eq_getElem_cons hlt
        generalize e.sub[k] = x at hx hmem hd
        obtain ⟨b, off, A', cap', rfl, c0, c1, c2, c3, hs⟩ := (he.later hbel).get hx
        rw [hd, formedL_cons, Bool.true_and] at hrem
        have ihx := fun W h => ih x hmem A' cap' W h (HSUB.out x hmem)
        unfold exV at ihx
        generalize x.formed = xf at *
        have HR := Lib.hid hrem; clear hrem hd hx
        go_wp2_with (first | (go_at_call 64; refine (ihx _ (hs.later belA)).mono ?_; rintro r w1 ⟨rfl, hb1⟩; have hc1 := bcell hb1; have hz1 := hb1.size; (try simp at hz1); (try have hy1 := lt0 w w1); (try have hy2 := ltA w 1 w1); (try have hy3 := ltA w 2 w1); (try have hy4 := lt0 wr w1); (try have hy5 := ltA wr 1 w1)))
        go_roundw
        case rel => exact ⟨k + 1, _, by omega, by go_num, rfl, HR.out, belA⟩
        case measure => simp [intOf]; omega
    · have hke : k = e.sub.length := by omega
      rw [hke, List.drop_length, Ex.formedL, Bool.and_true] at hrem
      have HR := Lib.hid hrem; clear hrem hke
      go_wp2_with fail
      go_ret
      exact ⟨ret_bool HR.out, belA⟩

set_option maxHeartbeats 1000000 in
theorem refRight_any (e : Ex) (A : Option Addr) (cap : Nat) (w : World) (he : SubsAt w e A cap) (hok : e.OK) :
    Calls Tryz.prog 50 #[exV e A cap] w fun r w' => r = .returned (.int .i64 e.right) ∧ Below w.heap.size w w' := by
  have hv : e.right = if 120 < e.count 121 then 3 else if 12 < e.depth then 17 else if e.formed then 0 else 4 := rfl
  have hparts := fun W h => parts_any e A cap 121 W (he.later h) (by omega) (by omega)
  have hdeep := fun W h => deep_any e A cap 13 W (he.later h) (by omega) (by omega)
  have hshapes := fun W h => shapes_any e A cap W (he.later h) hok
  have hdp : 12 < deepP e 13 ↔ 12 < e.depth := by unfold deepP; omega
  clear hok
  unfold exV at *
  by_cases h1 : 120 < e.count 121
  · rw [if_pos h1] at hv
    have HV := Lib.hid hv; clear hv
    clear hdp
    generalize e.count 121 = c1 at *
    go_enter Tryz.func50, Tryz.ntmps50
    go_wp2_with (first | (go_at_call 10; refine (hparts _ belA).mono ?_; rintro r w1 ⟨rfl, hb1⟩; have hc1 := bcell hb1; have hz1 := hb1.size; (try simp at hz1); (try have hy1 := lt0 w w1); (try have hy2 := ltA w 1 w1); (try have hy3 := ltA w 2 w1); (try have hy4 := lt0 wr w1); (try have hy5 := ltA wr 1 w1)))
    go_ret
    exact ⟨ret_int HV.out.symm, belA⟩
  rw [if_neg h1] at hv
  by_cases h2 : 12 < e.depth
  · rw [if_pos h2] at hv
    have h2' := hdp.2 h2
    have HV := Lib.hid hv; clear hv
    clear hdp
    generalize e.count 121 = c1 at *
    generalize deepP e 13 = c2 at *
    go_enter Tryz.func50, Tryz.ntmps50
    go_wp2_with (first | (go_at_call 10; refine (hparts _ belA).mono ?_; rintro r w1 ⟨rfl, hb1⟩; have hc1 := bcell hb1; have hz1 := hb1.size; (try simp at hz1); (try have hy1 := lt0 w w1); (try have hy2 := ltA w 1 w1); (try have hy3 := ltA w 2 w1); (try have hy4 := lt0 wr w1); (try have hy5 := ltA wr 1 w1)) | (go_at_call 63; refine (hdeep _ belA).mono ?_; rintro r w1 ⟨rfl, hb1⟩; have hc1 := bcell hb1; have hz1 := hb1.size; (try simp at hz1); (try have hy1 := lt0 w w1); (try have hy2 := ltA w 1 w1); (try have hy3 := ltA w 2 w1); (try have hy4 := lt0 wr w1); (try have hy5 := ltA wr 1 w1)))
    go_ret
    exact ⟨ret_int HV.out.symm, belA⟩
  rw [if_neg h2] at hv
  have h2' : ¬ 12 < deepP e 13 := fun h => h2 (hdp.1 h)
  clear hdp
  cases h3 : e.formed
  · rw [h3, if_neg (by simp)] at hv
    rw [h3] at hshapes
    have HV := Lib.hid hv; clear hv
    generalize e.count 121 = c1 at *
    generalize deepP e 13 = c2 at *
    clear h3
    go_enter Tryz.func50, Tryz.ntmps50
    go_wp2_with (first | (go_at_call 10; refine (hparts _ belA).mono ?_; rintro r w1 ⟨rfl, hb1⟩; have hc1 := bcell hb1; have hz1 := hb1.size; (try simp at hz1); (try have hy1 := lt0 w w1); (try have hy2 := ltA w 1 w1); (try have hy3 := ltA w 2 w1); (try have hy4 := lt0 wr w1); (try have hy5 := ltA wr 1 w1)) | (go_at_call 63; refine (hdeep _ belA).mono ?_; rintro r w1 ⟨rfl, hb1⟩; have hc1 := bcell hb1; have hz1 := hb1.size; (try simp at hz1); (try have hy1 := lt0 w w1); (try have hy2 := ltA w 1 w1); (try have hy3 := ltA w 2 w1); (try have hy4 := lt0 wr w1); (try have hy5 := ltA wr 1 w1)) | (go_at_call 64; refine (hshapes _ belA).mono ?_; rintro r w1 ⟨rfl, hb1⟩; have hc1 := bcell hb1; have hz1 := hb1.size; (try simp at hz1); (try have hy1 := lt0 w w1); (try have hy2 := ltA w 1 w1); (try have hy3 := ltA w 2 w1); (try have hy4 := lt0 wr w1); (try have hy5 := ltA wr 1 w1)))
    go_ret
    exact ⟨ret_int HV.out.symm, belA⟩
  · rw [h3, if_pos rfl] at hv
    rw [h3] at hshapes
    have HV := Lib.hid hv; clear hv
    generalize e.count 121 = c1 at *
    generalize deepP e 13 = c2 at *
    clear h3
    go_enter Tryz.func50, Tryz.ntmps50
    go_wp2_with (first | (go_at_call 10; refine (hparts _ belA).mono ?_; rintro r w1 ⟨rfl, hb1⟩; have hc1 := bcell hb1; have hz1 := hb1.size; (try simp at hz1); (try have hy1 := lt0 w w1); (try have hy2 := ltA w 1 w1); (try have hy3 := ltA w 2 w1); (try have hy4 := lt0 wr w1); (try have hy5 := ltA wr 1 w1)) | (go_at_call 63; refine (hdeep _ belA).mono ?_; rintro r w1 ⟨rfl, hb1⟩; have hc1 := bcell hb1; have hz1 := hb1.size; (try simp at hz1); (try have hy1 := lt0 w w1); (try have hy2 := ltA w 1 w1); (try have hy3 := ltA w 2 w1); (try have hy4 := lt0 wr w1); (try have hy5 := ltA wr 1 w1)) | (go_at_call 64; refine (hshapes _ belA).mono ?_; rintro r w1 ⟨rfl, hb1⟩; have hc1 := bcell hb1; have hz1 := hb1.size; (try simp at hz1); (try have hy1 := lt0 w w1); (try have hy2 := ltA w 1 w1); (try have hy3 := ltA w 2 w1); (try have hy4 := lt0 wr w1); (try have hy5 := ltA wr 1 w1)))
    go_ret
    exact ⟨ret_int HV.out.symm, belA⟩

end Go.Proofs.YtikmbkojnfmiaaaGreatDoorRRRR
