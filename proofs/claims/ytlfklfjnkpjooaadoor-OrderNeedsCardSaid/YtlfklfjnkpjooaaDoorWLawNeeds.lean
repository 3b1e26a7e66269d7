/- Walk over the law OrderNeeds: it answers true. -/
import Derived.Test.YtlfklfjnkpjooaaDoorBU
import Derived.Test.YtlfklfjnkpjooaaDoorBY
import Derived.WalkKit
import Derived.WalkSpells
import Derived.WalkLawsBesides
import Derived.Deep.QuietTactic
import Derived.BigQuiet
import Derived.Deep.Draws
import Derived.Lib.Hide
import Derived.Deep.LoopGhost
import Derived.StillTailTactics
import Derived.Deep.RegionHeld3
import Derived.Deep.RegionWith
import Derived.Lib.QuietBelow
set_option linter.unusedVariables false
set_option linter.unusedSimpArgs false
set_option maxRecDepth 100000
namespace Go.Proofs.YtlfklfjnkpjooaaDoor
open Go.RowKit Go.Sort

set_option maxHeartbeats 4000000 in
theorem orderNeeds_any (e : Ex) (A : Option Addr) (cap : Nat) (w : World) (hg : Always w) (he : SubsAt w e A cap) (hok : e.OK) :
    Calls Tryd.prog 7 #[exV e A cap] w fun r w' => r = .returned (.bool true) ∧ Below w.heap.size w w' := by
  have hparts := fun W h => parts_any e A cap 400 W (he.later h) (by omega) (by omega)
  have hneed := fun W h => needs_all e A cap W (he.later h) hok
  have hkn := fun W h => known16_any W (hg.later h)
  by_cases hc : 400 ≤ e.count 400
  · rw [needsF_big hc] at hneed
    generalize e.count 400 = c at *
    clear hg he hok
    unfold exV at *
    dsimp only [List.length_nil, List.map_nil] at hneed
    go_enter Tryd.func7, Tryd.ntmps7
    go_wp2_with (first | (go_at_call 23; refine (hparts _ belA).mono ?_; rintro r w1 ⟨rfl, hb1⟩; have hc1 := bcell hb1; have hz1 := hb1.size; (try simp at hz1); (try have hy1 : w.heap.size < w1.heap.size := by omega); (try have hy2 : w.heap.size + 1 < w1.heap.size := by omega); (try have hy3 : w.heap.size + 2 < w1.heap.size := by omega); (try have hy4 : wr.heap.size < w1.heap.size := by omega); (try have hy5 : wr.heap.size + 1 < w1.heap.size := by omega)) | (go_at_call 25; refine (hkn _ belA).mono ?_; rintro r w1 ⟨rfl, hb1⟩; have hc1 := bcell hb1; have hz1 := hb1.size; (try simp at hz1); (try have hy1 : w.heap.size < w1.heap.size := by omega); (try have hy2 : w.heap.size + 1 < w1.heap.size := by omega); (try have hy3 : w.heap.size + 2 < w1.heap.size := by omega); (try have hy4 : wr.heap.size < w1.heap.size := by omega); (try have hy5 : wr.heap.size + 1 < w1.heap.size := by omega)) | (go_at_call 24; go_loud (refine (hneed _ belA).mono ?_; rintro r wn ⟨⟨vn, rfl, hrow⟩, hbn⟩; obtain ⟨An, cn, rfl, hn1, hn2⟩ := own_slice hrow; have hcn := bcell hbn; have hzn := hbn.size; clear hrow)))
    go_ret
    exact ⟨rfl, belA⟩
  · have hz : e.size ≤ 1000000 := by have := Ex.count_size e 400 (by omega); omega
    have href := fun W h => refNeeds_any e A cap W (he.later h) hz
    have hc' : e.count 400 < 400 := by omega
    generalize e.count 400 = c at *
    generalize needsF e = l at *
    clear hg he hok hz hc
    unfold exV at *
    go_enter Tryd.func7, Tryd.ntmps7
    go_wp2_with (first | (go_at_call 23; refine (hparts _ belA).mono ?_; rintro r wp ⟨rfl, hbp⟩; have hcp := bcell hbp; have hzp := hbp.size; (try simp at hzp); have hyp : w.heap.size < wp.heap.size := (by omega)) | (go_at_call 24; go_loud (refine (hneed _ belA).mono ?_; rintro r wn ⟨⟨vn, rfl, hrow⟩, hbn⟩; obtain ⟨An, cn, rfl, hn1, hn2⟩ := own_slice hrow; have hls := StrsAt.of_own hrow; have hcn := bcell hbn; have hzn := hbn.size; have hyn : w.heap.size < wn.heap.size := (by omega); clear hrow)) | (go_at_call 26; go_loud (refine (href _ belA).mono ?_; rintro r wm ⟨⟨vm, rfl, hrow⟩, hbm⟩; obtain ⟨Am, cm, rfl, hm1, hm2⟩ := own_slice hrow; have hms := StrsAt.of_own hrow; have hcm := bcell hbm; have hzm := hbm.size; have hym : w.heap.size < wm.heap.size := (by omega); clear hrow)))
    have hls2 : StrsAt wm l An cn := hls.later hbm
    have hbw : Below w.heap.size w wm := belA
    clear hls hcp hcn hcm hparts hneed href
    unfold maxLen at hn2 hm2
    go_loopw [5] (fun i wr => ∃ k : Nat, k ≤ l.length ∧ i = .int .i64 k ∧ Below wm.heap.size wm wr) (fun i _ => l.length - (intOf i).toNat)
    case atStart => exact ⟨0, Nat.zero_le _, rfl, Below.refl _ _⟩
    case round =>
      obtain ⟨k, hk, rfl, hbel⟩ := hrel
      have hbwr : Below w.heap.size w wr := bel_grow hbw hbel (by omega)
      by_cases hlt : k < l.length
      · have hx : l[k]? = some l[k] := List.getElem?_eq_getElem hlt
        generalize l[k] = x at hx
        obtain ⟨b, off, rfl, hbb, d0⟩ := (hls2.later hbel).get hx
        obtain ⟨b2, off2, rfl, hbb2, e0⟩ := (hms.later hbel).get hx
        have t3 : (x.toList == x.toList) = true := by simp
        clear hx
        go_wp2_with fail
        go_quiet (fail)
        go_wp2_with fail
        go_roundw
        case rel => exact ⟨k + 1, by omega, by go_num, belA⟩
        case measure => simp [intOf]; omega
      · obtain rfl : k = l.length := by omega
        go_wp2_with (first | (go_at_call 25; refine (hkn _ belA).mono ?_; rintro r w1 ⟨rfl, hb1⟩; have hc1 := bcell hb1; have hz1 := hb1.size; (try simp at hz1); (try have hy1 : w.heap.size < w1.heap.size := by omega); (try have hy2 : w.heap.size + 1 < w1.heap.size := by omega); (try have hy3 : w.heap.size + 2 < w1.heap.size := by omega); (try have hy4 : wr.heap.size < w1.heap.size := by omega); (try have hy5 : wr.heap.size + 1 < w1.heap.size := by omega)))
        go_ret
        exact ⟨rfl, belA⟩

end Go.Proofs.YtlfklfjnkpjooaaDoor
