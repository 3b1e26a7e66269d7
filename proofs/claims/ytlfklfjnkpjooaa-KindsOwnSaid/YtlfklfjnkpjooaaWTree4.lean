/- Walks over the package tree: formed, Right, literal. -/
import Derived.Test.YtlfklfjnkpjooaaWTree3
import Derived.WalkKit
import Derived.WalkSpells
import Derived.WalkLawsBesides
import Derived.Deep.QuietTactic
import Derived.BigQuiet
import Derived.Deep.Draws
import Derived.Lib.Hide
import Derived.Deep.LoopGhost
import Derived.StillTailTactics
import Derived.Deep.RegionHeld3
import Derived.Deep.RegionWith
import Derived.Lib.QuietBelow
set_option linter.unusedVariables false
set_option linter.unusedSimpArgs false
namespace Go.Proofs.Ytlfklfjnkpjooaa
open Go.RowKit Go.Sort

set_option maxHeartbeats 1000000 in
theorem formed_any (e : Ex) : ∀ (A : Option Addr) (cap : Nat) (w : World), SubsAt w e A cap →
    Calls Try.prog 37 #[exV e A cap] w fun r w' => r = .returned (.bool e.formed) ∧ Below w.heap.size w w' := by
  induction e using Ex.ind with
  | h e ih =>
  intro A cap w he
  have hl := he.len
  unfold maxLen at hl
  obtain ⟨hl1, hl2⟩ := hl
  have hv := Ex.formed_eq e
  unfold formedH at hv
  unfold exV
  cases h1 : (formK e.kind).2.2.2.2
  case false => simp only [h1, Bool.false_and] at hv
                have HV := Lib.hid hv; clear hv
                go_enter Try.func37, Try.ntmps37
                go_wp2_with (first | (go_at_call 56; refine (form_any _ _).mono ?_; rintro r w1 ⟨rfl, rfl⟩))
                go_ret
                exact ⟨ret_bool HV.out.symm, (by repeat (first | exact Below.refl _ _ | (with_reducible assumption) | refine bel_trans ?_ (by with_reducible assumption) | refine bel_trans ?_ (below_regrown _ _ _) | refine bel_drew ?_ | refine bel_drewN ?_ _ | refine bel_alloc ?_ _ | refine bel_grow ?_ (by with_reducible assumption) (by omega)))⟩
  cases h2 : ((e.sub.length : Int) != (formK e.kind).1)
  case true => simp only [bneI_ne h2, Bool.false_and, Bool.and_false] at hv
               have HV := Lib.hid hv; clear hv
               go_enter Try.func37, Try.ntmps37
               go_wp2_with (first | (go_at_call 56; refine (form_any _ _).mono ?_; rintro r w1 ⟨rfl, rfl⟩))
               go_ret
               exact ⟨ret_bool HV.out.symm, (by repeat (first | exact Below.refl _ _ | (with_reducible assumption) | refine bel_trans ?_ (by with_reducible assumption) | refine bel_trans ?_ (below_regrown _ _ _) | refine bel_drew ?_ | refine bel_drewN ?_ _ | refine bel_alloc ?_ _ | refine bel_grow ?_ (by with_reducible assumption) (by omega)))⟩
  cases h3 : decide (e.n < (formK e.kind).2.1)
  case true => simp only [h3, Bool.false_and, Bool.and_false, Bool.not_true] at hv
               have HV := Lib.hid hv; clear hv
               go_enter Try.func37, Try.ntmps37
               go_wp2_with (first | (go_at_call 56; refine (form_any _ _).mono ?_; rintro r w1 ⟨rfl, rfl⟩))
               go_ret
               exact ⟨ret_bool HV.out.symm, (by repeat (first | exact Below.refl _ _ | (with_reducible assumption) | refine bel_trans ?_ (by with_reducible assumption) | refine bel_trans ?_ (below_regrown _ _ _) | refine bel_drew ?_ | refine bel_drewN ?_ _ | refine bel_alloc ?_ _ | refine bel_grow ?_ (by with_reducible assumption) (by omega)))⟩
  cases h4 : decide ((formK e.kind).2.2.1 < e.n)
  case true => simp only [h4, Bool.false_and, Bool.and_false, Bool.not_true] at hv
               have HV := Lib.hid hv; clear hv
               go_enter Try.func37, Try.ntmps37
               go_wp2_with (first | (go_at_call 56; refine (form_any _ _).mono ?_; rintro r w1 ⟨rfl, rfl⟩))
               go_ret
               exact ⟨ret_bool HV.out.symm, (by repeat (first | exact Below.refl _ _ | (with_reducible assumption) | refine bel_trans ?_ (by with_reducible assumption) | refine bel_trans ?_ (below_regrown _ _ _) | refine bel_drew ?_ | refine bel_drewN ?_ _ | refine bel_alloc ?_ _ | refine bel_grow ?_ (by with_reducible assumption) (by omega)))⟩
  replace hv : e.formed = (((formK e.kind).2.2.2.1 == nameB e.name) && ((formK e.kind).2.2.2.1 || e.name.toList.isEmpty) && Ex.formedL e.sub) := by
    rw [hv]; simp only [h1, bneI_eq h2, h3, h4, Bool.not_false, Bool.true_and]
  cases h5 : (formK e.kind).2.2.2.1
  case false =>
    cases h6 : nameB e.name
    case true => simp only [h5, h6, Bool.false_beq, Bool.not_true, Bool.false_and] at hv
                 have HV := Lib.hid hv; clear hv
                 go_enter Try.func37, Try.ntmps37
                 go_wp2_with (first | (go_at_call 56; refine (form_any _ _).mono ?_; rintro r w1 ⟨rfl, rfl⟩) | (go_at_call 41; refine (name_any _ _).mono ?_; rintro r w1 ⟨rfl, hb1⟩; have hc1 := bcell hb1; have hz1 := hb1.size; (try simp at hz1); (try have hy1 : w.heap.size < w1.heap.size := by omega); (try have hy2 : w.heap.size + 1 < w1.heap.size := by omega); (try have hy3 : w.heap.size + 2 < w1.heap.size := by omega); (try have hy4 : wr.heap.size < w1.heap.size := by omega); (try have hy5 : wr.heap.size + 1 < w1.heap.size := by omega)))
                 go_ret
                 exact ⟨ret_bool HV.out.symm, (by repeat (first | exact Below.refl _ _ | (with_reducible assumption) | refine bel_trans ?_ (by with_reducible assumption) | refine bel_trans ?_ (below_regrown _ _ _) | refine bel_drew ?_ | refine bel_drewN ?_ _ | refine bel_alloc ?_ _ | refine bel_grow ?_ (by with_reducible assumption) (by omega)))⟩
    cases h7 : e.name.toList.isEmpty
    case false => simp only [h5, h6, h7, Bool.false_or, Bool.and_false, Bool.false_and] at hv
                  have HV := Lib.hid hv; clear hv
                  go_enter Try.func37, Try.ntmps37
                  go_wp2_with (first | (go_at_call 56; refine (form_any _ _).mono ?_; rintro r w1 ⟨rfl, rfl⟩) | (go_at_call 41; refine (name_any _ _).mono ?_; rintro r w1 ⟨rfl, hb1⟩; have hc1 := bcell hb1; have hz1 := hb1.size; (try simp at hz1); (try have hy1 : w.heap.size < w1.heap.size := by omega); (try have hy2 : w.heap.size + 1 < w1.heap.size := by omega); (try have hy3 : w.heap.size + 2 < w1.heap.size := by omega); (try have hy4 : wr.heap.size < w1.heap.size := by omega); (try have hy5 : wr.heap.size + 1 < w1.heap.size := by omega)))
                  go_ret
                  exact ⟨ret_bool HV.out.symm, (by repeat (first | exact Below.refl _ _ | (with_reducible assumption) | refine bel_trans ?_ (by with_reducible assumption) | refine bel_trans ?_ (below_regrown _ _ _) | refine bel_drew ?_ | refine bel_drewN ?_ _ | refine bel_alloc ?_ _ | refine bel_grow ?_ (by with_reducible assumption) (by omega)))⟩
    rw [h5, h6, h7] at hv
    have HV := Lib.hid hv; clear hv
    go_enter Try.func37, Try.ntmps37
    go_wp2_with (first | (go_at_call 56; refine (form_any _ _).mono ?_; rintro r w1 ⟨rfl, rfl⟩) | (go_at_call 41; refine (name_any _ _).mono ?_; rintro r w1 ⟨rfl, hb1⟩; have hc1 := bcell hb1; have hz1 := hb1.size; (try simp at hz1); (try have hy1 : w.heap.size < w1.heap.size := by omega); (try have hy2 : w.heap.size + 1 < w1.heap.size := by omega); (try have hy3 : w.heap.size + 2 < w1.heap.size := by omega); (try have hy4 : wr.heap.size < w1.heap.size := by omega); (try have hy5 : wr.heap.size + 1 < w1.heap.size := by omega)))
    go_loopw [59] (fun i wr => ∃ (k : Nat), k ≤ e.sub.length ∧ i = .int .i64 k ∧ Ex.formedL (e.sub.drop k) = e.formed ∧ Below w.heap.size w wr) (fun i _ => e.sub.length - (intOf i).toNat)
    case atStart => exact ⟨0, Nat.zero_le _, rfl, by rw [HV.out]; simp, (by repeat (first | exact Below.refl _ _ | (with_reducible assumption) | refine bel_trans ?_ (by with_reducible assumption) | refine bel_trans ?_ (below_regrown _ _ _) | refine bel_drew ?_ | refine bel_drewN ?_ _ | refine bel_alloc ?_ _ | refine bel_grow ?_ (by with_reducible assumption) (by omega)))⟩
    case round =>
      obtain ⟨k, hk, rfl, hrem, hbel⟩ := hrel
      by_cases hlt : k < e.sub.length
      · have hx : e.sub[k]? = some e.sub[k] := List.getElem?_eq_getElem hlt
        have hmem : e.sub[k] ∈ e.sub := List.getElem_mem hlt
        have hd : e.sub.drop k = e.sub[k] :: e.sub.drop (k + 1) := List.drop_eq_getElem_cons hlt
        generalize e.sub[k] = x at hx hmem hd
        obtain ⟨b, off, A', cap', rfl, c0, c1, c2, c3, hs⟩ := (he.later hbel).get hx
        rw [hd, Ex.formedL] at hrem
        have ihx := ih x hmem
        cases hfx : x.formed
        · rw [hfx, Bool.false_and] at hrem
          have HR := Lib.hid hrem; clear hrem hd hx
          go_wp2_with (go_at_call 37; refine (ihx A' cap' _ (hs.later (by repeat (first | exact Below.refl _ _ | (with_reducible assumption) | refine bel_trans ?_ (by with_reducible assumption) | refine bel_trans ?_ (below_regrown _ _ _) | refine bel_drew ?_ | refine bel_drewN ?_ _ | refine bel_alloc ?_ _ | refine bel_grow ?_ (by with_reducible assumption) (by omega))))).mono ?_; rintro r w2 ⟨rfl, hb2⟩)
          go_ret
          exact ⟨ret_bool HR.out, (by repeat (first | exact Below.refl _ _ | (with_reducible assumption) | refine bel_trans ?_ (by with_reducible assumption) | refine bel_trans ?_ (below_regrown _ _ _) | refine bel_drew ?_ | refine bel_drewN ?_ _ | refine bel_alloc ?_ _ | refine bel_grow ?_ (by with_reducible assumption) (by omega)))⟩
        · rw [hfx, Bool.true_and] at hrem
          have HR := Lib.hid hrem; clear hrem hd hx
          go_wp2_with (go_at_call 37; refine (ihx A' cap' _ (hs.later (by repeat (first | exact Below.refl _ _ | (with_reducible assumption) | refine bel_trans ?_ (by with_reducible assumption) | refine bel_trans ?_ (below_regrown _ _ _) | refine bel_drew ?_ | refine bel_drewN ?_ _ | refine bel_alloc ?_ _ | refine bel_grow ?_ (by with_reducible assumption) (by omega))))).mono ?_; rintro r w2 ⟨rfl, hb2⟩)
          go_roundw
          case rel => exact ⟨k + 1, by omega, by go_num, HR.out, (by repeat (first | exact Below.refl _ _ | (with_reducible assumption) | refine bel_trans ?_ (by with_reducible assumption) | refine bel_trans ?_ (below_regrown _ _ _) | refine bel_drew ?_ | refine bel_drewN ?_ _ | refine bel_alloc ?_ _ | refine bel_grow ?_ (by with_reducible assumption) (by omega)))⟩
          case measure => simp [intOf]; omega
      · have hke : k = e.sub.length := by omega
        rw [hke, List.drop_length] at hrem
        rw [Ex.formedL] at hrem
        have HR := Lib.hid hrem; clear hrem hke
        go_wp2_with fail
        go_ret
        exact ⟨ret_bool HR.out, (by repeat (first | exact Below.refl _ _ | (with_reducible assumption) | refine bel_trans ?_ (by with_reducible assumption) | refine bel_trans ?_ (below_regrown _ _ _) | refine bel_drew ?_ | refine bel_drewN ?_ _ | refine bel_alloc ?_ _ | refine bel_grow ?_ (by with_reducible assumption) (by omega)))⟩
  case true =>
    cases h6 : nameB e.name
    case false => simp only [h5, h6, Bool.true_beq, Bool.false_and] at hv
                  have HV := Lib.hid hv; clear hv
                  go_enter Try.func37, Try.ntmps37
                  go_wp2_with (first | (go_at_call 56; refine (form_any _ _).mono ?_; rintro r w1 ⟨rfl, rfl⟩) | (go_at_call 41; refine (name_any _ _).mono ?_; rintro r w1 ⟨rfl, hb1⟩; have hc1 := bcell hb1; have hz1 := hb1.size; (try simp at hz1); (try have hy1 : w.heap.size < w1.heap.size := by omega); (try have hy2 : w.heap.size + 1 < w1.heap.size := by omega); (try have hy3 : w.heap.size + 2 < w1.heap.size := by omega); (try have hy4 : wr.heap.size < w1.heap.size := by omega); (try have hy5 : wr.heap.size + 1 < w1.heap.size := by omega)))
                  go_ret
                  exact ⟨ret_bool HV.out.symm, (by repeat (first | exact Below.refl _ _ | (with_reducible assumption) | refine bel_trans ?_ (by with_reducible assumption) | refine bel_trans ?_ (below_regrown _ _ _) | refine bel_drew ?_ | refine bel_drewN ?_ _ | refine bel_alloc ?_ _ | refine bel_grow ?_ (by with_reducible assumption) (by omega)))⟩
    rw [h5, h6] at hv
    have HV := Lib.hid hv; clear hv
    go_enter Try.func37, Try.ntmps37
    go_wp2_with (first | (go_at_call 56; refine (form_any _ _).mono ?_; rintro r w1 ⟨rfl, rfl⟩) | (go_at_call 41; refine (name_any _ _).mono ?_; rintro r w1 ⟨rfl, hb1⟩; have hc1 := bcell hb1; have hz1 := hb1.size; (try simp at hz1); (try have hy1 : w.heap.size < w1.heap.size := by omega); (try have hy2 : w.heap.size + 1 < w1.heap.size := by omega); (try have hy3 : w.heap.size + 2 < w1.heap.size := by omega); (try have hy4 : wr.heap.size < w1.heap.size := by omega); (try have hy5 : wr.heap.size + 1 < w1.heap.size := by omega)))
    go_loopw [59] (fun i wr => ∃ (k : Nat), k ≤ e.sub.length ∧ i = .int .i64 k ∧ Ex.formedL (e.sub.drop k) = e.formed ∧ Below w.heap.size w wr) (fun i _ => e.sub.length - (intOf i).toNat)
    case atStart => exact ⟨0, Nat.zero_le _, rfl, by rw [HV.out]; simp, (by repeat (first | exact Below.refl _ _ | (with_reducible assumption) | refine bel_trans ?_ (by with_reducible assumption) | refine bel_trans ?_ (below_regrown _ _ _) | refine bel_drew ?_ | refine bel_drewN ?_ _ | refine bel_alloc ?_ _ | refine bel_grow ?_ (by with_reducible assumption) (by omega)))⟩
    case round =>
      obtain ⟨k, hk, rfl, hrem, hbel⟩ := hrel
      by_cases hlt : k < e.sub.length
      · have hx : e.sub[k]? = some e.sub[k] := List.getElem?_eq_getElem hlt
        have hmem : e.sub[k] ∈ e.sub := List.getElem_mem hlt
        have hd : e.sub.drop k = e.sub[k] :: e.sub.drop (k + 1) := List.drop_eq_getElem_cons hlt
        generalize e.sub[k] = x at hx hmem hd
        obtain ⟨b, off, A', cap', rfl, c0, c1, c2, c3, hs⟩ := (he.later hbel).get hx
        rw [hd, Ex.formedL] at hrem
        have ihx := ih x hmem
        cases hfx : x.formed
        · rw [hfx, Bool.false_and] at hrem
          have HR := Lib.hid hrem; clear hrem hd hx
          go_wp2_with (go_at_call 37; refine (ihx A' cap' _ (hs.later (by repeat (first | exact Below.refl _ _ | (with_reducible assumption) | refine bel_trans ?_ (by with_reducible assumption) | refine bel_trans ?_ (below_regrown _ _ _) | refine bel_drew ?_ | refine bel_drewN ?_ _ | refine bel_alloc ?_ _ | refine bel_grow ?_ (by with_reducible assumption) (by omega))))).mono ?_; rintro r w2 ⟨rfl, hb2⟩)
          go_ret
          exact ⟨ret_bool HR.out, (by repeat (first | exact Below.refl _ _ | (with_reducible assumption) | refine bel_trans ?_ (by with_reducible assumption) | refine bel_trans ?_ (below_regrown _ _ _) | refine bel_drew ?_ | refine bel_drewN ?_ _ | refine bel_alloc ?_ _ | refine bel_grow ?_ (by with_reducible assumption) (by omega)))⟩
        · rw [hfx, Bool.true_and] at hrem
          have HR := Lib.hid hrem; clear hrem hd hx
          go_wp2_with (go_at_call 37; refine (ihx A' cap' _ (hs.later (by repeat (first | exact Below.refl _ _ | (with_reducible assumption) | refine bel_trans ?_ (by with_reducible assumption) | refine bel_trans ?_ (below_regrown _ _ _) | refine bel_drew ?_ | refine bel_drewN ?_ _ | refine bel_alloc ?_ _ | refine bel_grow ?_ (by with_reducible assumption) (by omega))))).mono ?_; rintro r w2 ⟨rfl, hb2⟩)
          go_roundw
          case rel => exact ⟨k + 1, by omega, by go_num, HR.out, (by repeat (first | exact Below.refl _ _ | (with_reducible assumption) | refine bel_trans ?_ (by with_reducible assumption) | refine bel_trans ?_ (below_regrown _ _ _) | refine bel_drew ?_ | refine bel_drewN ?_ _ | refine bel_alloc ?_ _ | refine bel_grow ?_ (by with_reducible assumption) (by omega)))⟩
          case measure => simp [intOf]; omega
      · have hke : k = e.sub.length := by omega
        rw [hke, List.drop_length] at hrem
        rw [Ex.formedL] at hrem
        have HR := Lib.hid hrem; clear hrem hke
        go_wp2_with fail
        go_ret
        exact ⟨ret_bool HR.out, (by repeat (first | exact Below.refl _ _ | (with_reducible assumption) | refine bel_trans ?_ (by with_reducible assumption) | refine bel_trans ?_ (below_regrown _ _ _) | refine bel_drew ?_ | refine bel_drewN ?_ _ | refine bel_alloc ?_ _ | refine bel_grow ?_ (by with_reducible assumption) (by omega)))⟩

end Go.Proofs.Ytlfklfjnkpjooaa
