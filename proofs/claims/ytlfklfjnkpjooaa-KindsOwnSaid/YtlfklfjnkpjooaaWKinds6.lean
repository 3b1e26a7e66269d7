/- Walk over kinds.look.equation. -/
import Derived.Test.YtlfklfjnkpjooaaWKinds5
import Derived.Test.YtlfklfjnkpjooaaPlain6
import Derived.WalkKit
import Derived.WalkSpells
import Derived.WalkLawsBesides
import Derived.Deep.QuietTactic
import Derived.BigQuiet
import Derived.Deep.Draws
import Derived.Lib.Hide
import Derived.Deep.LoopGhost
import Derived.StillTailTactics
import Derived.Deep.RegionHeld3
import Derived.Deep.RegionWith
import Derived.Lib.QuietBelow
set_option linter.unusedVariables false
set_option linter.unusedSimpArgs false
namespace Go.Proofs.Ytlfklfjnkpjooaa
open Go.RowKit Go.Sort

set_option maxHeartbeats 4000000 in
set_option maxRecDepth 100000 in
theorem equation_any (q : Qe) (hq : eqB q = true) (l : List Va) (A : Option Addr) (cap B n : Nat) (E1 : Option Addr) (k1 : Nat) (E2 : Option Addr) (k2 : Nat) (ins : Int) (Bd nd : Nat) (fd : ByteArray → Option Int) (w : World)
    (h1 : SubsAt w q.first E1 k1) (h2 : SubsAt w q.e E2 k2) (hl : LookAt w l A cap B n) (hd : MapI Try.prog 9 3 w Bd nd fd) :
    Calls Try.prog 18 #[lookV l A cap B, qeV q E1 k1 E2 k2, .int .i64 ins, .map (some Bd)] w fun r w' => r = .returned (.int .i64 (eqE l ins fd q)) ∧ Below w.heap.size w w' := by
  obtain ⟨hqn, hqf, hqz, hq1, hqd⟩ := eqB_parts hq
  clear hq
  have hs : q.name.size ≤ maxLen := by unfold maxLen; omega
  have hl2 := hl.vars.len
  unfold maxLen at hl2
  obtain ⟨hl3, hl4⟩ := hl2
  have hm := hl.map
  have hBz := hm.lt
  have hBd := hd.lt
  have hof2 := fun W h => of_any q.e hqf l A cap B n E2 k2 W (h2.later h) (hl.later h)
  have hof1 : q.delay = 1 → ∀ W, Below w.heap.size w W → Calls Try.prog 25 #[lookV l A cap B, exV q.first E1 k1] W fun r w' => r = .returned (.tuple #[.int .i64 (q.first.typ l).1, .int .i64 (q.first.typ l).2]) ∧ Below W.heap.size W w' :=
    fun hd1 W h => of_any q.first (hq1 hd1).1 l A cap B n E1 k1 W (h1.later h) (hl.later h)
  clear hq1 hqf hqz hqn
  have hv : eqE l ins fd q = eqE l ins fd q := rfl
  rw (occs := .pos [2]) [eqE] at hv
  unfold lookV qeV exV at *
  cases hf : findV l q.name with
  | none =>
    rw [hf] at hv
    clear hof1
    dsimp only at hv
    have HV := Lib.hid hv; clear hv
    go_enter Try.func18, Try.ntmps18
    go_wp2_with (first | (at_lookup; refine wpList_lkokI rfl (.tmp 17) (.tmp 19) 50 rfl Try.underlying9 Try.underlying50 Try.underlying3 (zeroInt _) B n (findV l) q.name rfl (by repeat (first | (with_reducible assumption) | refine MapI.alloc ?_ | refine MapI.bel ?_ (by with_reducible assumption) | refine MapI.drew ?_)) rfl hs ?_) | (at_lookup; refine wpList_lkI rfl (.tmp 32) (.tmp 34) 50 rfl Try.underlying9 Try.underlying50 Try.underlying3 (zeroInt _) Bd nd fd q.name rfl (by repeat (first | (with_reducible assumption) | refine MapI.alloc ?_ | refine MapI.bel ?_ (by with_reducible assumption) | refine MapI.drew ?_)) rfl hs ?_) | (go_at_call_of 25 E2; refine (hof2 _ (by repeat (first | exact Below.refl _ _ | (with_reducible assumption) | refine bel_trans ?_ (by with_reducible assumption) | refine bel_trans ?_ (below_regrown _ _ _) | refine bel_drew ?_ | refine bel_drewN ?_ _ | refine bel_alloc ?_ _ | refine bel_grow ?_ (by with_reducible assumption) (by omega)))).mono ?_; rintro r w1 ⟨rfl, hb1⟩; have hc1 := bcell hb1; have hz1 := hb1.size; (try simp at hz1); (try have hy1 : w.heap.size < w1.heap.size := by omega); (try have hy2 : w.heap.size + 1 < w1.heap.size := by omega); (try have hy3 : w.heap.size + 2 < w1.heap.size := by omega); (try have hy4 : wr.heap.size < w1.heap.size := by omega); (try have hy5 : wr.heap.size + 1 < w1.heap.size := by omega); (try have hyb : b < w1.heap.size := by omega)) | (go_at_call_of 25 E1; refine (hof1 _ (by repeat (first | exact Below.refl _ _ | (with_reducible assumption) | refine bel_trans ?_ (by with_reducible assumption) | refine bel_trans ?_ (below_regrown _ _ _) | refine bel_drew ?_ | refine bel_drewN ?_ _ | refine bel_alloc ?_ _ | refine bel_grow ?_ (by with_reducible assumption) (by omega)))).mono ?_; rintro r w1 ⟨rfl, hb1⟩; have hc1 := bcell hb1; have hz1 := hb1.size; (try simp at hz1); (try have hy1 : w.heap.size < w1.heap.size := by omega); (try have hy2 : w.heap.size + 1 < w1.heap.size := by omega); (try have hy3 : w.heap.size + 2 < w1.heap.size := by omega); (try have hy4 : wr.heap.size < w1.heap.size := by omega); (try have hy5 : wr.heap.size + 1 < w1.heap.size := by omega); (try have hyb : b < w1.heap.size := by omega)))
    go_ret
    exact ⟨ret_int HV.out.symm, (by repeat (first | exact Below.refl _ _ | (with_reducible assumption) | refine bel_trans ?_ (by with_reducible assumption) | refine bel_trans ?_ (below_regrown _ _ _) | refine bel_drew ?_ | refine bel_drewN ?_ _ | refine bel_alloc ?_ _ | refine bel_grow ?_ (by with_reducible assumption) (by omega)))⟩
  | some j =>
    rw [hf] at hv
    dsimp only at hv
    obtain ⟨k, v, rfl, hx, _⟩ := findV_some hf
    have hkl : k < l.length := (List.getElem?_eq_some_iff.1 hx).1
    obtain ⟨b, off, rfl, hbb, ⟨d0, d1, d2, d3⟩⟩ := hl.vars.get hx
    have hty : typeAt l k = v.type := by unfold typeAt; rw [Int.toNat_natCast, hx]
    rw [hty] at hv
    clear hx hty
    have hbb2 : b < w.heap.size + 1 := by omega
    have hbb3 : b < w.heap.size + 2 := by omega
    by_cases c1 : (k : Int) < ins
    · rw [if_pos c1] at hv
      clear hof1
      have HV := Lib.hid hv; clear hv
      go_enter Try.func18, Try.ntmps18
      go_wp2_with (first | (at_lookup; refine wpList_lkokI rfl (.tmp 17) (.tmp 19) 50 rfl Try.underlying9 Try.underlying50 Try.underlying3 (zeroInt _) B n (findV l) q.name rfl (by repeat (first | (with_reducible assumption) | refine MapI.alloc ?_ | refine MapI.bel ?_ (by with_reducible assumption) | refine MapI.drew ?_)) rfl hs ?_) | (at_lookup; refine wpList_lkI rfl (.tmp 32) (.tmp 34) 50 rfl Try.underlying9 Try.underlying50 Try.underlying3 (zeroInt _) Bd nd fd q.name rfl (by repeat (first | (with_reducible assumption) | refine MapI.alloc ?_ | refine MapI.bel ?_ (by with_reducible assumption) | refine MapI.drew ?_)) rfl hs ?_) | (go_at_call_of 25 E2; refine (hof2 _ (by repeat (first | exact Below.refl _ _ | (with_reducible assumption) | refine bel_trans ?_ (by with_reducible assumption) | refine bel_trans ?_ (below_regrown _ _ _) | refine bel_drew ?_ | refine bel_drewN ?_ _ | refine bel_alloc ?_ _ | refine bel_grow ?_ (by with_reducible assumption) (by omega)))).mono ?_; rintro r w1 ⟨rfl, hb1⟩; have hc1 := bcell hb1; have hz1 := hb1.size; (try simp at hz1); (try have hy1 : w.heap.size < w1.heap.size := by omega); (try have hy2 : w.heap.size + 1 < w1.heap.size := by omega); (try have hy3 : w.heap.size + 2 < w1.heap.size := by omega); (try have hy4 : wr.heap.size < w1.heap.size := by omega); (try have hy5 : wr.heap.size + 1 < w1.heap.size := by omega); (try have hyb : b < w1.heap.size := by omega)) | (go_at_call_of 25 E1; refine (hof1 _ (by repeat (first | exact Below.refl _ _ | (with_reducible assumption) | refine bel_trans ?_ (by with_reducible assumption) | refine bel_trans ?_ (below_regrown _ _ _) | refine bel_drew ?_ | refine bel_drewN ?_ _ | refine bel_alloc ?_ _ | refine bel_grow ?_ (by with_reducible assumption) (by omega)))).mono ?_; rintro r w1 ⟨rfl, hb1⟩; have hc1 := bcell hb1; have hz1 := hb1.size; (try simp at hz1); (try have hy1 : w.heap.size < w1.heap.size := by omega); (try have hy2 : w.heap.size + 1 < w1.heap.size := by omega); (try have hy3 : w.heap.size + 2 < w1.heap.size := by omega); (try have hy4 : wr.heap.size < w1.heap.size := by omega); (try have hy5 : wr.heap.size + 1 < w1.heap.size := by omega); (try have hyb : b < w1.heap.size := by omega)))
      go_ret
      exact ⟨ret_int HV.out.symm, (by repeat (first | exact Below.refl _ _ | (with_reducible assumption) | refine bel_trans ?_ (by with_reducible assumption) | refine bel_trans ?_ (below_regrown _ _ _) | refine bel_drew ?_ | refine bel_drewN ?_ _ | refine bel_alloc ?_ _ | refine bel_grow ?_ (by with_reducible assumption) (by omega)))⟩
    rw [if_neg c1] at hv
    by_cases c2 : 0 < (fd q.name).getD 0
    · rw [if_pos c2] at hv
      clear hof1
      have HV := Lib.hid hv; clear hv
      go_enter Try.func18, Try.ntmps18
      go_wp2_with (first | (at_lookup; refine wpList_lkokI rfl (.tmp 17) (.tmp 19) 50 rfl Try.underlying9 Try.underlying50 Try.underlying3 (zeroInt _) B n (findV l) q.name rfl (by repeat (first | (with_reducible assumption) | refine MapI.alloc ?_ | refine MapI.bel ?_ (by with_reducible assumption) | refine MapI.drew ?_)) rfl hs ?_) | (at_lookup; refine wpList_lkI rfl (.tmp 32) (.tmp 34) 50 rfl Try.underlying9 Try.underlying50 Try.underlying3 (zeroInt _) Bd nd fd q.name rfl (by repeat (first | (with_reducible assumption) | refine MapI.alloc ?_ | refine MapI.bel ?_ (by with_reducible assumption) | refine MapI.drew ?_)) rfl hs ?_) | (go_at_call_of 25 E2; refine (hof2 _ (by repeat (first | exact Below.refl _ _ | (with_reducible assumption) | refine bel_trans ?_ (by with_reducible assumption) | refine bel_trans ?_ (below_regrown _ _ _) | refine bel_drew ?_ | refine bel_drewN ?_ _ | refine bel_alloc ?_ _ | refine bel_grow ?_ (by with_reducible assumption) (by omega)))).mono ?_; rintro r w1 ⟨rfl, hb1⟩; have hc1 := bcell hb1; have hz1 := hb1.size; (try simp at hz1); (try have hy1 : w.heap.size < w1.heap.size := by omega); (try have hy2 : w.heap.size + 1 < w1.heap.size := by omega); (try have hy3 : w.heap.size + 2 < w1.heap.size := by omega); (try have hy4 : wr.heap.size < w1.heap.size := by omega); (try have hy5 : wr.heap.size + 1 < w1.heap.size := by omega); (try have hyb : b < w1.heap.size := by omega)) | (go_at_call_of 25 E1; refine (hof1 _ (by repeat (first | exact Below.refl _ _ | (with_reducible assumption) | refine bel_trans ?_ (by with_reducible assumption) | refine bel_trans ?_ (below_regrown _ _ _) | refine bel_drew ?_ | refine bel_drewN ?_ _ | refine bel_alloc ?_ _ | refine bel_grow ?_ (by with_reducible assumption) (by omega)))).mono ?_; rintro r w1 ⟨rfl, hb1⟩; have hc1 := bcell hb1; have hz1 := hb1.size; (try simp at hz1); (try have hy1 : w.heap.size < w1.heap.size := by omega); (try have hy2 : w.heap.size + 1 < w1.heap.size := by omega); (try have hy3 : w.heap.size + 2 < w1.heap.size := by omega); (try have hy4 : wr.heap.size < w1.heap.size := by omega); (try have hy5 : wr.heap.size + 1 < w1.heap.size := by omega); (try have hyb : b < w1.heap.size := by omega)))
      go_ret
      exact ⟨ret_int HV.out.symm, (by repeat (first | exact Below.refl _ _ | (with_reducible assumption) | refine bel_trans ?_ (by with_reducible assumption) | refine bel_trans ?_ (below_regrown _ _ _) | refine bel_drew ?_ | refine bel_drewN ?_ _ | refine bel_alloc ?_ _ | refine bel_grow ?_ (by with_reducible assumption) (by omega)))⟩
    rw [if_neg c2] at hv
    cases c3 : ((q.e.typ l).2 != 0)
    case true =>
      rw [if_pos (by simpa using c3)] at hv
      clear hof1
      have HV := Lib.hid hv; clear hv
      go_enter Try.func18, Try.ntmps18
      go_wp2_with (first | (at_lookup; refine wpList_lkokI rfl (.tmp 17) (.tmp 19) 50 rfl Try.underlying9 Try.underlying50 Try.underlying3 (zeroInt _) B n (findV l) q.name rfl (by repeat (first | (with_reducible assumption) | refine MapI.alloc ?_ | refine MapI.bel ?_ (by with_reducible assumption) | refine MapI.drew ?_)) rfl hs ?_) | (at_lookup; refine wpList_lkI rfl (.tmp 32) (.tmp 34) 50 rfl Try.underlying9 Try.underlying50 Try.underlying3 (zeroInt _) Bd nd fd q.name rfl (by repeat (first | (with_reducible assumption) | refine MapI.alloc ?_ | refine MapI.bel ?_ (by with_reducible assumption) | refine MapI.drew ?_)) rfl hs ?_) | (go_at_call_of 25 E2; refine (hof2 _ (by repeat (first | exact Below.refl _ _ | (with_reducible assumption) | refine bel_trans ?_ (by with_reducible assumption) | refine bel_trans ?_ (below_regrown _ _ _) | refine bel_drew ?_ | refine bel_drewN ?_ _ | refine bel_alloc ?_ _ | refine bel_grow ?_ (by with_reducible assumption) (by omega)))).mono ?_; rintro r w1 ⟨rfl, hb1⟩; have hc1 := bcell hb1; have hz1 := hb1.size; (try simp at hz1); (try have hy1 : w.heap.size < w1.heap.size := by omega); (try have hy2 : w.heap.size + 1 < w1.heap.size := by omega); (try have hy3 : w.heap.size + 2 < w1.heap.size := by omega); (try have hy4 : wr.heap.size < w1.heap.size := by omega); (try have hy5 : wr.heap.size + 1 < w1.heap.size := by omega); (try have hyb : b < w1.heap.size := by omega)) | (go_at_call_of 25 E1; refine (hof1 _ (by repeat (first | exact Below.refl _ _ | (with_reducible assumption) | refine bel_trans ?_ (by with_reducible assumption) | refine bel_trans ?_ (below_regrown _ _ _) | refine bel_drew ?_ | refine bel_drewN ?_ _ | refine bel_alloc ?_ _ | refine bel_grow ?_ (by with_reducible assumption) (by omega)))).mono ?_; rintro r w1 ⟨rfl, hb1⟩; have hc1 := bcell hb1; have hz1 := hb1.size; (try simp at hz1); (try have hy1 : w.heap.size < w1.heap.size := by omega); (try have hy2 : w.heap.size + 1 < w1.heap.size := by omega); (try have hy3 : w.heap.size + 2 < w1.heap.size := by omega); (try have hy4 : wr.heap.size < w1.heap.size := by omega); (try have hy5 : wr.heap.size + 1 < w1.heap.size := by omega); (try have hyb : b < w1.heap.size := by omega)))
      go_ret
      exact ⟨ret_int HV.out.symm, (by repeat (first | exact Below.refl _ _ | (with_reducible assumption) | refine bel_trans ?_ (by with_reducible assumption) | refine bel_trans ?_ (below_regrown _ _ _) | refine bel_drew ?_ | refine bel_drewN ?_ _ | refine bel_alloc ?_ _ | refine bel_grow ?_ (by with_reducible assumption) (by omega)))⟩
    rw [if_neg (by simpa using c3)] at hv
    by_cases qd : q.delay = 1
    · replace hof1 := hof1 qd
      have q1 : (q.delay == 1) = true := by rw [qd]; rfl
      cases c4 : ((q.first.typ l).1 != v.type)
      case true =>
        rw [if_pos ⟨qd, by simpa using c4⟩] at hv
        clear qd
        have HV := Lib.hid hv; clear hv
        go_enter Try.func18, Try.ntmps18
        go_wp2_with (first | (at_lookup; refine wpList_lkokI rfl (.tmp 17) (.tmp 19) 50 rfl Try.underlying9 Try.underlying50 Try.underlying3 (zeroInt _) B n (findV l) q.name rfl (by repeat (first | (with_reducible assumption) | refine MapI.alloc ?_ | refine MapI.bel ?_ (by with_reducible assumption) | refine MapI.drew ?_)) rfl hs ?_) | (at_lookup; refine wpList_lkI rfl (.tmp 32) (.tmp 34) 50 rfl Try.underlying9 Try.underlying50 Try.underlying3 (zeroInt _) Bd nd fd q.name rfl (by repeat (first | (with_reducible assumption) | refine MapI.alloc ?_ | refine MapI.bel ?_ (by with_reducible assumption) | refine MapI.drew ?_)) rfl hs ?_) | (go_at_call_of 25 E2; refine (hof2 _ (by repeat (first | exact Below.refl _ _ | (with_reducible assumption) | refine bel_trans ?_ (by with_reducible assumption) | refine bel_trans ?_ (below_regrown _ _ _) | refine bel_drew ?_ | refine bel_drewN ?_ _ | refine bel_alloc ?_ _ | refine bel_grow ?_ (by with_reducible assumption) (by omega)))).mono ?_; rintro r w1 ⟨rfl, hb1⟩; have hc1 := bcell hb1; have hz1 := hb1.size; (try simp at hz1); (try have hy1 : w.heap.size < w1.heap.size := by omega); (try have hy2 : w.heap.size + 1 < w1.heap.size := by omega); (try have hy3 : w.heap.size + 2 < w1.heap.size := by omega); (try have hy4 : wr.heap.size < w1.heap.size := by omega); (try have hy5 : wr.heap.size + 1 < w1.heap.size := by omega); (try have hyb : b < w1.heap.size := by omega)) | (go_at_call_of 25 E1; refine (hof1 _ (by repeat (first | exact Below.refl _ _ | (with_reducible assumption) | refine bel_trans ?_ (by with_reducible assumption) | refine bel_trans ?_ (below_regrown _ _ _) | refine bel_drew ?_ | refine bel_drewN ?_ _ | refine bel_alloc ?_ _ | refine bel_grow ?_ (by with_reducible assumption) (by omega)))).mono ?_; rintro r w1 ⟨rfl, hb1⟩; have hc1 := bcell hb1; have hz1 := hb1.size; (try simp at hz1); (try have hy1 : w.heap.size < w1.heap.size := by omega); (try have hy2 : w.heap.size + 1 < w1.heap.size := by omega); (try have hy3 : w.heap.size + 2 < w1.heap.size := by omega); (try have hy4 : wr.heap.size < w1.heap.size := by omega); (try have hy5 : wr.heap.size + 1 < w1.heap.size := by omega); (try have hyb : b < w1.heap.size := by omega)))
        go_ret
        exact ⟨ret_int HV.out.symm, (by repeat (first | exact Below.refl _ _ | (with_reducible assumption) | refine bel_trans ?_ (by with_reducible assumption) | refine bel_trans ?_ (below_regrown _ _ _) | refine bel_drew ?_ | refine bel_drewN ?_ _ | refine bel_alloc ?_ _ | refine bel_grow ?_ (by with_reducible assumption) (by omega)))⟩
      rw [if_neg (by rintro ⟨_, h⟩; exact h (by simpa using c4))] at hv
      clear qd
      cases c5 : ((q.e.typ l).1 != v.type)
      case true =>
        rw [if_pos (by simpa using c5)] at hv
        have HV := Lib.hid hv; clear hv
        go_enter Try.func18, Try.ntmps18
        go_wp2_with (first | (at_lookup; refine wpList_lkokI rfl (.tmp 17) (.tmp 19) 50 rfl Try.underlying9 Try.underlying50 Try.underlying3 (zeroInt _) B n (findV l) q.name rfl (by repeat (first | (with_reducible assumption) | refine MapI.alloc ?_ | refine MapI.bel ?_ (by with_reducible assumption) | refine MapI.drew ?_)) rfl hs ?_) | (at_lookup; refine wpList_lkI rfl (.tmp 32) (.tmp 34) 50 rfl Try.underlying9 Try.underlying50 Try.underlying3 (zeroInt _) Bd nd fd q.name rfl (by repeat (first | (with_reducible assumption) | refine MapI.alloc ?_ | refine MapI.bel ?_ (by with_reducible assumption) | refine MapI.drew ?_)) rfl hs ?_) | (go_at_call_of 25 E2; refine (hof2 _ (by repeat (first | exact Below.refl _ _ | (with_reducible assumption) | refine bel_trans ?_ (by with_reducible assumption) | refine bel_trans ?_ (below_regrown _ _ _) | refine bel_drew ?_ | refine bel_drewN ?_ _ | refine bel_alloc ?_ _ | refine bel_grow ?_ (by with_reducible assumption) (by omega)))).mono ?_; rintro r w1 ⟨rfl, hb1⟩; have hc1 := bcell hb1; have hz1 := hb1.size; (try simp at hz1); (try have hy1 : w.heap.size < w1.heap.size := by omega); (try have hy2 : w.heap.size + 1 < w1.heap.size := by omega); (try have hy3 : w.heap.size + 2 < w1.heap.size := by omega); (try have hy4 : wr.heap.size < w1.heap.size := by omega); (try have hy5 : wr.heap.size + 1 < w1.heap.size := by omega); (try have hyb : b < w1.heap.size := by omega)) | (go_at_call_of 25 E1; refine (hof1 _ (by repeat (first | exact Below.refl _ _ | (with_reducible assumption) | refine bel_trans ?_ (by with_reducible assumption) | refine bel_trans ?_ (below_regrown _ _ _) | refine bel_drew ?_ | refine bel_drewN ?_ _ | refine bel_alloc ?_ _ | refine bel_grow ?_ (by with_reducible assumption) (by omega)))).mono ?_; rintro r w1 ⟨rfl, hb1⟩; have hc1 := bcell hb1; have hz1 := hb1.size; (try simp at hz1); (try have hy1 : w.heap.size < w1.heap.size := by omega); (try have hy2 : w.heap.size + 1 < w1.heap.size := by omega); (try have hy3 : w.heap.size + 2 < w1.heap.size := by omega); (try have hy4 : wr.heap.size < w1.heap.size := by omega); (try have hy5 : wr.heap.size + 1 < w1.heap.size := by omega); (try have hyb : b < w1.heap.size := by omega)))
        go_ret
        exact ⟨ret_int HV.out.symm, (by repeat (first | exact Below.refl _ _ | (with_reducible assumption) | refine bel_trans ?_ (by with_reducible assumption) | refine bel_trans ?_ (below_regrown _ _ _) | refine bel_drew ?_ | refine bel_drewN ?_ _ | refine bel_alloc ?_ _ | refine bel_grow ?_ (by with_reducible assumption) (by omega)))⟩
      rw [if_neg (by simpa using c5)] at hv
      have HV := Lib.hid hv; clear hv
      go_enter Try.func18, Try.ntmps18
      go_wp2_with (first | (at_lookup; refine wpList_lkokI rfl (.tmp 17) (.tmp 19) 50 rfl Try.underlying9 Try.underlying50 Try.underlying3 (zeroInt _) B n (findV l) q.name rfl (by repeat (first | (with_reducible assumption) | refine MapI.alloc ?_ | refine MapI.bel ?_ (by with_reducible assumption) | refine MapI.drew ?_)) rfl hs ?_) | (at_lookup; refine wpList_lkI rfl (.tmp 32) (.tmp 34) 50 rfl Try.underlying9 Try.underlying50 Try.underlying3 (zeroInt _) Bd nd fd q.name rfl (by repeat (first | (with_reducible assumption) | refine MapI.alloc ?_ | refine MapI.bel ?_ (by with_reducible assumption) | refine MapI.drew ?_)) rfl hs ?_) | (go_at_call_of 25 E2; refine (hof2 _ (by repeat (first | exact Below.refl _ _ | (with_reducible assumption) | refine bel_trans ?_ (by with_reducible assumption) | refine bel_trans ?_ (below_regrown _ _ _) | refine bel_drew ?_ | refine bel_drewN ?_ _ | refine bel_alloc ?_ _ | refine bel_grow ?_ (by with_reducible assumption) (by omega)))).mono ?_; rintro r w1 ⟨rfl, hb1⟩; have hc1 := bcell hb1; have hz1 := hb1.size; (try simp at hz1); (try have hy1 : w.heap.size < w1.heap.size := by omega); (try have hy2 : w.heap.size + 1 < w1.heap.size := by omega); (try have hy3 : w.heap.size + 2 < w1.heap.size := by omega); (try have hy4 : wr.heap.size < w1.heap.size := by omega); (try have hy5 : wr.heap.size + 1 < w1.heap.size := by omega); (try have hyb : b < w1.heap.size := by omega)) | (go_at_call_of 25 E1; refine (hof1 _ (by repeat (first | exact Below.refl _ _ | (with_reducible assumption) | refine bel_trans ?_ (by with_reducible assumption) | refine bel_trans ?_ (below_regrown _ _ _) | refine bel_drew ?_ | refine bel_drewN ?_ _ | refine bel_alloc ?_ _ | refine bel_grow ?_ (by with_reducible assumption) (by omega)))).mono ?_; rintro r w1 ⟨rfl, hb1⟩; have hc1 := bcell hb1; have hz1 := hb1.size; (try simp at hz1); (try have hy1 : w.heap.size < w1.heap.size := by omega); (try have hy2 : w.heap.size + 1 < w1.heap.size := by omega); (try have hy3 : w.heap.size + 2 < w1.heap.size := by omega); (try have hy4 : wr.heap.size < w1.heap.size := by omega); (try have hy5 : wr.heap.size + 1 < w1.heap.size := by omega); (try have hyb : b < w1.heap.size := by omega)))
      go_ret
      exact ⟨ret_int HV.out.symm, (by repeat (first | exact Below.refl _ _ | (with_reducible assumption) | refine bel_trans ?_ (by with_reducible assumption) | refine bel_trans ?_ (below_regrown _ _ _) | refine bel_drew ?_ | refine bel_drewN ?_ _ | refine bel_alloc ?_ _ | refine bel_grow ?_ (by with_reducible assumption) (by omega)))⟩
    · clear hof1
      have q1 : (q.delay == 1) = false := by simpa using qd
      rw [if_neg (by rintro ⟨h, _⟩; exact qd h)] at hv
      clear qd
      cases c5 : ((q.e.typ l).1 != v.type)
      case true =>
        rw [if_pos (by simpa using c5)] at hv
        have HV := Lib.hid hv; clear hv
        go_enter Try.func18, Try.ntmps18
        go_wp2_with (first | (at_lookup; refine wpList_lkokI rfl (.tmp 17) (.tmp 19) 50 rfl Try.underlying9 Try.underlying50 Try.underlying3 (zeroInt _) B n (findV l) q.name rfl (by repeat (first | (with_reducible assumption) | refine MapI.alloc ?_ | refine MapI.bel ?_ (by with_reducible assumption) | refine MapI.drew ?_)) rfl hs ?_) | (at_lookup; refine wpList_lkI rfl (.tmp 32) (.tmp 34) 50 rfl Try.underlying9 Try.underlying50 Try.underlying3 (zeroInt _) Bd nd fd q.name rfl (by repeat (first | (with_reducible assumption) | refine MapI.alloc ?_ | refine MapI.bel ?_ (by with_reducible assumption) | refine MapI.drew ?_)) rfl hs ?_) | (go_at_call_of 25 E2; refine (hof2 _ (by repeat (first | exact Below.refl _ _ | (with_reducible assumption) | refine bel_trans ?_ (by with_reducible assumption) | refine bel_trans ?_ (below_regrown _ _ _) | refine bel_drew ?_ | refine bel_drewN ?_ _ | refine bel_alloc ?_ _ | refine bel_grow ?_ (by with_reducible assumption) (by omega)))).mono ?_; rintro r w1 ⟨rfl, hb1⟩; have hc1 := bcell hb1; have hz1 := hb1.size; (try simp at hz1); (try have hy1 : w.heap.size < w1.heap.size := by omega); (try have hy2 : w.heap.size + 1 < w1.heap.size := by omega); (try have hy3 : w.heap.size + 2 < w1.heap.size := by omega); (try have hy4 : wr.heap.size < w1.heap.size := by omega); (try have hy5 : wr.heap.size + 1 < w1.heap.size := by omega); (try have hyb : b < w1.heap.size := by omega)) | (go_at_call_of 25 E1; refine (hof1 _ (by repeat (first | exact Below.refl _ _ | (with_reducible assumption) | refine bel_trans ?_ (by with_reducible assumption) | refine bel_trans ?_ (below_regrown _ _ _) | refine bel_drew ?_ | refine bel_drewN ?_ _ | refine bel_alloc ?_ _ | refine bel_grow ?_ (by with_reducible assumption) (by omega)))).mono ?_; rintro r w1 ⟨rfl, hb1⟩; have hc1 := bcell hb1; have hz1 := hb1.size; (try simp at hz1); (try have hy1 : w.heap.size < w1.heap.size := by omega); (try have hy2 : w.heap.size + 1 < w1.heap.size := by omega); (try have hy3 : w.heap.size + 2 < w1.heap.size := by omega); (try have hy4 : wr.heap.size < w1.heap.size := by omega); (try have hy5 : wr.heap.size + 1 < w1.heap.size := by omega); (try have hyb : b < w1.heap.size := by omega)))
        go_ret
        exact ⟨ret_int HV.out.symm, (by repeat (first | exact Below.refl _ _ | (with_reducible assumption) | refine bel_trans ?_ (by with_reducible assumption) | refine bel_trans ?_ (below_regrown _ _ _) | refine bel_drew ?_ | refine bel_drewN ?_ _ | refine bel_alloc ?_ _ | refine bel_grow ?_ (by with_reducible assumption) (by omega)))⟩
      rw [if_neg (by simpa using c5)] at hv
      have HV := Lib.hid hv; clear hv
      go_enter Try.func18, Try.ntmps18
      go_wp2_with (first | (at_lookup; refine wpList_lkokI rfl (.tmp 17) (.tmp 19) 50 rfl Try.underlying9 Try.underlying50 Try.underlying3 (zeroInt _) B n (findV l) q.name rfl (by repeat (first | (with_reducible assumption) | refine MapI.alloc ?_ | refine MapI.bel ?_ (by with_reducible assumption) | refine MapI.drew ?_)) rfl hs ?_) | (at_lookup; refine wpList_lkI rfl (.tmp 32) (.tmp 34) 50 rfl Try.underlying9 Try.underlying50 Try.underlying3 (zeroInt _) Bd nd fd q.name rfl (by repeat (first | (with_reducible assumption) | refine MapI.alloc ?_ | refine MapI.bel ?_ (by with_reducible assumption) | refine MapI.drew ?_)) rfl hs ?_) | (go_at_call_of 25 E2; refine (hof2 _ (by repeat (first | exact Below.refl _ _ | (with_reducible assumption) | refine bel_trans ?_ (by with_reducible assumption) | refine bel_trans ?_ (below_regrown _ _ _) | refine bel_drew ?_ | refine bel_drewN ?_ _ | refine bel_alloc ?_ _ | refine bel_grow ?_ (by with_reducible assumption) (by omega)))).mono ?_; rintro r w1 ⟨rfl, hb1⟩; have hc1 := bcell hb1; have hz1 := hb1.size; (try simp at hz1); (try have hy1 : w.heap.size < w1.heap.size := by omega); (try have hy2 : w.heap.size + 1 < w1.heap.size := by omega); (try have hy3 : w.heap.size + 2 < w1.heap.size := by omega); (try have hy4 : wr.heap.size < w1.heap.size := by omega); (try have hy5 : wr.heap.size + 1 < w1.heap.size := by omega); (try have hyb : b < w1.heap.size := by omega)) | (go_at_call_of 25 E1; refine (hof1 _ (by repeat (first | exact Below.refl _ _ | (with_reducible assumption) | refine bel_trans ?_ (by with_reducible assumption) | refine bel_trans ?_ (below_regrown _ _ _) | refine bel_drew ?_ | refine bel_drewN ?_ _ | refine bel_alloc ?_ _ | refine bel_grow ?_ (by with_reducible assumption) (by omega)))).mono ?_; rintro r w1 ⟨rfl, hb1⟩; have hc1 := bcell hb1; have hz1 := hb1.size; (try simp at hz1); (try have hy1 : w.heap.size < w1.heap.size := by omega); (try have hy2 : w.heap.size + 1 < w1.heap.size := by omega); (try have hy3 : w.heap.size + 2 < w1.heap.size := by omega); (try have hy4 : wr.heap.size < w1.heap.size := by omega); (try have hy5 : wr.heap.size + 1 < w1.heap.size := by omega); (try have hyb : b < w1.heap.size := by omega)))
      go_ret
      exact ⟨ret_int HV.out.symm, (by repeat (first | exact Below.refl _ _ | (with_reducible assumption) | refine bel_trans ?_ (by with_reducible assumption) | refine bel_trans ?_ (below_regrown _ _ _) | refine bel_drew ?_ | refine bel_drewN ?_ _ | refine bel_alloc ?_ _ | refine bel_grow ?_ (by with_reducible assumption) (by omega)))⟩

end Go.Proofs.Ytlfklfjnkpjooaa
