/- Walk over kinds.look.equation. -/
import Derived.Test.YtknfcamdfdfoeaaDoorZ13
import Derived.Test.YtknfcamdfdfoeaaDoorZ10
import Derived.Test.YtknfcamdfdfoeaaDoorZ06
import Derived.Test.YtknfcamdfdfoeaaDoorZ11
set_option linter.unusedVariables false
set_option linter.unusedSimpArgs false
set_option maxRecDepth 100000
namespace Go.Proofs.YtknfcamdfdfoeaaDoor
open Go.RowKit Go.Sort

set_option maxHeartbeats 4000000 in
set_option maxRecDepth 100000 in
theorem equation_any (q : Qe) (hq : eqB q = true) (l : List Va) (A : Option Addr) (cap B n : Nat) (E1 : Option Addr) (k1 : Nat) (E2 : Option Addr) (k2 : Nat) (ins : Int) (Bd nd : Nat) (fd : ByteArray → Option Int) (w : World)
    (h1 : SubsAt w q.first E1 k1) (h2 : SubsAt w q.e E2 k2) (hl : LookAt w l A cap B n) (hd : MapI Tryd.prog 9 3 w Bd nd fd) :
    Calls Tryd.prog 60 #[lookV l A cap B, qeV q E1 k1 E2 k2, .int .i64 ins, .map (some Bd)] w fun r w' => r = .returned (.int .i64 (eqE l ins fd q)) ∧ Below w.heap.size w w' := by
  obtain ⟨hqn, hqf, hqz, hq1, hqd⟩ := eqB_parts hq
  clear hq
  have hs : q.name.size ≤ maxLen := by unfold maxLen; omega
  have hl2 := hl.vars.len
  unfold maxLen at hl2
  obtain ⟨hl3, hl4⟩ := hl2
  have hm := hl.map
  have hBz := hm.lt
  have hBd := hd.lt
  have hof2 := fun W h => of_any q.e hqf l A cap B n E2 k2 W (h2.later h) (hl.later h)
  have hof1 : q.delay = 1 → ∀ W, Below w.heap.size w W → Calls Tryd.prog 69 #[lookV l A cap B, exV q.first E1 k1] W fun r w' => r = .returned (.tuple #[.int .i64 (q.first.typ l).1, .int .i64 (q.first.typ l).2]) ∧ Below W.heap.size W w' :=
    fun hd1 W h => of_any q.first (hq1 hd1).1 l A cap B n E1 k1 W (h1.later h) (hl.later h)
  clear hq1 hqf hqz hqn
  have hv : eqE l ins fd q = eqE l ins fd q := rfl
  rw (occs := .pos [2]) [eqE] at hv
  unfold lookV qeV exV at *
  cases hf : findV l q.name with
  | none =>
    rw [hf] at hv
    clear hof1
    dsimp only at hv
    have HV := Lib.hid hv; clear hv
    go_enter Tryd.func60, Tryd.ntmps60
    go_wp2_with (first | (at_lookup; refine wpList_lkokI rfl (.tmp 17) (.tmp 19) 107 rfl Tryd.underlying9 Tryd.underlying107 Tryd.underlying3 (zeroInt _) B n (findV l) q.name rfl (by repeat (first | (with_reducible assumption) | refine MapI.alloc ?_ | refine MapI.bel ?_ (by with_reducible assumption) | refine MapI.drew ?_)) rfl hs ?_) | (at_lookup; refine wpList_lkI rfl (.tmp 32) (.tmp 34) 107 rfl Tryd.underlying9 Tryd.underlying107 Tryd.underlying3 (zeroInt _) Bd nd fd q.name rfl (by repeat (first | (with_reducible assumption) | refine MapI.alloc ?_ | refine MapI.bel ?_ (by with_reducible assumption) | refine MapI.drew ?_)) rfl hs ?_) | (go_at_call_of 69 E2; refine (hof2 _ belA).mono ?_; rintro r w1 ⟨rfl, hb1⟩; have hc1 := bcell hb1; have hz1 := hb1.size; (try simp at hz1); (try have hy1 := lt0 w w1); (try have hy2 := ltA w 1 w1); (try have hy3 := ltA w 2 w1); (try have hy4 := lt0 wr w1); (try have hy5 := ltA wr 1 w1); (try have hyb : b < w1.heap.size := by omega)) | (go_at_call_of 69 E1; refine (hof1 _ belA).mono ?_; rintro r w1 ⟨rfl, hb1⟩; have hc1 := bcell hb1; have hz1 := hb1.size; (try simp at hz1); (try have hy1 := lt0 w w1); (try have hy2 := ltA w 1 w1); (try have hy3 := ltA w 2 w1); (try have hy4 := lt0 wr w1); (try have hy5 := ltA wr 1 w1); (try have hyb : b < w1.heap.size := by omega)))
    go_ret
    exact ⟨ret_int HV.out.symm, belA⟩
  | some j =>
    rw [hf] at hv
    dsimp only at hv
    obtain ⟨k, v, rfl, hx, _⟩ := findV_some hf
    have hkl : k < l.length := (List.getElem?_eq_some_iff.1 hx).1
    obtain ⟨b, off, rfl, hbb, ⟨d0, d1, d2, d3⟩⟩ := hl.vars.get hx
    have hty : typeAt l k = v.type := by unfold typeAt; rw [Int.toNat_natCast, hx]
    rw [hty] at hv
    clear hx hty
    have hbb2 : b < w.heap.size + 1 := by omega
    have hbb3 : b < w.heap.size + 2 := by omega
    by_cases c1 : (k : Int) < ins
    · rw [if_pos c1] at hv
      clear hof1
      have HV := Lib.hid hv; clear hv
      go_enter Tryd.func60, Tryd.ntmps60
      go_wp2_with (first | (at_lookup; refine wpList_lkokI rfl (.tmp 17) (.tmp 19) 107 rfl Tryd.underlying9 Tryd.underlying107 Tryd.underlying3 (zeroInt _) B n (findV l) q.name rfl (by repeat (first | (with_reducible assumption) | refine MapI.alloc ?_ | refine MapI.bel ?_ (by with_reducible assumption) | refine MapI.drew ?_)) rfl hs ?_) | (at_lookup; refine wpList_lkI rfl (.tmp 32) (.tmp 34) 107 rfl Tryd.underlying9 Tryd.underlying107 Tryd.underlying3 (zeroInt _) Bd nd fd q.name rfl (by repeat (first | (with_reducible assumption) | refine MapI.alloc ?_ | refine MapI.bel ?_ (by with_reducible assumption) | refine MapI.drew ?_)) rfl hs ?_) | (go_at_call_of 69 E2; refine (hof2 _ belA).mono ?_; rintro r w1 ⟨rfl, hb1⟩; have hc1 := bcell hb1; have hz1 := hb1.size; (try simp at hz1); (try have hy1 := lt0 w w1); (try have hy2 := ltA w 1 w1); (try have hy3 := ltA w 2 w1); (try have hy4 := lt0 wr w1); (try have hy5 := ltA wr 1 w1); (try have hyb : b < w1.heap.size := by omega)) | (go_at_call_of 69 E1; refine (hof1 _ belA).mono ?_; rintro r w1 ⟨rfl, hb1⟩; have hc1 := bcell hb1; have hz1 := hb1.size; (try simp at hz1); (try have hy1 := lt0 w w1); (try have hy2 := ltA w 1 w1); (try have hy3 := ltA w 2 w1); (try have hy4 := lt0 wr w1); (try have hy5 := ltA wr 1 w1); (try have hyb : b < w1.heap.size := by omega)))
      go_ret
      exact ⟨ret_int HV.out.symm, belA⟩
    rw [if_neg c1] at hv
    by_cases c2 : 0 < (fd q.name).getD 0
    · rw [if_pos c2] at hv
      clear hof1
      have HV := Lib.hid hv; clear hv
      go_enter Tryd.func60, Tryd.ntmps60
      go_wp2_with (first | (at_lookup; refine wpList_lkokI rfl (.tmp 17) (.tmp 19) 107 rfl Tryd.underlying9 Tryd.underlying107 Tryd.underlying3 (zeroInt _) B n (findV l) q.name rfl (by repeat (first | (with_reducible assumption) | refine MapI.alloc ?_ | refine MapI.bel ?_ (by with_reducible assumption) | refine MapI.drew ?_)) rfl hs ?_) | (at_lookup; refine wpList_lkI rfl (.tmp 32) (.tmp 34) 107 rfl Tryd.underlying9 Tryd.underlying107 Tryd.underlying3 (zeroInt _) Bd nd fd q.name rfl (by repeat (first | (with_reducible assumption) | refine MapI.alloc ?_ | refine MapI.bel ?_ (by with_reducible assumption) | refine MapI.drew ?_)) rfl hs ?_) | (go_at_call_of 69 E2; refine (hof2 _ belA).mono ?_; rintro r w1 ⟨rfl, hb1⟩; have hc1 := bcell hb1; have hz1 := hb1.size; (try simp at hz1); (try have hy1 := lt0 w w1); (try have hy2 := ltA w 1 w1); (try have hy3 := ltA w 2 w1); (try have hy4 := lt0 wr w1); (try have hy5 := ltA wr 1 w1); (try have hyb : b < w1.heap.size := by omega)) | (go_at_call_of 69 E1; refine (hof1 _ belA).mono ?_; rintro r w1 ⟨rfl, hb1⟩; have hc1 := bcell hb1; have hz1 := hb1.size; (try simp at hz1); (try have hy1 := lt0 w w1); (try have hy2 := ltA w 1 w1); (try have hy3 := ltA w 2 w1); (try have hy4 := lt0 wr w1); (try have hy5 := ltA wr 1 w1); (try have hyb : b < w1.heap.size := by omega)))
      go_ret
      exact ⟨ret_int HV.out.symm, belA⟩
    rw [if_neg c2] at hv
    cases c3 : ((q.e.typ l).2 != 0)
    case true =>
      rw [if_pos (by simpa using c3)] at hv
      clear hof1
      have HV := Lib.hid hv; clear hv
      go_enter Tryd.func60, Tryd.ntmps60
      go_wp2_with (first | (at_lookup; refine wpList_lkokI rfl (.tmp 17) (.tmp 19) 107 rfl Tryd.underlying9 Tryd.underlying107 Tryd.underlying3 (zeroInt _) B n (findV l) q.name rfl (by repeat (first | (with_reducible assumption) | refine MapI.alloc ?_ | refine MapI.bel ?_ (by with_reducible assumption) | refine MapI.drew ?_)) rfl hs ?_) | (at_lookup; refine wpList_lkI rfl (.tmp 32) (.tmp 34) 107 rfl Tryd.underlying9 Tryd.underlying107 Tryd.underlying3 (zeroInt _) Bd nd fd q.name rfl (by repeat (first | (with_reducible assumption) | refine MapI.alloc ?_ | refine MapI.bel ?_ (by with_reducible assumption) | refine MapI.drew ?_)) rfl hs ?_) | (go_at_call_of 69 E2; refine (hof2 _ belA).mono ?_; rintro r w1 ⟨rfl, hb1⟩; have hc1 := bcell hb1; have hz1 := hb1.size; (try simp at hz1); (try have hy1 := lt0 w w1); (try have hy2 := ltA w 1 w1); (try have hy3 := ltA w 2 w1); (try have hy4 := lt0 wr w1); (try have hy5 := ltA wr 1 w1); (try have hyb : b < w1.heap.size := by omega)) | (go_at_call_of 69 E1; refine (hof1 _ belA).mono ?_; rintro r w1 ⟨rfl, hb1⟩; have hc1 := bcell hb1; have hz1 := hb1.size; (try simp at hz1); (try have hy1 := lt0 w w1); (try have hy2 := ltA w 1 w1); (try have hy3 := ltA w 2 w1); (try have hy4 := lt0 wr w1); (try have hy5 := ltA wr 1 w1); (try have hyb : b < w1.heap.size := by omega)))
      go_ret
      exact ⟨ret_int HV.out.symm, belA⟩
    rw [if_neg (by simpa using c3)] at hv
    by_cases qd : q.delay = 1
    · replace hof1 := hof1 qd
      have q1 : (q.delay == 1) = true := by rw [qd]; rfl
      cases c4 : ((q.first.typ l).1 != v.type)
      case true =>
        rw [if_pos ⟨qd, by simpa using c4⟩] at hv
        clear qd
        have HV := Lib.hid hv; clear hv
        go_enter Tryd.func60, Tryd.ntmps60
        go_wp2_with (first | (at_lookup; refine wpList_lkokI rfl (.tmp 17) (.tmp 19) 107 rfl Tryd.underlying9 Tryd.underlying107 Tryd.underlying3 (zeroInt _) B n (findV l) q.name rfl (by repeat (first | (with_reducible assumption) | refine MapI.alloc ?_ | refine MapI.bel ?_ (by with_reducible assumption) | refine MapI.drew ?_)) rfl hs ?_) | (at_lookup; refine wpList_lkI rfl (.tmp 32) (.tmp 34) 107 rfl Tryd.underlying9 Tryd.underlying107 Tryd.underlying3 (zeroInt _) Bd nd fd q.name rfl (by repeat (first | (with_reducible assumption) | refine MapI.alloc ?_ | refine MapI.bel ?_ (by with_reducible assumption) | refine MapI.drew ?_)) rfl hs ?_) | (go_at_call_of 69 E2; refine (hof2 _ belA).mono ?_; rintro r w1 ⟨rfl, hb1⟩; have hc1 := bcell hb1; have hz1 := hb1.size; (try simp at hz1); (try have hy1 := lt0 w w1); (try have hy2 := ltA w 1 w1); (try have hy3 := ltA w 2 w1); (try have hy4 := lt0 wr w1); (try have hy5 := ltA wr 1 w1); (try have hyb : b < w1.heap.size := by omega)) | (go_at_call_of 69 E1; refine (hof1 _ belA).mono ?_; rintro r w1 ⟨rfl, hb1⟩; have hc1 := bcell hb1; have hz1 := hb1.size; (try simp at hz1); (try have hy1 := lt0 w w1); (try have hy2 := ltA w 1 w1); (try have hy3 := ltA w 2 w1); (try have hy4 := lt0 wr w1); (try have hy5 := ltA wr 1 w1); (try have hyb : b < w1.heap.size := by omega)))
        go_ret
        exact ⟨ret_int HV.out.symm, belA⟩
      rw [if_neg (by rintro ⟨_, h⟩; exact h (by simpa using c4))] at hv
      clear qd
      cases c5 : ((q.e.typ l).1 != v.type)
      case true =>
        rw [if_pos (by simpa using c5)] at hv
        have HV := Lib.hid hv; clear hv
        go_enter Tryd.func60, Tryd.ntmps60
        go_wp2_with (first | (at_lookup; refine wpList_lkokI rfl (.tmp 17) (.tmp 19) 107 rfl Tryd.underlying9 Tryd.underlying107 Tryd.underlying3 (zeroInt _) B n (findV l) q.name rfl (by repeat (first | (with_reducible assumption) | refine MapI.alloc ?_ | refine MapI.bel ?_ (by with_reducible assumption) | refine MapI.drew ?_)) rfl hs ?_) | (at_lookup; refine wpList_lkI rfl (.tmp 32) (.tmp 34) 107 rfl Tryd.underlying9 Tryd.underlying107 Tryd.underlying3 (zeroInt _) Bd nd fd q.name rfl (by repeat (first | (with_reducible assumption) | refine MapI.alloc ?_ | refine MapI.bel ?_ (by with_reducible assumption) | refine MapI.drew ?_)) rfl hs ?_) | (go_at_call_of 69 E2; refine (hof2 _ belA).mono ?_; rintro r w1 ⟨rfl, hb1⟩; have hc1 := bcell hb1; have hz1 := hb1.size; (try simp at hz1); (try have hy1 := lt0 w w1); (try have hy2 := ltA w 1 w1); (try have hy3 := ltA w 2 w1); (try have hy4 := lt0 wr w1); (try have hy5 := ltA wr 1 w1); (try have hyb : b < w1.heap.size := by omega)) | (go_at_call_of 69 E1; refine (hof1 _ belA).mono ?_; rintro r w1 ⟨rfl, hb1⟩; have hc1 := bcell hb1; have hz1 := hb1.size; (try simp at hz1); (try have hy1 := lt0 w w1); (try have hy2 := ltA w 1 w1); (try have hy3 := ltA w 2 w1); (try have hy4 := lt0 wr w1); (try have hy5 := ltA wr 1 w1); (try have hyb : b < w1.heap.size := by omega)))
        go_ret
        exact ⟨ret_int HV.out.symm, belA⟩
      rw [if_neg (by simpa using c5)] at hv
      have HV := Lib.hid hv; clear hv
      go_enter Tryd.func60, Tryd.ntmps60
      go_wp2_with (first | (at_lookup; refine wpList_lkokI rfl (.tmp 17) (.tmp 19) 107 rfl Tryd.underlying9 Tryd.underlying107 Tryd.underlying3 (zeroInt _) B n (findV l) q.name rfl (by repeat (first | (with_reducible assumption) | refine MapI.alloc ?_ | refine MapI.bel ?_ (by with_reducible assumption) | refine MapI.drew ?_)) rfl hs ?_) | (at_lookup; refine wpList_lkI rfl (.tmp 32) (.tmp 34) 107 rfl Tryd.underlying9 Tryd.underlying107 Tryd.underlying3 (zeroInt _) Bd nd fd q.name rfl (by repeat (first | (with_reducible assumption) | refine MapI.alloc ?_ | refine MapI.bel ?_ (by with_reducible assumption) | refine MapI.drew ?_)) rfl hs ?_) | (go_at_call_of 69 E2; refine (hof2 _ belA).mono ?_; rintro r w1 ⟨rfl, hb1⟩; have hc1 := bcell hb1; have hz1 := hb1.size; (try simp at hz1); (try have hy1 := lt0 w w1); (try have hy2 := ltA w 1 w1); (try have hy3 := ltA w 2 w1); (try have hy4 := lt0 wr w1); (try have hy5 := ltA wr 1 w1); (try have hyb : b < w1.heap.size := by omega)) | (go_at_call_of 69 E1; refine (hof1 _ belA).mono ?_; rintro r w1 ⟨rfl, hb1⟩; have hc1 := bcell hb1; have hz1 := hb1.size; (try simp at hz1); (try have hy1 := lt0 w w1); (try have hy2 := ltA w 1 w1); (try have hy3 := ltA w 2 w1); (try have hy4 := lt0 wr w1); (try have hy5 := ltA wr 1 w1); (try have hyb : b < w1.heap.size := by omega)))
      go_ret
      exact ⟨ret_int HV.out.symm, belA⟩
    · clear hof1
      have q1 : (q.delay == 1) = false := by simpa using qd
      rw [if_neg (by rintro ⟨h, _⟩; exact qd h)] at hv
      clear qd
      cases c5 : ((q.e.typ l).1 != v.type)
      case true =>
        rw [if_pos (by simpa using c5)] at hv
        have HV := Lib.hid hv; clear hv
        go_enter Tryd.func60, Tryd.ntmps60
        go_wp2_with (first | (at_lookup; refine wpList_lkokI rfl (.tmp 17) (.tmp 19) 107 rfl Tryd.underlying9 Tryd.underlying107 Tryd.underlying3 (zeroInt _) B n (findV l) q.name rfl (by repeat (first | (with_reducible assumption) | refine MapI.alloc ?_ | refine MapI.bel ?_ (by with_reducible assumption) | refine MapI.drew ?_)) rfl hs ?_) | (at_lookup; refine wpList_lkI rfl (.tmp 32) (.tmp 34) 107 rfl Tryd.underlying9 Tryd.underlying107 Tryd.underlying3 (zeroInt _) Bd nd fd q.name rfl (by repeat (first | (with_reducible assumption) | refine MapI.alloc ?_ | refine MapI.bel ?_ (by with_reducible assumption) | refine MapI.drew ?_)) rfl hs ?_) | (go_at_call_of 69 E2; refine (hof2 _ belA).mono ?_; rintro r w1 ⟨rfl, hb1⟩; have hc1 := bcell hb1; have hz1 := hb1.size; (try simp at hz1); (try have hy1 := lt0 w w1); (try have hy2 := ltA w 1 w1); (try have hy3 := ltA w 2 w1); (try have hy4 := lt0 wr w1); (try have hy5 := ltA wr 1 w1); (try have hyb : b < w1.heap.size := by omega)) | (go_at_call_of 69 E1; refine (hof1 _ belA).mono ?_; rintro r w1 ⟨rfl, hb1⟩; have hc1 := bcell hb1; have hz1 := hb1.size; (try simp at hz1); (try have hy1 := lt0 w w1); (try have hy2 := ltA w 1 w1); (try have hy3 := ltA w 2 w1); (try have hy4 := lt0 wr w1); (try have hy5 := ltA wr 1 w1); (try have hyb : b < w1.heap.size := by omega)))
        go_ret
        exact ⟨ret_int HV.out.symm, belA⟩
      rw [if_neg (by simpa using c5)] at hv
      have HV := Lib.hid hv; clear hv
      go_enter Tryd.func60, Tryd.ntmps60
      go_wp2_with (first | (at_lookup; refine wpList_lkokI rfl (.tmp 17) (.tmp 19) 107 rfl Tryd.underlying9 Tryd.underlying107 Tryd.underlying3 (zeroInt _) B n (findV l) q.name rfl (by repeat (first | (with_reducible assumption) | refine MapI.alloc ?_ | refine MapI.bel ?_ (by with_reducible assumption) | refine MapI.drew ?_)) rfl hs ?_) | (at_lookup; refine wpList_lkI rfl (.tmp 32) (.tmp 34) 107 rfl Tryd.underlying9 Tryd.underlying107 Tryd.underlying3 (zeroInt _) Bd nd fd q.name rfl (by repeat (first | (with_reducible assumption) | refine MapI.alloc ?_ | refine MapI.bel ?_ (by with_reducible assumption) | refine MapI.drew ?_)) rfl hs ?_) | (go_at_call_of 69 E2; refine (hof2 _ belA).mono ?_; rintro r w1 ⟨rfl, hb1⟩; have hc1 := bcell hb1; have hz1 := hb1.size; (try simp at hz1); (try have hy1 := lt0 w w1); (try have hy2 := ltA w 1 w1); (try have hy3 := ltA w 2 w1); (try have hy4 := lt0 wr w1); (try have hy5 := ltA wr 1 w1); (try have hyb : b < w1.heap.size := by omega)) | (go_at_call_of 69 E1; refine (hof1 _ belA).mono ?_; rintro r w1 ⟨rfl, hb1⟩; have hc1 := bcell hb1; have hz1 := hb1.size; (try simp at hz1); (try have hy1 := lt0 w w1); (try have hy2 := ltA w 1 w1); (try have hy3 := ltA w 2 w1); (try have hy4 := lt0 wr w1); (try have hy5 := ltA wr 1 w1); (try have hyb : b < w1.heap.size := by omega)))
      go_ret
      exact ⟨ret_int HV.out.symm, belA⟩

end Go.Proofs.YtknfcamdfdfoeaaDoor

/- Walks over the package tree: literal, variable. -/
namespace Go.Proofs.YtknfcamdfdfoeaaDoor
open Go.RowKit Go.Sort

set_option maxHeartbeats 400000 in
theorem literal_any (e : Ex) (A : Option Addr) (cap : Nat) (w : World) (he : SubsAt w e A cap) :
    Calls Tryd.prog 73 #[exV e A cap] w fun r w' => r = .returned (.bool e.literal) ∧ Below w.heap.size w w' := by
  have hl := he.len
  unfold maxLen at hl
  obtain ⟨hl1, hl2⟩ := hl
  have hv : e.literal = if e.right = 0 then (if e.kind = 4 ∧ e.n = 1 then (match e.sub with | x :: _ => x.kind == 1 | [] => false) else (e.kind == 1 || e.kind == 2)) else false := rfl
  have hright := fun W h => right_any e A cap W (he.later h)
  unfold exV at hright ⊢
  cases h1 : (e.right != 0)
  case true =>
    rw [if_neg (by intro h; rw [h] at h1; simp at h1)] at hv
    have HV := Lib.hid hv; clear hv
    go_enter Tryd.func73, Tryd.ntmps73
    go_wp2_with (first | (go_at_call 72; refine (hright _ belA).mono ?_; rintro r w1 ⟨rfl, hb1⟩; have hc1 := bcell hb1; have hz1 := hb1.size; (try simp at hz1); (try have hy1 := lt0 w w1); (try have hy2 := ltA w 1 w1); (try have hy3 := ltA w 2 w1); (try have hy4 := lt0 wr w1); (try have hy5 := ltA wr 1 w1)))
    go_ret
    exact ⟨ret_bool HV.out.symm, belA⟩
  have hr0 := bneI_false h1
  rw [if_pos hr0] at hv
  cases h2 : (e.kind == 4)
  case false =>
    rw [if_neg (by rintro ⟨h, _⟩; rw [h] at h2; simp at h2)] at hv
    cases h3 : (e.kind == 1)
    case true =>
      rw [h3, Bool.true_or] at hv
      clear hr0
      have HV := Lib.hid hv; clear hv
      go_enter Tryd.func73, Tryd.ntmps73
      go_wp2_with (first | (go_at_call 72; refine (hright _ belA).mono ?_; rintro r w1 ⟨rfl, hb1⟩; have hc1 := bcell hb1; have hz1 := hb1.size; (try simp at hz1); (try have hy1 := lt0 w w1); (try have hy2 := ltA w 1 w1); (try have hy3 := ltA w 2 w1); (try have hy4 := lt0 wr w1); (try have hy5 := ltA wr 1 w1)))
      go_ret
      exact ⟨ret_bool HV.out.symm, belA⟩
    rw [h3, Bool.false_or] at hv
    clear hr0
    have HV := Lib.hid hv; clear hv
    go_enter Tryd.func73, Tryd.ntmps73
    go_wp2_with (first | (go_at_call 72; refine (hright _ belA).mono ?_; rintro r w1 ⟨rfl, hb1⟩; have hc1 := bcell hb1; have hz1 := hb1.size; (try simp at hz1); (try have hy1 := lt0 w w1); (try have hy2 := ltA w 1 w1); (try have hy3 := ltA w 2 w1); (try have hy4 := lt0 wr w1); (try have hy5 := ltA wr 1 w1)))
    go_ret
    exact ⟨ret_bool HV.out.symm, belA⟩
  have hk4 := beqI_true h2
  cases h4 : (e.n == 1)
  case false =>
    rw [if_neg (by rintro ⟨_, h⟩; rw [h] at h4; simp at h4), hk4] at hv
    clear hr0 hk4
    have h5 : (e.kind == 1) = false := by rw [beqI_true h2]; rfl
    replace hv : e.literal = false := by rw [hv]; rfl
    have HV := Lib.hid hv; clear hv
    go_enter Tryd.func73, Tryd.ntmps73
    go_wp2_with (first | (go_at_call 72; refine (hright _ belA).mono ?_; rintro r w1 ⟨rfl, hb1⟩; have hc1 := bcell hb1; have hz1 := hb1.size; (try simp at hz1); (try have hy1 := lt0 w w1); (try have hy2 := ltA w 1 w1); (try have hy3 := ltA w 2 w1); (try have hy4 := lt0 wr w1); (try have hy5 := ltA wr 1 w1)))
    go_ret
    exact ⟨ret_bool (by rw [HV.out, beqI_true h2]; rfl), belA⟩
  rw [if_pos ⟨hk4, beqI_true h4⟩] at hv
  have hf := (Ex.right_zero.1 hr0).2.2
  rw [Ex.formed_eq, formedH, hk4] at hf
  have hlen : e.sub.length = 1 := by
    simp only [formK, Bool.and_eq_true] at hf
    have := beqI_true hf.1.1.1.1.1.2
    simp at this
    omega
  clear hf
  have hx : e.sub[0]? = some e.sub[0] := List.getElem?_eq_getElem (by omega)
  generalize e.sub[0] = x at hx
  have hsub : e.sub = [x] := by
    generalize e.sub = l at hlen hx
    match l, hlen, hx with
    | [y], _, h => simp at h; rw [h]
  rw [hsub] at hv
  obtain ⟨b, off, A', cap', rfl, c0, c1, c2, c3, hs⟩ := he.get hx
  have hb0 := block_lt_of_cell c0
  dsimp only at hb0
  have hb0' : b < w.heap.size + 1 := by omega
  have hlen' : 0 < e.sub.length := by omega
  simp only [Nat.zero_mul, Nat.add_zero] at c0
  clear hr0 hk4 hx hlen c1 c2 c3
  have HS := Lib.hid hsub; clear hsub
  have HV := Lib.hid hv; clear hv
  go_enter Tryd.func73, Tryd.ntmps73
  go_wp2_with (first | (go_at_call 72; refine (hright _ belA).mono ?_; rintro r w1 ⟨rfl, hb1⟩; have hc1 := bcell hb1; have hz1 := hb1.size; (try simp at hz1); (try have hy1 := lt0 w w1); (try have hy2 := ltA w 1 w1); (try have hy3 := ltA w 2 w1); (try have hy4 := lt0 wr w1); (try have hy5 := ltA wr 1 w1)))
  go_ret
  exact ⟨ret_bool HV.out.symm, belA⟩

set_option maxHeartbeats 400000 in
theorem variable_any (v : Va) (own : Bool) (w : World) :
    Calls Tryd.prog 71 #[vaV v, .bool own] w fun r w' => r = .returned (.bool (variableB v own)) ∧ Below w.heap.size w w' := by
  unfold variableB vaV
  cases h1 : nameB v.name
  · go_enter Tryd.func71, Tryd.ntmps71
    go_wp2_with (first | (go_at_call 70; refine (name_any _ _).mono ?_; rintro r w1 ⟨rfl, hb1⟩; have hc1 := bcell hb1; have hz1 := hb1.size; (try simp at hz1); (try have hy1 := lt0 w w1); (try have hy2 := ltA w 1 w1); (try have hy3 := ltA w 2 w1); (try have hy4 := lt0 wr w1); (try have hy5 := ltA wr 1 w1)))
    all_goals (go_ret; exact ⟨ret_bool rfl, belA⟩)
  cases h2 : nameB v.cn <;> cases own <;>
  · go_enter Tryd.func71, Tryd.ntmps71
    go_wp2_with (first | (go_at_call 70; refine (name_any _ _).mono ?_; rintro r w1 ⟨rfl, hb1⟩; have hc1 := bcell hb1; have hz1 := hb1.size; (try simp at hz1); (try have hy1 := lt0 w w1); (try have hy2 := ltA w 1 w1); (try have hy3 := ltA w 2 w1); (try have hy4 := lt0 wr w1); (try have hy5 := ltA wr 1 w1)))
    all_goals (first | (exfalso; simp_all; done) | (go_ret; exact ⟨ret_bool (by simp_all), belA⟩) | go_ways)

end Go.Proofs.YtknfcamdfdfoeaaDoor

/- Walk over tree.whole. -/
namespace Go.Proofs.YtknfcamdfdfoeaaDoor
open Go.RowKit Go.Sort

/-- What the switch in tree.whole gives. -/
def delayB (q : Qe) : Bool := if q.delay = 1 then q.first.literal else if q.delay = 0 ∨ q.delay = 2 then q.first.same Ex.zero else false
theorem eqB_eq (q : Qe) : eqB q = (nameB q.name && q.e.right == 0 && delayB q) := rfl
theorem zeroAt (w : World) : SubsAt w Ex.zero none 0 := by simp [SubsAt, Ex.zero]
set_option maxHeartbeats 2000000 in
theorem whole_any (p : Pr) (a : PrA) (w : World) (hp : PrAt w p a) :
    Calls Tryd.prog 65 #[prV p a] w fun r w' => r = .returned (.bool (wholeB p)) ∧ Below w.heap.size w w' := by
  have hl1 := hp.ins.len
  have hl2 := hp.outs.len
  have hl3 := hp.locals.len
  have hl4 := hp.eqs.len
  unfold maxLen at hl1 hl2 hl3 hl4
  obtain ⟨hl1, hm1⟩ := hl1
  obtain ⟨hl2, hm2⟩ := hl2
  obtain ⟨hl3, hm3⟩ := hl3
  obtain ⟨hl4, hm4⟩ := hl4
  obtain ⟨A1, c1, A2, c2, A3, c3, A4, c4⟩ := a
  unfold prV
  dsimp only at *
  go_enter Tryd.func65, Tryd.ntmps65
  go_wp2_with (first | (go_at_call 70; refine (name_any _ _).mono ?_; rintro r w1 ⟨rfl, hb1⟩; have hc1 := bcell hb1; have hz1 := hb1.size; (try simp at hz1); (try have hy1 := lt0 w w1); (try have hy2 := ltA w 1 w1); (try have hy3 := ltA w 2 w1); (try have hy4 := lt0 wr w1); (try have hy5 := ltA wr 1 w1)))
  refine wp_name fun W0 hW0 => ?_
  have hb0 : Below w.heap.size w W0 := by rw [hW0]; exact belA
  have hz0 : w.heap.size < W0.heap.size := by rw [hW0]; first | omega | (simp; omega)
  have k1 : W0.cell? ⟨w.heap.size, 1, none⟩ = some (.slice A1 p.ins.length c1) := by rw [hW0]; go_simp
  have k2 : W0.cell? ⟨w.heap.size, 2, none⟩ = some (.slice A2 p.outs.length c2) := by rw [hW0]; go_simp
  have k3 : W0.cell? ⟨w.heap.size, 3, none⟩ = some (.slice A3 p.locals.length c3) := by rw [hW0]; go_simp
  have k4 : W0.cell? ⟨w.heap.size, 4, none⟩ = some (.slice A4 p.eqs.length c4) := by rw [hW0]; go_simp
  clear hW0
  have hp0 := hp.later hb0
  obtain ⟨hp1, hp2, hp3, hp4⟩ := hp0
  dsimp only at hp1 hp2 hp3 hp4
  have hl : (nameB p.name && (p.ins.drop 0).all (variableB · false)) = (nameB p.name && p.ins.all (variableB · false)) := rfl
  have HL := Lib.hid hl; clear hl
  go_loopw [3, 18] (fun o i wr => ∃ (k : Nat) (b1 : Bool), k ≤ p.ins.length ∧ i = .int .i64 k ∧ o =   .bool b1 ∧ (b1 && (p.ins.drop k).all (variableB · false)) = (nameB p.name && p.ins.all (variableB · false)) ∧ Below W0.heap.size W0 wr) (fun _ i _ => p.ins.length - (intOf i).toNat)
  case atStart => exact ⟨0, _, Nat.zero_le _, rfl, rfl, HL.out, by first | exact Below.refl _ _ | assumption⟩
  case round =>
  obtain ⟨k, b1, hk, rfl, rfl, hrem, hbel⟩ := hrel
  have hc := bcell hbel
  have hzr := hbel.size
  by_cases hlt : k < p.ins.length
  · have hx : p.ins[k]? = some p.ins[k] := List.getElem?_eq_getElem hlt
    have hd : p.ins.drop k = p.ins[k] :: p.ins.drop (k + 1) := List.drop_eq_getElem_cons hlt
    generalize p.ins[k] = x at hx hd
    obtain ⟨b, off, rfl, hbb, ⟨d0, d1, d2, d3⟩⟩ := (hp1.later hbel).get hx
    rw [hd, List.all_cons] at hrem
    have hvar := fun W => variable_any x false W
    unfold vaV at hvar
    cases b1
    · rw [Bool.false_and] at hrem
      have HR := Lib.hid hrem; clear hrem hd hx
      go_wp2_with fail
      go_roundw
      case rel => exact ⟨k + 1, false, by omega, by go_num, rfl, by rw [Bool.false_and]; exact HR.out, belA⟩
      case measure => simp [intOf]; omega
    · rw [Bool.true_and] at hrem
      have HR := Lib.hid hrem; clear hrem hd hx
      go_wp2_with (first | (go_at_call 71; refine (hvar _).mono ?_; rintro r w1 ⟨rfl, hb1⟩; have hc1 := bcell hb1; have hz1 := hb1.size; (try simp at hz1); (try have hy1 := lt0 w w1); (try have hy2 := ltA w 1 w1); (try have hy3 := ltA w 2 w1); (try have hy4 := lt0 wr w1); (try have hy5 := ltA wr 1 w1)))
      go_roundw
      case rel => exact ⟨k + 1, variableB x false, by omega, by go_num, rfl, HR.out, belA⟩
      case measure => simp [intOf]; omega
  have hke : k = p.ins.length := by omega
  rw [hke, List.drop_length, List.all_nil, Bool.and_true] at hrem
  clear hke
  have HX1 := Lib.hid hrem; clear hrem
  go_wp2_with fail
  have hl : (b1 && (p.outs.drop 0).all (variableB · false)) = (b1 && p.outs.all (variableB · false)) := rfl
  have HL := Lib.hid hl; clear hl
  go_loopw [3, 31] (fun o i wr => ∃ (k : Nat) (b2 : Bool), k ≤ p.outs.length ∧ i = .int .i64 k ∧ o =   .bool b2 ∧ (b2 && (p.outs.drop k).all (variableB · false)) = (b1 && p.outs.all (variableB · false)) ∧ Below W0.heap.size W0 wr) (fun _ i _ => p.outs.length - (intOf i).toNat)
  case atStart => exact ⟨0, _, Nat.zero_le _, rfl, rfl, HL.out, by first | exact Below.refl _ _ | assumption⟩
  case round =>
  obtain ⟨k, b2, hk, rfl, rfl, hrem, hbel⟩ := hrel
  have hc := bcell hbel
  have hzr := hbel.size
  by_cases hlt : k < p.outs.length
  · have hx : p.outs[k]? = some p.outs[k] := List.getElem?_eq_getElem hlt
    have hd : p.outs.drop k = p.outs[k] :: p.outs.drop (k + 1) := List.drop_eq_getElem_cons hlt
    generalize p.outs[k] = x at hx hd
    obtain ⟨b, off, rfl, hbb, ⟨d0, d1, d2, d3⟩⟩ := (hp2.later hbel).get hx
    rw [hd, List.all_cons] at hrem
    have hvar := fun W => variable_any x false W
    unfold vaV at hvar
    cases b2
    · rw [Bool.false_and] at hrem
      have HR := Lib.hid hrem; clear hrem hd hx
      go_wp2_with fail
      go_roundw
      case rel => exact ⟨k + 1, false, by omega, by go_num, rfl, by rw [Bool.false_and]; exact HR.out, belA⟩
      case measure => simp [intOf]; omega
    · rw [Bool.true_and] at hrem
      have HR := Lib.hid hrem; clear hrem hd hx
      go_wp2_with (first | (go_at_call 71; refine (hvar _).mono ?_; rintro r w1 ⟨rfl, hb1⟩; have hc1 := bcell hb1; have hz1 := hb1.size; (try simp at hz1); (try have hy1 := lt0 w w1); (try have hy2 := ltA w 1 w1); (try have hy3 := ltA w 2 w1); (try have hy4 := lt0 wr w1); (try have hy5 := ltA wr 1 w1)))
      go_roundw
      case rel => exact ⟨k + 1, variableB x false, by omega, by go_num, rfl, HR.out, belA⟩
      case measure => simp [intOf]; omega
  have hke : k = p.outs.length := by omega
  rw [hke, List.drop_length, List.all_nil, Bool.and_true] at hrem
  clear hke
  have HX2 := Lib.hid hrem; clear hrem
  go_wp2_with fail
  have hl : (b2 && (p.locals.drop 0).all (variableB · true)) = (b2 && p.locals.all (variableB · true)) := rfl
  have HL := Lib.hid hl; clear hl
  go_loopw [3, 44] (fun o i wr => ∃ (k : Nat) (b3 : Bool), k ≤ p.locals.length ∧ i = .int .i64 k ∧ o =   .bool b3 ∧ (b3 && (p.locals.drop k).all (variableB · true)) = (b2 && p.locals.all (variableB · true)) ∧ Below W0.heap.size W0 wr) (fun _ i _ => p.locals.length - (intOf i).toNat)
  case atStart => exact ⟨0, _, Nat.zero_le _, rfl, rfl, HL.out, by first | exact Below.refl _ _ | assumption⟩
  case round =>
  obtain ⟨k, b3, hk, rfl, rfl, hrem, hbel⟩ := hrel
  have hc := bcell hbel
  have hzr := hbel.size
  by_cases hlt : k < p.locals.length
  · have hx : p.locals[k]? = some p.locals[k] := List.getElem?_eq_getElem hlt
    have hd : p.locals.drop k = p.locals[k] :: p.locals.drop (k + 1) := List.drop_eq_getElem_cons hlt
    generalize p.locals[k] = x at hx hd
    obtain ⟨b, off, rfl, hbb, ⟨d0, d1, d2, d3⟩⟩ := (hp3.later hbel).get hx
    rw [hd, List.all_cons] at hrem
    have hvar := fun W => variable_any x true W
    unfold vaV at hvar
    cases b3
    · rw [Bool.false_and] at hrem
      have HR := Lib.hid hrem; clear hrem hd hx
      go_wp2_with fail
      go_roundw
      case rel => exact ⟨k + 1, false, by omega, by go_num, rfl, by rw [Bool.false_and]; exact HR.out, belA⟩
      case measure => simp [intOf]; omega
    · rw [Bool.true_and] at hrem
      have HR := Lib.hid hrem; clear hrem hd hx
      go_wp2_with (first | (go_at_call 71; refine (hvar _).mono ?_; rintro r w1 ⟨rfl, hb1⟩; have hc1 := bcell hb1; have hz1 := hb1.size; (try simp at hz1); (try have hy1 := lt0 w w1); (try have hy2 := ltA w 1 w1); (try have hy3 := ltA w 2 w1); (try have hy4 := lt0 wr w1); (try have hy5 := ltA wr 1 w1)))
      go_roundw
      case rel => exact ⟨k + 1, variableB x true, by omega, by go_num, rfl, HR.out, belA⟩
      case measure => simp [intOf]; omega
  have hke : k = p.locals.length := by omega
  rw [hke, List.drop_length, List.all_nil, Bool.and_true] at hrem
  clear hke
  have HX3 := Lib.hid hrem; clear hrem
  have hl : (b3 && (p.eqs.drop 0).all eqB) = wholeB p := by
    rw [HX3.out, HX2.out, HX1.out]; rfl
  have HL := Lib.hid hl; clear hl
  go_wp2_with fail
  go_loopw [3, 57] (fun o i wr => ∃ (k : Nat) (b4 : Bool), k ≤ p.eqs.length ∧ i = .int .i64 k ∧ o = .bool b4 ∧ (b4 && (p.eqs.drop k).all eqB) = wholeB p ∧ Below W0.heap.size W0 wr) (fun _ i _ => p.eqs.length - (intOf i).toNat)
  case atStart => exact ⟨0, _, Nat.zero_le _, rfl, rfl, HL.out, by first | exact Below.refl _ _ | assumption⟩
  case round =>
  obtain ⟨k, b4, hk, rfl, rfl, hrem, hbel⟩ := hrel
  have hc := bcell hbel
  have hzr := hbel.size
  by_cases hlt : k < p.eqs.length
  · have hx : p.eqs[k]? = some p.eqs[k] := List.getElem?_eq_getElem hlt
    have hd : p.eqs.drop k = p.eqs[k] :: p.eqs.drop (k + 1) := List.drop_eq_getElem_cons hlt
    generalize p.eqs[k] = q at hx hd
    obtain ⟨b, off, B1, n1, B2, n2, rfl, hbb, ⟨g0, g1, g2, g3, g4, g5, g6, g7, g8, g9, s1, s2⟩⟩ := (hp4.later hbel).get hx
    rw [hd, List.all_cons, eqB_eq] at hrem
    have hright := fun W h => right_any q.e B2 n2 W (s2.later h)
    have hlit := fun W h => literal_any q.first B1 n1 W (s1.later h)
    have hsame := fun W h => same_any q.first Ex.zero B1 n1 none 0 W (s1.later h) (zeroAt _)
    unfold exV at hright hlit hsame
    unfold Ex.zero at hsame
    simp only [Ex.kind, Ex.n, Ex.name, Ex.sub, List.length_nil] at hsame
    by_cases q1 : q.delay = 1
    · have q1' : (q.delay == 1) = true := by simp [q1]
      have hdl : delayB q = q.first.literal := by unfold delayB; rw [if_pos q1]
      clear q1
      rw [hdl] at hrem
      cases b4
      · replace hrem : (false && (List.drop (k + 1) p.eqs).all eqB) = wholeB p := by rw [← hrem]; simp only [Bool.false_and, Bool.and_false]
        have HR := Lib.hid hrem; clear hrem hd hx
        go_wp2_with (first | (go_at_call 70; refine (name_any _ _).mono ?_; rintro r w1 ⟨rfl, hb1⟩; have hc1 := bcell hb1; have hz1 := hb1.size; (try simp at hz1); (try have hy1 := lt0 w w1); (try have hy2 := ltA w 1 w1); (try have hy3 := ltA w 2 w1); (try have hy4 := lt0 wr w1); (try have hy5 := ltA wr 1 w1)) | (go_at_call 72; refine (hright _ belA).mono ?_; rintro r w1 ⟨rfl, hb1⟩; have hc1 := bcell hb1; have hz1 := hb1.size; (try simp at hz1); (try have hy1 := lt0 w w1); (try have hy2 := ltA w 1 w1); (try have hy3 := ltA w 2 w1); (try have hy4 := lt0 wr w1); (try have hy5 := ltA wr 1 w1)) | (go_at_call 73; refine (hlit _ belA).mono ?_; rintro r w1 ⟨rfl, hb1⟩; have hc1 := bcell hb1; have hz1 := hb1.size; (try simp at hz1); (try have hy1 := lt0 w w1); (try have hy2 := ltA w 1 w1); (try have hy3 := ltA w 2 w1); (try have hy4 := lt0 wr w1); (try have hy5 := ltA wr 1 w1)) | (go_at_call 74; refine (hsame _ belA).mono ?_; rintro r w1 ⟨rfl, hb1⟩; have hc1 := bcell hb1; have hz1 := hb1.size; (try simp at hz1); (try have hy1 := lt0 w w1); (try have hy2 := ltA w 1 w1); (try have hy3 := ltA w 2 w1); (try have hy4 := lt0 wr w1); (try have hy5 := ltA wr 1 w1)))
        go_roundw
        case rel => exact ⟨k + 1, _, by omega, by go_num, rfl, HR.out, belA⟩
        case measure => simp [intOf]; omega
      cases hn : nameB q.name
      · rw [hn] at hrem
        replace hrem : (false && (List.drop (k + 1) p.eqs).all eqB) = wholeB p := by rw [← hrem]; simp only [Bool.false_and, Bool.and_false]
        have HR := Lib.hid hrem; clear hrem hd hx
        go_wp2_with (first | (go_at_call 70; refine (name_any _ _).mono ?_; rintro r w1 ⟨rfl, hb1⟩; have hc1 := bcell hb1; have hz1 := hb1.size; (try simp at hz1); (try have hy1 := lt0 w w1); (try have hy2 := ltA w 1 w1); (try have hy3 := ltA w 2 w1); (try have hy4 := lt0 wr w1); (try have hy5 := ltA wr 1 w1)) | (go_at_call 72; refine (hright _ belA).mono ?_; rintro r w1 ⟨rfl, hb1⟩; have hc1 := bcell hb1; have hz1 := hb1.size; (try simp at hz1); (try have hy1 := lt0 w w1); (try have hy2 := ltA w 1 w1); (try have hy3 := ltA w 2 w1); (try have hy4 := lt0 wr w1); (try have hy5 := ltA wr 1 w1)) | (go_at_call 73; refine (hlit _ belA).mono ?_; rintro r w1 ⟨rfl, hb1⟩; have hc1 := bcell hb1; have hz1 := hb1.size; (try simp at hz1); (try have hy1 := lt0 w w1); (try have hy2 := ltA w 1 w1); (try have hy3 := ltA w 2 w1); (try have hy4 := lt0 wr w1); (try have hy5 := ltA wr 1 w1)) | (go_at_call 74; refine (hsame _ belA).mono ?_; rintro r w1 ⟨rfl, hb1⟩; have hc1 := bcell hb1; have hz1 := hb1.size; (try simp at hz1); (try have hy1 := lt0 w w1); (try have hy2 := ltA w 1 w1); (try have hy3 := ltA w 2 w1); (try have hy4 := lt0 wr w1); (try have hy5 := ltA wr 1 w1)))
        go_roundw
        case rel => exact ⟨k + 1, _, by omega, by go_num, rfl, HR.out, belA⟩
        case measure => simp [intOf]; omega
      cases hr : (q.e.right == 0)
      · rw [hn, hr] at hrem
        replace hrem : (false && (List.drop (k + 1) p.eqs).all eqB) = wholeB p := by rw [← hrem]; simp only [Bool.false_and, Bool.and_false]
        have HR := Lib.hid hrem; clear hrem hd hx
        go_wp2_with (first | (go_at_call 70; refine (name_any _ _).mono ?_; rintro r w1 ⟨rfl, hb1⟩; have hc1 := bcell hb1; have hz1 := hb1.size; (try simp at hz1); (try have hy1 := lt0 w w1); (try have hy2 := ltA w 1 w1); (try have hy3 := ltA w 2 w1); (try have hy4 := lt0 wr w1); (try have hy5 := ltA wr 1 w1)) | (go_at_call 72; refine (hright _ belA).mono ?_; rintro r w1 ⟨rfl, hb1⟩; have hc1 := bcell hb1; have hz1 := hb1.size; (try simp at hz1); (try have hy1 := lt0 w w1); (try have hy2 := ltA w 1 w1); (try have hy3 := ltA w 2 w1); (try have hy4 := lt0 wr w1); (try have hy5 := ltA wr 1 w1)) | (go_at_call 73; refine (hlit _ belA).mono ?_; rintro r w1 ⟨rfl, hb1⟩; have hc1 := bcell hb1; have hz1 := hb1.size; (try simp at hz1); (try have hy1 := lt0 w w1); (try have hy2 := ltA w 1 w1); (try have hy3 := ltA w 2 w1); (try have hy4 := lt0 wr w1); (try have hy5 := ltA wr 1 w1)) | (go_at_call 74; refine (hsame _ belA).mono ?_; rintro r w1 ⟨rfl, hb1⟩; have hc1 := bcell hb1; have hz1 := hb1.size; (try simp at hz1); (try have hy1 := lt0 w w1); (try have hy2 := ltA w 1 w1); (try have hy3 := ltA w 2 w1); (try have hy4 := lt0 wr w1); (try have hy5 := ltA wr 1 w1)))
        go_roundw
        case rel => exact ⟨k + 1, _, by omega, by go_num, rfl, HR.out, belA⟩
        case measure => simp [intOf]; omega
      rw [hn, hr] at hrem
      replace hrem : (q.first.literal && (List.drop (k + 1) p.eqs).all eqB) = wholeB p := by rw [← hrem]; simp only [Bool.true_and, Bool.and_true]
      have HR := Lib.hid hrem; clear hrem hd hx
      go_wp2_with (first | (go_at_call 70; refine (name_any _ _).mono ?_; rintro r w1 ⟨rfl, hb1⟩; have hc1 := bcell hb1; have hz1 := hb1.size; (try simp at hz1); (try have hy1 := lt0 w w1); (try have hy2 := ltA w 1 w1); (try have hy3 := ltA w 2 w1); (try have hy4 := lt0 wr w1); (try have hy5 := ltA wr 1 w1)) | (go_at_call 72; refine (hright _ belA).mono ?_; rintro r w1 ⟨rfl, hb1⟩; have hc1 := bcell hb1; have hz1 := hb1.size; (try simp at hz1); (try have hy1 := lt0 w w1); (try have hy2 := ltA w 1 w1); (try have hy3 := ltA w 2 w1); (try have hy4 := lt0 wr w1); (try have hy5 := ltA wr 1 w1)) | (go_at_call 73; refine (hlit _ belA).mono ?_; rintro r w1 ⟨rfl, hb1⟩; have hc1 := bcell hb1; have hz1 := hb1.size; (try simp at hz1); (try have hy1 := lt0 w w1); (try have hy2 := ltA w 1 w1); (try have hy3 := ltA w 2 w1); (try have hy4 := lt0 wr w1); (try have hy5 := ltA wr 1 w1)) | (go_at_call 74; refine (hsame _ belA).mono ?_; rintro r w1 ⟨rfl, hb1⟩; have hc1 := bcell hb1; have hz1 := hb1.size; (try simp at hz1); (try have hy1 := lt0 w w1); (try have hy2 := ltA w 1 w1); (try have hy3 := ltA w 2 w1); (try have hy4 := lt0 wr w1); (try have hy5 := ltA wr 1 w1)))
      go_roundw
      case rel => exact ⟨k + 1, _, by omega, by go_num, rfl, HR.out, belA⟩
      case measure => simp [intOf]; omega
    by_cases q0 : q.delay = 0
    · have q0' : (q.delay == 0) = true := by simp [q0]
      have hdl : delayB q = q.first.same Ex.zero := by unfold delayB; rw [if_neg q1, if_pos (.inl q0)]
      clear q0
      rw [hdl] at hrem
      cases b4
      · replace hrem : (false && (List.drop (k + 1) p.eqs).all eqB) = wholeB p := by rw [← hrem]; simp only [Bool.false_and, Bool.and_false]
        have HR := Lib.hid hrem; clear hrem hd hx
        go_wp2_with (first | (go_at_call 70; refine (name_any _ _).mono ?_; rintro r w1 ⟨rfl, hb1⟩; have hc1 := bcell hb1; have hz1 := hb1.size; (try simp at hz1); (try have hy1 := lt0 w w1); (try have hy2 := ltA w 1 w1); (try have hy3 := ltA w 2 w1); (try have hy4 := lt0 wr w1); (try have hy5 := ltA wr 1 w1)) | (go_at_call 72; refine (hright _ belA).mono ?_; rintro r w1 ⟨rfl, hb1⟩; have hc1 := bcell hb1; have hz1 := hb1.size; (try simp at hz1); (try have hy1 := lt0 w w1); (try have hy2 := ltA w 1 w1); (try have hy3 := ltA w 2 w1); (try have hy4 := lt0 wr w1); (try have hy5 := ltA wr 1 w1)) | (go_at_call 73; refine (hlit _ belA).mono ?_; rintro r w1 ⟨rfl, hb1⟩; have hc1 := bcell hb1; have hz1 := hb1.size; (try simp at hz1); (try have hy1 := lt0 w w1); (try have hy2 := ltA w 1 w1); (try have hy3 := ltA w 2 w1); (try have hy4 := lt0 wr w1); (try have hy5 := ltA wr 1 w1)) | (go_at_call 74; refine (hsame _ belA).mono ?_; rintro r w1 ⟨rfl, hb1⟩; have hc1 := bcell hb1; have hz1 := hb1.size; (try simp at hz1); (try have hy1 := lt0 w w1); (try have hy2 := ltA w 1 w1); (try have hy3 := ltA w 2 w1); (try have hy4 := lt0 wr w1); (try have hy5 := ltA wr 1 w1)))
        go_roundw
        case rel => exact ⟨k + 1, _, by omega, by go_num, rfl, HR.out, belA⟩
        case measure => simp [intOf]; omega
      cases hn : nameB q.name
      · rw [hn] at hrem
        replace hrem : (false && (List.drop (k + 1) p.eqs).all eqB) = wholeB p := by rw [← hrem]; simp only [Bool.false_and, Bool.and_false]
        have HR := Lib.hid hrem; clear hrem hd hx
        go_wp2_with (first | (go_at_call 70; refine (name_any _ _).mono ?_; rintro r w1 ⟨rfl, hb1⟩; have hc1 := bcell hb1; have hz1 := hb1.size; (try simp at hz1); (try have hy1 := lt0 w w1); (try have hy2 := ltA w 1 w1); (try have hy3 := ltA w 2 w1); (try have hy4 := lt0 wr w1); (try have hy5 := ltA wr 1 w1)) | (go_at_call 72; refine (hright _ belA).mono ?_; rintro r w1 ⟨rfl, hb1⟩; have hc1 := bcell hb1; have hz1 := hb1.size; (try simp at hz1); (try have hy1 := lt0 w w1); (try have hy2 := ltA w 1 w1); (try have hy3 := ltA w 2 w1); (try have hy4 := lt0 wr w1); (try have hy5 := ltA wr 1 w1)) | (go_at_call 73; refine (hlit _ belA).mono ?_; rintro r w1 ⟨rfl, hb1⟩; have hc1 := bcell hb1; have hz1 := hb1.size; (try simp at hz1); (try have hy1 := lt0 w w1); (try have hy2 := ltA w 1 w1); (try have hy3 := ltA w 2 w1); (try have hy4 := lt0 wr w1); (try have hy5 := ltA wr 1 w1)) | (go_at_call 74; refine (hsame _ belA).mono ?_; rintro r w1 ⟨rfl, hb1⟩; have hc1 := bcell hb1; have hz1 := hb1.size; (try simp at hz1); (try have hy1 := lt0 w w1); (try have hy2 := ltA w 1 w1); (try have hy3 := ltA w 2 w1); (try have hy4 := lt0 wr w1); (try have hy5 := ltA wr 1 w1)))
        go_roundw
        case rel => exact ⟨k + 1, _, by omega, by go_num, rfl, HR.out, belA⟩
        case measure => simp [intOf]; omega
      cases hr : (q.e.right == 0)
      · rw [hn, hr] at hrem
        replace hrem : (false && (List.drop (k + 1) p.eqs).all eqB) = wholeB p := by rw [← hrem]; simp only [Bool.false_and, Bool.and_false]
        have HR := Lib.hid hrem; clear hrem hd hx
        go_wp2_with (first | (go_at_call 70; refine (name_any _ _).mono ?_; rintro r w1 ⟨rfl, hb1⟩; have hc1 := bcell hb1; have hz1 := hb1.size; (try simp at hz1); (try have hy1 := lt0 w w1); (try have hy2 := ltA w 1 w1); (try have hy3 := ltA w 2 w1); (try have hy4 := lt0 wr w1); (try have hy5 := ltA wr 1 w1)) | (go_at_call 72; refine (hright _ belA).mono ?_; rintro r w1 ⟨rfl, hb1⟩; have hc1 := bcell hb1; have hz1 := hb1.size; (try simp at hz1); (try have hy1 := lt0 w w1); (try have hy2 := ltA w 1 w1); (try have hy3 := ltA w 2 w1); (try have hy4 := lt0 wr w1); (try have hy5 := ltA wr 1 w1)) | (go_at_call 73; refine (hlit _ belA).mono ?_; rintro r w1 ⟨rfl, hb1⟩; have hc1 := bcell hb1; have hz1 := hb1.size; (try simp at hz1); (try have hy1 := lt0 w w1); (try have hy2 := ltA w 1 w1); (try have hy3 := ltA w 2 w1); (try have hy4 := lt0 wr w1); (try have hy5 := ltA wr 1 w1)) | (go_at_call 74; refine (hsame _ belA).mono ?_; rintro r w1 ⟨rfl, hb1⟩; have hc1 := bcell hb1; have hz1 := hb1.size; (try simp at hz1); (try have hy1 := lt0 w w1); (try have hy2 := ltA w 1 w1); (try have hy3 := ltA w 2 w1); (try have hy4 := lt0 wr w1); (try have hy5 := ltA wr 1 w1)))
        go_roundw
        case rel => exact ⟨k + 1, _, by omega, by go_num, rfl, HR.out, belA⟩
        case measure => simp [intOf]; omega
      rw [hn, hr] at hrem
      replace hrem : (q.first.same Ex.zero && (List.drop (k + 1) p.eqs).all eqB) = wholeB p := by rw [← hrem]; simp only [Bool.true_and, Bool.and_true]
      have HR := Lib.hid hrem; clear hrem hd hx
      go_wp2_with (first | (go_at_call 70; refine (name_any _ _).mono ?_; rintro r w1 ⟨rfl, hb1⟩; have hc1 := bcell hb1; have hz1 := hb1.size; (try simp at hz1); (try have hy1 := lt0 w w1); (try have hy2 := ltA w 1 w1); (try have hy3 := ltA w 2 w1); (try have hy4 := lt0 wr w1); (try have hy5 := ltA wr 1 w1)) | (go_at_call 72; refine (hright _ belA).mono ?_; rintro r w1 ⟨rfl, hb1⟩; have hc1 := bcell hb1; have hz1 := hb1.size; (try simp at hz1); (try have hy1 := lt0 w w1); (try have hy2 := ltA w 1 w1); (try have hy3 := ltA w 2 w1); (try have hy4 := lt0 wr w1); (try have hy5 := ltA wr 1 w1)) | (go_at_call 73; refine (hlit _ belA).mono ?_; rintro r w1 ⟨rfl, hb1⟩; have hc1 := bcell hb1; have hz1 := hb1.size; (try simp at hz1); (try have hy1 := lt0 w w1); (try have hy2 := ltA w 1 w1); (try have hy3 := ltA w 2 w1); (try have hy4 := lt0 wr w1); (try have hy5 := ltA wr 1 w1)) | (go_at_call 74; refine (hsame _ belA).mono ?_; rintro r w1 ⟨rfl, hb1⟩; have hc1 := bcell hb1; have hz1 := hb1.size; (try simp at hz1); (try have hy1 := lt0 w w1); (try have hy2 := ltA w 1 w1); (try have hy3 := ltA w 2 w1); (try have hy4 := lt0 wr w1); (try have hy5 := ltA wr 1 w1)))
      go_roundw
      case rel => exact ⟨k + 1, _, by omega, by go_num, rfl, HR.out, belA⟩
      case measure => simp [intOf]; omega
    by_cases q2 : q.delay = 2
    · have q2' : (q.delay == 2) = true := by simp [q2]
      have hdl : delayB q = q.first.same Ex.zero := by unfold delayB; rw [if_neg q1, if_pos (.inr q2)]
      clear q2
      rw [hdl] at hrem
      cases b4
      · replace hrem : (false && (List.drop (k + 1) p.eqs).all eqB) = wholeB p := by rw [← hrem]; simp only [Bool.false_and, Bool.and_false]
        have HR := Lib.hid hrem; clear hrem hd hx
        go_wp2_with (first | (go_at_call 70; refine (name_any _ _).mono ?_; rintro r w1 ⟨rfl, hb1⟩; have hc1 := bcell hb1; have hz1 := hb1.size; (try simp at hz1); (try have hy1 := lt0 w w1); (try have hy2 := ltA w 1 w1); (try have hy3 := ltA w 2 w1); (try have hy4 := lt0 wr w1); (try have hy5 := ltA wr 1 w1)) | (go_at_call 72; refine (hright _ belA).mono ?_; rintro r w1 ⟨rfl, hb1⟩; have hc1 := bcell hb1; have hz1 := hb1.size; (try simp at hz1); (try have hy1 := lt0 w w1); (try have hy2 := ltA w 1 w1); (try have hy3 := ltA w 2 w1); (try have hy4 := lt0 wr w1); (try have hy5 := ltA wr 1 w1)) | (go_at_call 73; refine (hlit _ belA).mono ?_; rintro r w1 ⟨rfl, hb1⟩; have hc1 := bcell hb1; have hz1 := hb1.size; (try simp at hz1); (try have hy1 := lt0 w w1); (try have hy2 := ltA w 1 w1); (try have hy3 := ltA w 2 w1); (try have hy4 := lt0 wr w1); (try have hy5 := ltA wr 1 w1)) | (go_at_call 74; refine (hsame _ belA).mono ?_; rintro r w1 ⟨rfl, hb1⟩; have hc1 := bcell hb1; have hz1 := hb1.size; (try simp at hz1); (try have hy1 := lt0 w w1); (try have hy2 := ltA w 1 w1); (try have hy3 := ltA w 2 w1); (try have hy4 := lt0 wr w1); (try have hy5 := ltA wr 1 w1)))
        go_roundw
        case rel => exact ⟨k + 1, _, by omega, by go_num, rfl, HR.out, belA⟩
        case measure => simp [intOf]; omega
      cases hn : nameB q.name
      · rw [hn] at hrem
        replace hrem : (false && (List.drop (k + 1) p.eqs).all eqB) = wholeB p := by rw [← hrem]; simp only [Bool.false_and, Bool.and_false]
        have HR := Lib.hid hrem; clear hrem hd hx
        go_wp2_with (first | (go_at_call 70; refine (name_any _ _).mono ?_; rintro r w1 ⟨rfl, hb1⟩; have hc1 := bcell hb1; have hz1 := hb1.size; (try simp at hz1); (try have hy1 := lt0 w w1); (try have hy2 := ltA w 1 w1); (try have hy3 := ltA w 2 w1); (try have hy4 := lt0 wr w1); (try have hy5 := ltA wr 1 w1)) | (go_at_call 72; refine (hright _ belA).mono ?_; rintro r w1 ⟨rfl, hb1⟩; have hc1 := bcell hb1; have hz1 := hb1.size; (try simp at hz1); (try have hy1 := lt0 w w1); (try have hy2 := ltA w 1 w1); (try have hy3 := ltA w 2 w1); (try have hy4 := lt0 wr w1); (try have hy5 := ltA wr 1 w1)) | (go_at_call 73; refine (hlit _ belA).mono ?_; rintro r w1 ⟨rfl, hb1⟩; have hc1 := bcell hb1; have hz1 := hb1.size; (try simp at hz1); (try have hy1 := lt0 w w1); (try have hy2 := ltA w 1 w1); (try have hy3 := ltA w 2 w1); (try have hy4 := lt0 wr w1); (try have hy5 := ltA wr 1 w1)) | (go_at_call 74; refine (hsame _ belA).mono ?_; rintro r w1 ⟨rfl, hb1⟩; have hc1 := bcell hb1; have hz1 := hb1.size; (try simp at hz1); (try have hy1 := lt0 w w1); (try have hy2 := ltA w 1 w1); (try have hy3 := ltA w 2 w1); (try have hy4 := lt0 wr w1); (try have hy5 := ltA wr 1 w1)))
        go_roundw
        case rel => exact ⟨k + 1, _, by omega, by go_num, rfl, HR.out, belA⟩
        case measure => simp [intOf]; omega
      cases hr : (q.e.right == 0)
      · rw [hn, hr] at hrem
        replace hrem : (false && (List.drop (k + 1) p.eqs).all eqB) = wholeB p := by rw [← hrem]; simp only [Bool.false_and, Bool.and_false]
        have HR := Lib.hid hrem; clear hrem hd hx
        go_wp2_with (first | (go_at_call 70; refine (name_any _ _).mono ?_; rintro r w1 ⟨rfl, hb1⟩; have hc1 := bcell hb1; have hz1 := hb1.size; (try simp at hz1); (try have hy1 := lt0 w w1); (try have hy2 := ltA w 1 w1); (try have hy3 := ltA w 2 w1); (try have hy4 := lt0 wr w1); (try have hy5 := ltA wr 1 w1)) | (go_at_call 72; refine (hright _ belA).mono ?_; rintro r w1 ⟨rfl, hb1⟩; have hc1 := bcell hb1; have hz1 := hb1.size; (try simp at hz1); (try have hy1 := lt0 w w1); (try have hy2 := ltA w 1 w1); (try have hy3 := ltA w 2 w1); (try have hy4 := lt0 wr w1); (try have hy5 := ltA wr 1 w1)) | (go_at_call 73; refine (hlit _ belA).mono ?_; rintro r w1 ⟨rfl, hb1⟩; have hc1 := bcell hb1; have hz1 := hb1.size; (try simp at hz1); (try have hy1 := lt0 w w1); (try have hy2 := ltA w 1 w1); (try have hy3 := ltA w 2 w1); (try have hy4 := lt0 wr w1); (try have hy5 := ltA wr 1 w1)) | (go_at_call 74; refine (hsame _ belA).mono ?_; rintro r w1 ⟨rfl, hb1⟩; have hc1 := bcell hb1; have hz1 := hb1.size; (try simp at hz1); (try have hy1 := lt0 w w1); (try have hy2 := ltA w 1 w1); (try have hy3 := ltA w 2 w1); (try have hy4 := lt0 wr w1); (try have hy5 := ltA wr 1 w1)))
        go_roundw
        case rel => exact ⟨k + 1, _, by omega, by go_num, rfl, HR.out, belA⟩
        case measure => simp [intOf]; omega
      rw [hn, hr] at hrem
      replace hrem : (q.first.same Ex.zero && (List.drop (k + 1) p.eqs).all eqB) = wholeB p := by rw [← hrem]; simp only [Bool.true_and, Bool.and_true]
      have HR := Lib.hid hrem; clear hrem hd hx
      go_wp2_with (first | (go_at_call 70; refine (name_any _ _).mono ?_; rintro r w1 ⟨rfl, hb1⟩; have hc1 := bcell hb1; have hz1 := hb1.size; (try simp at hz1); (try have hy1 := lt0 w w1); (try have hy2 := ltA w 1 w1); (try have hy3 := ltA w 2 w1); (try have hy4 := lt0 wr w1); (try have hy5 := ltA wr 1 w1)) | (go_at_call 72; refine (hright _ belA).mono ?_; rintro r w1 ⟨rfl, hb1⟩; have hc1 := bcell hb1; have hz1 := hb1.size; (try simp at hz1); (try have hy1 := lt0 w w1); (try have hy2 := ltA w 1 w1); (try have hy3 := ltA w 2 w1); (try have hy4 := lt0 wr w1); (try have hy5 := ltA wr 1 w1)) | (go_at_call 73; refine (hlit _ belA).mono ?_; rintro r w1 ⟨rfl, hb1⟩; have hc1 := bcell hb1; have hz1 := hb1.size; (try simp at hz1); (try have hy1 := lt0 w w1); (try have hy2 := ltA w 1 w1); (try have hy3 := ltA w 2 w1); (try have hy4 := lt0 wr w1); (try have hy5 := ltA wr 1 w1)) | (go_at_call 74; refine (hsame _ belA).mono ?_; rintro r w1 ⟨rfl, hb1⟩; have hc1 := bcell hb1; have hz1 := hb1.size; (try simp at hz1); (try have hy1 := lt0 w w1); (try have hy2 := ltA w 1 w1); (try have hy3 := ltA w 2 w1); (try have hy4 := lt0 wr w1); (try have hy5 := ltA wr 1 w1)))
      go_roundw
      case rel => exact ⟨k + 1, _, by omega, by go_num, rfl, HR.out, belA⟩
      case measure => simp [intOf]; omega
    have hdl : delayB q = false := by unfold delayB; rw [if_neg q1, if_neg (by omega)]
    rw [hdl] at hrem
    simp only [Bool.and_false, Bool.false_and] at hrem
    cases b4
    · have HR := Lib.hid hrem; clear hrem hd hx
      go_wp2_with (first | (go_at_call 70; refine (name_any _ _).mono ?_; rintro r w1 ⟨rfl, hb1⟩; have hc1 := bcell hb1; have hz1 := hb1.size; (try simp at hz1); (try have hy1 := lt0 w w1); (try have hy2 := ltA w 1 w1); (try have hy3 := ltA w 2 w1); (try have hy4 := lt0 wr w1); (try have hy5 := ltA wr 1 w1)) | (go_at_call 72; refine (hright _ belA).mono ?_; rintro r w1 ⟨rfl, hb1⟩; have hc1 := bcell hb1; have hz1 := hb1.size; (try simp at hz1); (try have hy1 := lt0 w w1); (try have hy2 := ltA w 1 w1); (try have hy3 := ltA w 2 w1); (try have hy4 := lt0 wr w1); (try have hy5 := ltA wr 1 w1)) | (go_at_call 73; refine (hlit _ belA).mono ?_; rintro r w1 ⟨rfl, hb1⟩; have hc1 := bcell hb1; have hz1 := hb1.size; (try simp at hz1); (try have hy1 := lt0 w w1); (try have hy2 := ltA w 1 w1); (try have hy3 := ltA w 2 w1); (try have hy4 := lt0 wr w1); (try have hy5 := ltA wr 1 w1)) | (go_at_call 74; refine (hsame _ belA).mono ?_; rintro r w1 ⟨rfl, hb1⟩; have hc1 := bcell hb1; have hz1 := hb1.size; (try simp at hz1); (try have hy1 := lt0 w w1); (try have hy2 := ltA w 1 w1); (try have hy3 := ltA w 2 w1); (try have hy4 := lt0 wr w1); (try have hy5 := ltA wr 1 w1)))
      go_ret
      exact ⟨ret_bool HR.out, belA⟩
    cases hn : nameB q.name
    · have HR := Lib.hid hrem; clear hrem hd hx
      go_wp2_with (first | (go_at_call 70; refine (name_any _ _).mono ?_; rintro r w1 ⟨rfl, hb1⟩; have hc1 := bcell hb1; have hz1 := hb1.size; (try simp at hz1); (try have hy1 := lt0 w w1); (try have hy2 := ltA w 1 w1); (try have hy3 := ltA w 2 w1); (try have hy4 := lt0 wr w1); (try have hy5 := ltA wr 1 w1)) | (go_at_call 72; refine (hright _ belA).mono ?_; rintro r w1 ⟨rfl, hb1⟩; have hc1 := bcell hb1; have hz1 := hb1.size; (try simp at hz1); (try have hy1 := lt0 w w1); (try have hy2 := ltA w 1 w1); (try have hy3 := ltA w 2 w1); (try have hy4 := lt0 wr w1); (try have hy5 := ltA wr 1 w1)) | (go_at_call 73; refine (hlit _ belA).mono ?_; rintro r w1 ⟨rfl, hb1⟩; have hc1 := bcell hb1; have hz1 := hb1.size; (try simp at hz1); (try have hy1 := lt0 w w1); (try have hy2 := ltA w 1 w1); (try have hy3 := ltA w 2 w1); (try have hy4 := lt0 wr w1); (try have hy5 := ltA wr 1 w1)) | (go_at_call 74; refine (hsame _ belA).mono ?_; rintro r w1 ⟨rfl, hb1⟩; have hc1 := bcell hb1; have hz1 := hb1.size; (try simp at hz1); (try have hy1 := lt0 w w1); (try have hy2 := ltA w 1 w1); (try have hy3 := ltA w 2 w1); (try have hy4 := lt0 wr w1); (try have hy5 := ltA wr 1 w1)))
      go_ret
      exact ⟨ret_bool HR.out, belA⟩
    cases hr : (q.e.right == 0)
    · have HR := Lib.hid hrem; clear hrem hd hx
      go_wp2_with (first | (go_at_call 70; refine (name_any _ _).mono ?_; rintro r w1 ⟨rfl, hb1⟩; have hc1 := bcell hb1; have hz1 := hb1.size; (try simp at hz1); (try have hy1 := lt0 w w1); (try have hy2 := ltA w 1 w1); (try have hy3 := ltA w 2 w1); (try have hy4 := lt0 wr w1); (try have hy5 := ltA wr 1 w1)) | (go_at_call 72; refine (hright _ belA).mono ?_; rintro r w1 ⟨rfl, hb1⟩; have hc1 := bcell hb1; have hz1 := hb1.size; (try simp at hz1); (try have hy1 := lt0 w w1); (try have hy2 := ltA w 1 w1); (try have hy3 := ltA w 2 w1); (try have hy4 := lt0 wr w1); (try have hy5 := ltA wr 1 w1)) | (go_at_call 73; refine (hlit _ belA).mono ?_; rintro r w1 ⟨rfl, hb1⟩; have hc1 := bcell hb1; have hz1 := hb1.size; (try simp at hz1); (try have hy1 := lt0 w w1); (try have hy2 := ltA w 1 w1); (try have hy3 := ltA w 2 w1); (try have hy4 := lt0 wr w1); (try have hy5 := ltA wr 1 w1)) | (go_at_call 74; refine (hsame _ belA).mono ?_; rintro r w1 ⟨rfl, hb1⟩; have hc1 := bcell hb1; have hz1 := hb1.size; (try simp at hz1); (try have hy1 := lt0 w w1); (try have hy2 := ltA w 1 w1); (try have hy3 := ltA w 2 w1); (try have hy4 := lt0 wr w1); (try have hy5 := ltA wr 1 w1)))
      go_ret
      exact ⟨ret_bool HR.out, belA⟩
    · have HR := Lib.hid hrem; clear hrem hd hx
      go_wp2_with (first | (go_at_call 70; refine (name_any _ _).mono ?_; rintro r w1 ⟨rfl, hb1⟩; have hc1 := bcell hb1; have hz1 := hb1.size; (try simp at hz1); (try have hy1 := lt0 w w1); (try have hy2 := ltA w 1 w1); (try have hy3 := ltA w 2 w1); (try have hy4 := lt0 wr w1); (try have hy5 := ltA wr 1 w1)) | (go_at_call 72; refine (hright _ belA).mono ?_; rintro r w1 ⟨rfl, hb1⟩; have hc1 := bcell hb1; have hz1 := hb1.size; (try simp at hz1); (try have hy1 := lt0 w w1); (try have hy2 := ltA w 1 w1); (try have hy3 := ltA w 2 w1); (try have hy4 := lt0 wr w1); (try have hy5 := ltA wr 1 w1)) | (go_at_call 73; refine (hlit _ belA).mono ?_; rintro r w1 ⟨rfl, hb1⟩; have hc1 := bcell hb1; have hz1 := hb1.size; (try simp at hz1); (try have hy1 := lt0 w w1); (try have hy2 := ltA w 1 w1); (try have hy3 := ltA w 2 w1); (try have hy4 := lt0 wr w1); (try have hy5 := ltA wr 1 w1)) | (go_at_call 74; refine (hsame _ belA).mono ?_; rintro r w1 ⟨rfl, hb1⟩; have hc1 := bcell hb1; have hz1 := hb1.size; (try simp at hz1); (try have hy1 := lt0 w w1); (try have hy2 := ltA w 1 w1); (try have hy3 := ltA w 2 w1); (try have hy4 := lt0 wr w1); (try have hy5 := ltA wr 1 w1)))
      go_ret
      exact ⟨ret_bool HR.out, belA⟩
  have hke : k = p.eqs.length := by omega
  rw [hke, List.drop_length, List.all_nil, Bool.and_true] at hrem
  have HR := Lib.hid hrem; clear hrem hke
  go_wp2_with fail
  go_ret
  exact ⟨ret_bool HR.out, belA⟩

end Go.Proofs.YtknfcamdfdfoeaaDoor

/- Walks over the package tree: declared, list. -/
namespace Go.Proofs.YtknfcamdfdfoeaaDoor
open Go.RowKit Go.Sort

set_option maxHeartbeats 1000000 in
theorem decl_any (v : Va) (hs : Short v) (w : World) : Calls Tryd.prog 67 #[vaV v] w fun r w' => r = .returned (.string (declB v)) ∧ Below w.heap.size w w' := by
  obtain ⟨h1, h2⟩ := hs
  unfold vaV
  by_cases c1 : v.ck = 1 <;> by_cases c2 : v.ck = 2 <;> by_cases c3 : v.type = 2 <;> first | omega |
  · have hv : declB v = declB v := rfl
    rw (occs := .pos [2]) [declB] at hv
    first | rw [if_pos c1] at hv | rw [if_neg c1, if_pos c2] at hv | rw [if_neg c1, if_neg c2] at hv
    first | rw [if_pos c3] at hv | rw [if_neg c3] at hv
    have HV := Lib.hid hv; clear hv
    go_enter Tryd.func67, Tryd.ntmps67
    go_wp2_with fail
    go_ret
    exact ⟨ret_str HV.out.symm, belA⟩

set_option maxHeartbeats 1000000 in
theorem list_any (l : List Va) (A : Option Addr) (cap : Nat) (hs : ∀ v ∈ l, Short v) (hn : l.length ≤ 1000000) (w : World) (hl : VarsAt w l A cap) :
    Calls Tryd.prog 66 #[.slice A l.length cap] w fun r w' => r = .returned (.string (listVB l)) ∧ Below w.heap.size w w' := by
  have hl2 := hl.len
  unfold maxLen at hl2
  obtain ⟨hl3, hl4⟩ := hl2
  have hsz := listGo_size l hs 0 ⟨#[40]⟩
  have HV := Lib.hid (show listVB l = listGo 0 ⟨#[40]⟩ l ++ ⟨#[41]⟩ from rfl)
  have hz : (listGo 0 ⟨#[40]⟩ l).size ≤ 100000000 := by
    simp only [size_lit, List.size_toArray, List.length_cons, List.length_nil] at hsz
    omega
  clear hsz
  generalize hG : listGo 0 ⟨#[40]⟩ l = G at HV hz
  have HG := Lib.hid hG; clear hG
  go_enter Tryd.func66, Tryd.ntmps66
  go_wp2_with fail
  go_loopw [3, 8] (fun o i wr => ∃ (k : Nat) (s : ByteArray), k ≤ l.length ∧ i = .int .i64 k ∧ o = .string s ∧ s.size ≤ 1 + 62 * k ∧ listGo k s (l.drop k) = G ∧ Below w.heap.size w wr) (fun _ i _ => l.length - (intOf i).toNat)
  case atStart => exact ⟨0, ⟨#[40]⟩, Nat.zero_le _, rfl, rfl, by decide, HG.out, Below.refl _ _⟩
  case round =>
    obtain ⟨k, s, hk, rfl, rfl, hss, hrem, hbel⟩ := hrel
    by_cases hlt : k < l.length
    · have hmem : l[k] ∈ l := List.getElem_mem hlt
      have hx : l[k]? = some l[k] := List.getElem?_eq_getElem hlt
      have hd : l.drop k = l[k] :: l.drop (k + 1) := List.drop_eq_getElem_cons hlt
      generalize l[k] = x at hx hd hmem
      obtain ⟨b, off, rfl, hbb, ⟨d0, d1, d2, d3⟩⟩ := (hl.later hbel).get hx
      rw [hd, listGo] at hrem
      have hsh := hs x hmem
      have hds := declB_size hsh
      have hdecl := fun W => decl_any x hsh W
      unfold vaV at hdecl
      clear hd hx
      rcases Nat.eq_zero_or_pos k with h0 | h0
      · subst h0
        rw [if_neg (by omega)] at hrem
        have HR := Lib.hid hrem; clear hrem
        simp only [Nat.zero_mul, Nat.add_zero] at d0 d1 d2 d3
        go_wp2_with (first | (go_at_call 67; refine (hdecl _).mono ?_; rintro r w1 ⟨rfl, hb1⟩; have hc1 := bcell hb1; have hz1 := hb1.size; (try simp at hz1); (try have hy1 := lt0 w w1); (try have hy2 := ltA w 1 w1); (try have hy3 := ltA w 2 w1); (try have hy4 := lt0 wr w1); (try have hy5 := ltA wr 1 w1)))
        go_roundw
        case rel => exact ⟨1, _, by omega, by go_num, rfl, by rw [size_app]; omega, HR.out, belA⟩
        case measure => simp [intOf]; omega
      · rw [if_pos h0] at hrem
        have HR := Lib.hid hrem; clear hrem
        have h0' : (0 : Int) < k := by omega
        go_wp2_with (first | (go_at_call 67; refine (hdecl _).mono ?_; rintro r w1 ⟨rfl, hb1⟩; have hc1 := bcell hb1; have hz1 := hb1.size; (try simp at hz1); (try have hy1 := lt0 w w1); (try have hy2 := ltA w 1 w1); (try have hy3 := ltA w 2 w1); (try have hy4 := lt0 wr w1); (try have hy5 := ltA wr 1 w1)))
        go_roundw
        case rel => exact ⟨k + 1, _, by omega, by go_num, rfl, by simp only [size_app, size_lit, List.size_toArray, List.length_cons, List.length_nil]; omega, HR.out, belA⟩
        case measure => simp [intOf]; omega
    · obtain rfl : k = l.length := by omega
      rw [List.drop_length, listGo] at hrem
      have HR := Lib.hid hrem; clear hrem
      go_wp2_with fail
      go_ret
      exact ⟨ret_str (by rw [HV.out, ← HR.out]), belA⟩

end Go.Proofs.YtknfcamdfdfoeaaDoor
