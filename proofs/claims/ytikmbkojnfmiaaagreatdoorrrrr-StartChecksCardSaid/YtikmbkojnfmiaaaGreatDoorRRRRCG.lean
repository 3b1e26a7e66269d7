/- What the reference's Check of the start asks is what the program's does. No program of Go in sight. -/
import Derived.Test.YtikmbkojnfmiaaaGreatDoorRRRRBZ
import Derived.Test.YtikmbkojnfmiaaaGreatDoorRRRRCB
import Derived.Test.YtikmbkojnfmiaaaGreatDoorRRRRCD
import Derived.Test.YtikmbkojnfmiaaaGreatDoorRRRRBJ
import Derived.Test.YtikmbkojnfmiaaaGreatDoorRRRRWRefSame
import Derived.Test.YtikmbkojnfmiaaaGreatDoorRRRRBY
import Derived.Test.YtikmbkojnfmiaaaGreatDoorRRRRTie
import Derived.Test.YtikmbkojnfmiaaaGreatDoorRRRRCards
import Derived.Test.YtikmbkojnfmiaaaGreatDoorRRRROpen
import Derived.Test.YtikmbkojnfmiaaaGreatDoorRRRRBG
import Derived.ProofKit
import Derived.LaidMore
import Derived.OpenShut
import Derived.Stop.Joined
set_option linter.unusedVariables false
set_option linter.unusedSimpArgs false
set_option maxRecDepth 100000
namespace Go.Proofs.YtikmbkojnfmiaaaGreatDoorRRRR
open Go.RowKit

theorem looseGo_named {eqs : List Qe} (he : ∀ q ∈ eqs, q.name.toList.isEmpty = false) : ∀ (l : List Int) (out : List ByteArray), (∀ s ∈ out, s.toList.isEmpty = false) → ∀ s ∈ looseGo eqs out l, s.toList.isEmpty = false
  | [], out, ho, s, hs => ho s hs
  | j :: r, out, ho, s, hs => by
    rw [looseGo] at hs
    refine looseGo_named he r _ ?_ s hs
    cases hq : eqs[j.toNat]? with
    | none => exact ho
    | some q =>
      dsimp only
      split
      · intro x hx
        rcases List.mem_append.1 hx with h1 | h1
        · exact ho x h1
        · obtain rfl : x = q.name := by simpa using h1
          exact he q (List.mem_of_getElem? hq)
      · exact ho
theorem eqs_named {p : Pr} (h : wholeB p = true) : ∀ q ∈ p.eqs, q.name.toList.isEmpty = false := fun q hq => by
  have hb := (whole_parts h).2.2.2.2 q hq
  simp only [eqB, Bool.and_eq_true] at hb
  exact nameB_ne hb.1.1
theorem loose_named {p : Pr} (hO : (orderE p).2 = (0, 0, 0)) : ∀ s ∈ (looseE p).1, s.toList.isEmpty = false := by
  have hwh := (clean_parts (clkF_parts (orderE_good hO).1).1).1
  unfold looseE
  rw [if_pos hO]
  refine looseGo_named (eqs_named hwh) _ _ fun s hs => ?_
  unfold presE at hs
  rw [List.mem_map] at hs
  obtain ⟨q, hq, rfl⟩ := hs
  exact eqs_named hwh q (List.mem_filter.1 hq).1
theorem inL_has {LF : List ByteArray} (h : ∀ s ∈ LF, s.toList.isEmpty = false) (s : ByteArray) : inL LF s = hasB LF s := by
  unfold inL
  cases hs : s.toList.isEmpty
  · simp
  · have : hasB LF s = false := hasB_not.2 fun hm => by rw [h s hm] at hs; cases hs
    rw [this]; rfl

/-- What the reference asks. -/
def hangR (t h d r o s : Bool) : Bool := t || h || (d && r) || (o && s)
theorem hangR_ways (t h d r o s : Bool) :
    (t = true ∧ hangR t h d r o s = true) ∨ (t = false ∧ h = true ∧ hangR t h d r o s = true) ∨ (t = false ∧ h = false ∧ d = true ∧ r = true ∧ hangR t h d r o s = true) ∨
    (t = false ∧ h = false ∧ ((d = true ∧ r = false) ∨ d = false) ∧ o = true ∧ s = true ∧ hangR t h d r o s = true) ∨
    (t = false ∧ h = false ∧ ((d = true ∧ r = false) ∨ d = false) ∧ ((o = true ∧ s = false) ∨ o = false) ∧ hangR t h d r o s = false) := by
  revert t h d r o s
  decide
theorem hangR_eq {p : Pr} (hO : (orderE p).2 = (0, 0, 0)) {q : Qe} (hq : q ∈ p.eqs) : ∃ (j : Nat) (v : Va), refFind (varsOf p) q.name = (j : Int) ∧ (varsOf p)[j]? = some v ∧
    hangQ p (looseE p).1 q = hangR (q.e.torn (inL (looseE p).1)) (hasB (looseE p).1 v.cn) (q.delay != 0) (q.e.reach (inL (looseE p).1)) (decide ((j : Int) < (p.ins.length : Int) + (p.outs.length : Int))) (hasB (looseE p).1 q.name) := by
  have hck := (orderE_good hO).1
  have hc := (clkF_parts hck).1
  have hun := (clean_parts hc).2.1
  have hLF := loose_named hO
  obtain ⟨v, hm, hf, hn, hcl, hor⟩ := needs_clock hck hq
  rcases refFind_cases (varsOf p) q.name with ⟨_, hfc⟩ | ⟨j, u, hrf, hx, hfc⟩
  · rw [hf] at hfc; cases hfc
  · rw [hf] at hfc
    obtain rfl : v = u := by injection hfc
    refine ⟨j, v, hrf, hx, ?_⟩
    unfold hangQ hangB hangR
    rw [hcl, inL_has hLF, inL_has hLF]
    dsimp only
    have h1 : (v.ck != 0 && hasB (looseE p).1 v.cn) = hasB (looseE p).1 v.cn := by
      rcases hor with ⟨h0, he⟩ | ⟨h0, _, _⟩
      · have : hasB (looseE p).1 v.cn = false := hasB_not.2 fun hm => by rw [hLF _ hm] at he; cases he
        rw [this, Bool.and_false]
      · have : (v.ck != 0) = true := by simpa using h0
        rw [this, Bool.true_and]
    have h2 : hasB (p.outs.map (·.name)) q.name = decide ((j : Int) < (p.ins.length : Int) + (p.outs.length : Int)) := by
      rw [Bool.eq_iff_iff, hasB_iff, decide_eq_true_eq, List.mem_map]
      constructor
      · rintro ⟨u, hu, hun2⟩
        obtain ⟨i, hi⟩ := List.getElem?_of_mem hu
        have hil := (List.getElem?_eq_some_iff.1 hi).1
        have hi2 : (varsOf p)[p.ins.length + i]? = some u := by
          unfold varsOf
          rw [List.append_assoc, List.getElem?_append_right (by omega), show p.ins.length + i - p.ins.length = i from by omega, List.getElem?_append_left hil]
          exact hi
        have := hun _ _ _ _ hi2 hx (by rw [hun2, hn])
        omega
      · intro hlt
        have hni := (eqs_parts hc).2.1 q hq
        unfold varsOf at hx
        rcases Nat.lt_or_ge j p.ins.length with hj | hj
        · rw [List.append_assoc, List.getElem?_append_left hj] at hx
          exact absurd (List.mem_map.2 ⟨v, List.mem_of_getElem? hx, hn⟩) hni
        · rw [List.append_assoc, List.getElem?_append_right hj, List.getElem?_append_left (by omega)] at hx
          exact ⟨v, List.mem_of_getElem? hx, hn⟩
    rw [h1, h2]
end Go.Proofs.YtikmbkojnfmiaaaGreatDoorRRRR

/- Walk over the reference's Torn. -/
namespace Go.Proofs.YtikmbkojnfmiaaaGreatDoorRRRR
open Go.RowKit Go.Sort

set_option maxHeartbeats 4000000 in
theorem rtorn_any (l : List ByteArray) (e : Ex) : ∀ (A : Option Addr) (cap : Nat) (AL : Option Addr) (capL : Nat) (w : World), SubsAt w e A cap → StrsAt w l AL capL → e.formed = true →
    Calls Tryz.prog 20 #[exV e A cap, .slice AL l.length capL] w fun r w' => r = .returned (.bool (e.torn (inL l))) ∧ Below w.heap.size w w' := by
  induction e using Ex.ind with
  | h e ih =>
  intro A cap AL capL w he hl hf
  obtain ⟨R, hR⟩ : ∃ R, R = e.torn (inL l) := ⟨_, rfl⟩
  rw [← hR]
  rw [Ex.torn_eq] at hR
  have hrx := fun W h => rexpr_any l e A cap AL capL W (he.later h) (hl.later h) hf
  have hel := he.len
  have hll := hl.len
  unfold maxLen at hel hll
  obtain ⟨hel1, hel2⟩ := hel
  obtain ⟨hll1, hll2⟩ := hll
  unfold exV at *
  by_cases hk : e.kind = 10
  · have tk : (e.kind == 10) = true := by simpa using hk
    rw [show decide (e.kind = 10) = true by simpa using hk, Bool.true_and] at hR
    clear hk
    cases hrc : e.reach (inL l)
    · rw [hrc, Bool.false_or] at hR
      have HRC := Lib.hid hrc
      have HB := Lib.hid (by rw [hR]; rfl : Ex.tornL (inL l) (e.sub.drop 0) = R)
      clear hrc hR
      go_enter Tryz.func20, Tryz.ntmps20
      go_wp2_with (first | (go_at_call 22; go_loud (refine (hrx _ belA).mono ?_; rw [HRC.out]; rintro r wh ⟨rfl, hbh⟩; have hch := bcell hbh; have hzh : w.heap.size + 1 ≤ wh.heap.size := (by have := hbh.size; simpa using this); have hyh : w.heap.size < wh.heap.size := (by omega))))
      refine wp_name fun W0 hW0 => ?_
      have hb0 : Below w.heap.size w W0 := by rw [hW0]; exact belA
      have hz0 : w.heap.size < W0.heap.size := by rw [hW0]; first | exact hyh | simp
      have p3 : W0.cell? ⟨w.heap.size, 3, none⟩ = some (.slice A e.sub.length cap) := by rw [hW0]; go_simp
      clear hW0
      go_loopw [5] (fun i wr => ∃ k : Nat, k ≤ e.sub.length ∧ i = .int .i64 k ∧ Hid (Ex.tornL (inL l) (e.sub.drop k) = R) ∧ Below W0.heap.size W0 wr) (fun i _ => e.sub.length - (intOf i).toNat)
      case atStart => exact ⟨0, Nat.zero_le _, rfl, HB, Below.refl _ _⟩
      case round =>
        obtain ⟨k, hk, rfl, hrem, hbel⟩ := hrel
        have hbw : Below w.heap.size w wr := bel_grow hb0 hbel (by omega)
        have hc := bcell hbel
        have hzr := hbel.size
        by_cases hlt : k < e.sub.length
        · have hx : e.sub[k]? = some e.sub[k] := List.getElem?_eq_getElem hlt
          have hmem : e.sub[k] ∈ e.sub := List.getElem_mem hlt
          have hd : e.sub.drop k = e.sub[k] :: e.sub.drop (k + 1) := List.drop_eq_getElem_cons hlt
          generalize e.sub[k] = x at hx hmem hd
          obtain ⟨b, off, A', cap', rfl, c0, c1, c2, c3, hs⟩ := (he.later hbw).get hx
          have ihx := ih x hmem
          have hxf := formed_subs hf x hmem
          have hr := hrem.out
          rw [hd, Ex.tornL] at hr
          clear hd hx hmem hrem
          cases hxr : x.torn (inL l)
          · rw [hxr, Bool.false_or] at hr
            have HXR := Lib.hid hxr
            have HR := Lib.hid hr
            clear hxr hr
            go_wp2_with (first | (go_at_call 20; go_loud (refine (ihx A' cap' AL capL _ (hs.later belA) (hl.later belA) hxf).mono ?_; rw [HXR.out]; rintro r w1 ⟨rfl, hb1⟩)))
            go_roundw
            case rel => exact ⟨k + 1, by omega, by go_num, HR, belA⟩
            case measure => simp [intOf]; try omega
          · rw [hxr, Bool.true_or] at hr
            have HXR := Lib.hid hxr
            have HR := Lib.hid hr
            clear hxr hr
            go_wp2_with (first | (go_at_call 20; go_loud (refine (ihx A' cap' AL capL _ (hs.later belA) (hl.later belA) hxf).mono ?_; rw [HXR.out]; rintro r w1 ⟨rfl, hb1⟩)))
            go_ret
            exact ⟨ret_bool HR.out, belA⟩
        · obtain rfl : k = e.sub.length := by omega
          have hr := hrem.out
          rw [List.drop_length, Ex.tornL] at hr
          have HR := Lib.hid hr
          clear hr hrem
          go_wp2_with fail
          go_ret
          exact ⟨ret_bool HR.out, belA⟩
    · rw [hrc, Bool.true_or] at hR
      have HRC := Lib.hid hrc
      have HR := Lib.hid hR.symm
      clear hrc hR
      go_enter Tryz.func20, Tryz.ntmps20
      go_wp2_with (first | (go_at_call 22; go_loud (refine (hrx _ belA).mono ?_; rw [HRC.out]; rintro r wh ⟨rfl, hbh⟩)))
      go_ret
      exact ⟨ret_bool HR.out, belA⟩
  · have tk : (e.kind == 10) = false := by simpa using hk
    rw [show decide (e.kind = 10) = false by simpa using hk, Bool.false_and, Bool.false_or] at hR
    have HB := Lib.hid (by rw [hR]; rfl : Ex.tornL (inL l) (e.sub.drop 0) = R)
    clear hk hR hrx
    go_enter Tryz.func20, Tryz.ntmps20
    go_wp2_with (first | (go_at_call 22; go_loud (refine (hrx _ belA).mono ?_; rw [HRC.out]; rintro r wh ⟨rfl, hbh⟩; have hch := bcell hbh; have hzh : w.heap.size + 1 ≤ wh.heap.size := (by have := hbh.size; simpa using this); have hyh : w.heap.size < wh.heap.size := (by omega))))
    refine wp_name fun W0 hW0 => ?_
    have hb0 : Below w.heap.size w W0 := by rw [hW0]; exact belA
    have hz0 : w.heap.size < W0.heap.size := by rw [hW0]; first | exact hyh | simp
    have p3 : W0.cell? ⟨w.heap.size, 3, none⟩ = some (.slice A e.sub.length cap) := by rw [hW0]; go_simp
    clear hW0
    go_loopw [5] (fun i wr => ∃ k : Nat, k ≤ e.sub.length ∧ i = .int .i64 k ∧ Hid (Ex.tornL (inL l) (e.sub.drop k) = R) ∧ Below W0.heap.size W0 wr) (fun i _ => e.sub.length - (intOf i).toNat)
    case atStart => exact ⟨0, Nat.zero_le _, rfl, HB, Below.refl _ _⟩
    case round =>
      obtain ⟨k, hk, rfl, hrem, hbel⟩ := hrel
      have hbw : Below w.heap.size w wr := bel_grow hb0 hbel (by omega)
      have hc := bcell hbel
      have hzr := hbel.size
      by_cases hlt : k < e.sub.length
      · have hx : e.sub[k]? = some e.sub[k] := List.getElem?_eq_getElem hlt
        have hmem : e.sub[k] ∈ e.sub := List.getElem_mem hlt
        have hd : e.sub.drop k = e.sub[k] :: e.sub.drop (k + 1) := List.drop_eq_getElem_cons hlt
        generalize e.sub[k] = x at hx hmem hd
        obtain ⟨b, off, A', cap', rfl, c0, c1, c2, c3, hs⟩ := (he.later hbw).get hx
        have ihx := ih x hmem
        have hxf := formed_subs hf x hmem
        have hr := hrem.out
        rw [hd, Ex.tornL] at hr
        clear hd hx hmem hrem
        cases hxr : x.torn (inL l)
        · rw [hxr, Bool.false_or] at hr
          have HXR := Lib.hid hxr
          have HR := Lib.hid hr
          clear hxr hr
          go_wp2_with (first | (go_at_call 20; go_loud (refine (ihx A' cap' AL capL _ (hs.later belA) (hl.later belA) hxf).mono ?_; rw [HXR.out]; rintro r w1 ⟨rfl, hb1⟩)))
          go_roundw
          case rel => exact ⟨k + 1, by omega, by go_num, HR, belA⟩
          case measure => simp [intOf]; try omega
        · rw [hxr, Bool.true_or] at hr
          have HXR := Lib.hid hxr
          have HR := Lib.hid hr
          clear hxr hr
          go_wp2_with (first | (go_at_call 20; go_loud (refine (ihx A' cap' AL capL _ (hs.later belA) (hl.later belA) hxf).mono ?_; rw [HXR.out]; rintro r w1 ⟨rfl, hb1⟩)))
          go_ret
          exact ⟨ret_bool HR.out, belA⟩
      · obtain rfl : k = e.sub.length := by omega
        have hr := hrem.out
        rw [List.drop_length, Ex.tornL] at hr
        have HR := Lib.hid hr
        clear hr hrem
        go_wp2_with fail
        go_ret
        exact ⟨ret_bool HR.out, belA⟩

end Go.Proofs.YtikmbkojnfmiaaaGreatDoorRRRR

/- Walk over the reference's Check of the start. -/
namespace Go.Proofs.YtikmbkojnfmiaaaGreatDoorRRRR
open Go.RowKit Go.Sort

set_option maxHeartbeats 4000000 in
theorem rscheck_fault (p : Pr) (a : PrA) (w : World) (hp : PrAt w p a) (hok : PrOK p) (n1 : p.ins.length ≤ 1000000) (n2 : p.outs.length ≤ 1000000) (n3 : p.locals.length ≤ 1000000) (n4 : p.eqs.length ≤ 1000000) (hne : (orderE p).2.2.2 ≠ 0) :
    Calls Tryz.prog 8 #[prV p a] w fun r w' => r = .returned (fV (orderE p).2) ∧ Below w.heap.size w w' := by
  have hnam := fun W h => names_fault p a W (hp.later h) hok n1 n2 n3 n4 hne
  clear hok
  obtain ⟨A1, c1, A2, c2, A3, c3, A4, c4⟩ := a
  unfold prV fV at *
  dsimp only at *
  generalize (orderE p).2 = O at *
  obtain ⟨f1, f2, f3⟩ := O
  dsimp only at *
  have t1 : (f3 != 0) = true := by simpa using hne
  clear hne hp
  go_enter Tryz.func8, Tryz.ntmps8
  go_wp2_with (first | (go_at_call 17; go_loud (refine (hnam _ belA).mono ?_; rintro r wo ⟨rfl, hbo⟩; have hco := bcell hbo; have hfo := bfrozen hbo; have hzo : w.heap.size + 2 ≤ wo.heap.size := (by have := hbo.size; simpa using this); have hyo : w.heap.size < wo.heap.size := (by omega); have hyo1 : w.heap.size + 1 < wo.heap.size := (by omega))))
  refine bodyPost_ret (v := .agg #[.int .i64 f1, .int .i64 f2, .int .i64 f3]) (by simp [results, Tryz.results8, go_sem, *]) rfl ⟨rfl, ?_⟩
  (repeat refine bel_drew ?_)
  exact belS

set_option maxHeartbeats 16000000 in
theorem rscheck_clean (p : Pr) (a : PrA) (w : World) (hp : PrAt w p a) (hok : PrOK p) (n1 : p.ins.length ≤ 1000000) (n2 : p.outs.length ≤ 1000000) (n3 : p.locals.length ≤ 1000000) (n4 : p.eqs.length ≤ 1000000) (hO2 : (orderE p).2 = (0, 0, 0)) :
    Calls Tryz.prog 8 #[prV p a] w fun r w' => r = .returned (fV (startF p)) ∧ Below w.heap.size w w' := by
  have hO : startF p = startGo (hangQ p (looseE p).1) 0 p.eqs := by unfold startF; rw [if_pos hO2]
  have hqs := eqs_clean (orderE_good hO2).1 hok
  have hhr := fun q hq => hangR_eq (p := p) hO2 (q := q) hq
  have hnam := fun W h => names_clean p a W (hp.later h) hok n1 n2 n3 n4 hO2
  have hvars := fun W h => refVars_any p a W (hp.later h) n1 n2 n3
  obtain ⟨h, hh⟩ : ∃ h, h = hangQ p (looseE p).1 := ⟨_, rfl⟩
  rw [← hh] at hO hhr
  generalize startF p = O at *
  generalize (looseE p).1 = LF at *
  have HO := Lib.hid hO
  have HHR := Lib.hid hhr
  have HQS := Lib.hid hqs
  clear hO hh hhr hqs hO2 hok
  have hp4 := hp.eqs
  have hl1 := hp.ins.len
  have hl2 := hp.outs.len
  have hl4 := hp.eqs.len
  obtain ⟨A1, c1, A2, c2, A3, c3, A4, c4⟩ := a
  unfold maxLen at hl1 hl2 hl4
  unfold prV fV at *
  dsimp only at *
  obtain ⟨hl11, hl12⟩ := hl1
  obtain ⟨hl21, hl22⟩ := hl2
  obtain ⟨hl41, hl42⟩ := hl4
  clear hp
  go_enter Tryz.func8, Tryz.ntmps8
  go_wp2_with (first
    | (go_at_call 17; go_loud (refine (hnam _ belA).mono ?_; rintro r wo ⟨⟨vo, rfl, hrow⟩, hbo⟩; obtain ⟨Ao, co, rfl, ho1, ho2⟩ := own_slice hrow; have hlo := StrsAt.of_own hrow; have hco := bcell hbo; have hfo := bfrozen hbo; have hzo : w.heap.size + 2 ≤ wo.heap.size := (by have := hbo.size; simpa using this); have hyo : w.heap.size < wo.heap.size := (by omega); have hyo1 : w.heap.size + 1 < wo.heap.size := (by omega); have hyo3 : w.heap.size < wo.heap.size + 1 := (by omega); have hyo4 : w.heap.size + 1 < wo.heap.size + 1 := (by omega); clear hrow))
    | (go_at_call 18; go_loud (refine (hvars _ belA).mono ?_; rintro r wv ⟨⟨Av, cv, rfl, hrow⟩, hbv⟩; have hcv := bcell hbv; have hfv := bfrozen hbv; have hzv : wo.heap.size + 1 ≤ wv.heap.size := (by have := hbv.size; simpa using this); have hyv : w.heap.size < wv.heap.size := (by omega); have hyv1 : w.heap.size + 1 < wv.heap.size := (by omega); have hva := VarsAt.of_own hrow; clear hrow)))
  refine wp_name fun W0 hW0 => ?_
  have hb0 : Below w.heap.size w W0 := by rw [hW0]; (repeat refine bel_drew ?_); exact belS
  have hbo0 : Below wo.heap.size wo W0 := by rw [hW0]; (repeat refine bel_drew ?_); exact belS
  have hlo0 : StrsAt W0 LF Ao co := hlo.later hbo0
  have hva0 : VarsAt W0 (varsOf p) Av cv := by rw [hW0]; exact hva.later belA
  have hz0 : w.heap.size + 1 < W0.heap.size := by rw [hW0]; exact hyv1
  have hz00 : w.heap.size < W0.heap.size := by omega
  have x1 : W0.cell? ⟨w.heap.size, 1, none⟩ = some (.slice A1 p.ins.length c1) := by rw [hW0]; go_simp
  have x2 : W0.cell? ⟨w.heap.size, 2, none⟩ = some (.slice A2 p.outs.length c2) := by rw [hW0]; go_simp
  have x4 : W0.cell? ⟨w.heap.size, 4, none⟩ = some (.slice A4 p.eqs.length c4) := by rw [hW0]; go_simp
  have f0 : W0.cell? ⟨w.heap.size + 1, 0, none⟩ = some (.int .i64 0) := by rw [hW0]; go_simp
  have f1 : W0.cell? ⟨w.heap.size + 1, 1, none⟩ = some (.int .i64 0) := by rw [hW0]; go_simp
  have f2 : W0.cell? ⟨w.heap.size + 1, 2, none⟩ = some (.int .i64 0) := by rw [hW0]; go_simp
  have z0 : W0.frozen? ⟨w.heap.size + 1, 0, none⟩ = false := by rw [hW0]; go_simp
  have z1 : W0.frozen? ⟨w.heap.size + 1, 1, none⟩ = false := by rw [hW0]; go_simp
  have z2 : W0.frozen? ⟨w.heap.size + 1, 2, none⟩ = false := by rw [hW0]; go_simp
  have hll := hva0.len
  unfold maxLen at hll
  obtain ⟨hll1, hll2⟩ := hll
  clear hW0 hco hfo hzo hyo hyo1 hyo3 hyo4 hcv hfv hzv hyv hyv1 hva hnam hvars hlo hbo hbv hbo0
  generalize varsOf p = L at *
  go_loopw [6] (fun i wr => ∃ k : Nat, k ≤ p.eqs.length ∧ i = .int .i64 k ∧ Hid (startGo h k (p.eqs.drop k) = O) ∧ Below W0.heap.size W0 wr) (fun i _ => p.eqs.length - (intOf i).toNat)
  case atStart => exact ⟨0, Nat.zero_le _, rfl, Lib.hid (by rw [List.drop_zero]; exact HO.out.symm), Below.refl _ _⟩
  case round =>
    obtain ⟨k, hk, rfl, hrem, hbel⟩ := hrel
    have hbw : Below w.heap.size w wr := bel_grow hb0 hbel (by omega)
    have hc := bcell hbel
    have hfz := bfrozen hbel
    have hzr := hbel.size
    have hw0 : w.heap.size < wr.heap.size := by omega
    have hw1 : w.heap.size + 1 < wr.heap.size := by omega
    have hw4 : w.heap.size + 1 < wr.heap.size + 1 := by omega
    have hw6 : w.heap.size < wr.heap.size + 1 := by omega
    by_cases hlt : k < p.eqs.length
    · have hx : p.eqs[k]? = some p.eqs[k] := List.getElem?_eq_getElem hlt
      have hd : p.eqs.drop k = p.eqs[k] :: p.eqs.drop (k + 1) := List.drop_eq_getElem_cons hlt
      generalize p.eqs[k] = q at hx hd
      obtain ⟨b, off, B1, n1, B2, n2, rfl, hbb, ⟨g0, g1, g2, g3, g4, g5, g6, g7, g8, g9, s1, s2⟩⟩ := (hp4.later hbw).get hx
      have hr := hrem.out
      obtain ⟨hqs, hqne, hqf, hqok, hqz⟩ := HQS.out q (List.mem_of_getElem? hx)
      obtain ⟨j, v, hrf, hvx, hhq⟩ := HHR.out q (List.mem_of_getElem? hx)
      rw [hd, startGo, hhq] at hr
      have hjl : j < L.length := (List.getElem?_eq_some_iff.1 hvx).1
      obtain ⟨bv, ov, rfl, hbv, ⟨d0, d1, d2, d3⟩⟩ := (hva0.later hbel).get hvx
      have hfd := fun W hb => refFind_any L (some ⟨bv, ov, none⟩) cv q.name W ((hva0.later hbel).later hb)
      rw [hrf] at hfd
      have hls := hlo0.later hbel
      have hrx := fun W hb => rexpr_any LF q.e B2 n2 Ao co W (s2.later hb) (hls.later hb) hqf
      have htn := fun W hb => rtorn_any LF q.e B2 n2 Ao co W (s2.later hb) (hls.later hb) hqf
      obtain ⟨vt, hvt⟩ : ∃ b, b = q.e.torn (inL LF) := ⟨_, rfl⟩
      obtain ⟨vr, hvr⟩ : ∃ b, b = q.e.reach (inL LF) := ⟨_, rfl⟩
      obtain ⟨vh, hvh⟩ : ∃ b, hasB LF v.cn = b := ⟨_, rfl⟩
      obtain ⟨vs, hvs⟩ : ∃ b, hasB LF q.name = b := ⟨_, rfl⟩
      obtain ⟨vd, hvd⟩ : ∃ b, (q.delay != 0) = b := ⟨_, rfl⟩
      obtain ⟨vo, hvo⟩ : ∃ b, decide ((j : Int) < (p.ins.length : Int) + (p.outs.length : Int)) = b := ⟨_, rfl⟩
      rw [← hvt] at htn
      rw [← hvr] at hrx
      rw [← hvt, ← hvr, hvh, hvs, hvd, hvo] at hr
      have HVH := Lib.hid hvh
      have HVS := Lib.hid hvs
      have tj : (0 : Int) ≤ (j : Int) := by omega
      unfold exV at hrx htn
      clear hvt hvr hvh hvs hd hx hrem hqne hqf hqok hqz s1 s2 hhq hrf hvx d0 d1 d2
      rcases hangR_ways vt vh vd vr vo vs with ⟨rfl, hh⟩ | ⟨rfl, rfl, hh⟩ | ⟨rfl, rfl, rfl, rfl, hh⟩ | ⟨rfl, rfl, ⟨rfl, rfl⟩ | rfl, rfl, rfl, hh⟩ | ⟨rfl, rfl, ⟨rfl, rfl⟩ | rfl, ⟨rfl, rfl⟩ | rfl, hh⟩
      iterate 5
        · rw [hh, if_pos rfl] at hr
          have HR := Lib.hid hr
          clear hr hh
          go_wp2_with (first
            | (go_at_call 19; go_loud (refine (hfd _ belA).mono ?_; rintro r w1 ⟨rfl, hb1⟩; have hc1 := bcell hb1; have hf1 := bfrozen hb1; have hz1 : wr.heap.size + 1 ≤ w1.heap.size := (by have := hb1.size; simpa using this); have hya : w.heap.size < w1.heap.size := (by omega); have hyb : w.heap.size + 1 < w1.heap.size := (by omega); have hyc : wr.heap.size < w1.heap.size := (by omega); have hyz : bv < w1.heap.size := (by omega)))
            | (go_at_call 20; go_loud (refine (htn _ belA).mono ?_; rintro r w2 ⟨rfl, hb2⟩; have hc2 := bcell hb2; have hf2 := bfrozen hb2; have hz2 := hb2.size; have hyd : w.heap.size < w2.heap.size := (by omega); have hye : w.heap.size + 1 < w2.heap.size := (by omega); have hyf : wr.heap.size < w2.heap.size := (by omega); have hyy : bv < w2.heap.size := (by omega)))
            | (go_at_call_of 21 (Value.string q.name); go_loud (refine (has_any LF Ao co q.name _ (hlo0.later belA)).mono ?_; rw [HVS.out]; rintro r w5 ⟨rfl, hb5⟩; have hc5 := bcell hb5; have hf5 := bfrozen hb5; have hz5 := hb5.size; have hyp : w.heap.size + 1 < w5.heap.size := (by omega)))
            | (go_at_call 21; go_loud (refine (has_any LF Ao co v.cn _ (hlo0.later belA)).mono ?_; rw [HVH.out]; rintro r w3 ⟨rfl, hb3⟩; have hc3 := bcell hb3; have hf3 := bfrozen hb3; have hz3 := hb3.size; have hyg : w.heap.size < w3.heap.size := (by omega); have hyh : w.heap.size + 1 < w3.heap.size := (by omega); have hyi : wr.heap.size < w3.heap.size := (by omega)))
            | (go_at_call 22; go_loud (refine (hrx _ belA).mono ?_; rintro r w4 ⟨rfl, hb4⟩; have hc4 := bcell hb4; have hf4 := bfrozen hb4; have hz4 := hb4.size; have hyj : w.heap.size < w4.heap.size := (by omega); have hyk : w.heap.size + 1 < w4.heap.size := (by omega); have hyl : wr.heap.size < w4.heap.size := (by omega))))
          refine bodyPost_ret (v := .agg #[.int .i64 3, .int .i64 (k : Int), .int .i64 23]) (by simp [results, Tryz.results8, go_sem, *]) rfl ⟨by rw [← HR.out], ?_⟩
          (repeat refine bel_drew ?_)
          exact belS
      iterate 4
        · rw [hh, if_neg (by simp)] at hr
          have HR := Lib.hid hr
          clear hr hh
          go_wp2_with (first
            | (go_at_call 19; go_loud (refine (hfd _ belA).mono ?_; rintro r w1 ⟨rfl, hb1⟩; have hc1 := bcell hb1; have hf1 := bfrozen hb1; have hz1 : wr.heap.size + 1 ≤ w1.heap.size := (by have := hb1.size; simpa using this); have hya : w.heap.size < w1.heap.size := (by omega); have hyb : w.heap.size + 1 < w1.heap.size := (by omega); have hyc : wr.heap.size < w1.heap.size := (by omega); have hyz : bv < w1.heap.size := (by omega)))
            | (go_at_call 20; go_loud (refine (htn _ belA).mono ?_; rintro r w2 ⟨rfl, hb2⟩; have hc2 := bcell hb2; have hf2 := bfrozen hb2; have hz2 := hb2.size; have hyd : w.heap.size < w2.heap.size := (by omega); have hye : w.heap.size + 1 < w2.heap.size := (by omega); have hyf : wr.heap.size < w2.heap.size := (by omega); have hyy : bv < w2.heap.size := (by omega)))
            | (go_at_call_of 21 (Value.string q.name); go_loud (refine (has_any LF Ao co q.name _ (hlo0.later belA)).mono ?_; rw [HVS.out]; rintro r w5 ⟨rfl, hb5⟩; have hc5 := bcell hb5; have hf5 := bfrozen hb5; have hz5 := hb5.size; have hyp : w.heap.size + 1 < w5.heap.size := (by omega)))
            | (go_at_call 21; go_loud (refine (has_any LF Ao co v.cn _ (hlo0.later belA)).mono ?_; rw [HVH.out]; rintro r w3 ⟨rfl, hb3⟩; have hc3 := bcell hb3; have hf3 := bfrozen hb3; have hz3 := hb3.size; have hyg : w.heap.size < w3.heap.size := (by omega); have hyh : w.heap.size + 1 < w3.heap.size := (by omega); have hyi : wr.heap.size < w3.heap.size := (by omega)))
            | (go_at_call 22; go_loud (refine (hrx _ belA).mono ?_; rintro r w4 ⟨rfl, hb4⟩; have hc4 := bcell hb4; have hf4 := bfrozen hb4; have hz4 := hb4.size; have hyj : w.heap.size < w4.heap.size := (by omega); have hyk : w.heap.size + 1 < w4.heap.size := (by omega); have hyl : wr.heap.size < w4.heap.size := (by omega))))
          go_roundw
          case rel => exact ⟨k + 1, by omega, by go_num, HR, belA⟩
          case measure => simp [intOf]; try omega
    · obtain rfl : k = p.eqs.length := by omega
      have hr := hrem.out
      rw [List.drop_length, startGo] at hr
      have HR := Lib.hid hr
      clear hr hrem
      go_wp2_with fail
      refine bodyPost_ret (v := .agg #[.int .i64 0, .int .i64 0, .int .i64 0]) (by simp [results, Tryz.results8, go_sem, *]) rfl ⟨by rw [← HR.out], ?_⟩
      (repeat refine bel_drew ?_)
      exact belS

theorem rscheck_any (p : Pr) (a : PrA) (w : World) (hp : PrAt w p a) (hok : PrOK p) (n1 : p.ins.length ≤ 1000000) (n2 : p.outs.length ≤ 1000000) (n3 : p.locals.length ≤ 1000000) (n4 : p.eqs.length ≤ 1000000) :
    Calls Tryz.prog 8 #[prV p a] w fun r w' => r = .returned (fV (startF p)) ∧ Below w.heap.size w w' := by
  by_cases hO : (orderE p).2 = (0, 0, 0)
  · exact rscheck_clean p a w hp hok n1 n2 n3 n4 hO
  · have h := rscheck_fault p a w hp hok n1 n2 n3 n4 (orderE_E hO)
    rw [show startF p = (orderE p).2 by unfold startF; rw [if_neg hO]]
    exact h
end Go.Proofs.YtikmbkojnfmiaaaGreatDoorRRRR

/- Walk over the law StartChecks: it answers true. -/
namespace Go.Proofs.YtikmbkojnfmiaaaGreatDoorRRRR
open Go.RowKit Go.Sort

set_option maxHeartbeats 8000000 in
theorem startChecks_any (p : Pr) (a : PrA) (w : World) (hg : Always w) (hp : PrAt w p a) (hok : PrOK p) :
    Calls Tryz.prog 3 #[prV p a] w fun r w' => r = .returned (.bool true) ∧ Below w.heap.size w w' := by
  have hlight := fun W h => lightS_any p a W (hp.later h)
  have hlent := Lib.hid (fun (n1 : p.ins.length ≤ 1000000) (n2 : p.outs.length ≤ 1000000) (n3 : p.locals.length ≤ 1000000) (n4 : p.eqs.length ≤ 1000000) (n5 : ∀ q ∈ p.eqs, q.first.size ≤ 1000000 ∧ q.e.size ≤ 1000000) W (h : Below w.heap.size w W) => lent_any p a W (hp.later h) n1 n2 n3 n4 n5)
  have hrchk := Lib.hid (fun (n1 : p.ins.length ≤ 1000000) (n2 : p.outs.length ≤ 1000000) (n3 : p.locals.length ≤ 1000000) (n4 : p.eqs.length ≤ 1000000) W (h : Below w.heap.size w W) => rscheck_any p a W (hp.later h) hok n1 n2 n3 n4)
  have hclk := Lib.hid (fun (a' : PrA) (wt : World) (hbt : Below w.heap.size w wt) (hpt : PrAt wt p a') (n1 : p.ins.length ≤ 1000000) (n2 : p.outs.length ≤ 1000000) (n3 : p.locals.length ≤ 1000000) (n4 : p.eqs.length ≤ 1000000) W (h : Below wt.heap.size wt W) => scheck_any p a' W ((hg.later hbt).later h) (hpt.later h) hok n1 n2 n3 n4)
  have hsam := Lib.hid (fun (a' : PrA) (wt : World) (hbt : Below w.heap.size w wt) (hpt : PrAt wt p a') W (h : Below wt.heap.size wt W) => same_self p a' a W (hpt.later h) ((hp.later hbt).later h))
  have hkn := fun W h => known17_any W (hg.later h)
  have hfq := fun w => eqFaultSelf16 (startF p).1 (startF p).2.1 (startF p).2.2 w
  have hgm : Tryz.prog.eqGuardType Tryz.prog.depth 31 = false := by kernel_rfl
  clear hg hp hok
  obtain ⟨A1, c1, A2, c2, A3, c3, A4, c4⟩ := a
  unfold prV fV at *
  dsimp only at *
  generalize (startF p).1 = f1 at *
  generalize (startF p).2.1 = f2 at *
  generalize (startF p).2.2 = f3 at *
  go_enter Tryz.func3, Tryz.ntmps3
  go_wp2_with (first
    | (go_at_call 4; go_loud (refine (hlight _ belA).mono ?_; rintro r wl ⟨⟨bl, rfl, hlb⟩, hbl⟩; have hcl := bcell hbl; have hzl := hbl.size; (try simp at hzl); have hyl : w.heap.size < wl.heap.size := (by omega); cases bl))
    | (go_at_call 5; refine (hkn _ belA).mono ?_; rintro r wn ⟨rfl, hbn⟩; have hcn := bcell hbn; have hzn := hbn.size)
    | (go_at_call 6; go_loud (have n1 : p.ins.length ≤ 1000000 := (by have := hlb (by trivial); omega); have n2 : p.outs.length ≤ 1000000 := (by have := hlb (by trivial); omega); have n3 : p.locals.length ≤ 1000000 := (by have := hlb (by trivial); omega); have n4 : p.eqs.length ≤ 1000000 := (by have := hlb (by trivial); omega); refine (hlent.out n1 n2 n3 n4 (hlb (by trivial)).2.2.2.2 _ belA).mono ?_; rintro r wt ⟨⟨⟨B1, k1, B2, k2, B3, k3, B4, k4⟩, rfl, hpt⟩, hbt⟩; have hct := bcell hbt; have hzt := hbt.size; have hyt : w.heap.size < wt.heap.size := (by omega); have hbw : Below w.heap.size w wt := belA; have hclk' := hclk.out _ wt hbw hpt n1 n2 n3 n4; have hsam' := hsam.out _ wt hbw hpt; have hrchk' := hrchk.out n1 n2 n3 n4; clear hclk hsam hrchk hlent hlight)))
  · go_ret
    exact ⟨rfl, belA⟩
  · skip
    refine wp_region_qb (by kernel_rfl) (by kernel_rfl) (fun hgq => ?_)
    repeat (quiet_step ((first | (go_at_call 7; exact Calls.regrown_of (hclk' _ belA)) | (go_at_call 8; exact Calls.regrown_of (hrchk' _ belA)) | (go_at_call 9; exact Calls.regrown_of (hsam' _ belA)) | (go_at_call 5; exact Calls.regrown_of (hkn _ belA)))))
    refine wpQuiet_nil ?_
    intro wq hwq
    replace hwq := bel_of_class hwq
    clear hgq
    have hcq := bcell hwq
    have hzq := hwq.size
    (try simp at hzq)
    (try have hyq1 := lt0 w wq); (try have hyq2 := ltA w 1 wq); (try have hyq3 := ltA w 2 wq); (try have hyq4 := lt0 wr wq)
    go_wp2_with fail
    go_ret
    exact ⟨rfl, belA⟩

end Go.Proofs.YtikmbkojnfmiaaaGreatDoorRRRR

/- What a row gives its walk: the listed variable's cells; the arguments opened. -/
namespace Go.Proofs.YtikmbkojnfmiaaaGreatDoorRRRR
open Go.ChangeShapes Go.WideShapes Go.ChangeAt Go.WideMaps Go.WideElems Go.RowKit

/-- The one listed variable, with what it holds. -/
def laidL : List (String × DataW Unit) := Rows.startChecksRow.laid

theorem door_met (os : Os) (args : Array Value) : laidMetH Tryz.prog laidL ((World.doorLaid Tryz.prog 400 os).forCall (fun _ _ => 0) ⟨#[], args, []⟩).memory :=
  laidMetH_of_parts3 (fuel := 8) (laidMet_of_run' 8 (by kernel_rfl) (by kernel_rfl)) (by kernel_rfl) (by kernel_rfl)

theorem of_laid {W : World} (h : laidMetH Tryz.prog laidL W) : Always W := by
  rw [MakeChecks.laidMetH_plain _ _ _ (by kernel_rfl)] at h
  obtain ⟨ps, ⟨g0, t0, cs0, f0, p0, q0, hg0, ht0, hv0, hd0, _, _⟩, _, _⟩ := h
  obtain rfl := Option.some.inj ((show Tryz.prog.globalNamed _ = some 0 by kernel_rfl).symm.trans hg0)
  obtain rfl := Option.some.inj ((show (Tryz.prog.globals[0]?).map (·.type) = some 41 by kernel_rfl).symm.trans ht0)
  obtain ⟨xs, n, rfl, hx, hlen, hxl, hg⟩ := DataW.trod_struct Tryz.underlying41 hd0
  rw [cellsClock] at hlen
  obtain ⟨cs0⟩ := cs0
  simp only [Prod.mk.injEq] at hx
  obtain ⟨hx, _⟩ := hx
  match cs0, hlen, xs, hxl with
  | [c0, c1], _, [y0, y1], _ =>
    have k0 : DataW.trod _ Tryz.prog W 0 _ _ n 3 (([c0, c1].drop 0).take (Tryz.prog.cellsOf 3)) = some y0 := hg 0 _ rfl
    have k1 : DataW.trod _ Tryz.prog W 0 _ _ n 9 (([c0, c1].drop 1).take (Tryz.prog.cellsOf 9)) = some y1 := hg 1 _ rfl
    rw [cellsInt] at k0
    rw [cellsString] at k1
    obtain ⟨k, hk, hy0, _⟩ := DataW.trod_int Tryz.underlying3 k0
    obtain ⟨s, hs, hy1, _⟩ := DataW.trod_string Tryz.underlying9 k1
    simp at hk hs
    subst hk hs
    subst hy0 hy1
    have hd : (DataW.agg [.lit (.int .i64 0), .lit (.string [])] : DataW Unit) = .agg [.lit (.int .i64 k), .lit (.string s.data.toList)] := hx
    injection hd with hd
    injection hd with h1 h2
    injection h1 with h1
    injection h1 with _ h1
    injection h2 with h2 _
    injection h2 with h2
    injection h2 with h2
    have hs0 : s = ⟨#[]⟩ := WideShapes.bytes_inj (by rw [← h2])
    subst h1 hs0
    have e0 := World.var?_cell hg0 hv0 0
    have e1 := World.var?_cell hg0 hv0 1
    exact ⟨by simpa using e0, by simpa using e1⟩

section
variable {H : Type} {enc : TypeId × Value → H} {w : World} {spare : Nat → Bool} {held : Bool}
theorem open_ex_arg {base : Nat} {v : Value} {d : DataW H} {ps : List MemPlace} (hv : Value.okWide Tryz.prog w .any base 37 v) (h : DataW.Trod enc Tryz.prog w 0 spare held 37 v d ps) :
    ∃ (e : Ex) (A : Option Addr) (cap : Nat), v = exV e A cap ∧ SubsAt w e A cap ∧ e.OK := by
  obtain ⟨cs, rfl, hsz⟩ := okWide_struct Tryz.underlying37 hv
  obtain ⟨fuel, hf⟩ := h
  obtain ⟨cs⟩ := cs
  obtain ⟨e, A, cap, he, h1, h2⟩ := open_ex _ _ _ hf
  simp only [Value.cells] at he
  subst he
  exact ⟨e, A, cap, rfl, h1, h2⟩
theorem open_vars_arg {base : Nat} {v : Value} {d : DataW H} {ps : List MemPlace} (hv : Value.okWide Tryz.prog w .any base 22 v) (h : DataW.Trod enc Tryz.prog w 0 spare held 22 v d ps) :
    ∃ (l : List Va) (A : Option Addr) (cap : Nat), v = .slice A l.length cap ∧ VarsAt w l A cap ∧ ∀ x ∈ l, VaOK x := by
  obtain ⟨a0, len, cap, rfl⟩ := okWide_slice Tryz.underlying22 hv
  obtain ⟨fuel, hf⟩ := h
  obtain ⟨l, A, cap', hc, h1, h2⟩ := open_vars hf
  simp only [Value.cells, List.cons.injEq, and_true] at hc
  exact ⟨l, A, cap', hc, h1, h2⟩
theorem clock_cells {fuel : Nat} {cs : List Value} {x : DataW H × List MemPlace} (h : DataW.trod enc Tryz.prog w 0 spare held fuel 41 cs = some x) :
    ∃ (k : Int) (s : ByteArray), cs = [.int .i64 k, .string s] ∧ I64 k ∧ s.size ≤ maxLen := by
  obtain ⟨xs, n, rfl, hx, hlen, hxl, hg⟩ := DataW.trod_struct Tryz.underlying41 h
  rw [cellsClock] at hlen
  match cs, hlen, xs, hxl with
  | [c0, c1], _, [y0, y1], _ =>
    have k0 : DataW.trod enc Tryz.prog w 0 spare held n 3 (([c0, c1].drop 0).take (Tryz.prog.cellsOf 3)) = some y0 := hg 0 _ rfl
    have k1 : DataW.trod enc Tryz.prog w 0 spare held n 9 (([c0, c1].drop 1).take (Tryz.prog.cellsOf 9)) = some y1 := hg 1 _ rfl
    rw [cellsInt] at k0
    rw [cellsString] at k1
    obtain ⟨k, hk, _, wk⟩ := DataW.trod_int Tryz.underlying3 k0
    obtain ⟨s, hs, _, ws⟩ := DataW.trod_string Tryz.underlying9 k1
    simp at hk hs
    subst hk hs
    exact ⟨k, s, rfl, i64_of wk, ws⟩
theorem open_clock_arg {base : Nat} {v : Value} {d : DataW H} {ps : List MemPlace} (hv : Value.okWide Tryz.prog w .any base 41 v) (h : DataW.Trod enc Tryz.prog w 0 spare held 41 v d ps) :
    ∃ (k : Int) (s : ByteArray), v = .agg #[.int .i64 k, .string s] ∧ I64 k ∧ s.size ≤ maxLen := by
  obtain ⟨cs, rfl, hsz⟩ := okWide_struct Tryz.underlying41 hv
  obtain ⟨fuel, hf⟩ := h
  obtain ⟨cs⟩ := cs
  obtain ⟨k, s, he, h1, h2⟩ := clock_cells hf
  simp only [Value.cells] at he
  subst he
  exact ⟨k, s, rfl, h1, h2⟩
end
theorem recExpr : Tryz.prog.readableRec 37 = true := by kernel_rfl
theorem rowExpr : 37 < Tryz.prog.types.size := of_decide_eq_true (by kernel_rfl)
theorem recClock : Tryz.prog.readableRec 41 = true := by kernel_rfl
theorem rowClock : 41 < Tryz.prog.types.size := of_decide_eq_true (by kernel_rfl)
theorem recVars : Tryz.prog.readableRec 22 = true := by kernel_rfl
theorem rowVars : 22 < Tryz.prog.types.size := of_decide_eq_true (by kernel_rfl)

end Go.Proofs.YtikmbkojnfmiaaaGreatDoorRRRR
