/- Walk over tree.whole. -/
import Derived.Test.YtikmbkojnfmiaaaGreatDoorRRRRBA
set_option linter.unusedVariables false
set_option linter.unusedSimpArgs false
set_option maxRecDepth 100000
namespace Go.Proofs.YtikmbkojnfmiaaaGreatDoorRRRR
open Go.RowKit Go.Sort

/-- What the switch in tree.whole gives. -/
def delayB (q : Qe) : Bool := if q.delay = 1 then q.first.literal else if q.delay = 0 ∨ q.delay = 2 then q.first.same Ex.zero else false
theorem eqB_eq (q : Qe) : eqB q = (nameB q.name && q.e.right == 0 && delayB q) := rfl
theorem zeroAt (w : World) : SubsAt w Ex.zero none 0 := by simp [SubsAt, Ex.zero]
theorem bel_w0 {w W0 a : World} (h : Below w.heap.size w W0) (k : Below W0.heap.size W0 a) : Below w.heap.size w a := bel_trans h k

set_option maxHeartbeats 2000000 in
theorem whole_any (p : Pr) (a : PrA) (w : World) (hp : PrAt w p a) :
    Calls Tryz.prog 53 #[prV p a] w fun r w' => r = .returned (.bool (wholeB p)) ∧ Below w.heap.size w w' := by
  have hl1 := hp.ins.len
  have hl2 := hp.outs.len
  have hl3 := hp.locals.len
  have hl4 := hp.eqs.len
  unfold maxLen at hl1 hl2 hl3 hl4
  obtain ⟨hl1, hm1⟩ := hl1
  obtain ⟨hl2, hm2⟩ := hl2
  obtain ⟨hl3, hm3⟩ := hl3
  obtain ⟨hl4, hm4⟩ := hl4
  obtain ⟨A1, c1, A2, c2, A3, c3, A4, c4⟩ := a
  unfold prV
  dsimp only at *
  go_enter Tryz.func53, Tryz.ntmps53
  go_wp2_with (first | (go_at_call 67; refine (name_any _ _).mono ?_; rintro r w1 ⟨rfl, hb1⟩; have hc1 := bcell hb1; have hz1 := hb1.size; (try simp at hz1); (try have hy1 := lt0 w w1); (try have hy2 := ltA w 1 w1); (try have hy3 := ltA w 2 w1); (try have hy4 := lt0 wr w1); (try have hy5 := ltA wr 1 w1)))
  refine wp_name fun W0 hW0 => ?_
  have hb0 : Below w.heap.size w W0 := by rw [hW0]; exact belA
  have hz0 : w.heap.size < W0.heap.size := by rw [hW0]; first | omega | (simp; omega)
  have k1 : W0.cell? ⟨w.heap.size, 1, none⟩ = some (.slice A1 p.ins.length c1) := by rw [hW0]; go_simp
  have k2 : W0.cell? ⟨w.heap.size, 2, none⟩ = some (.slice A2 p.outs.length c2) := by rw [hW0]; go_simp
  have k3 : W0.cell? ⟨w.heap.size, 3, none⟩ = some (.slice A3 p.locals.length c3) := by rw [hW0]; go_simp
  have k4 : W0.cell? ⟨w.heap.size, 4, none⟩ = some (.slice A4 p.eqs.length c4) := by rw [hW0]; go_simp
  clear hW0
  have hp0 := hp.later hb0
  obtain ⟨hp1, hp2, hp3, hp4⟩ := hp0
  dsimp only at hp1 hp2 hp3 hp4
  have hl : (nameB p.name && (p.ins.drop 0).all (variableB · false)) = (nameB p.name && p.ins.all (variableB · false)) := rfl
  have HL := Lib.hid hl; clear hl
  go_loopw [3, 18] (fun o i wr => ∃ (k : Nat) (b1 : Bool), k ≤ p.ins.length ∧ i = .int .i64 k ∧ o =   .bool b1 ∧ (b1 && (p.ins.drop k).all (variableB · false)) = (nameB p.name && p.ins.all (variableB · false)) ∧ Below W0.heap.size W0 wr) (fun _ i _ => p.ins.length - (intOf i).toNat)
  case atStart => exact ⟨0, _, Nat.zero_le _, rfl, rfl, HL.out, by first | exact Below.refl _ _ | assumption⟩
  case round =>
  obtain ⟨k, b1, hk, rfl, rfl, hrem, hbel⟩ := hrel
  have hc := bcell hbel
  have hzr := hbel.size
  by_cases hlt : k < p.ins.length
  · have hx : p.ins[k]? = some p.ins[k] := List.getElem?_eq_getElem hlt
    have hd : p.ins.drop k = p.ins[k] :: p.ins.drop (k + 1) := List.drop_eq_getElem_cons hlt
    generalize p.ins[k] = x at hx hd
    obtain ⟨b, off, rfl, hbb, ⟨d0, d1, d2, d3⟩⟩ := (hp1.later hbel).get hx
    rw [hd, List.all_cons] at hrem
    have hvar := fun W => variable_any x false W
    unfold vaV at hvar
    cases b1
    · rw [Bool.false_and] at hrem
      have HR := Lib.hid hrem; clear hrem hd hx
      go_wp2_with fail
      go_roundw
      case rel => exact ⟨k + 1, false, by omega, by go_num, rfl, by rw [Bool.false_and]; exact HR.out, belA⟩
      case measure => simp [intOf]; omega
    · rw [Bool.true_and] at hrem
      have HR := Lib.hid hrem; clear hrem hd hx
      go_wp2_with (first | (go_at_call 68; refine (hvar _).mono ?_; rintro r w1 ⟨rfl, hb1⟩; have hc1 := bcell hb1; have hz1 := hb1.size; (try simp at hz1); (try have hy1 := lt0 w w1); (try have hy2 := ltA w 1 w1); (try have hy3 := ltA w 2 w1); (try have hy4 := lt0 wr w1); (try have hy5 := ltA wr 1 w1)))
      go_roundw
      case rel => exact ⟨k + 1, variableB x false, by omega, by go_num, rfl, HR.out, belA⟩
      case measure => simp [intOf]; omega
  have hke : k = p.ins.length := by omega
  rw [hke, List.drop_length, List.all_nil, Bool.and_true] at hrem
  clear hke
  have HX1 := Lib.hid hrem; clear hrem
  go_wp2_with fail
  have hl : (b1 && (p.outs.drop 0).all (variableB · false)) = (b1 && p.outs.all (variableB · false)) := rfl
  have HL := Lib.hid hl; clear hl
  go_loopw [3, 31] (fun o i wr => ∃ (k : Nat) (b2 : Bool), k ≤ p.outs.length ∧ i = .int .i64 k ∧ o =   .bool b2 ∧ (b2 && (p.outs.drop k).all (variableB · false)) = (b1 && p.outs.all (variableB · false)) ∧ Below W0.heap.size W0 wr) (fun _ i _ => p.outs.length - (intOf i).toNat)
  case atStart => exact ⟨0, _, Nat.zero_le _, rfl, rfl, HL.out, by first | exact Below.refl _ _ | assumption⟩
  case round =>
  obtain ⟨k, b2, hk, rfl, rfl, hrem, hbel⟩ := hrel
  have hc := bcell hbel
  have hzr := hbel.size
  by_cases hlt : k < p.outs.length
  · have hx : p.outs[k]? = some p.outs[k] := List.getElem?_eq_getElem hlt
    have hd : p.outs.drop k = p.outs[k] :: p.outs.drop (k + 1) := List.drop_eq_getElem_cons hlt
    generalize p.outs[k] = x at hx hd
    obtain ⟨b, off, rfl, hbb, ⟨d0, d1, d2, d3⟩⟩ := (hp2.later hbel).get hx
    rw [hd, List.all_cons] at hrem
    have hvar := fun W => variable_any x false W
    unfold vaV at hvar
    cases b2
    · rw [Bool.false_and] at hrem
      have HR := Lib.hid hrem; clear hrem hd hx
      go_wp2_with fail
      go_roundw
      case rel => exact ⟨k + 1, false, by omega, by go_num, rfl, by rw [Bool.false_and]; exact HR.out, belA⟩
      case measure => simp [intOf]; omega
    · rw [Bool.true_and] at hrem
      have HR := Lib.hid hrem; clear hrem hd hx
      go_wp2_with (first | (go_at_call 68; refine (hvar _).mono ?_; rintro r w1 ⟨rfl, hb1⟩; have hc1 := bcell hb1; have hz1 := hb1.size; (try simp at hz1); (try have hy1 := lt0 w w1); (try have hy2 := ltA w 1 w1); (try have hy3 := ltA w 2 w1); (try have hy4 := lt0 wr w1); (try have hy5 := ltA wr 1 w1)))
      go_roundw
      case rel => exact ⟨k + 1, variableB x false, by omega, by go_num, rfl, HR.out, belA⟩
      case measure => simp [intOf]; omega
  have hke : k = p.outs.length := by omega
  rw [hke, List.drop_length, List.all_nil, Bool.and_true] at hrem
  clear hke
  have HX2 := Lib.hid hrem; clear hrem
  go_wp2_with fail
  have hl : (b2 && (p.locals.drop 0).all (variableB · true)) = (b2 && p.locals.all (variableB · true)) := rfl
  have HL := Lib.hid hl; clear hl
  go_loopw [3, 44] (fun o i wr => ∃ (k : Nat) (b3 : Bool), k ≤ p.locals.length ∧ i = .int .i64 k ∧ o =   .bool b3 ∧ (b3 && (p.locals.drop k).all (variableB · true)) = (b2 && p.locals.all (variableB · true)) ∧ Below W0.heap.size W0 wr) (fun _ i _ => p.locals.length - (intOf i).toNat)
  case atStart => exact ⟨0, _, Nat.zero_le _, rfl, rfl, HL.out, by first | exact Below.refl _ _ | assumption⟩
  case round =>
  obtain ⟨k, b3, hk, rfl, rfl, hrem, hbel⟩ := hrel
  have hc := bcell hbel
  have hzr := hbel.size
  by_cases hlt : k < p.locals.length
  · have hx : p.locals[k]? = some p.locals[k] := List.getElem?_eq_getElem hlt
    have hd : p.locals.drop k = p.locals[k] :: p.locals.drop (k + 1) := List.drop_eq_getElem_cons hlt
    generalize p.locals[k] = x at hx hd
    obtain ⟨b, off, rfl, hbb, ⟨d0, d1, d2, d3⟩⟩ := (hp3.later hbel).get hx
    rw [hd, List.all_cons] at hrem
    have hvar := fun W => variable_any x true W
    unfold vaV at hvar
    cases b3
    · rw [Bool.false_and] at hrem
      have HR := Lib.hid hrem; clear hrem hd hx
      go_wp2_with fail
      go_roundw
      case rel => exact ⟨k + 1, false, by omega, by go_num, rfl, by rw [Bool.false_and]; exact HR.out, belA⟩
      case measure => simp [intOf]; omega
    · rw [Bool.true_and] at hrem
      have HR := Lib.hid hrem; clear hrem hd hx
      go_wp2_with (first | (go_at_call 68; refine (hvar _).mono ?_; rintro r w1 ⟨rfl, hb1⟩; have hc1 := bcell hb1; have hz1 := hb1.size; (try simp at hz1); (try have hy1 := lt0 w w1); (try have hy2 := ltA w 1 w1); (try have hy3 := ltA w 2 w1); (try have hy4 := lt0 wr w1); (try have hy5 := ltA wr 1 w1)))
      go_roundw
      case rel => exact ⟨k + 1, variableB x true, by omega, by go_num, rfl, HR.out, belA⟩
      case measure => simp [intOf]; omega
  have hke : k = p.locals.length := by omega
  rw [hke, List.drop_length, List.all_nil, Bool.and_true] at hrem
  clear hke
  have HX3 := Lib.hid hrem; clear hrem
  have hl : (b3 && (p.eqs.drop 0).all eqB) = wholeB p := by
    rw [HX3.out, HX2.out, HX1.out]; rfl
  have HL := Lib.hid hl; clear hl
  go_wp2_with fail
  go_loopw [3, 57] (fun o i wr => ∃ (k : Nat) (b4 : Bool), k ≤ p.eqs.length ∧ i = .int .i64 k ∧ o = .bool b4 ∧ (b4 && (p.eqs.drop k).all eqB) = wholeB p ∧ Below W0.heap.size W0 wr) (fun _ i _ => p.eqs.length - (intOf i).toNat)
  case atStart => exact ⟨0, _, Nat.zero_le _, rfl, rfl, HL.out, by first | exact Below.refl _ _ | assumption⟩
  case round =>
  obtain ⟨k, b4, hk, rfl, rfl, hrem, hbel⟩ := hrel
  have hc := bcell hbel
  have hzr := hbel.size
  by_cases hlt : k < p.eqs.length
  · have hx : p.eqs[k]? = some p.eqs[k] := List.getElem?_eq_getElem hlt
    have hd : p.eqs.drop k = p.eqs[k] :: p.eqs.drop (k + 1) := List.drop_eq_getElem_cons hlt
    generalize p.eqs[k] = q at hx hd
    obtain ⟨b, off, B1, n1, B2, n2, rfl, hbb, ⟨g0, g1, g2, g3, g4, g5, g6, g7, g8, g9, s1, s2⟩⟩ := (hp4.later hbel).get hx
    rw [hd, List.all_cons, eqB_eq] at hrem
    have hright := fun W h => right_any q.e B2 n2 W (s2.later h)
    have hlit := fun W h => literal_any q.first B1 n1 W (s1.later h)
    have hsame := fun W h => same_any q.first Ex.zero B1 n1 none 0 W (s1.later h) (zeroAt _)
    unfold exV at hright hlit hsame
    unfold Ex.zero at hsame
    simp only [Ex.kind, Ex.n, Ex.name, Ex.sub, List.length_nil] at hsame
    by_cases q1 : q.delay = 1
    · have q1' : (q.delay == 1) = true := by simp [q1]
      have hdl : delayB q = q.first.literal := by unfold delayB; rw [if_pos q1]
      clear q1
      rw [hdl] at hrem
      cases b4
      · replace hrem : (false && (List.drop (k + 1) p.eqs).all eqB) = wholeB p := by rw [← hrem]; simp only [Bool.false_and, Bool.and_false]
        have HR := Lib.hid hrem; clear hrem hd hx
        go_wp2_with (first | (go_at_call 67; refine (name_any _ _).mono ?_; rintro r w1 ⟨rfl, hb1⟩; have hc1 := bcell hb1; have hz1 := hb1.size; (try simp at hz1); (try have hy1 := lt0 w w1); (try have hy2 := ltA w 1 w1); (try have hy3 := ltA w 2 w1); (try have hy4 := lt0 wr w1); (try have hy5 := ltA wr 1 w1)) | (go_at_call 69; refine (hright _ belA).mono ?_; rintro r w1 ⟨rfl, hb1⟩; have hc1 := bcell hb1; have hz1 := hb1.size; (try simp at hz1); (try have hy1 := lt0 w w1); (try have hy2 := ltA w 1 w1); (try have hy3 := ltA w 2 w1); (try have hy4 := lt0 wr w1); (try have hy5 := ltA wr 1 w1)) | (go_at_call 70; refine (hlit _ belA).mono ?_; rintro r w1 ⟨rfl, hb1⟩; have hc1 := bcell hb1; have hz1 := hb1.size; (try simp at hz1); (try have hy1 := lt0 w w1); (try have hy2 := ltA w 1 w1); (try have hy3 := ltA w 2 w1); (try have hy4 := lt0 wr w1); (try have hy5 := ltA wr 1 w1)) | (go_at_call 71; refine (hsame _ belA).mono ?_; rintro r w1 ⟨rfl, hb1⟩; have hc1 := bcell hb1; have hz1 := hb1.size; (try simp at hz1); (try have hy1 := lt0 w w1); (try have hy2 := ltA w 1 w1); (try have hy3 := ltA w 2 w1); (try have hy4 := lt0 wr w1); (try have hy5 := ltA wr 1 w1)))
        go_roundw
        case rel => exact ⟨k + 1, _, by omega, by go_num, rfl, HR.out, belA⟩
        case measure => simp [intOf]; omega
      cases hn : nameB q.name
      · rw [hn] at hrem
        replace hrem : (false && (List.drop (k + 1) p.eqs).all eqB) = wholeB p := by rw [← hrem]; simp only [Bool.false_and, Bool.and_false]
        have HR := Lib.hid hrem; clear hrem hd hx
        go_wp2_with (first | (go_at_call 67; refine (name_any _ _).mono ?_; rintro r w1 ⟨rfl, hb1⟩; have hc1 := bcell hb1; have hz1 := hb1.size; (try simp at hz1); (try have hy1 := lt0 w w1); (try have hy2 := ltA w 1 w1); (try have hy3 := ltA w 2 w1); (try have hy4 := lt0 wr w1); (try have hy5 := ltA wr 1 w1)) | (go_at_call 69; refine (hright _ belA).mono ?_; rintro r w1 ⟨rfl, hb1⟩; have hc1 := bcell hb1; have hz1 := hb1.size; (try simp at hz1); (try have hy1 := lt0 w w1); (try have hy2 := ltA w 1 w1); (try have hy3 := ltA w 2 w1); (try have hy4 := lt0 wr w1); (try have hy5 := ltA wr 1 w1)) | (go_at_call 70; refine (hlit _ belA).mono ?_; rintro r w1 ⟨rfl, hb1⟩; have hc1 := bcell hb1; have hz1 := hb1.size; (try simp at hz1); (try have hy1 := lt0 w w1); (try have hy2 := ltA w 1 w1); (try have hy3 := ltA w 2 w1); (try have hy4 := lt0 wr w1); (try have hy5 := ltA wr 1 w1)) | (go_at_call 71; refine (hsame _ belA).mono ?_; rintro r w1 ⟨rfl, hb1⟩; have hc1 := bcell hb1; have hz1 := hb1.size; (try simp at hz1); (try have hy1 := lt0 w w1); (try have hy2 := ltA w 1 w1); (try have hy3 := ltA w 2 w1); (try have hy4 := lt0 wr w1); (try have hy5 := ltA wr 1 w1)))
        go_roundw
        case rel => exact ⟨k + 1, _, by omega, by go_num, rfl, HR.out, belA⟩
        case measure => simp [intOf]; omega
      cases hr : (q.e.right == 0)
      · rw [hn, hr] at hrem
        replace hrem : (false && (List.drop (k + 1) p.eqs).all eqB) = wholeB p := by rw [← hrem]; simp only [Bool.false_and, Bool.and_false]
        have HR := Lib.hid hrem; clear hrem hd hx
        go_wp2_with (first | (go_at_call 67; refine (name_any _ _).mono ?_; rintro r w1 ⟨rfl, hb1⟩; have hc1 := bcell hb1; have hz1 := hb1.size; (try simp at hz1); (try have hy1 := lt0 w w1); (try have hy2 := ltA w 1 w1); (try have hy3 := ltA w 2 w1); (try have hy4 := lt0 wr w1); (try have hy5 := ltA wr 1 w1)) | (go_at_call 69; refine (hright _ belA).mono ?_; rintro r w1 ⟨rfl, hb1⟩; have hc1 := bcell hb1; have hz1 := hb1.size; (try simp at hz1); (try have hy1 := lt0 w w1); (try have hy2 := ltA w 1 w1); (try have hy3 := ltA w 2 w1); (try have hy4 := lt0 wr w1); (try have hy5 := ltA wr 1 w1)) | (go_at_call 70; refine (hlit _ belA).mono ?_; rintro r w1 ⟨rfl, hb1⟩; have hc1 := bcell hb1; have hz1 := hb1.size; (try simp at hz1); (try have hy1 := lt0 w w1); (try have hy2 := ltA w 1 w1); (try have hy3 := ltA w 2 w1); (try have hy4 := lt0 wr w1); (try have hy5 := ltA wr 1 w1)) | (go_at_call 71; refine (hsame _ belA).mono ?_; rintro r w1 ⟨rfl, hb1⟩; have hc1 := bcell hb1; have hz1 := hb1.size; (try simp at hz1); (try have hy1 := lt0 w w1); (try have hy2 := ltA w 1 w1); (try have hy3 := ltA w 2 w1); (try have hy4 := lt0 wr w1); (try have hy5 := ltA wr 1 w1)))
        go_roundw
        case rel => exact ⟨k + 1, _, by omega, by go_num, rfl, HR.out, belA⟩
        case measure => simp [intOf]; omega
      rw [hn, hr] at hrem
      replace hrem : (q.first.literal && (List.drop (k + 1) p.eqs).all eqB) = wholeB p := by rw [← hrem]; simp only [Bool.true_and, Bool.and_true]
      have HR := Lib.hid hrem; clear hrem hd hx
      go_wp2_with (first | (go_at_call 67; refine (name_any _ _).mono ?_; rintro r w1 ⟨rfl, hb1⟩; have hc1 := bcell hb1; have hz1 := hb1.size; (try simp at hz1); (try have hy1 := lt0 w w1); (try have hy2 := ltA w 1 w1); (try have hy3 := ltA w 2 w1); (try have hy4 := lt0 wr w1); (try have hy5 := ltA wr 1 w1)) | (go_at_call 69; refine (hright _ belA).mono ?_; rintro r w1 ⟨rfl, hb1⟩; have hc1 := bcell hb1; have hz1 := hb1.size; (try simp at hz1); (try have hy1 := lt0 w w1); (try have hy2 := ltA w 1 w1); (try have hy3 := ltA w 2 w1); (try have hy4 := lt0 wr w1); (try have hy5 := ltA wr 1 w1)) | (go_at_call 70; refine (hlit _ belA).mono ?_; rintro r w1 ⟨rfl, hb1⟩; have hc1 := bcell hb1; have hz1 := hb1.size; (try simp at hz1); (try have hy1 := lt0 w w1); (try have hy2 := ltA w 1 w1); (try have hy3 := ltA w 2 w1); (try have hy4 := lt0 wr w1); (try have hy5 := ltA wr 1 w1)) | (go_at_call 71; refine (hsame _ belA).mono ?_; rintro r w1 ⟨rfl, hb1⟩; have hc1 := bcell hb1; have hz1 := hb1.size; (try simp at hz1); (try have hy1 := lt0 w w1); (try have hy2 := ltA w 1 w1); (try have hy3 := ltA w 2 w1); (try have hy4 := lt0 wr w1); (try have hy5 := ltA wr 1 w1)))
      go_roundw
      case rel => exact ⟨k + 1, _, by omega, by go_num, rfl, HR.out, belA⟩
      case measure => simp [intOf]; omega
    by_cases q0 : q.delay = 0
    · have q0' : (q.delay == 0) = true := by simp [q0]
      have hdl : delayB q = q.first.same Ex.zero := by unfold delayB; rw [if_neg q1, if_pos (.inl q0)]
      clear q0
      rw [hdl] at hrem
      cases b4
      · replace hrem : (false && (List.drop (k + 1) p.eqs).all eqB) = wholeB p := by rw [← hrem]; simp only [Bool.false_and, Bool.and_false]
        have HR := Lib.hid hrem; clear hrem hd hx
        go_wp2_with (first | (go_at_call 67; refine (name_any _ _).mono ?_; rintro r w1 ⟨rfl, hb1⟩; have hc1 := bcell hb1; have hz1 := hb1.size; (try simp at hz1); (try have hy1 := lt0 w w1); (try have hy2 := ltA w 1 w1); (try have hy3 := ltA w 2 w1); (try have hy4 := lt0 wr w1); (try have hy5 := ltA wr 1 w1)) | (go_at_call 69; refine (hright _ belA).mono ?_; rintro r w1 ⟨rfl, hb1⟩; have hc1 := bcell hb1; have hz1 := hb1.size; (try simp at hz1); (try have hy1 := lt0 w w1); (try have hy2 := ltA w 1 w1); (try have hy3 := ltA w 2 w1); (try have hy4 := lt0 wr w1); (try have hy5 := ltA wr 1 w1)) | (go_at_call 70; refine (hlit _ belA).mono ?_; rintro r w1 ⟨rfl, hb1⟩; have hc1 := bcell hb1; have hz1 := hb1.size; (try simp at hz1); (try have hy1 := lt0 w w1); (try have hy2 := ltA w 1 w1); (try have hy3 := ltA w 2 w1); (try have hy4 := lt0 wr w1); (try have hy5 := ltA wr 1 w1)) | (go_at_call 71; refine (hsame _ belA).mono ?_; rintro r w1 ⟨rfl, hb1⟩; have hc1 := bcell hb1; have hz1 := hb1.size; (try simp at hz1); (try have hy1 := lt0 w w1); (try have hy2 := ltA w 1 w1); (try have hy3 := ltA w 2 w1); (try have hy4 := lt0 wr w1); (try have hy5 := ltA wr 1 w1)))
        go_roundw
        case rel => exact ⟨k + 1, _, by omega, by go_num, rfl, HR.out, belA⟩
        case measure => simp [intOf]; omega
      cases hn : nameB q.name
      · rw [hn] at hrem
        replace hrem : (false && (List.drop (k + 1) p.eqs).all eqB) = wholeB p := by rw [← hrem]; simp only [Bool.false_and, Bool.and_false]
        have HR := Lib.hid hrem; clear hrem hd hx
        go_wp2_with (first | (go_at_call 67; refine (name_any _ _).mono ?_; rintro r w1 ⟨rfl, hb1⟩; have hc1 := bcell hb1; have hz1 := hb1.size; (try simp at hz1); (try have hy1 := lt0 w w1); (try have hy2 := ltA w 1 w1); (try have hy3 := ltA w 2 w1); (try have hy4 := lt0 wr w1); (try have hy5 := ltA wr 1 w1)) | (go_at_call 69; refine (hright _ belA).mono ?_; rintro r w1 ⟨rfl, hb1⟩; have hc1 := bcell hb1; have hz1 := hb1.size; (try simp at hz1); (try have hy1 := lt0 w w1); (try have hy2 := ltA w 1 w1); (try have hy3 := ltA w 2 w1); (try have hy4 := lt0 wr w1); (try have hy5 := ltA wr 1 w1)) | (go_at_call 70; refine (hlit _ belA).mono ?_; rintro r w1 ⟨rfl, hb1⟩; have hc1 := bcell hb1; have hz1 := hb1.size; (try simp at hz1); (try have hy1 := lt0 w w1); (try have hy2 := ltA w 1 w1); (try have hy3 := ltA w 2 w1); (try have hy4 := lt0 wr w1); (try have hy5 := ltA wr 1 w1)) | (go_at_call 71; refine (hsame _ belA).mono ?_; rintro r w1 ⟨rfl, hb1⟩; have hc1 := bcell hb1; have hz1 := hb1.size; (try simp at hz1); (try have hy1 := lt0 w w1); (try have hy2 := ltA w 1 w1); (try have hy3 := ltA w 2 w1); (try have hy4 := lt0 wr w1); (try have hy5 := ltA wr 1 w1)))
        go_roundw
        case rel => exact ⟨k + 1, _, by omega, by go_num, rfl, HR.out, belA⟩
        case measure => simp [intOf]; omega
      cases hr : (q.e.right == 0)
      · rw [hn, hr] at hrem
        replace hrem : (false && (List.drop (k + 1) p.eqs).all eqB) = wholeB p := by rw [← hrem]; simp only [Bool.false_and, Bool.and_false]
        have HR := Lib.hid hrem; clear hrem hd hx
        go_wp2_with (first | (go_at_call 67; refine (name_any _ _).mono ?_; rintro r w1 ⟨rfl, hb1⟩; have hc1 := bcell hb1; have hz1 := hb1.size; (try simp at hz1); (try have hy1 := lt0 w w1); (try have hy2 := ltA w 1 w1); (try have hy3 := ltA w 2 w1); (try have hy4 := lt0 wr w1); (try have hy5 := ltA wr 1 w1)) | (go_at_call 69; refine (hright _ belA).mono ?_; rintro r w1 ⟨rfl, hb1⟩; have hc1 := bcell hb1; have hz1 := hb1.size; (try simp at hz1); (try have hy1 := lt0 w w1); (try have hy2 := ltA w 1 w1); (try have hy3 := ltA w 2 w1); (try have hy4 := lt0 wr w1); (try have hy5 := ltA wr 1 w1)) | (go_at_call 70; refine (hlit _ belA).mono ?_; rintro r w1 ⟨rfl, hb1⟩; have hc1 := bcell hb1; have hz1 := hb1.size; (try simp at hz1); (try have hy1 := lt0 w w1); (try have hy2 := ltA w 1 w1); (try have hy3 := ltA w 2 w1); (try have hy4 := lt0 wr w1); (try have hy5 := ltA wr 1 w1)) | (go_at_call 71; refine (hsame _ belA).mono ?_; rintro r w1 ⟨rfl, hb1⟩; have hc1 := bcell hb1; have hz1 := hb1.size; (try simp at hz1); (try have hy1 := lt0 w w1); (try have hy2 := ltA w 1 w1); (try have hy3 := ltA w 2 w1); (try have hy4 := lt0 wr w1); (try have hy5 := ltA wr 1 w1)))
        go_roundw
        case rel => exact ⟨k + 1, _, by omega, by go_num, rfl, HR.out, belA⟩
        case measure => simp [intOf]; omega
      rw [hn, hr] at hrem
      replace hrem : (q.first.same Ex.zero && (List.drop (k + 1) p.eqs).all eqB) = wholeB p := by rw [← hrem]; simp only [Bool.true_and, Bool.and_true]
      have HR := Lib.hid hrem; clear hrem hd hx
      go_wp2_with (first | (go_at_call 67; refine (name_any _ _).mono ?_; rintro r w1 ⟨rfl, hb1⟩; have hc1 := bcell hb1; have hz1 := hb1.size; (try simp at hz1); (try have hy1 := lt0 w w1); (try have hy2 := ltA w 1 w1); (try have hy3 := ltA w 2 w1); (try have hy4 := lt0 wr w1); (try have hy5 := ltA wr 1 w1)) | (go_at_call 69; refine (hright _ belA).mono ?_; rintro r w1 ⟨rfl, hb1⟩; have hc1 := bcell hb1; have hz1 := hb1.size; (try simp at hz1); (try have hy1 := lt0 w w1); (try have hy2 := ltA w 1 w1); (try have hy3 := ltA w 2 w1); (try have hy4 := lt0 wr w1); (try have hy5 := ltA wr 1 w1)) | (go_at_call 70; refine (hlit _ belA).mono ?_; rintro r w1 ⟨rfl, hb1⟩; have hc1 := bcell hb1; have hz1 := hb1.size; (try simp at hz1); (try have hy1 := lt0 w w1); (try have hy2 := ltA w 1 w1); (try have hy3 := ltA w 2 w1); (try have hy4 := lt0 wr w1); (try have hy5 := ltA wr 1 w1)) | (go_at_call 71; refine (hsame _ belA).mono ?_; rintro r w1 ⟨rfl, hb1⟩; have hc1 := bcell hb1; have hz1 := hb1.size; (try simp at hz1); (try have hy1 := lt0 w w1); (try have hy2 := ltA w 1 w1); (try have hy3 := ltA w 2 w1); (try have hy4 := lt0 wr w1); (try have hy5 := ltA wr 1 w1)))
      go_roundw
      case rel => exact ⟨k + 1, _, by omega, by go_num, rfl, HR.out, belA⟩
      case measure => simp [intOf]; omega
    by_cases q2 : q.delay = 2
    · have q2' : (q.delay == 2) = true := by simp [q2]
      have hdl : delayB q = q.first.same Ex.zero := by unfold delayB; rw [if_neg q1, if_pos (.inr q2)]
      clear q2
      rw [hdl] at hrem
      cases b4
      · replace hrem : (false && (List.drop (k + 1) p.eqs).all eqB) = wholeB p := by rw [← hrem]; simp only [Bool.false_and, Bool.and_false]
        have HR := Lib.hid hrem; clear hrem hd hx
        go_wp2_with (first | (go_at_call 67; refine (name_any _ _).mono ?_; rintro r w1 ⟨rfl, hb1⟩; have hc1 := bcell hb1; have hz1 := hb1.size; (try simp at hz1); (try have hy1 := lt0 w w1); (try have hy2 := ltA w 1 w1); (try have hy3 := ltA w 2 w1); (try have hy4 := lt0 wr w1); (try have hy5 := ltA wr 1 w1)) | (go_at_call 69; refine (hright _ belA).mono ?_; rintro r w1 ⟨rfl, hb1⟩; have hc1 := bcell hb1; have hz1 := hb1.size; (try simp at hz1); (try have hy1 := lt0 w w1); (try have hy2 := ltA w 1 w1); (try have hy3 := ltA w 2 w1); (try have hy4 := lt0 wr w1); (try have hy5 := ltA wr 1 w1)) | (go_at_call 70; refine (hlit _ belA).mono ?_; rintro r w1 ⟨rfl, hb1⟩; have hc1 := bcell hb1; have hz1 := hb1.size; (try simp at hz1); (try have hy1 := lt0 w w1); (try have hy2 := ltA w 1 w1); (try have hy3 := ltA w 2 w1); (try have hy4 := lt0 wr w1); (try have hy5 := ltA wr 1 w1)) | (go_at_call 71; refine (hsame _ belA).mono ?_; rintro r w1 ⟨rfl, hb1⟩; have hc1 := bcell hb1; have hz1 := hb1.size; (try simp at hz1); (try have hy1 := lt0 w w1); (try have hy2 := ltA w 1 w1); (try have hy3 := ltA w 2 w1); (try have hy4 := lt0 wr w1); (try have hy5 := ltA wr 1 w1)))
        go_roundw
        case rel => exact ⟨k + 1, _, by omega, by go_num, rfl, HR.out, belA⟩
        case measure => simp [intOf]; omega
      cases hn : nameB q.name
      · rw [hn] at hrem
        replace hrem : (false && (List.drop (k + 1) p.eqs).all eqB) = wholeB p := by rw [← hrem]; simp only [Bool.false_and, Bool.and_false]
        have HR := Lib.hid hrem; clear hrem hd hx
        go_wp2_with (first | (go_at_call 67; refine (name_any _ _).mono ?_; rintro r w1 ⟨rfl, hb1⟩; have hc1 := bcell hb1; have hz1 := hb1.size; (try simp at hz1); (try have hy1 := lt0 w w1); (try have hy2 := ltA w 1 w1); (try have hy3 := ltA w 2 w1); (try have hy4 := lt0 wr w1); (try have hy5 := ltA wr 1 w1)) | (go_at_call 69; refine (hright _ belA).mono ?_; rintro r w1 ⟨rfl, hb1⟩; have hc1 := bcell hb1; have hz1 := hb1.size; (try simp at hz1); (try have hy1 := lt0 w w1); (try have hy2 := ltA w 1 w1); (try have hy3 := ltA w 2 w1); (try have hy4 := lt0 wr w1); (try have hy5 := ltA wr 1 w1)) | (go_at_call 70; refine (hlit _ belA).mono ?_; rintro r w1 ⟨rfl, hb1⟩; have hc1 := bcell hb1; have hz1 := hb1.size; (try simp at hz1); (try have hy1 := lt0 w w1); (try have hy2 := ltA w 1 w1); (try have hy3 := ltA w 2 w1); (try have hy4 := lt0 wr w1); (try have hy5 := ltA wr 1 w1)) | (go_at_call 71; refine (hsame _ belA).mono ?_; rintro r w1 ⟨rfl, hb1⟩; have hc1 := bcell hb1; have hz1 := hb1.size; (try simp at hz1); (try have hy1 := lt0 w w1); (try have hy2 := ltA w 1 w1); (try have hy3 := ltA w 2 w1); (try have hy4 := lt0 wr w1); (try have hy5 := ltA wr 1 w1)))
        go_roundw
        case rel => exact ⟨k + 1, _, by omega, by go_num, rfl, HR.out, belA⟩
        case measure => simp [intOf]; omega
      cases hr : (q.e.right == 0)
      · rw [hn, hr] at hrem
        replace hrem : (false && (List.drop (k + 1) p.eqs).all eqB) = wholeB p := by rw [← hrem]; simp only [Bool.false_and, Bool.and_false]
        have HR := Lib.hid hrem; clear hrem hd hx
        go_wp2_with (first | (go_at_call 67; refine (name_any _ _).mono ?_; rintro r w1 ⟨rfl, hb1⟩; have hc1 := bcell hb1; have hz1 := hb1.size; (try simp at hz1); (try have hy1 := lt0 w w1); (try have hy2 := ltA w 1 w1); (try have hy3 := ltA w 2 w1); (try have hy4 := lt0 wr w1); (try have hy5 := ltA wr 1 w1)) | (go_at_call 69; refine (hright _ belA).mono ?_; rintro r w1 ⟨rfl, hb1⟩; have hc1 := bcell hb1; have hz1 := hb1.size; (try simp at hz1); (try have hy1 := lt0 w w1); (try have hy2 := ltA w 1 w1); (try have hy3 := ltA w 2 w1); (try have hy4 := lt0 wr w1); (try have hy5 := ltA wr 1 w1)) | (go_at_call 70; refine (hlit _ belA).mono ?_; rintro r w1 ⟨rfl, hb1⟩; have hc1 := bcell hb1; have hz1 := hb1.size; (try simp at hz1); (try have hy1 := lt0 w w1); (try have hy2 := ltA w 1 w1); (try have hy3 := ltA w 2 w1); (try have hy4 := lt0 wr w1); (try have hy5 := ltA wr 1 w1)) | (go_at_call 71; refine (hsame _ belA).mono ?_; rintro r w1 ⟨rfl, hb1⟩; have hc1 := bcell hb1; have hz1 := hb1.size; (try simp at hz1); (try have hy1 := lt0 w w1); (try have hy2 := ltA w 1 w1); (try have hy3 := ltA w 2 w1); (try have hy4 := lt0 wr w1); (try have hy5 := ltA wr 1 w1)))
        go_roundw
        case rel => exact ⟨k + 1, _, by omega, by go_num, rfl, HR.out, belA⟩
        case measure => simp [intOf]; omega
      rw [hn, hr] at hrem
      replace hrem : (q.first.same Ex.zero && (List.drop (k + 1) p.eqs).all eqB) = wholeB p := by rw [← hrem]; simp only [Bool.true_and, Bool.and_true]
      have HR := Lib.hid hrem; clear hrem hd hx
      go_wp2_with (first | (go_at_call 67; refine (name_any _ _).mono ?_; rintro r w1 ⟨rfl, hb1⟩; have hc1 := bcell hb1; have hz1 := hb1.size; (try simp at hz1); (try have hy1 := lt0 w w1); (try have hy2 := ltA w 1 w1); (try have hy3 := ltA w 2 w1); (try have hy4 := lt0 wr w1); (try have hy5 := ltA wr 1 w1)) | (go_at_call 69; refine (hright _ belA).mono ?_; rintro r w1 ⟨rfl, hb1⟩; have hc1 := bcell hb1; have hz1 := hb1.size; (try simp at hz1); (try have hy1 := lt0 w w1); (try have hy2 := ltA w 1 w1); (try have hy3 := ltA w 2 w1); (try have hy4 := lt0 wr w1); (try have hy5 := ltA wr 1 w1)) | (go_at_call 70; refine (hlit _ belA).mono ?_; rintro r w1 ⟨rfl, hb1⟩; have hc1 := bcell hb1; have hz1 := hb1.size; (try simp at hz1); (try have hy1 := lt0 w w1); (try have hy2 := ltA w 1 w1); (try have hy3 := ltA w 2 w1); (try have hy4 := lt0 wr w1); (try have hy5 := ltA wr 1 w1)) | (go_at_call 71; refine (hsame _ belA).mono ?_; rintro r w1 ⟨rfl, hb1⟩; have hc1 := bcell hb1; have hz1 := hb1.size; (try simp at hz1); (try have hy1 := lt0 w w1); (try have hy2 := ltA w 1 w1); (try have hy3 := ltA w 2 w1); (try have hy4 := lt0 wr w1); (try have hy5 := ltA wr 1 w1)))
      go_roundw
      case rel => exact ⟨k + 1, _, by omega, by go_num, rfl, HR.out, belA⟩
      case measure => simp [intOf]; omega
    have hdl : delayB q = false := by unfold delayB; rw [if_neg q1, if_neg (by omega)]
    rw [hdl] at hrem
    simp only [Bool.and_false, Bool.false_and] at hrem
    cases b4
    · have HR := Lib.hid hrem; clear hrem hd hx
      go_wp2_with (first | (go_at_call 67; refine (name_any _ _).mono ?_; rintro r w1 ⟨rfl, hb1⟩; have hc1 := bcell hb1; have hz1 := hb1.size; (try simp at hz1); (try have hy1 := lt0 w w1); (try have hy2 := ltA w 1 w1); (try have hy3 := ltA w 2 w1); (try have hy4 := lt0 wr w1); (try have hy5 := ltA wr 1 w1)) | (go_at_call 69; refine (hright _ belA).mono ?_; rintro r w1 ⟨rfl, hb1⟩; have hc1 := bcell hb1; have hz1 := hb1.size; (try simp at hz1); (try have hy1 := lt0 w w1); (try have hy2 := ltA w 1 w1); (try have hy3 := ltA w 2 w1); (try have hy4 := lt0 wr w1); (try have hy5 := ltA wr 1 w1)) | (go_at_call 70; refine (hlit _ belA).mono ?_; rintro r w1 ⟨rfl, hb1⟩; have hc1 := bcell hb1; have hz1 := hb1.size; (try simp at hz1); (try have hy1 := lt0 w w1); (try have hy2 := ltA w 1 w1); (try have hy3 := ltA w 2 w1); (try have hy4 := lt0 wr w1); (try have hy5 := ltA wr 1 w1)) | (go_at_call 71; refine (hsame _ belA).mono ?_; rintro r w1 ⟨rfl, hb1⟩; have hc1 := bcell hb1; have hz1 := hb1.size; (try simp at hz1); (try have hy1 := lt0 w w1); (try have hy2 := ltA w 1 w1); (try have hy3 := ltA w 2 w1); (try have hy4 := lt0 wr w1); (try have hy5 := ltA wr 1 w1)))
      go_ret
      exact ⟨ret_bool HR.out, belA⟩
    cases hn : nameB q.name
    · have HR := Lib.hid hrem; clear hrem hd hx
      go_wp2_with (first | (go_at_call 67; refine (name_any _ _).mono ?_; rintro r w1 ⟨rfl, hb1⟩; have hc1 := bcell hb1; have hz1 := hb1.size; (try simp at hz1); (try have hy1 := lt0 w w1); (try have hy2 := ltA w 1 w1); (try have hy3 := ltA w 2 w1); (try have hy4 := lt0 wr w1); (try have hy5 := ltA wr 1 w1)) | (go_at_call 69; refine (hright _ belA).mono ?_; rintro r w1 ⟨rfl, hb1⟩; have hc1 := bcell hb1; have hz1 := hb1.size; (try simp at hz1); (try have hy1 := lt0 w w1); (try have hy2 := ltA w 1 w1); (try have hy3 := ltA w 2 w1); (try have hy4 := lt0 wr w1); (try have hy5 := ltA wr 1 w1)) | (go_at_call 70; refine (hlit _ belA).mono ?_; rintro r w1 ⟨rfl, hb1⟩; have hc1 := bcell hb1; have hz1 := hb1.size; (try simp at hz1); (try have hy1 := lt0 w w1); (try have hy2 := ltA w 1 w1); (try have hy3 := ltA w 2 w1); (try have hy4 := lt0 wr w1); (try have hy5 := ltA wr 1 w1)) | (go_at_call 71; refine (hsame _ belA).mono ?_; rintro r w1 ⟨rfl, hb1⟩; have hc1 := bcell hb1; have hz1 := hb1.size; (try simp at hz1); (try have hy1 := lt0 w w1); (try have hy2 := ltA w 1 w1); (try have hy3 := ltA w 2 w1); (try have hy4 := lt0 wr w1); (try have hy5 := ltA wr 1 w1)))
      go_ret
      exact ⟨ret_bool HR.out, belA⟩
    cases hr : (q.e.right == 0)
    · have HR := Lib.hid hrem; clear hrem hd hx
      go_wp2_with (first | (go_at_call 67; refine (name_any _ _).mono ?_; rintro r w1 ⟨rfl, hb1⟩; have hc1 := bcell hb1; have hz1 := hb1.size; (try simp at hz1); (try have hy1 := lt0 w w1); (try have hy2 := ltA w 1 w1); (try have hy3 := ltA w 2 w1); (try have hy4 := lt0 wr w1); (try have hy5 := ltA wr 1 w1)) | (go_at_call 69; refine (hright _ belA).mono ?_; rintro r w1 ⟨rfl, hb1⟩; have hc1 := bcell hb1; have hz1 := hb1.size; (try simp at hz1); (try have hy1 := lt0 w w1); (try have hy2 := ltA w 1 w1); (try have hy3 := ltA w 2 w1); (try have hy4 := lt0 wr w1); (try have hy5 := ltA wr 1 w1)) | (go_at_call 70; refine (hlit _ belA).mono ?_; rintro r w1 ⟨rfl, hb1⟩; have hc1 := bcell hb1; have hz1 := hb1.size; (try simp at hz1); (try have hy1 := lt0 w w1); (try have hy2 := ltA w 1 w1); (try have hy3 := ltA w 2 w1); (try have hy4 := lt0 wr w1); (try have hy5 := ltA wr 1 w1)) | (go_at_call 71; refine (hsame _ belA).mono ?_; rintro r w1 ⟨rfl, hb1⟩; have hc1 := bcell hb1; have hz1 := hb1.size; (try simp at hz1); (try have hy1 := lt0 w w1); (try have hy2 := ltA w 1 w1); (try have hy3 := ltA w 2 w1); (try have hy4 := lt0 wr w1); (try have hy5 := ltA wr 1 w1)))
      go_ret
      exact ⟨ret_bool HR.out, belA⟩
    · have HR := Lib.hid hrem; clear hrem hd hx
      go_wp2_with (first | (go_at_call 67; refine (name_any _ _).mono ?_; rintro r w1 ⟨rfl, hb1⟩; have hc1 := bcell hb1; have hz1 := hb1.size; (try simp at hz1); (try have hy1 := lt0 w w1); (try have hy2 := ltA w 1 w1); (try have hy3 := ltA w 2 w1); (try have hy4 := lt0 wr w1); (try have hy5 := ltA wr 1 w1)) | (go_at_call 69; refine (hright _ belA).mono ?_; rintro r w1 ⟨rfl, hb1⟩; have hc1 := bcell hb1; have hz1 := hb1.size; (try simp at hz1); (try have hy1 := lt0 w w1); (try have hy2 := ltA w 1 w1); (try have hy3 := ltA w 2 w1); (try have hy4 := lt0 wr w1); (try have hy5 := ltA wr 1 w1)) | (go_at_call 70; refine (hlit _ belA).mono ?_; rintro r w1 ⟨rfl, hb1⟩; have hc1 := bcell hb1; have hz1 := hb1.size; (try simp at hz1); (try have hy1 := lt0 w w1); (try have hy2 := ltA w 1 w1); (try have hy3 := ltA w 2 w1); (try have hy4 := lt0 wr w1); (try have hy5 := ltA wr 1 w1)) | (go_at_call 71; refine (hsame _ belA).mono ?_; rintro r w1 ⟨rfl, hb1⟩; have hc1 := bcell hb1; have hz1 := hb1.size; (try simp at hz1); (try have hy1 := lt0 w w1); (try have hy2 := ltA w 1 w1); (try have hy3 := ltA w 2 w1); (try have hy4 := lt0 wr w1); (try have hy5 := ltA wr 1 w1)))
      go_ret
      exact ⟨ret_bool HR.out, belA⟩
  have hke : k = p.eqs.length := by omega
  rw [hke, List.drop_length, List.all_nil, Bool.and_true] at hrem
  have HR := Lib.hid hrem; clear hrem hke
  go_wp2_with fail
  go_ret
  exact ⟨ret_bool HR.out, belA⟩

end Go.Proofs.YtikmbkojnfmiaaaGreatDoorRRRR
