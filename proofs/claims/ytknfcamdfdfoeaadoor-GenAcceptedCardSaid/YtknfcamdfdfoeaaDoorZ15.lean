/- Walk over tree.Print. -/
import Derived.Test.YtknfcamdfdfoeaaDoorZ14
import Derived.Test.YtknfcamdfdfoeaaDoorZ09
import Derived.Test.YtknfcamdfdfoeaaDoorZ10
import Derived.Test.YtknfcamdfdfoeaaDoorZ11
set_option linter.unusedVariables false
set_option linter.unusedSimpArgs false
set_option maxRecDepth 100000
namespace Go.Proofs.YtknfcamdfdfoeaaDoor
open Go.RowKit Go.Sort

/-- What tree.Print gives. -/
def printS (p : Pr) : ByteArray := if printE p = 0 then printB p else ⟨#[]⟩

set_option maxHeartbeats 4000000 in
theorem print_any (p : Pr) (a : PrA) (w : World) (hp : PrAt w p a) (n1 : p.ins.length ≤ 1000000) (n2 : p.outs.length ≤ 1000000) (n3 : p.locals.length ≤ 1000000) (n4 : p.eqs.length ≤ 1000000) :
    Calls Tryd.prog 58 #[prV p a] w fun r w' => r = .returned (.tuple #[.string (printS p), .int .i64 (printE p)]) ∧ Below w.heap.size w w' := by
  have hl1 := hp.ins.len
  have hl2 := hp.outs.len
  have hl3 := hp.locals.len
  have hl4 := hp.eqs.len
  unfold maxLen at hl1 hl2 hl3 hl4
  obtain ⟨hl1, hm1⟩ := hl1
  obtain ⟨hl2, hm2⟩ := hl2
  obtain ⟨hl3, hm3⟩ := hl3
  obtain ⟨hl4, hm4⟩ := hl4
  have hwhole := fun W h => whole_any p a W (hp.later h)
  obtain ⟨A1, c1, A2, c2, A3, c3, A4, c4⟩ := a
  unfold prV at hwhole ⊢
  dsimp only at *
  cases hw : wholeB p
  · have hv : printE p = 4 := by unfold printE; rw [hw]; rfl
    have hs : printS p = ⟨#[]⟩ := by unfold printS; rw [hv]; rfl
    have HS := Lib.hid hs; clear hs
    have HV := Lib.hid hv; clear hv
    go_enter Tryd.func58, Tryd.ntmps58
    go_wp2_with (first | (go_at_call 65; refine (hwhole _ belA).mono ?_; rintro r w1 ⟨rfl, hb1⟩; have hc1 := bcell hb1; have hz1 := hb1.size; (try simp at hz1); (try have hy1 := lt0 w w1); (try have hy2 := ltA w 1 w1); (try have hy3 := ltA w 2 w1); (try have hy4 := lt0 wr w1); (try have hy5 := ltA wr 1 w1)))
    go_ret2
    exact ⟨by rw [HV.out, HS.out]; rfl, belA⟩
  obtain ⟨hnm, hins, houts, hlocs, heqs⟩ := whole_parts hw
  have hv : printE p = if 4096 < (printB p).size then 3 else 0 := by unfold printE; rw [hw]; rfl
  have HV := Lib.hid hv; clear hv
  have HLOC := Lib.hid hlocs; clear hlocs
  have HEQS := Lib.hid heqs; clear heqs
  have hlist1 := fun W h => list_any p.ins A1 c1 hins n1 W (hp.ins.later h)
  have hlist2 := fun W h => list_any p.outs A2 c2 houts n2 W (hp.outs.later h)
  have z1 := listVB_size hins
  have z2 := listVB_size houts
  clear hins houts
  have HPB := Lib.hid (show printB p = eqsGo (localsGo (if 0 < p.locals.length then headB p ++ ⟨#[118, 97, 114, 10]⟩ else headB p) p.locals ++ ⟨#[108, 101, 116, 10]⟩) p.eqs ++ ⟨#[116, 101, 108, 10]⟩ from rfl)
  have HHD := Lib.hid (show headB p = ⟨#[110, 111, 100, 101, 32]⟩ ++ p.name ++ ⟨#[32]⟩ ++ listVB p.ins ++ ⟨#[32, 114, 101, 116, 117, 114, 110, 115, 32]⟩ ++ listVB p.outs ++ ⟨#[59, 10]⟩ from rfl)
  have y1 : ¬ 9223372036854775807 < 5 + p.name.size := by omega
  have y2 : ¬ 9223372036854775807 < 5 + p.name.size + 1 := by omega
  have y3 : ¬ 9223372036854775807 < 5 + p.name.size + 1 + (listVB p.ins).size := by omega
  have y4 : ¬ 9223372036854775807 < 5 + p.name.size + 1 + (listVB p.ins).size + 9 := by omega
  have y5 : ¬ 9223372036854775807 < 5 + p.name.size + 1 + (listVB p.ins).size + 9 + (listVB p.outs).size := by omega
  have y6 : ¬ 9223372036854775807 < 5 + p.name.size + 1 + (listVB p.ins).size + 9 + (listVB p.outs).size + 2 := by omega
  generalize listVB p.ins = t1 at *
  generalize listVB p.outs = t2 at *
  go_enter Tryd.func58, Tryd.ntmps58
  go_wp2_with (first | (go_at_call 65; refine (hwhole _ belA).mono ?_; rintro r w1 ⟨rfl, hb1⟩; have hc1 := bcell hb1; have hz1 := hb1.size; (try simp at hz1); (try have hy1 := lt0 w w1); (try have hy2 := ltA w 1 w1); (try have hy3 := ltA w 2 w1); (try have hy4 := lt0 wr w1); (try have hy5 := ltA wr 1 w1)))
  have hy1' : w.heap.size < w1.heap.size := by omega
  refine wp_region_qb (by kernel_rfl) (by kernel_rfl) (fun hgq => ?_)
  repeat (quiet_step ((first | (go_at_call_of 66 A1; exact Calls.regrown_of (hlist1 _ belA)) | (go_at_call_of 66 A2; exact Calls.regrown_of (hlist2 _ belA)))))
  refine wpQuiet_nil ?_
  intro wq hwq
  replace hwq := bel_of_class hwq
  clear hgq
  have hcq := bcell hwq
  have hzq := hwq.size
  (try simp at hzq)
  (try have hyq1 := lt0 w wq); (try have hyq2 := ltA w 1 wq); (try have hyq3 := ltA w 2 wq); (try have hyq4 := lt0 wr wq)
  by_cases hloc : 0 < p.locals.length
  · have hif : (if 0 < p.locals.length then headB p ++ ⟨#[118, 97, 114, 10]⟩ else headB p) = headB p ++ ⟨#[118, 97, 114, 10]⟩ := if_pos hloc
    have HIF := Lib.hid hif; clear hif
    go_wp2_with fail
    refine wp_name fun W0 hW0 => ?_
    have hb0 : Below w.heap.size w W0 := by rw [hW0]; exact belA
    have hz0 : w.heap.size < W0.heap.size := by rw [hW0]; omega
    have k4 : W0.cell? ⟨w.heap.size, 4, none⟩ = some (.slice A4 p.eqs.length c4) := by rw [hW0]; go_simp
    clear hW0
    have hp3 := hp.locals.later hb0
    have hp4 := hp.eqs.later hb0
    dsimp only at hp3 hp4
    go_loopw [4, 35] (fun o i wr => ∃ (k : Nat) (s : ByteArray), k ≤ p.locals.length ∧ i = .int .i64 k ∧ o = .string s ∧ s.size ≤ 200000000 + 70 * k ∧ localsGo s (p.locals.drop k) = localsGo (headB p ++ ⟨#[118, 97, 114, 10]⟩) p.locals ∧ Below W0.heap.size W0 wr) (fun _ i _ => p.locals.length - (intOf i).toNat)
    case atStart => exact ⟨0, _, Nat.zero_le _, rfl, rfl, (by simp only [size_app, size_lit, List.size_toArray, List.length_cons, List.length_nil]; omega), by rw [HHD.out]; rfl, Below.refl _ _⟩
    case round =>
      obtain ⟨k, sx, hk, rfl, rfl, hss, hrem, hbel⟩ := hrel
      have hc := bcell hbel
      have hzr := hbel.size
      by_cases hlt : k < p.locals.length
      · have hx : p.locals[k]? = some p.locals[k] := List.getElem?_eq_getElem hlt
        have hd : p.locals.drop k = p.locals[k] :: p.locals.drop (k + 1) := List.drop_eq_getElem_cons hlt
        generalize p.locals[k] = x at hx hd
        obtain ⟨b, off, rfl, hbb, ⟨d0, d1, d2, d3⟩⟩ := (hp3.later hbel).get hx
        rw [hd, localsGo] at hrem
        have hsh := HLOC.out x (List.mem_of_getElem? hx)
        have hds := declB_size hsh
        have hdecl := fun W => decl_any x hsh W
        unfold vaV at hdecl
        have HR := Lib.hid hrem; clear hrem hd hx
        go_wp2_with (first | (go_at_call 67; refine (hdecl _).mono ?_; rintro r w1 ⟨rfl, hb1⟩; have hc1 := bcell hb1; have hz1 := hb1.size; (try simp at hz1); (try have hy1 := lt0 w w1); (try have hy2 := ltA w 1 w1); (try have hy3 := ltA w 2 w1); (try have hy4 := lt0 wr w1); (try have hy5 := ltA wr 1 w1)))
        go_roundw
        case rel => exact ⟨k + 1, _, by omega, by go_num, rfl, (by simp only [size_app, size_lit, List.size_toArray, List.length_cons, List.length_nil]; omega), HR.out, belA⟩
        case measure => simp [intOf]; omega
      · have hke : k = p.locals.length := by omega
        have hk2 : k ≤ 1000000 := by omega
        rw [hke, List.drop_length, localsGo] at hrem
        have HS := Lib.hid hrem; clear hrem hke
        go_wp2_with fail
        go_loopw [4, 51] (fun o i wr => ∃ (k : Nat) (s : ByteArray), k ≤ p.eqs.length ∧ i = .int .i64 k ∧ o = .string s ∧ s.size ≤ 400000000 + 20000 * k ∧ eqsGo s (p.eqs.drop k) = eqsGo (sx ++ ⟨#[108, 101, 116, 10]⟩) p.eqs ∧ Below W0.heap.size W0 wr) (fun _ i _ => p.eqs.length - (intOf i).toNat)
        case atStart => exact ⟨0, _, Nat.zero_le _, rfl, rfl, (by simp only [size_app, size_lit, List.size_toArray, List.length_cons, List.length_nil]; omega), rfl, hbel⟩
        case round =>
          obtain ⟨k, s, hk, rfl, rfl, hss, hrem, hbel⟩ := hrel
          have hc := bcell hbel
          have hzr := hbel.size
          by_cases hlt : k < p.eqs.length
          · have hx : p.eqs[k]? = some p.eqs[k] := List.getElem?_eq_getElem hlt
            have hd : p.eqs.drop k = p.eqs[k] :: p.eqs.drop (k + 1) := List.drop_eq_getElem_cons hlt
            generalize p.eqs[k] = q at hx hd
            obtain ⟨b, off, B1, n1, B2, n2, rfl, hbb, ⟨g0, g1, g2, g3, g4, g5, g6, g7, g8, g9, s1, s2⟩⟩ := (hp4.later hbel).get hx
            rw [hd, eqsGo, eqText] at hrem
            obtain ⟨hqn, hqf, hqz, hq1, hqd⟩ := eqB_parts (HEQS.out q (List.mem_of_getElem? hx))
            have hsz := Ex.showB_size q.e hqf
            have hshow := fun W h => show_any q.e hqf (by omega) B2 n2 W (s2.later h)
            have HQ1 := Lib.hid hq1; clear hq1
            have HQF := Lib.hid hqf; clear hqf
            unfold exV at hshow
            rcases hqd with hqd | hqd | hqd
            · rw [if_neg (by omega), if_neg (by omega)] at hrem
              have q1 : (q.delay == 1) = false := by rw [hqd]; rfl
              have q2 : (q.delay == 2) = false := by rw [hqd]; rfl
              clear hqd
              have HR := Lib.hid hrem; clear hrem hd hx
              go_wp2_with (first | (go_at_call 68; refine (hshow _ belA).mono ?_; rintro r w1 ⟨rfl, hb1⟩; have hc1 := bcell hb1; have hz1 := hb1.size; (try simp at hz1); (try have hy1 := lt0 w w1); (try have hy2 := ltA w 1 w1); (try have hy3 := ltA w 2 w1); (try have hy4 := lt0 wr w1); (try have hy5 := ltA wr 1 w1)))
              go_roundw
              case rel => exact ⟨k + 1, _, by omega, by go_num, rfl, (by simp only [size_app, size_lit, List.size_toArray, List.length_cons, List.length_nil]; omega), HR.out, belA⟩
              case measure => simp [intOf]; omega
            · rw [if_pos hqd] at hrem
              have q1 : (q.delay == 1) = true := by rw [hqd]; rfl
              have q2 : (q.delay == 2) = false := by rw [hqd]; rfl
              obtain ⟨hff, hfz⟩ := HQ1.out hqd
              have hsz1 := Ex.showB_size q.first hff
              have hshow1 := fun W h => show_any q.first hff (by omega) B1 n1 W (s1.later h)
              unfold exV at hshow1
              have HFF := Lib.hid hff; clear hff
              clear hqd
              have HR := Lib.hid hrem; clear hrem hd hx
              go_wp2_with (first | (go_at_call_of 68 B1; refine (hshow1 _ belA).mono ?_; rintro r w1 ⟨rfl, hb1⟩; have hc1 := bcell hb1; have hz1 := hb1.size; (try simp at hz1); (try have hy1 := lt0 w w1); (try have hy2 := ltA w 1 w1); (try have hy3 := ltA w 2 w1); (try have hy4 := lt0 wr w1); (try have hy5 := ltA wr 1 w1); (try have hyb : b < w1.heap.size := by omega)) | (go_at_call_of 68 B2; refine (hshow _ belA).mono ?_; rintro r w1 ⟨rfl, hb1⟩; have hc1 := bcell hb1; have hz1 := hb1.size; (try simp at hz1); (try have hy1 := lt0 w w1); (try have hy2 := ltA w 1 w1); (try have hy3 := ltA w 2 w1); (try have hy4 := lt0 wr w1); (try have hy5 := ltA wr 1 w1); (try have hyb : b < w1.heap.size := by omega)))
              go_roundw
              case rel => exact ⟨k + 1, _, by omega, by go_num, rfl, (by simp only [size_app, size_lit, List.size_toArray, List.length_cons, List.length_nil]; omega), HR.out, belA⟩
              case measure => simp [intOf]; omega
            · rw [if_neg (by omega), if_pos hqd] at hrem
              have q1 : (q.delay == 1) = false := by rw [hqd]; rfl
              have q2 : (q.delay == 2) = true := by rw [hqd]; rfl
              clear hqd
              have HR := Lib.hid hrem; clear hrem hd hx
              go_wp2_with (first | (go_at_call 68; refine (hshow _ belA).mono ?_; rintro r w1 ⟨rfl, hb1⟩; have hc1 := bcell hb1; have hz1 := hb1.size; (try simp at hz1); (try have hy1 := lt0 w w1); (try have hy2 := ltA w 1 w1); (try have hy3 := ltA w 2 w1); (try have hy4 := lt0 wr w1); (try have hy5 := ltA wr 1 w1)))
              go_roundw
              case rel => exact ⟨k + 1, _, by omega, by go_num, rfl, (by simp only [size_app, size_lit, List.size_toArray, List.length_cons, List.length_nil]; omega), HR.out, belA⟩
              case measure => simp [intOf]; omega
          · have hke : k = p.eqs.length := by omega
            have hk3 : k ≤ 1000000 := by omega
            rw [hke, List.drop_length, eqsGo] at hrem
            have hfin : printB p = s ++ ⟨#[116, 101, 108, 10]⟩ := by rw [HPB.out, HIF.out, ← HS.out, ← hrem]
            have hfs : (printB p).size = s.size + 4 := by rw [hfin, size_app]; rfl
            clear hke hrem
            by_cases hbig : 4096 < s.size + 4
            · have hv : printE p = 3 := by rw [HV.out, if_pos (by omega)]
              have hs : printS p = ⟨#[]⟩ := by unfold printS; rw [hv]; rfl
              have HS2 := Lib.hid hs; clear hs
              have HV2 := Lib.hid hv; clear hv hfin hfs
              have hbig' : (4096 : Int) < s.size + 4 := by omega
              go_wp2_with fail
              go_ret2
              exact ⟨by rw [HV2.out, HS2.out]; rfl, belA⟩
            · have hv : printE p = 0 := by rw [HV.out, if_neg (by omega)]
              have hs : printS p = s ++ ⟨#[116, 101, 108, 10]⟩ := by unfold printS; rw [hv, if_pos rfl, hfin]
              have HS2 := Lib.hid hs; clear hs
              have HV2 := Lib.hid hv; clear hv hfin hfs
              have hbig' : ¬ (4096 : Int) < s.size + 4 := by omega
              go_wp2_with fail
              go_ret2
              exact ⟨by rw [HV2.out, HS2.out]; rfl, belA⟩
  · have hif : (if 0 < p.locals.length then headB p ++ ⟨#[118, 97, 114, 10]⟩ else headB p) = headB p := if_neg hloc
    have HIF := Lib.hid hif; clear hif
    go_wp2_with fail
    refine wp_name fun W0 hW0 => ?_
    have hb0 : Below w.heap.size w W0 := by rw [hW0]; exact belA
    have hz0 : w.heap.size < W0.heap.size := by rw [hW0]; omega
    have k4 : W0.cell? ⟨w.heap.size, 4, none⟩ = some (.slice A4 p.eqs.length c4) := by rw [hW0]; go_simp
    clear hW0
    have hp3 := hp.locals.later hb0
    have hp4 := hp.eqs.later hb0
    dsimp only at hp3 hp4
    go_loopw [4, 35] (fun o i wr => ∃ (k : Nat) (s : ByteArray), k ≤ p.locals.length ∧ i = .int .i64 k ∧ o = .string s ∧ s.size ≤ 200000000 + 70 * k ∧ localsGo s (p.locals.drop k) = localsGo (headB p) p.locals ∧ Below W0.heap.size W0 wr) (fun _ i _ => p.locals.length - (intOf i).toNat)
    case atStart => exact ⟨0, _, Nat.zero_le _, rfl, rfl, (by simp only [size_app, size_lit, List.size_toArray, List.length_cons, List.length_nil]; omega), by rw [HHD.out]; rfl, Below.refl _ _⟩
    case round =>
      obtain ⟨k, sx, hk, rfl, rfl, hss, hrem, hbel⟩ := hrel
      have hc := bcell hbel
      have hzr := hbel.size
      by_cases hlt : k < p.locals.length
      · exfalso; omega
      · have hke : k = p.locals.length := by omega
        have hk2 : k ≤ 1000000 := by omega
        rw [hke, List.drop_length, localsGo] at hrem
        have HS := Lib.hid hrem; clear hrem hke
        go_wp2_with fail
        go_loopw [4, 51] (fun o i wr => ∃ (k : Nat) (s : ByteArray), k ≤ p.eqs.length ∧ i = .int .i64 k ∧ o = .string s ∧ s.size ≤ 400000000 + 20000 * k ∧ eqsGo s (p.eqs.drop k) = eqsGo (sx ++ ⟨#[108, 101, 116, 10]⟩) p.eqs ∧ Below W0.heap.size W0 wr) (fun _ i _ => p.eqs.length - (intOf i).toNat)
        case atStart => exact ⟨0, _, Nat.zero_le _, rfl, rfl, (by simp only [size_app, size_lit, List.size_toArray, List.length_cons, List.length_nil]; omega), rfl, hbel⟩
        case round =>
          obtain ⟨k, s, hk, rfl, rfl, hss, hrem, hbel⟩ := hrel
          have hc := bcell hbel
          have hzr := hbel.size
          by_cases hlt : k < p.eqs.length
          · have hx : p.eqs[k]? = some p.eqs[k] := List.getElem?_eq_getElem hlt
            have hd : p.eqs.drop k = p.eqs[k] :: p.eqs.drop (k + 1) := List.drop_eq_getElem_cons hlt
            generalize p.eqs[k] = q at hx hd
            obtain ⟨b, off, B1, n1, B2, n2, rfl, hbb, ⟨g0, g1, g2, g3, g4, g5, g6, g7, g8, g9, s1, s2⟩⟩ := (hp4.later hbel).get hx
            rw [hd, eqsGo, eqText] at hrem
            obtain ⟨hqn, hqf, hqz, hq1, hqd⟩ := eqB_parts (HEQS.out q (List.mem_of_getElem? hx))
            have hsz := Ex.showB_size q.e hqf
            have hshow := fun W h => show_any q.e hqf (by omega) B2 n2 W (s2.later h)
            have HQ1 := Lib.hid hq1; clear hq1
            have HQF := Lib.hid hqf; clear hqf
            unfold exV at hshow
            rcases hqd with hqd | hqd | hqd
            · rw [if_neg (by omega), if_neg (by omega)] at hrem
              have q1 : (q.delay == 1) = false := by rw [hqd]; rfl
              have q2 : (q.delay == 2) = false := by rw [hqd]; rfl
              clear hqd
              have HR := Lib.hid hrem; clear hrem hd hx
              go_wp2_with (first | (go_at_call 68; refine (hshow _ belA).mono ?_; rintro r w1 ⟨rfl, hb1⟩; have hc1 := bcell hb1; have hz1 := hb1.size; (try simp at hz1); (try have hy1 := lt0 w w1); (try have hy2 := ltA w 1 w1); (try have hy3 := ltA w 2 w1); (try have hy4 := lt0 wr w1); (try have hy5 := ltA wr 1 w1)))
              go_roundw
              case rel => exact ⟨k + 1, _, by omega, by go_num, rfl, (by simp only [size_app, size_lit, List.size_toArray, List.length_cons, List.length_nil]; omega), HR.out, belA⟩
              case measure => simp [intOf]; omega
            · rw [if_pos hqd] at hrem
              have q1 : (q.delay == 1) = true := by rw [hqd]; rfl
              have q2 : (q.delay == 2) = false := by rw [hqd]; rfl
              obtain ⟨hff, hfz⟩ := HQ1.out hqd
              have hsz1 := Ex.showB_size q.first hff
              have hshow1 := fun W h => show_any q.first hff (by omega) B1 n1 W (s1.later h)
              unfold exV at hshow1
              have HFF := Lib.hid hff; clear hff
              clear hqd
              have HR := Lib.hid hrem; clear hrem hd hx
              go_wp2_with (first | (go_at_call_of 68 B1; refine (hshow1 _ belA).mono ?_; rintro r w1 ⟨rfl, hb1⟩; have hc1 := bcell hb1; have hz1 := hb1.size; (try simp at hz1); (try have hy1 := lt0 w w1); (try have hy2 := ltA w 1 w1); (try have hy3 := ltA w 2 w1); (try have hy4 := lt0 wr w1); (try have hy5 := ltA wr 1 w1); (try have hyb : b < w1.heap.size := by omega)) | (go_at_call_of 68 B2; refine (hshow _ belA).mono ?_; rintro r w1 ⟨rfl, hb1⟩; have hc1 := bcell hb1; have hz1 := hb1.size; (try simp at hz1); (try have hy1 := lt0 w w1); (try have hy2 := ltA w 1 w1); (try have hy3 := ltA w 2 w1); (try have hy4 := lt0 wr w1); (try have hy5 := ltA wr 1 w1); (try have hyb : b < w1.heap.size := by omega)))
              go_roundw
              case rel => exact ⟨k + 1, _, by omega, by go_num, rfl, (by simp only [size_app, size_lit, List.size_toArray, List.length_cons, List.length_nil]; omega), HR.out, belA⟩
              case measure => simp [intOf]; omega
            · rw [if_neg (by omega), if_pos hqd] at hrem
              have q1 : (q.delay == 1) = false := by rw [hqd]; rfl
              have q2 : (q.delay == 2) = true := by rw [hqd]; rfl
              clear hqd
              have HR := Lib.hid hrem; clear hrem hd hx
              go_wp2_with (first | (go_at_call 68; refine (hshow _ belA).mono ?_; rintro r w1 ⟨rfl, hb1⟩; have hc1 := bcell hb1; have hz1 := hb1.size; (try simp at hz1); (try have hy1 := lt0 w w1); (try have hy2 := ltA w 1 w1); (try have hy3 := ltA w 2 w1); (try have hy4 := lt0 wr w1); (try have hy5 := ltA wr 1 w1)))
              go_roundw
              case rel => exact ⟨k + 1, _, by omega, by go_num, rfl, (by simp only [size_app, size_lit, List.size_toArray, List.length_cons, List.length_nil]; omega), HR.out, belA⟩
              case measure => simp [intOf]; omega
          · have hke : k = p.eqs.length := by omega
            have hk3 : k ≤ 1000000 := by omega
            rw [hke, List.drop_length, eqsGo] at hrem
            have hfin : printB p = s ++ ⟨#[116, 101, 108, 10]⟩ := by rw [HPB.out, HIF.out, ← HS.out, ← hrem]
            have hfs : (printB p).size = s.size + 4 := by rw [hfin, size_app]; rfl
            clear hke hrem
            by_cases hbig : 4096 < s.size + 4
            · have hv : printE p = 3 := by rw [HV.out, if_pos (by omega)]
              have hs : printS p = ⟨#[]⟩ := by unfold printS; rw [hv]; rfl
              have HS2 := Lib.hid hs; clear hs
              have HV2 := Lib.hid hv; clear hv hfin hfs
              have hbig' : (4096 : Int) < s.size + 4 := by omega
              go_wp2_with fail
              go_ret2
              exact ⟨by rw [HV2.out, HS2.out]; rfl, belA⟩
            · have hv : printE p = 0 := by rw [HV.out, if_neg (by omega)]
              have hs : printS p = s ++ ⟨#[116, 101, 108, 10]⟩ := by unfold printS; rw [hv, if_pos rfl, hfin]
              have HS2 := Lib.hid hs; clear hs
              have HV2 := Lib.hid hv; clear hv hfin hfs
              have hbig' : ¬ (4096 : Int) < s.size + 4 := by omega
              go_wp2_with fail
              go_ret2
              exact ⟨by rw [HV2.out, HS2.out]; rfl, belA⟩

end Go.Proofs.YtknfcamdfdfoeaaDoor

/- Walk over kinds.Check. -/
namespace Go.Proofs.YtknfcamdfdfoeaaDoor
open Go.RowKit Go.Sort

/-- A Fault as a value. -/
def fV (f : Int × Int × Int) : Value := .agg #[.int .i64 f.1, .int .i64 f.2.1, .int .i64 f.2.2]

set_option maxHeartbeats 4000000 in
set_option maxRecDepth 100000 in
theorem check_form (p : Pr) (a : PrA) (w : World) (hp : PrAt w p a) (n1 : p.ins.length ≤ 1000000) (n2 : p.outs.length ≤ 1000000) (n3 : p.locals.length ≤ 1000000) (n4 : p.eqs.length ≤ 1000000) (he : printE p ≠ 0) :
    Calls Tryd.prog 47 #[prV p a] w fun r w' => r = .returned (fV (checkF p)) ∧ Below w.heap.size w w' := by
  have hv : checkF p = (4, 0, printE p) := by unfold checkF; rw [if_pos he]
  have hprint := fun W h => print_any p a W (hp.later h) n1 n2 n3 n4
  have he' : (printE p != 0) = true := by simpa using he
  clear he
  obtain ⟨A1, c1, A2, c2, A3, c3, A4, c4⟩ := a
  unfold prV at *
  unfold fV
  dsimp only at *
  have HV := Lib.hid hv; clear hv
  go_enter Tryd.func47, Tryd.ntmps47
  go_wp2_with (go_at_call 58; refine (hprint _ belA).mono ?_; rintro r w1 ⟨rfl, hb1⟩; have hc1 := bcell hb1; have hfz1 := bfrozen hb1; have hz1 := hb1.size; (try simp at hz1); (try have hy1 := lt0 w w1); (try have hy2 := ltA w 1 w1); (try have hy3 := ltA w 2 w1); (try have hy4 := lt0 wr w1); (try have hy5 := ltA wr 1 w1))
  go_ways
  refine bodyPost_ret (v := .agg #[.int .i64 (4), .int .i64 (0), .int .i64 (printE p)]) (by simp [results, Tryd.results47, go_sem, *]) rfl ⟨by rw [HV.out], ?_⟩
  exact belS

end Go.Proofs.YtknfcamdfdfoeaaDoor

/- Walk over kinds.Check: programs that can be. -/
namespace Go.Proofs.YtknfcamdfdfoeaaDoor
open Go.RowKit Go.Sort

theorem vars_short {p : Pr} (h : wholeB p = true) : ∀ v ∈ varsOf p, Short v := by
  obtain ⟨_, h1, h2, h3, _⟩ := whole_parts h
  intro v hv
  simp only [varsOf, List.mem_append] at hv
  rcases hv with (hv | hv) | hv
  · exact h1 v hv
  · exact h2 v hv
  · exact h3 v hv
theorem whole_of_print {p : Pr} (h : printE p = 0) : wholeB p = true := by
  unfold printE at h
  split at h
  · omega
  · rename_i h2; simpa using h2

set_option maxHeartbeats 4000000 in
set_option maxRecDepth 100000 in
theorem check_big (p : Pr) (a : PrA) (w : World) (hp : PrAt w p a) (n1 : p.ins.length ≤ 1000000) (n2 : p.outs.length ≤ 1000000) (n3 : p.locals.length ≤ 1000000) (n4 : p.eqs.length ≤ 1000000) (he : printE p = 0)
    (hbig : 8 < p.ins.length ∨ 8 < p.outs.length ∨ 24 < (varsOf p).length) :
    Calls Tryd.prog 47 #[prV p a] w fun r w' => r = .returned (fV (checkF p)) ∧ Below w.heap.size w w' := by
  have hv : checkF p = (4, 0, 3) := by unfold checkF; rw [if_neg (by omega), if_pos hbig]
  have hprint := fun W h => print_any p a W (hp.later h) n1 n2 n3 n4
  have hvars := fun W h => vars_any p a W (hp.later h) n1 n2 n3
  rw [he] at hprint
  clear he
  obtain ⟨A1, c1, A2, c2, A3, c3, A4, c4⟩ := a
  unfold prV at *
  unfold fV
  dsimp only at *
  have hnames : True := trivial
  by_cases g1 : 8 < p.ins.length
  · have HV := Lib.hid hv; clear hv
    go_enter Tryd.func47, Tryd.ntmps47
    go_wp2_with (first | (go_at_call 58; refine (hprint _ belA).mono ?_; rintro r wa ⟨rfl, hba⟩; have hca := bcell hba; have hfa := bfrozen hba; have hza : w.heap.size + 2 ≤ wa.heap.size := (by have := hba.size; simpa using this); have hya : w.heap.size < wa.heap.size := (by omega); have hya' : w.heap.size + 1 < wa.heap.size := (by omega)) | (go_at_call 26; refine (hvars _ belA).mono ?_; rintro r wb ⟨⟨A, cap, rfl, hown⟩, hbb⟩; have hcb := bcell hbb; have hfb := bfrozen hbb; have hzb := hbb.size; have hyb : w.heap.size < wb.heap.size := (by omega); have hyb' : w.heap.size + 1 < wb.heap.size := (by omega); have hva := VarsAt.of_own hown) | (go_at_call 59; refine (hnames _ _ _ (hva.later belA)).mono ?_; rintro r wc ⟨⟨B, rfl, hB, hmap⟩, hbc⟩; have hcc := bcell hbc; have hfc := bfrozen hbc; have hzc := hbc.size; have hyc : w.heap.size < wc.heap.size := (by omega); have hyc' : w.heap.size + 1 < wc.heap.size := (by omega)))
    refine bodyPost_ret (v := .agg #[.int .i64 (4), .int .i64 (0), .int .i64 (3)]) (by simp [results, Tryd.results47, go_sem, *]) rfl ⟨by rw [HV.out], ?_⟩
    exact belS
  by_cases g2 : 8 < p.outs.length
  · have HV := Lib.hid hv; clear hv
    go_enter Tryd.func47, Tryd.ntmps47
    go_wp2_with (first | (go_at_call 58; refine (hprint _ belA).mono ?_; rintro r wa ⟨rfl, hba⟩; have hca := bcell hba; have hfa := bfrozen hba; have hza : w.heap.size + 2 ≤ wa.heap.size := (by have := hba.size; simpa using this); have hya : w.heap.size < wa.heap.size := (by omega); have hya' : w.heap.size + 1 < wa.heap.size := (by omega)) | (go_at_call 26; refine (hvars _ belA).mono ?_; rintro r wb ⟨⟨A, cap, rfl, hown⟩, hbb⟩; have hcb := bcell hbb; have hfb := bfrozen hbb; have hzb := hbb.size; have hyb : w.heap.size < wb.heap.size := (by omega); have hyb' : w.heap.size + 1 < wb.heap.size := (by omega); have hva := VarsAt.of_own hown) | (go_at_call 59; refine (hnames _ _ _ (hva.later belA)).mono ?_; rintro r wc ⟨⟨B, rfl, hB, hmap⟩, hbc⟩; have hcc := bcell hbc; have hfc := bfrozen hbc; have hzc := hbc.size; have hyc : w.heap.size < wc.heap.size := (by omega); have hyc' : w.heap.size + 1 < wc.heap.size := (by omega)))
    refine bodyPost_ret (v := .agg #[.int .i64 (4), .int .i64 (0), .int .i64 (3)]) (by simp [results, Tryd.results47, go_sem, *]) rfl ⟨by rw [HV.out], ?_⟩
    exact belS
  have g3 : 24 < (varsOf p).length := by omega
  clear hbig
  have HV := Lib.hid hv; clear hv
  go_enter Tryd.func47, Tryd.ntmps47
  go_wp2_with (first | (go_at_call 58; refine (hprint _ belA).mono ?_; rintro r wa ⟨rfl, hba⟩; have hca := bcell hba; have hfa := bfrozen hba; have hza : w.heap.size + 2 ≤ wa.heap.size := (by have := hba.size; simpa using this); have hya : w.heap.size < wa.heap.size := (by omega); have hya' : w.heap.size + 1 < wa.heap.size := (by omega)) | (go_at_call 26; refine (hvars _ belA).mono ?_; rintro r wb ⟨⟨A, cap, rfl, hown⟩, hbb⟩; have hcb := bcell hbb; have hfb := bfrozen hbb; have hzb := hbb.size; have hyb : w.heap.size < wb.heap.size := (by omega); have hyb' : w.heap.size + 1 < wb.heap.size := (by omega); have hva := VarsAt.of_own hown) | (go_at_call 59; refine (hnames _ _ _ (hva.later belA)).mono ?_; rintro r wc ⟨⟨B, rfl, hB, hmap⟩, hbc⟩; have hcc := bcell hbc; have hfc := bfrozen hbc; have hzc := hbc.size; have hyc : w.heap.size < wc.heap.size := (by omega); have hyc' : w.heap.size + 1 < wc.heap.size := (by omega)))
  refine bodyPost_ret (v := .agg #[.int .i64 (4), .int .i64 (0), .int .i64 (3)]) (by simp [results, Tryd.results47, go_sem, *]) rfl ⟨by rw [HV.out], ?_⟩
  exact belS

end Go.Proofs.YtknfcamdfdfoeaaDoor

/- A program in which kinds.Check finds no fault: each output and own variable has just one equation, of its type; no input has one. No program of Go in sight. -/
namespace Go.Proofs.YtknfcamdfdfoeaaDoor
open Go.RowKit

/-- How many equations of a name. -/
def cnt (s : ByteArray) : List Qe → Nat
  | [] => 0
  | q :: r => (if q.name = s then 1 else 0) + cnt s r
/-- How many variables of a name. -/
def occ (s : ByteArray) : List Va → Nat
  | [] => 0
  | v :: r => (if s = v.name then 1 else 0) + occ s r
def sumC (qs : List Qe) : List Va → Nat
  | [] => 0
  | v :: r => cnt v.name qs + sumC qs r

theorem dupGo_none {L : List Va} : ∀ (r : List Va) (k : Nat), dupGo L k r = none → ∀ (i : Nat) (v : Va), r[i]? = some v → (findV L v.name).getD 0 = ((k + i : Nat) : Int)
  | [], _, _, i, v, hi => by simp at hi
  | u :: r, k, h, i, v, hi => by
    rw [dupGo] at h
    by_cases hc : (findV L u.name).getD 0 ≠ (k : Int)
    · rw [if_pos hc] at h; cases h
    · rw [if_neg hc] at h
      cases i with
      | zero =>
        obtain rfl : u = v := by simpa using hi
        have : (findV L u.name).getD 0 = (k : Int) := Decidable.not_not.1 hc
        simpa using this
      | succ i =>
        have := dupGo_none r (k + 1) h i v (by simpa using hi)
        rw [this]; congr 1; omega

theorem eqE_zero {L : List Va} {ins : Int} {d : ByteArray → Option Int} {q : Qe} (h : eqE L ins d q = 0) : ∃ j, findV L q.name = some j ∧ ¬ j < ins ∧ ¬ 0 < (d q.name).getD 0 ∧ (q.e.typ L).2 = 0 ∧ (q.e.typ L).1 = typeAt L j := by
  unfold eqE at h
  cases hf : findV L q.name with
  | none => rw [hf] at h; simp at h
  | some j =>
    rw [hf] at h
    simp only at h
    by_cases h1 : j < ins
    · rw [if_pos h1] at h; omega
    rw [if_neg h1] at h
    by_cases h2 : 0 < (d q.name).getD 0
    · rw [if_pos h2] at h; omega
    rw [if_neg h2] at h
    by_cases h3 : (q.e.typ L).2 ≠ 0
    · rw [if_pos h3] at h; exact absurd h h3
    rw [if_neg h3] at h
    by_cases h4 : q.delay = 1 ∧ (q.first.typ L).1 ≠ typeAt L j
    · rw [if_pos h4] at h; omega
    rw [if_neg h4] at h
    by_cases h5 : (q.e.typ L).1 ≠ typeAt L j
    · rw [if_pos h5] at h; omega
    exact ⟨j, rfl, h1, h2, Decidable.not_not.1 h3, Decidable.not_not.1 h5⟩

theorem upd_val (d : ByteArray → Option Int) (n s : ByteArray) : ((upd d n ((d n).getD 0 + 1)) s).getD 0 = (d s).getD 0 + ((if n = s then 1 else 0 : Nat) : Int) := by
  unfold upd
  by_cases h : n = s
  · subst h; simp
  · have : ¬ s.data = n.data := fun hd => h (by ext1; exact hd.symm)
    rw [if_neg this, if_neg h]; simp

theorem eqGo_none {L : List Va} {ins : Int} : ∀ (r : List Qe) (k : Nat) (d : ByteArray → Option Int), (eqGo L ins k d r).1 = none →
    (∀ s, ((eqGo L ins k d r).2 s).getD 0 = (d s).getD 0 + (cnt s r : Int)) ∧ (∀ q ∈ r, ∃ d', eqE L ins d' q = 0) ∧ ((∀ s, 0 ≤ (d s).getD 0) → (∀ s, (d s).getD 0 ≤ 1) → ∀ s, (d s).getD 0 + (cnt s r : Int) ≤ 1)
  | [], k, d, h => ⟨fun s => by simp [eqGo, cnt], by simp, fun _ h2 s => by simpa [cnt] using h2 s⟩
  | q :: r, k, d, h => by
    rw [eqGo] at h ⊢
    by_cases hc : eqE L ins d q ≠ 0
    · rw [if_pos hc] at h; cases h
    · rw [if_neg hc] at h ⊢
      obtain ⟨h1, h2, h3⟩ := eqGo_none r (k + 1) _ h
      have he : eqE L ins d q = 0 := Decidable.not_not.1 hc
      refine ⟨fun s => ?_, fun x hx => ?_, fun p1 p2 s => ?_⟩
      · rw [h1 s, upd_val, cnt]; push_cast; omega
      · rcases List.mem_cons.1 hx with rfl | hx
        · exact ⟨d, he⟩
        · exact h2 x hx
      · obtain ⟨j, _, _, hd, _⟩ := eqE_zero he
        have hz : (d q.name).getD 0 = 0 := by have := p1 q.name; omega
        have := h3 (fun t => by rw [upd_val]; have := p1 t; split <;> omega) (fun t => by
          rw [upd_val]
          split
          · rename_i ht; subst ht; rw [hz]; decide
          · have := p2 t; simpa using this) s
        rw [upd_val] at this
        rw [cnt]; push_cast; omega

theorem missGo_none {d : ByteArray → Option Int} : ∀ (r : List Va) (k : Nat), missGo d k r = none → ∀ v ∈ r, (d v.name).getD 0 ≠ 0
  | [], _, _, v, hv => by simp at hv
  | u :: r, k, h, v, hv => by
    rw [missGo] at h
    by_cases hc : (d u.name).getD 0 = 0
    · rw [if_pos hc] at h; cases h
    · rw [if_neg hc] at h
      rcases List.mem_cons.1 hv with rfl | hv
      · exact hc
      · exact missGo_none r (k + 1) h v hv

theorem sumC_cons (q : Qe) (qs : List Qe) : ∀ r, sumC (q :: qs) r = occ q.name r + sumC qs r
  | [] => rfl
  | v :: r => by simp only [sumC, cnt, occ, sumC_cons q qs r]; omega
theorem sumC_nil : ∀ r, sumC [] r = 0
  | [] => rfl
  | v :: r => by simp only [sumC, cnt, sumC_nil r]
theorem sumC_one (qs : List Qe) : ∀ r : List Va, (∀ v ∈ r, cnt v.name qs = 1) → sumC qs r = r.length
  | [], _ => rfl
  | v :: r, h => by rw [sumC, h v (by simp), sumC_one qs r (fun u hu => h u (by simp [hu]))]; simp; omega
theorem sumC_len (r : List Va) : ∀ qs : List Qe, (∀ q ∈ qs, occ q.name r = 1) → sumC qs r = qs.length
  | [], _ => sumC_nil r
  | q :: qs, h => by rw [sumC_cons, h q (by simp), sumC_len r qs (fun u hu => h u (by simp [hu]))]; simp; omega
theorem occ_zero (s : ByteArray) : ∀ r : List Va, (∀ u ∈ r, u.name ≠ s) → occ s r = 0
  | [], _ => rfl
  | v :: r, h => by rw [occ, if_neg (fun e => h v (by simp) e.symm), occ_zero s r (fun u hu => h u (by simp [hu]))]
theorem occ_one (s : ByteArray) : ∀ (r : List Va) (i : Nat) (v : Va), r[i]? = some v → v.name = s → (∀ (j : Nat) (u : Va), r[j]? = some u → u.name = s → j = i) → occ s r = 1
  | [], i, v, h, _, _ => by simp at h
  | u :: r, 0, v, h, hs, hu => by
    obtain rfl : u = v := by simpa using h
    rw [occ, if_pos hs.symm, occ_zero s r]
    intro x hx hxs
    obtain ⟨j, hj⟩ := List.getElem?_of_mem hx
    have := hu (j + 1) x (by simpa using hj) hxs
    omega
  | u :: r, i + 1, v, h, hs, hu => by
    have hne : ¬ s = u.name := fun e => by have := hu 0 u rfl e.symm; omega
    rw [occ, if_neg hne, occ_one s r i v (by simpa using h) hs (fun j x hj hx => by have := hu (j + 1) x (by simpa using hj) hx; omega)]

theorem cnt_zero {s : ByteArray} : ∀ {r : List Qe}, (∀ q ∈ r, q.name ≠ s) → cnt s r = 0
  | [], _ => rfl
  | q :: r, h => by rw [cnt, if_neg (h q (by simp)), cnt_zero (fun u hu => h u (by simp [hu]))]

theorem own_law {p : Pr} (h : checkF p = (0, 0, 0)) :
    (∀ (i : Nat) (v : Va) (q : Qe), (varsOf p)[i]? = some v → q ∈ p.eqs → q.name = v.name → ofF q.e (varsOf p) = (v.type, 0)) ∧
    (∀ (i : Nat) (v : Va), (varsOf p)[i]? = some v → cnt v.name p.eqs = if i < p.ins.length then 0 else 1) ∧ p.eqs.length = p.outs.length + p.locals.length := by
  unfold checkF at h
  by_cases he : printE p ≠ 0
  · rw [if_pos he] at h; simp at h
  rw [if_neg he] at h
  by_cases hb : 8 < p.ins.length ∨ 8 < p.outs.length ∨ 24 < (varsOf p).length
  · rw [if_pos hb] at h; simp at h
  rw [if_neg hb] at h
  have hwh := whole_of_print (Decidable.not_not.1 he)
  have hqs := (whole_parts hwh).2.2.2.2
  have hlen : (varsOf p).length = p.ins.length + p.outs.length + p.locals.length := by simp [varsOf]; try omega
  unfold dupF at h
  cases hd : dupGo (varsOf p) 0 (varsOf p) with
  | some k => rw [hd] at h; simp at h
  | none =>
  rw [hd] at h
  simp only at h
  unfold eqsF at h
  cases hq : (eqGo (varsOf p) p.ins.length 0 (fun _ => none) p.eqs).1 with
  | some k => rw [hq] at h; simp at h
  | none =>
  rw [hq] at h
  simp only at h
  unfold endF at h
  cases hm : missGo (eqGo (varsOf p) p.ins.length 0 (fun _ => none) p.eqs).2 p.ins.length ((varsOf p).drop p.ins.length) with
  | some k => rw [hm] at h; simp at h
  | none =>
  have hdup := dupGo_none _ _ hd
  obtain ⟨hc1, hc2, hc3⟩ := eqGo_none _ _ _ hq
  have hc4 := hc3 (fun s => by simp) (fun s => by simp)
  have hmiss := missGo_none _ _ hm
  generalize (varsOf p) = L at *
  have hidx : ∀ (q : Qe), q ∈ p.eqs → ∃ (j : Nat) (v : Va), findV L q.name = some (j : Int) ∧ p.ins.length ≤ j ∧ L[j]? = some v ∧ v.name = q.name ∧ ofF q.e L = (v.type, 0) := by
    intro q hqm
    obtain ⟨d', hd'⟩ := hc2 q hqm
    obtain ⟨j, h1, h2, h3, h4, h5⟩ := eqE_zero hd'
    obtain ⟨k, v, rfl, hk, hn⟩ := findV_some h1
    refine ⟨k, v, h1, by omega, hk, hn, ?_⟩
    have hr : q.e.right = 0 := by
      have := hqs q hqm
      simp only [eqB, Bool.and_eq_true] at this
      simpa using this.1.2
    unfold ofF
    rw [if_neg (by omega)]
    have ht : typeAt L (k : Int) = v.type := by unfold typeAt; simp [hk]
    rw [ht] at h5
    exact Prod.ext h5 h4
  have huniq : ∀ (i : Nat) (v : Va) (q : Qe) , L[i]? = some v → q ∈ p.eqs → q.name = v.name → findV L q.name = some (i : Int) := by
    intro i v q hi hqm hn
    obtain ⟨j, u, h1, _⟩ := hidx q hqm
    have := hdup i v hi
    rw [← hn, h1] at this
    simp only [Option.getD_some] at this
    rw [h1]; congr 1; omega
  refine ⟨fun i v q hi hqm hn => ?_, fun i v hi => ?_, ?_⟩
  · obtain ⟨j, u, h1, h2, h3, h4, h5⟩ := hidx q hqm
    have := huniq i v q hi hqm hn
    rw [h1] at this
    have hji : j = i := by injection this with this; omega
    subst hji
    rw [h3] at hi
    obtain rfl : u = v := by injection hi
    exact h5
  · by_cases hlt : i < p.ins.length
    · rw [if_pos hlt]
      refine cnt_zero fun q hqm hn => ?_
      obtain ⟨j, u, h1, h2, _⟩ := hidx q hqm
      have := huniq i v q hi hqm hn
      rw [h1] at this
      injection this with this
      omega
    · rw [if_neg hlt]
      have hmem : v ∈ L.drop p.ins.length := by
        refine List.mem_of_getElem? (i := i - p.ins.length) ?_
        rw [List.getElem?_drop]
        rw [show p.ins.length + (i - p.ins.length) = i from by omega]; exact hi
      have h1 := hmiss v hmem
      rw [hc1] at h1
      have h2 := hc4 v.name
      simp at h1 h2
      omega
  · have hL : (L.drop p.ins.length).length = p.outs.length + p.locals.length := by rw [List.length_drop]; omega
    rw [← hL, ← sumC_one p.eqs (L.drop p.ins.length), sumC_len]
    · intro q hqm
      obtain ⟨j, v, h1, h2, h3, h4, _⟩ := hidx q hqm
      refine occ_one q.name _ (j - p.ins.length) v ?_ h4 fun j' u hu hun => ?_
      · rw [List.getElem?_drop, show p.ins.length + (j - p.ins.length) = j from by omega]; exact h3
      · rw [List.getElem?_drop] at hu
        have := huniq _ u q hu hqm hun.symm
        rw [h1] at this
        injection this with this
        omega
    · intro v hv
      obtain ⟨i, hi⟩ := List.getElem?_of_mem hv
      rw [List.getElem?_drop] at hi
      have hmem := hmiss v hv
      rw [hc1] at hmem
      have h2 := hc4 v.name
      simp at hmem h2
      omega

end Go.Proofs.YtknfcamdfdfoeaaDoor
