/- Walk over the reference's Print: its error is that of tree.Print. -/
import Derived.Test.YtikmbkojnfmiaaaGreatDoorRRRRWRefWhole2
import Derived.Test.YtikmbkojnfmiaaaGreatDoorRRRRBK
import Derived.Test.YtikmbkojnfmiaaaGreatDoorRRRRBC
set_option linter.unusedVariables false
set_option linter.unusedSimpArgs false
set_option maxRecDepth 100000
namespace Go.Proofs.YtikmbkojnfmiaaaGreatDoorRRRR
open Go.RowKit Go.Sort

/-- The head, as the reference writes it. -/
theorem headB_ref (p : Pr) : headB p = ⟨#[110, 111, 100, 101, 32]⟩ ++ p.name ++ ⟨#[32, 40]⟩ ++ declsB p.ins ++ ⟨#[41, 32, 114, 101, 116, 117, 114, 110, 115, 32, 40]⟩ ++ declsB p.outs ++ ⟨#[41, 59, 10]⟩ := by
  unfold headB
  rw [listVB_decls, listVB_decls]
  apply WideShapes.bytes_inj
  simp
theorem loc_ref (s d : ByteArray) : s ++ ⟨#[32, 32]⟩ ++ d ++ ⟨#[59, 10]⟩ = s ++ (⟨#[32, 32]⟩ ++ d ++ ⟨#[59, 10]⟩) := by
  ext1; simp
theorem eqText_ref (s : ByteArray) (q : Qe) : eqText s q =
    (if q.delay = 1 then s ++ ⟨#[32, 32]⟩ ++ q.name ++ ⟨#[32, 61, 32]⟩ ++ q.first.showB ++ ⟨#[32, 102, 98, 121, 32]⟩ else if q.delay = 2 then s ++ ⟨#[32, 32]⟩ ++ q.name ++ ⟨#[32, 61, 32]⟩ ++ ⟨#[112, 114, 101, 32]⟩ else s ++ ⟨#[32, 32]⟩ ++ q.name ++ ⟨#[32, 61, 32]⟩) ++ q.e.showB ++ ⟨#[59, 10]⟩ := by
  unfold eqText
  split
  · ext1; simp
  · split
    · ext1; simp
    · ext1; simp
theorem declsB_size {l : List Va} (h : ∀ v ∈ l, Short v) : (declsB l).size ≤ 62 * l.length := by
  have := listGo_size l h 0 ⟨#[]⟩
  unfold declsB
  simp only [size_lit, List.size_toArray, List.length_nil] at this
  omega

set_option maxHeartbeats 4000000 in
theorem refPrint_any (p : Pr) (a : PrA) (w : World) (hp : PrAt w p a) (hok : PrOK p) (n1 : p.ins.length ≤ 1000000) (n2 : p.outs.length ≤ 1000000) (n3 : p.locals.length ≤ 1000000) (n4 : p.eqs.length ≤ 1000000) :
    Calls Tryz.prog 48 #[prV p a] w fun r w' => r = .returned (.tuple #[.string (printS p), .int .i64 (printE p)]) ∧ Below w.heap.size w w' := by
  have hl1 := hp.ins.len
  have hl2 := hp.outs.len
  have hl3 := hp.locals.len
  have hl4 := hp.eqs.len
  unfold maxLen at hl1 hl2 hl3 hl4
  obtain ⟨hl1, hm1⟩ := hl1
  obtain ⟨hl2, hm2⟩ := hl2
  obtain ⟨hl3, hm3⟩ := hl3
  obtain ⟨hl4, hm4⟩ := hl4
  have hwhole := fun W h => refWhole_any p a W (hp.later h) hok
  obtain ⟨A1, c1, A2, c2, A3, c3, A4, c4⟩ := a
  unfold prV at hwhole ⊢
  dsimp only at *
  cases hw : wholeB p
  · have hv : printE p = 4 := by unfold printE; rw [hw]; rfl
    have hs : printS p = ⟨#[]⟩ := by unfold printS; rw [hv]; rfl
    have HS := Lib.hid hs; clear hs
    have HV := Lib.hid hv; clear hv
    go_enter Tryz.func48, Tryz.ntmps48
    go_wp2_with (first | (go_at_call 58; refine (hwhole _ belA).mono ?_; rintro r w1 ⟨rfl, hb1⟩; have hc1 := bcell hb1; have hz1 := hb1.size; (try simp at hz1); (try have hy1 := lt0 w w1); (try have hy2 := ltA w 1 w1); (try have hy3 := ltA w 2 w1); (try have hy4 := lt0 wr w1); (try have hy5 := ltA wr 1 w1)))
    go_ret2
    exact ⟨by rw [HV.out, HS.out]; rfl, belA⟩
  obtain ⟨hnm, hins, houts, hlocs, heqs⟩ := whole_parts hw
  have hv : printE p = if 4096 < (printB p).size then 3 else 0 := by unfold printE; rw [hw]; rfl
  have HV := Lib.hid hv; clear hv
  have HLOC := Lib.hid hlocs; clear hlocs
  have HEQS := Lib.hid heqs; clear heqs
  have hlist1 := fun W h => decls_any p.ins A1 c1 hins n1 W (hp.ins.later h)
  have hlist2 := fun W h => decls_any p.outs A2 c2 houts n2 W (hp.outs.later h)
  have z1 := declsB_size hins
  have z2 := declsB_size houts
  clear hins houts
  have HPB := Lib.hid (show printB p = eqsGo (localsGo (if 0 < p.locals.length then headB p ++ ⟨#[118, 97, 114, 10]⟩ else headB p) p.locals ++ ⟨#[108, 101, 116, 10]⟩) p.eqs ++ ⟨#[116, 101, 108, 10]⟩ from rfl)
  have HHD := Lib.hid (headB_ref p)
  have y1 : ¬ 9223372036854775807 < 5 + p.name.size := by omega
  have y2 : ¬ 9223372036854775807 < 5 + p.name.size + 2 := by omega
  have y3 : ¬ 9223372036854775807 < 5 + p.name.size + 2 + (declsB p.ins).size := by omega
  have y4 : ¬ 9223372036854775807 < 5 + p.name.size + 2 + (declsB p.ins).size + 11 := by omega
  have y5 : ¬ 9223372036854775807 < 5 + p.name.size + 2 + (declsB p.ins).size + 11 + (declsB p.outs).size := by omega
  have y6 : ¬ 9223372036854775807 < 5 + p.name.size + 2 + (declsB p.ins).size + 11 + (declsB p.outs).size + 3 := by omega
  generalize declsB p.ins = t1 at *
  generalize declsB p.outs = t2 at *
  go_enter Tryz.func48, Tryz.ntmps48
  go_wp2_with (first | (go_at_call 58; refine (hwhole _ belA).mono ?_; rintro r w1 ⟨rfl, hb1⟩; have hc1 := bcell hb1; have hz1 := hb1.size; (try simp at hz1); (try have hy1 := lt0 w w1); (try have hy2 := ltA w 1 w1); (try have hy3 := ltA w 2 w1); (try have hy4 := lt0 wr w1); (try have hy5 := ltA wr 1 w1)))
  have hy1' : w.heap.size < w1.heap.size := by omega
  refine wp_region_qb (by kernel_rfl) (by kernel_rfl) (fun hgq => ?_)
  repeat (quiet_step ((first | (go_at_call_of 59 A1; exact Calls.regrown_of (hlist1 _ belA)) | (go_at_call_of 59 A2; exact Calls.regrown_of (hlist2 _ belA)))))
  refine wpQuiet_nil ?_
  intro wq hwq
  replace hwq := bel_of_class hwq
  clear hgq
  have hcq := bcell hwq
  have hzq := hwq.size
  (try simp at hzq)
  (try have hyq1 := lt0 w wq); (try have hyq2 := ltA w 1 wq); (try have hyq3 := ltA w 2 wq); (try have hyq4 := lt0 wr wq)
  by_cases hloc : 0 < p.locals.length
  · have hif : (if 0 < p.locals.length then headB p ++ ⟨#[118, 97, 114, 10]⟩ else headB p) = headB p ++ ⟨#[118, 97, 114, 10]⟩ := if_pos hloc
    have HIF := Lib.hid hif; clear hif
    go_wp2_with fail
    refine wp_name fun W0 hW0 => ?_
    have hb0 : Below w.heap.size w W0 := by rw [hW0]; exact belA
    have hz0 : w.heap.size < W0.heap.size := by rw [hW0]; omega
    have k3 : W0.cell? ⟨w.heap.size, 3, none⟩ = some (.slice A3 p.locals.length c3) := by rw [hW0]; go_simp
    have k4 : W0.cell? ⟨w.heap.size, 4, none⟩ = some (.slice A4 p.eqs.length c4) := by rw [hW0]; go_simp
    clear hW0
    have hp3 := hp.locals.later hb0
    have hp4 := hp.eqs.later hb0
    dsimp only at hp3 hp4
    go_loopw [4, 5] (fun o i wr => ∃ (k : Nat) (s : ByteArray), k ≤ p.locals.length ∧ i = .int .i64 k ∧ o = .string s ∧ s.size ≤ 200000000 + 70 * k ∧ localsGo s (p.locals.drop k) = localsGo (headB p ++ ⟨#[118, 97, 114, 10]⟩) p.locals ∧ Below W0.heap.size W0 wr) (fun _ i _ => p.locals.length - (intOf i).toNat)
    case atStart => exact ⟨0, _, Nat.zero_le _, rfl, rfl, (by simp only [size_app, size_lit, List.size_toArray, List.length_cons, List.length_nil]; omega), by rw [HHD.out]; rfl, Below.refl _ _⟩
    case round =>
      obtain ⟨k, sx, hk, rfl, rfl, hss, hrem, hbel⟩ := hrel
      have hc := bcell hbel
      have hzr := hbel.size
      have hr1 : w.heap.size < wr.heap.size := by omega
      by_cases hlt : k < p.locals.length
      · have hx : p.locals[k]? = some p.locals[k] := List.getElem?_eq_getElem hlt
        have hd : p.locals.drop k = p.locals[k] :: p.locals.drop (k + 1) := List.drop_eq_getElem_cons hlt
        generalize p.locals[k] = x at hx hd
        obtain ⟨b, off, rfl, hbb, ⟨d0, d1, d2, d3⟩⟩ := (hp3.later hbel).get hx
        rw [hd, localsGo, ← loc_ref] at hrem
        have hsh := HLOC.out x (List.mem_of_getElem? hx)
        have hds := declB_size hsh
        have hdecl := fun W => rdecl_any x hsh W
        unfold vaV at hdecl
        have HR := Lib.hid hrem; clear hrem hd hx
        go_wp2_with (first | (go_at_call 60; refine (hdecl _).mono ?_; rintro r w1 ⟨rfl, hb1⟩; have hc1 := bcell hb1; have hz1 := hb1.size; (try simp at hz1); (try have hy1 := lt0 w w1); (try have hy2 := ltA w 1 w1); (try have hy3 := ltA w 2 w1); (try have hy4 := lt0 wr w1); (try have hy5 := ltA wr 1 w1)))
        go_roundw
        case rel => exact ⟨k + 1, _, by omega, by go_num, rfl, (by simp only [size_app, size_lit, List.size_toArray, List.length_cons, List.length_nil]; omega), HR.out, belA⟩
        case measure => simp [intOf]; omega
      · have hke : k = p.locals.length := by omega
        have hk2 : k ≤ 1000000 := by omega
        rw [hke, List.drop_length, localsGo] at hrem
        have HS := Lib.hid hrem; clear hrem hke
        go_wp2_with fail
        go_loopw [4, 6] (fun o i wr => ∃ (k : Nat) (s : ByteArray), k ≤ p.eqs.length ∧ i = .int .i64 k ∧ o = .string s ∧ s.size ≤ 400000000 + 20000 * k ∧ eqsGo s (p.eqs.drop k) = eqsGo (sx ++ ⟨#[108, 101, 116, 10]⟩) p.eqs ∧ Below W0.heap.size W0 wr) (fun _ i _ => p.eqs.length - (intOf i).toNat)
        case atStart => exact ⟨0, _, Nat.zero_le _, rfl, rfl, (by simp only [size_app, size_lit, List.size_toArray, List.length_cons, List.length_nil]; omega), rfl, hbel⟩
        case round =>
          obtain ⟨k, s, hk, rfl, rfl, hss, hrem, hbel⟩ := hrel
          have hc := bcell hbel
          have hzr := hbel.size
          have hr1 : w.heap.size < wr.heap.size := by omega
          have hr2 : w.heap.size < wr.heap.size + 1 := by omega
          by_cases hlt : k < p.eqs.length
          · have hx : p.eqs[k]? = some p.eqs[k] := List.getElem?_eq_getElem hlt
            have hd : p.eqs.drop k = p.eqs[k] :: p.eqs.drop (k + 1) := List.drop_eq_getElem_cons hlt
            generalize p.eqs[k] = q at hx hd
            obtain ⟨b, off, B1, n1, B2, n2, rfl, hbb, ⟨g0, g1, g2, g3, g4, g5, g6, g7, g8, g9, s1, s2⟩⟩ := (hp4.later hbel).get hx
            rw [hd, eqsGo, eqText_ref] at hrem
            obtain ⟨hqn, hqf, hqz, hq1, hqd⟩ := eqB_parts (HEQS.out q (List.mem_of_getElem? hx))
            have hsz := Ex.showB_size q.e hqf
            have hshow := fun W h => text_any q.e hqf (by omega) B2 n2 W (s2.later h)
            have HQ1 := Lib.hid hq1; clear hq1
            have HQF := Lib.hid hqf; clear hqf
            unfold exV at hshow
            rcases hqd with hqd | hqd | hqd
            · rw [if_neg (by omega), if_neg (by omega)] at hrem
              have q1 : (q.delay == 1) = false := by rw [hqd]; rfl
              have q2 : (q.delay == 2) = false := by rw [hqd]; rfl
              clear hqd
              have HR := Lib.hid hrem; clear hrem hd hx
              go_wp2_with (first | (go_at_call 61; refine (hshow _ belA).mono ?_; rintro r w1 ⟨rfl, hb1⟩; have hc1 := bcell hb1; have hz1 := hb1.size; (try simp at hz1); (try have hy1 := lt0 w w1); (try have hy2 := ltA w 1 w1); (try have hy3 := ltA w 2 w1); (try have hy4 := lt0 wr w1); (try have hy5 := ltA wr 1 w1)))
              go_roundw
              case rel => exact ⟨k + 1, _, by omega, by go_num, rfl, (by simp only [size_app, size_lit, List.size_toArray, List.length_cons, List.length_nil]; omega), HR.out, belA⟩
              case measure => simp [intOf]; omega
            · rw [if_pos hqd] at hrem
              have q1 : (q.delay == 1) = true := by rw [hqd]; rfl
              have q2 : (q.delay == 2) = false := by rw [hqd]; rfl
              obtain ⟨hff, hfz⟩ := HQ1.out hqd
              have hsz1 := Ex.showB_size q.first hff
              have hshow1 := fun W h => text_any q.first hff (by omega) B1 n1 W (s1.later h)
              unfold exV at hshow1
              have HFF := Lib.hid hff; clear hff
              clear hqd
              have HR := Lib.hid hrem; clear hrem hd hx
              go_wp2_with (first | (go_at_call_of 61 B1; refine (hshow1 _ belA).mono ?_; rintro r w1 ⟨rfl, hb1⟩; have hc1 := bcell hb1; have hz1 := hb1.size; (try simp at hz1); (try have hy1 := lt0 w w1); (try have hy2 := ltA w 1 w1); (try have hy3 := ltA w 2 w1); (try have hy4 := lt0 wr w1); (try have hy5 := ltA wr 1 w1); (try have hyb : b < w1.heap.size := by omega)) | (go_at_call_of 61 B2; refine (hshow _ belA).mono ?_; rintro r w1 ⟨rfl, hb1⟩; have hc1 := bcell hb1; have hz1 := hb1.size; (try simp at hz1); (try have hy1 := lt0 w w1); (try have hy2 := ltA w 1 w1); (try have hy3 := ltA w 2 w1); (try have hy4 := lt0 wr w1); (try have hy5 := ltA wr 1 w1); (try have hyb : b < w1.heap.size := by omega)))
              go_roundw
              case rel => exact ⟨k + 1, _, by omega, by go_num, rfl, (by simp only [size_app, size_lit, List.size_toArray, List.length_cons, List.length_nil]; omega), HR.out, belA⟩
              case measure => simp [intOf]; omega
            · rw [if_neg (by omega), if_pos hqd] at hrem
              have q1 : (q.delay == 1) = false := by rw [hqd]; rfl
              have q2 : (q.delay == 2) = true := by rw [hqd]; rfl
              clear hqd
              have HR := Lib.hid hrem; clear hrem hd hx
              go_wp2_with (first | (go_at_call 61; refine (hshow _ belA).mono ?_; rintro r w1 ⟨rfl, hb1⟩; have hc1 := bcell hb1; have hz1 := hb1.size; (try simp at hz1); (try have hy1 := lt0 w w1); (try have hy2 := ltA w 1 w1); (try have hy3 := ltA w 2 w1); (try have hy4 := lt0 wr w1); (try have hy5 := ltA wr 1 w1)))
              go_roundw
              case rel => exact ⟨k + 1, _, by omega, by go_num, rfl, (by simp only [size_app, size_lit, List.size_toArray, List.length_cons, List.length_nil]; omega), HR.out, belA⟩
              case measure => simp [intOf]; omega
          · have hke : k = p.eqs.length := by omega
            have hk3 : k ≤ 1000000 := by omega
            rw [hke, List.drop_length, eqsGo] at hrem
            have hfin : printB p = s ++ ⟨#[116, 101, 108, 10]⟩ := by rw [HPB.out, HIF.out, ← HS.out, ← hrem]
            have hfs : (printB p).size = s.size + 4 := by rw [hfin, size_app]; rfl
            clear hke hrem
            by_cases hbig : 4096 < s.size + 4
            · have hv : printE p = 3 := by rw [HV.out, if_pos (by omega)]
              have hs : printS p = ⟨#[]⟩ := by unfold printS; rw [hv]; rfl
              have HS2 := Lib.hid hs; clear hs
              have HV2 := Lib.hid hv; clear hv hfin hfs
              have hbig' : (4096 : Int) < s.size + 4 := by omega
              go_wp2_with fail
              go_ret2
              exact ⟨by rw [HV2.out, HS2.out]; rfl, belA⟩
            · have hv : printE p = 0 := by rw [HV.out, if_neg (by omega)]
              have hs : printS p = s ++ ⟨#[116, 101, 108, 10]⟩ := by unfold printS; rw [hv, if_pos rfl, hfin]
              have HS2 := Lib.hid hs; clear hs
              have HV2 := Lib.hid hv; clear hv hfin hfs
              have hbig' : ¬ (4096 : Int) < s.size + 4 := by omega
              go_wp2_with fail
              go_ret2
              exact ⟨by rw [HV2.out, HS2.out]; rfl, belA⟩
  · have hif : (if 0 < p.locals.length then headB p ++ ⟨#[118, 97, 114, 10]⟩ else headB p) = headB p := if_neg hloc
    have HIF := Lib.hid hif; clear hif
    go_wp2_with fail
    refine wp_name fun W0 hW0 => ?_
    have hb0 : Below w.heap.size w W0 := by rw [hW0]; exact belA
    have hz0 : w.heap.size < W0.heap.size := by rw [hW0]; omega
    have k3 : W0.cell? ⟨w.heap.size, 3, none⟩ = some (.slice A3 p.locals.length c3) := by rw [hW0]; go_simp
    have k4 : W0.cell? ⟨w.heap.size, 4, none⟩ = some (.slice A4 p.eqs.length c4) := by rw [hW0]; go_simp
    clear hW0
    have hp3 := hp.locals.later hb0
    have hp4 := hp.eqs.later hb0
    dsimp only at hp3 hp4
    go_loopw [4, 5] (fun o i wr => ∃ (k : Nat) (s : ByteArray), k ≤ p.locals.length ∧ i = .int .i64 k ∧ o = .string s ∧ s.size ≤ 200000000 + 70 * k ∧ localsGo s (p.locals.drop k) = localsGo (headB p) p.locals ∧ Below W0.heap.size W0 wr) (fun _ i _ => p.locals.length - (intOf i).toNat)
    case atStart => exact ⟨0, _, Nat.zero_le _, rfl, rfl, (by simp only [size_app, size_lit, List.size_toArray, List.length_cons, List.length_nil]; omega), by rw [HHD.out]; rfl, Below.refl _ _⟩
    case round =>
      obtain ⟨k, sx, hk, rfl, rfl, hss, hrem, hbel⟩ := hrel
      have hc := bcell hbel
      have hzr := hbel.size
      have hr1 : w.heap.size < wr.heap.size := by omega
      by_cases hlt : k < p.locals.length
      · exfalso; omega
      · have hke : k = p.locals.length := by omega
        have hk2 : k ≤ 1000000 := by omega
        rw [hke, List.drop_length, localsGo] at hrem
        have HS := Lib.hid hrem; clear hrem hke
        go_wp2_with fail
        go_loopw [4, 6] (fun o i wr => ∃ (k : Nat) (s : ByteArray), k ≤ p.eqs.length ∧ i = .int .i64 k ∧ o = .string s ∧ s.size ≤ 400000000 + 20000 * k ∧ eqsGo s (p.eqs.drop k) = eqsGo (sx ++ ⟨#[108, 101, 116, 10]⟩) p.eqs ∧ Below W0.heap.size W0 wr) (fun _ i _ => p.eqs.length - (intOf i).toNat)
        case atStart => exact ⟨0, _, Nat.zero_le _, rfl, rfl, (by simp only [size_app, size_lit, List.size_toArray, List.length_cons, List.length_nil]; omega), rfl, hbel⟩
        case round =>
          obtain ⟨k, s, hk, rfl, rfl, hss, hrem, hbel⟩ := hrel
          have hc := bcell hbel
          have hzr := hbel.size
          have hr1 : w.heap.size < wr.heap.size := by omega
          have hr2 : w.heap.size < wr.heap.size + 1 := by omega
          by_cases hlt : k < p.eqs.length
          · have hx : p.eqs[k]? = some p.eqs[k] := List.getElem?_eq_getElem hlt
            have hd : p.eqs.drop k = p.eqs[k] :: p.eqs.drop (k + 1) := List.drop_eq_getElem_cons hlt
            generalize p.eqs[k] = q at hx hd
            obtain ⟨b, off, B1, n1, B2, n2, rfl, hbb, ⟨g0, g1, g2, g3, g4, g5, g6, g7, g8, g9, s1, s2⟩⟩ := (hp4.later hbel).get hx
            rw [hd, eqsGo, eqText_ref] at hrem
            obtain ⟨hqn, hqf, hqz, hq1, hqd⟩ := eqB_parts (HEQS.out q (List.mem_of_getElem? hx))
            have hsz := Ex.showB_size q.e hqf
            have hshow := fun W h => text_any q.e hqf (by omega) B2 n2 W (s2.later h)
            have HQ1 := Lib.hid hq1; clear hq1
            have HQF := Lib.hid hqf; clear hqf
            unfold exV at hshow
            rcases hqd with hqd | hqd | hqd
            · rw [if_neg (by omega), if_neg (by omega)] at hrem
              have q1 : (q.delay == 1) = false := by rw [hqd]; rfl
              have q2 : (q.delay == 2) = false := by rw [hqd]; rfl
              clear hqd
              have HR := Lib.hid hrem; clear hrem hd hx
              go_wp2_with (first | (go_at_call 61; refine (hshow _ belA).mono ?_; rintro r w1 ⟨rfl, hb1⟩; have hc1 := bcell hb1; have hz1 := hb1.size; (try simp at hz1); (try have hy1 := lt0 w w1); (try have hy2 := ltA w 1 w1); (try have hy3 := ltA w 2 w1); (try have hy4 := lt0 wr w1); (try have hy5 := ltA wr 1 w1)))
              go_roundw
              case rel => exact ⟨k + 1, _, by omega, by go_num, rfl, (by simp only [size_app, size_lit, List.size_toArray, List.length_cons, List.length_nil]; omega), HR.out, belA⟩
              case measure => simp [intOf]; omega
            · rw [if_pos hqd] at hrem
              have q1 : (q.delay == 1) = true := by rw [hqd]; rfl
              have q2 : (q.delay == 2) = false := by rw [hqd]; rfl
              obtain ⟨hff, hfz⟩ := HQ1.out hqd
              have hsz1 := Ex.showB_size q.first hff
              have hshow1 := fun W h => text_any q.first hff (by omega) B1 n1 W (s1.later h)
              unfold exV at hshow1
              have HFF := Lib.hid hff; clear hff
              clear hqd
              have HR := Lib.hid hrem; clear hrem hd hx
              go_wp2_with (first | (go_at_call_of 61 B1; refine (hshow1 _ belA).mono ?_; rintro r w1 ⟨rfl, hb1⟩; have hc1 := bcell hb1; have hz1 := hb1.size; (try simp at hz1); (try have hy1 := lt0 w w1); (try have hy2 := ltA w 1 w1); (try have hy3 := ltA w 2 w1); (try have hy4 := lt0 wr w1); (try have hy5 := ltA wr 1 w1); (try have hyb : b < w1.heap.size := by omega)) | (go_at_call_of 61 B2; refine (hshow _ belA).mono ?_; rintro r w1 ⟨rfl, hb1⟩; have hc1 := bcell hb1; have hz1 := hb1.size; (try simp at hz1); (try have hy1 := lt0 w w1); (try have hy2 := ltA w 1 w1); (try have hy3 := ltA w 2 w1); (try have hy4 := lt0 wr w1); (try have hy5 := ltA wr 1 w1); (try have hyb : b < w1.heap.size := by omega)))
              go_roundw
              case rel => exact ⟨k + 1, _, by omega, by go_num, rfl, (by simp only [size_app, size_lit, List.size_toArray, List.length_cons, List.length_nil]; omega), HR.out, belA⟩
              case measure => simp [intOf]; omega
            · rw [if_neg (by omega), if_pos hqd] at hrem
              have q1 : (q.delay == 1) = false := by rw [hqd]; rfl
              have q2 : (q.delay == 2) = true := by rw [hqd]; rfl
              clear hqd
              have HR := Lib.hid hrem; clear hrem hd hx
              go_wp2_with (first | (go_at_call 61; refine (hshow _ belA).mono ?_; rintro r w1 ⟨rfl, hb1⟩; have hc1 := bcell hb1; have hz1 := hb1.size; (try simp at hz1); (try have hy1 := lt0 w w1); (try have hy2 := ltA w 1 w1); (try have hy3 := ltA w 2 w1); (try have hy4 := lt0 wr w1); (try have hy5 := ltA wr 1 w1)))
              go_roundw
              case rel => exact ⟨k + 1, _, by omega, by go_num, rfl, (by simp only [size_app, size_lit, List.size_toArray, List.length_cons, List.length_nil]; omega), HR.out, belA⟩
              case measure => simp [intOf]; omega
          · have hke : k = p.eqs.length := by omega
            have hk3 : k ≤ 1000000 := by omega
            rw [hke, List.drop_length, eqsGo] at hrem
            have hfin : printB p = s ++ ⟨#[116, 101, 108, 10]⟩ := by rw [HPB.out, HIF.out, ← HS.out, ← hrem]
            have hfs : (printB p).size = s.size + 4 := by rw [hfin, size_app]; rfl
            clear hke hrem
            by_cases hbig : 4096 < s.size + 4
            · have hv : printE p = 3 := by rw [HV.out, if_pos (by omega)]
              have hs : printS p = ⟨#[]⟩ := by unfold printS; rw [hv]; rfl
              have HS2 := Lib.hid hs; clear hs
              have HV2 := Lib.hid hv; clear hv hfin hfs
              have hbig' : (4096 : Int) < s.size + 4 := by omega
              go_wp2_with fail
              go_ret2
              exact ⟨by rw [HV2.out, HS2.out]; rfl, belA⟩
            · have hv : printE p = 0 := by rw [HV.out, if_neg (by omega)]
              have hs : printS p = s ++ ⟨#[116, 101, 108, 10]⟩ := by unfold printS; rw [hv, if_pos rfl, hfin]
              have HS2 := Lib.hid hs; clear hs
              have HV2 := Lib.hid hv; clear hv hfin hfs
              have hbig' : ¬ (4096 : Int) < s.size + 4 := by omega
              go_wp2_with fail
              go_ret2
              exact ⟨by rw [HV2.out, HS2.out]; rfl, belA⟩


end Go.Proofs.YtikmbkojnfmiaaaGreatDoorRRRR
