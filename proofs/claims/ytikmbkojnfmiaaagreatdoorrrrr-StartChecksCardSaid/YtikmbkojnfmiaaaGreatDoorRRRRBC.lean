/- Walks over the package tree: declared, list. -/
import Derived.Test.YtikmbkojnfmiaaaGreatDoorRRRRWShow2
import Derived.Test.YtikmbkojnfmiaaaGreatDoorRRRRWTree7
import Derived.Test.YtikmbkojnfmiaaaGreatDoorRRRRBB
set_option linter.unusedVariables false
set_option linter.unusedSimpArgs false
set_option maxRecDepth 100000
namespace Go.Proofs.YtikmbkojnfmiaaaGreatDoorRRRR
open Go.RowKit Go.Sort

set_option maxHeartbeats 1000000 in
theorem decl_any (v : Va) (hs : Short v) (w : World) : Calls Tryz.prog 55 #[vaV v] w fun r w' => r = .returned (.string (declB v)) ∧ Below w.heap.size w w' := by
  obtain ⟨h1, h2⟩ := hs
  unfold vaV
  by_cases c1 : v.ck = 1 <;> by_cases c2 : v.ck = 2 <;> by_cases c3 : v.type = 2 <;> first | omega |
  · have hv : declB v = declB v := rfl
    rw (occs := .pos [2]) [declB] at hv
    first | rw [if_pos c1] at hv | rw [if_neg c1, if_pos c2] at hv | rw [if_neg c1, if_neg c2] at hv
    first | rw [if_pos c3] at hv | rw [if_neg c3] at hv
    have HV := Lib.hid hv; clear hv
    go_enter Tryz.func55, Tryz.ntmps55
    go_wp2_with fail
    go_ret
    exact ⟨ret_str HV.out.symm, belA⟩

set_option maxHeartbeats 1000000 in
theorem list_any (l : List Va) (A : Option Addr) (cap : Nat) (hs : ∀ v ∈ l, Short v) (hn : l.length ≤ 1000000) (w : World) (hl : VarsAt w l A cap) :
    Calls Tryz.prog 54 #[.slice A l.length cap] w fun r w' => r = .returned (.string (listVB l)) ∧ Below w.heap.size w w' := by
  have hl2 := hl.len
  unfold maxLen at hl2
  obtain ⟨hl3, hl4⟩ := hl2
  have hsz := listGo_size l hs 0 ⟨#[40]⟩
  have HV := Lib.hid (show listVB l = listGo 0 ⟨#[40]⟩ l ++ ⟨#[41]⟩ from rfl)
  have hz : (listGo 0 ⟨#[40]⟩ l).size ≤ 100000000 := by
    simp only [size_lit, List.size_toArray, List.length_cons, List.length_nil] at hsz
    omega
  clear hsz
  generalize hG : listGo 0 ⟨#[40]⟩ l = G at HV hz
  have HG := Lib.hid hG; clear hG
  go_enter Tryz.func54, Tryz.ntmps54
  go_wp2_with fail
  go_loopw [3, 8] (fun o i wr => ∃ (k : Nat) (s : ByteArray), k ≤ l.length ∧ i = .int .i64 k ∧ o = .string s ∧ s.size ≤ 1 + 62 * k ∧ listGo k s (l.drop k) = G ∧ Below w.heap.size w wr) (fun _ i _ => l.length - (intOf i).toNat)
  case atStart => exact ⟨0, ⟨#[40]⟩, Nat.zero_le _, rfl, rfl, by decide, HG.out, Below.refl _ _⟩
  case round =>
    obtain ⟨k, s, hk, rfl, rfl, hss, hrem, hbel⟩ := hrel
    by_cases hlt : k < l.length
    · have hmem : l[k] ∈ l := List.getElem_mem hlt
      have hx : l[k]? = some l[k] := List.getElem?_eq_getElem hlt
      have hd : l.drop k = l[k] :: l.drop (k + 1) := List.drop_eq_getElem_cons hlt
      generalize l[k] = x at hx hd hmem
      obtain ⟨b, off, rfl, hbb, ⟨d0, d1, d2, d3⟩⟩ := (hl.later hbel).get hx
      rw [hd, listGo] at hrem
      have hsh := hs x hmem
      have hds := declB_size hsh
      have hdecl := fun W => decl_any x hsh W
      unfold vaV at hdecl
      clear hd hx
      rcases Nat.eq_zero_or_pos k with h0 | h0
      · subst h0
        rw [if_neg (by omega)] at hrem
        have HR := Lib.hid hrem; clear hrem
        simp only [Nat.zero_mul, Nat.add_zero] at d0 d1 d2 d3
        go_wp2_with (first | (go_at_call 55; refine (hdecl _).mono ?_; rintro r w1 ⟨rfl, hb1⟩; have hc1 := bcell hb1; have hz1 := hb1.size; (try simp at hz1); (try have hy1 := lt0 w w1); (try have hy2 := ltA w 1 w1); (try have hy3 := ltA w 2 w1); (try have hy4 := lt0 wr w1); (try have hy5 := ltA wr 1 w1)))
        go_roundw
        case rel => exact ⟨1, _, by omega, by go_num, rfl, by rw [size_app]; omega, HR.out, belA⟩
        case measure => simp [intOf]; omega
      · rw [if_pos h0] at hrem
        have HR := Lib.hid hrem; clear hrem
        have h0' : (0 : Int) < k := by omega
        go_wp2_with (first | (go_at_call 55; refine (hdecl _).mono ?_; rintro r w1 ⟨rfl, hb1⟩; have hc1 := bcell hb1; have hz1 := hb1.size; (try simp at hz1); (try have hy1 := lt0 w w1); (try have hy2 := ltA w 1 w1); (try have hy3 := ltA w 2 w1); (try have hy4 := lt0 wr w1); (try have hy5 := ltA wr 1 w1)))
        go_roundw
        case rel => exact ⟨k + 1, _, by omega, by go_num, rfl, by simp only [size_app, size_lit, List.size_toArray, List.length_cons, List.length_nil]; omega, HR.out, belA⟩
        case measure => simp [intOf]; omega
    · obtain rfl : k = l.length := by omega
      rw [List.drop_length, listGo] at hrem
      have HR := Lib.hid hrem; clear hrem
      go_wp2_with fail
      go_ret
      exact ⟨ret_str (by rw [HV.out, ← HR.out]), belA⟩

end Go.Proofs.YtikmbkojnfmiaaaGreatDoorRRRR

/- Walk over tree.Print. -/
namespace Go.Proofs.YtikmbkojnfmiaaaGreatDoorRRRR
open Go.RowKit Go.Sort

theorem ret_pair {s : ByteArray} {a b : Int} {k : IntKind} (h : a = b) : Ending.returned (.tuple #[.string s, .int k a]) = .returned (.tuple #[.string s, .int k b]) := by rw [h]
/-- What tree.Print gives. -/
def printS (p : Pr) : ByteArray := if printE p = 0 then printB p else ⟨#[]⟩

set_option maxHeartbeats 4000000 in
theorem print_any (p : Pr) (a : PrA) (w : World) (hp : PrAt w p a) (n1 : p.ins.length ≤ 1000000) (n2 : p.outs.length ≤ 1000000) (n3 : p.locals.length ≤ 1000000) (n4 : p.eqs.length ≤ 1000000) :
    Calls Tryz.prog 41 #[prV p a] w fun r w' => r = .returned (.tuple #[.string (printS p), .int .i64 (printE p)]) ∧ Below w.heap.size w w' := by
  have hl1 := hp.ins.len
  have hl2 := hp.outs.len
  have hl3 := hp.locals.len
  have hl4 := hp.eqs.len
  unfold maxLen at hl1 hl2 hl3 hl4
  obtain ⟨hl1, hm1⟩ := hl1
  obtain ⟨hl2, hm2⟩ := hl2
  obtain ⟨hl3, hm3⟩ := hl3
  obtain ⟨hl4, hm4⟩ := hl4
  have hwhole := fun W h => whole_any p a W (hp.later h)
  obtain ⟨A1, c1, A2, c2, A3, c3, A4, c4⟩ := a
  unfold prV at hwhole ⊢
  dsimp only at *
  cases hw : wholeB p
  · have hv : printE p = 4 := by unfold printE; rw [hw]; rfl
    have hs : printS p = ⟨#[]⟩ := by unfold printS; rw [hv]; rfl
    have HS := Lib.hid hs; clear hs
    have HV := Lib.hid hv; clear hv
    go_enter Tryz.func41, Tryz.ntmps41
    go_wp2_with (first | (go_at_call 53; refine (hwhole _ belA).mono ?_; rintro r w1 ⟨rfl, hb1⟩; have hc1 := bcell hb1; have hz1 := hb1.size; (try simp at hz1); (try have hy1 := lt0 w w1); (try have hy2 := ltA w 1 w1); (try have hy3 := ltA w 2 w1); (try have hy4 := lt0 wr w1); (try have hy5 := ltA wr 1 w1)))
    go_ret2
    exact ⟨by rw [HV.out, HS.out]; rfl, belA⟩
  obtain ⟨hnm, hins, houts, hlocs, heqs⟩ := whole_parts hw
  have hv : printE p = if 4096 < (printB p).size then 3 else 0 := by unfold printE; rw [hw]; rfl
  have HV := Lib.hid hv; clear hv
  have HLOC := Lib.hid hlocs; clear hlocs
  have HEQS := Lib.hid heqs; clear heqs
  have hlist1 := fun W h => list_any p.ins A1 c1 hins n1 W (hp.ins.later h)
  have hlist2 := fun W h => list_any p.outs A2 c2 houts n2 W (hp.outs.later h)
  have z1 := listVB_size hins
  have z2 := listVB_size houts
  clear hins houts
  have HPB := Lib.hid (show printB p = eqsGo (localsGo (if 0 < p.locals.length then headB p ++ ⟨#[118, 97, 114, 10]⟩ else headB p) p.locals ++ ⟨#[108, 101, 116, 10]⟩) p.eqs ++ ⟨#[116, 101, 108, 10]⟩ from rfl)
  have HHD := Lib.hid (show headB p = ⟨#[110, 111, 100, 101, 32]⟩ ++ p.name ++ ⟨#[32]⟩ ++ listVB p.ins ++ ⟨#[32, 114, 101, 116, 117, 114, 110, 115, 32]⟩ ++ listVB p.outs ++ ⟨#[59, 10]⟩ from rfl)
  have y1 : ¬ 9223372036854775807 < 5 + p.name.size := by omega
  have y2 : ¬ 9223372036854775807 < 5 + p.name.size + 1 := by omega
  have y3 : ¬ 9223372036854775807 < 5 + p.name.size + 1 + (listVB p.ins).size := by omega
  have y4 : ¬ 9223372036854775807 < 5 + p.name.size + 1 + (listVB p.ins).size + 9 := by omega
  have y5 : ¬ 9223372036854775807 < 5 + p.name.size + 1 + (listVB p.ins).size + 9 + (listVB p.outs).size := by omega
  have y6 : ¬ 9223372036854775807 < 5 + p.name.size + 1 + (listVB p.ins).size + 9 + (listVB p.outs).size + 2 := by omega
  generalize listVB p.ins = t1 at *
  generalize listVB p.outs = t2 at *
  go_enter Tryz.func41, Tryz.ntmps41
  go_wp2_with (first | (go_at_call 53; refine (hwhole _ belA).mono ?_; rintro r w1 ⟨rfl, hb1⟩; have hc1 := bcell hb1; have hz1 := hb1.size; (try simp at hz1); (try have hy1 := lt0 w w1); (try have hy2 := ltA w 1 w1); (try have hy3 := ltA w 2 w1); (try have hy4 := lt0 wr w1); (try have hy5 := ltA wr 1 w1)))
  have hy1' : w.heap.size < w1.heap.size := by omega
  refine wp_region_qb (by kernel_rfl) (by kernel_rfl) (fun hgq => ?_)
  repeat (quiet_step ((first | (go_at_call_of 54 A1; exact Calls.regrown_of (hlist1 _ belA)) | (go_at_call_of 54 A2; exact Calls.regrown_of (hlist2 _ belA)))))
  refine wpQuiet_nil ?_
  intro wq hwq
  replace hwq := bel_of_class hwq
  clear hgq
  have hcq := bcell hwq
  have hzq := hwq.size
  (try simp at hzq)
  (try have hyq1 := lt0 w wq); (try have hyq2 := ltA w 1 wq); (try have hyq3 := ltA w 2 wq); (try have hyq4 := lt0 wr wq)
  by_cases hloc : 0 < p.locals.length
  · have hif : (if 0 < p.locals.length then headB p ++ ⟨#[118, 97, 114, 10]⟩ else headB p) = headB p ++ ⟨#[118, 97, 114, 10]⟩ := if_pos hloc
    have HIF := Lib.hid hif; clear hif
    go_wp2_with fail
    refine wp_name fun W0 hW0 => ?_
    have hb0 : Below w.heap.size w W0 := by rw [hW0]; exact belA
    have hz0 : w.heap.size < W0.heap.size := by rw [hW0]; omega
    have k4 : W0.cell? ⟨w.heap.size, 4, none⟩ = some (.slice A4 p.eqs.length c4) := by rw [hW0]; go_simp
    clear hW0
    have hp3 := hp.locals.later hb0
    have hp4 := hp.eqs.later hb0
    dsimp only at hp3 hp4
    go_loopw [4, 35] (fun o i wr => ∃ (k : Nat) (s : ByteArray), k ≤ p.locals.length ∧ i = .int .i64 k ∧ o = .string s ∧ s.size ≤ 200000000 + 70 * k ∧ localsGo s (p.locals.drop k) = localsGo (headB p ++ ⟨#[118, 97, 114, 10]⟩) p.locals ∧ Below W0.heap.size W0 wr) (fun _ i _ => p.locals.length - (intOf i).toNat)
    case atStart => exact ⟨0, _, Nat.zero_le _, rfl, rfl, (by simp only [size_app, size_lit, List.size_toArray, List.length_cons, List.length_nil]; omega), by rw [HHD.out]; rfl, Below.refl _ _⟩
    case round =>
      obtain ⟨k, sx, hk, rfl, rfl, hss, hrem, hbel⟩ := hrel
      have hc := bcell hbel
      have hzr := hbel.size
      by_cases hlt : k < p.locals.length
      · have hx : p.locals[k]? = some p.locals[k] := List.getElem?_eq_getElem hlt
        have hd : p.locals.drop k = p.locals[k] :: p.locals.drop (k + 1) := List.drop_eq_getElem_cons hlt
        generalize p.locals[k] = x at hx hd
        obtain ⟨b, off, rfl, hbb, ⟨d0, d1, d2, d3⟩⟩ := (hp3.later hbel).get hx
        rw [hd, localsGo] at hrem
        have hsh := HLOC.out x (List.mem_of_getElem? hx)
        have hds := declB_size hsh
        have hdecl := fun W => decl_any x hsh W
        unfold vaV at hdecl
        have HR := Lib.hid hrem; clear hrem hd hx
        go_wp2_with (first | (go_at_call 55; refine (hdecl _).mono ?_; rintro r w1 ⟨rfl, hb1⟩; have hc1 := bcell hb1; have hz1 := hb1.size; (try simp at hz1); (try have hy1 := lt0 w w1); (try have hy2 := ltA w 1 w1); (try have hy3 := ltA w 2 w1); (try have hy4 := lt0 wr w1); (try have hy5 := ltA wr 1 w1)))
        go_roundw
        case rel => exact ⟨k + 1, _, by omega, by go_num, rfl, (by simp only [size_app, size_lit, List.size_toArray, List.length_cons, List.length_nil]; omega), HR.out, belA⟩
        case measure => simp [intOf]; omega
      · have hke : k = p.locals.length := by omega
        have hk2 : k ≤ 1000000 := by omega
        rw [hke, List.drop_length, localsGo] at hrem
        have HS := Lib.hid hrem; clear hrem hke
        go_wp2_with fail
        go_loopw [4, 51] (fun o i wr => ∃ (k : Nat) (s : ByteArray), k ≤ p.eqs.length ∧ i = .int .i64 k ∧ o = .string s ∧ s.size ≤ 400000000 + 20000 * k ∧ eqsGo s (p.eqs.drop k) = eqsGo (sx ++ ⟨#[108, 101, 116, 10]⟩) p.eqs ∧ Below W0.heap.size W0 wr) (fun _ i _ => p.eqs.length - (intOf i).toNat)
        case atStart => exact ⟨0, _, Nat.zero_le _, rfl, rfl, (by simp only [size_app, size_lit, List.size_toArray, List.length_cons, List.length_nil]; omega), rfl, hbel⟩
        case round =>
          obtain ⟨k, s, hk, rfl, rfl, hss, hrem, hbel⟩ := hrel
          have hc := bcell hbel
          have hzr := hbel.size
          by_cases hlt : k < p.eqs.length
          · have hx : p.eqs[k]? = some p.eqs[k] := List.getElem?_eq_getElem hlt
            have hd : p.eqs.drop k = p.eqs[k] :: p.eqs.drop (k + 1) := List.drop_eq_getElem_cons hlt
            generalize p.eqs[k] = q at hx hd
            obtain ⟨b, off, B1, n1, B2, n2, rfl, hbb, ⟨g0, g1, g2, g3, g4, g5, g6, g7, g8, g9, s1, s2⟩⟩ := (hp4.later hbel).get hx
            rw [hd, eqsGo, eqText] at hrem
            obtain ⟨hqn, hqf, hqz, hq1, hqd⟩ := eqB_parts (HEQS.out q (List.mem_of_getElem? hx))
            have hsz := Ex.showB_size q.e hqf
            have hshow := fun W h => show_any q.e hqf (by omega) B2 n2 W (s2.later h)
            have HQ1 := Lib.hid hq1; clear hq1
            have HQF := Lib.hid hqf; clear hqf
            unfold exV at hshow
            rcases hqd with hqd | hqd | hqd
            · rw [if_neg (by omega), if_neg (by omega)] at hrem
              have q1 : (q.delay == 1) = false := by rw [hqd]; rfl
              have q2 : (q.delay == 2) = false := by rw [hqd]; rfl
              clear hqd
              have HR := Lib.hid hrem; clear hrem hd hx
              go_wp2_with (first | (go_at_call 56; refine (hshow _ belA).mono ?_; rintro r w1 ⟨rfl, hb1⟩; have hc1 := bcell hb1; have hz1 := hb1.size; (try simp at hz1); (try have hy1 := lt0 w w1); (try have hy2 := ltA w 1 w1); (try have hy3 := ltA w 2 w1); (try have hy4 := lt0 wr w1); (try have hy5 := ltA wr 1 w1)))
              go_roundw
              case rel => exact ⟨k + 1, _, by omega, by go_num, rfl, (by simp only [size_app, size_lit, List.size_toArray, List.length_cons, List.length_nil]; omega), HR.out, belA⟩
              case measure => simp [intOf]; omega
            · rw [if_pos hqd] at hrem
              have q1 : (q.delay == 1) = true := by rw [hqd]; rfl
              have q2 : (q.delay == 2) = false := by rw [hqd]; rfl
              obtain ⟨hff, hfz⟩ := HQ1.out hqd
              have hsz1 := Ex.showB_size q.first hff
              have hshow1 := fun W h => show_any q.first hff (by omega) B1 n1 W (s1.later h)
              unfold exV at hshow1
              have HFF := Lib.hid hff; clear hff
              clear hqd
              have HR := Lib.hid hrem; clear hrem hd hx
              go_wp2_with (first | (go_at_call_of 56 B1; refine (hshow1 _ belA).mono ?_; rintro r w1 ⟨rfl, hb1⟩; have hc1 := bcell hb1; have hz1 := hb1.size; (try simp at hz1); (try have hy1 := lt0 w w1); (try have hy2 := ltA w 1 w1); (try have hy3 := ltA w 2 w1); (try have hy4 := lt0 wr w1); (try have hy5 := ltA wr 1 w1); (try have hyb : b < w1.heap.size := by omega)) | (go_at_call_of 56 B2; refine (hshow _ belA).mono ?_; rintro r w1 ⟨rfl, hb1⟩; have hc1 := bcell hb1; have hz1 := hb1.size; (try simp at hz1); (try have hy1 := lt0 w w1); (try have hy2 := ltA w 1 w1); (try have hy3 := ltA w 2 w1); (try have hy4 := lt0 wr w1); (try have hy5 := ltA wr 1 w1); (try have hyb : b < w1.heap.size := by omega)))
              go_roundw
              case rel => exact ⟨k + 1, _, by omega, by go_num, rfl, (by simp only [size_app, size_lit, List.size_toArray, List.length_cons, List.length_nil]; omega), HR.out, belA⟩
              case measure => simp [intOf]; omega
            · rw [if_neg (by omega), if_pos hqd] at hrem
              have q1 : (q.delay == 1) = false := by rw [hqd]; rfl
              have q2 : (q.delay == 2) = true := by rw [hqd]; rfl
              clear hqd
              have HR := Lib.hid hrem; clear hrem hd hx
              go_wp2_with (first | (go_at_call 56; refine (hshow _ belA).mono ?_; rintro r w1 ⟨rfl, hb1⟩; have hc1 := bcell hb1; have hz1 := hb1.size; (try simp at hz1); (try have hy1 := lt0 w w1); (try have hy2 := ltA w 1 w1); (try have hy3 := ltA w 2 w1); (try have hy4 := lt0 wr w1); (try have hy5 := ltA wr 1 w1)))
              go_roundw
              case rel => exact ⟨k + 1, _, by omega, by go_num, rfl, (by simp only [size_app, size_lit, List.size_toArray, List.length_cons, List.length_nil]; omega), HR.out, belA⟩
              case measure => simp [intOf]; omega
          · have hke : k = p.eqs.length := by omega
            have hk3 : k ≤ 1000000 := by omega
            rw [hke, List.drop_length, eqsGo] at hrem
            have hfin : printB p = s ++ ⟨#[116, 101, 108, 10]⟩ := by rw [HPB.out, HIF.out, ← HS.out, ← hrem]
            have hfs : (printB p).size = s.size + 4 := by rw [hfin, size_app]; rfl
            clear hke hrem
            by_cases hbig : 4096 < s.size + 4
            · have hv : printE p = 3 := by rw [HV.out, if_pos (by omega)]
              have hs : printS p = ⟨#[]⟩ := by unfold printS; rw [hv]; rfl
              have HS2 := Lib.hid hs; clear hs
              have HV2 := Lib.hid hv; clear hv hfin hfs
              have hbig' : (4096 : Int) < s.size + 4 := by omega
              go_wp2_with fail
              go_ret2
              exact ⟨by rw [HV2.out, HS2.out]; rfl, belA⟩
            · have hv : printE p = 0 := by rw [HV.out, if_neg (by omega)]
              have hs : printS p = s ++ ⟨#[116, 101, 108, 10]⟩ := by unfold printS; rw [hv, if_pos rfl, hfin]
              have HS2 := Lib.hid hs; clear hs
              have HV2 := Lib.hid hv; clear hv hfin hfs
              have hbig' : ¬ (4096 : Int) < s.size + 4 := by omega
              go_wp2_with fail
              go_ret2
              exact ⟨by rw [HV2.out, HS2.out]; rfl, belA⟩
  · have hif : (if 0 < p.locals.length then headB p ++ ⟨#[118, 97, 114, 10]⟩ else headB p) = headB p := if_neg hloc
    have HIF := Lib.hid hif; clear hif
    go_wp2_with fail
    refine wp_name fun W0 hW0 => ?_
    have hb0 : Below w.heap.size w W0 := by rw [hW0]; exact belA
    have hz0 : w.heap.size < W0.heap.size := by rw [hW0]; omega
    have k4 : W0.cell? ⟨w.heap.size, 4, none⟩ = some (.slice A4 p.eqs.length c4) := by rw [hW0]; go_simp
    clear hW0
    have hp3 := hp.locals.later hb0
    have hp4 := hp.eqs.later hb0
    dsimp only at hp3 hp4
    go_loopw [4, 35] (fun o i wr => ∃ (k : Nat) (s : ByteArray), k ≤ p.locals.length ∧ i = .int .i64 k ∧ o = .string s ∧ s.size ≤ 200000000 + 70 * k ∧ localsGo s (p.locals.drop k) = localsGo (headB p) p.locals ∧ Below W0.heap.size W0 wr) (fun _ i _ => p.locals.length - (intOf i).toNat)
    case atStart => exact ⟨0, _, Nat.zero_le _, rfl, rfl, (by simp only [size_app, size_lit, List.size_toArray, List.length_cons, List.length_nil]; omega), by rw [HHD.out]; rfl, Below.refl _ _⟩
    case round =>
      obtain ⟨k, sx, hk, rfl, rfl, hss, hrem, hbel⟩ := hrel
      have hc := bcell hbel
      have hzr := hbel.size
      by_cases hlt : k < p.locals.length
      · exfalso; omega
      · have hke : k = p.locals.length := by omega
        have hk2 : k ≤ 1000000 := by omega
        rw [hke, List.drop_length, localsGo] at hrem
        have HS := Lib.hid hrem; clear hrem hke
        go_wp2_with fail
        go_loopw [4, 51] (fun o i wr => ∃ (k : Nat) (s : ByteArray), k ≤ p.eqs.length ∧ i = .int .i64 k ∧ o = .string s ∧ s.size ≤ 400000000 + 20000 * k ∧ eqsGo s (p.eqs.drop k) = eqsGo (sx ++ ⟨#[108, 101, 116, 10]⟩) p.eqs ∧ Below W0.heap.size W0 wr) (fun _ i _ => p.eqs.length - (intOf i).toNat)
        case atStart => exact ⟨0, _, Nat.zero_le _, rfl, rfl, (by simp only [size_app, size_lit, List.size_toArray, List.length_cons, List.length_nil]; omega), rfl, hbel⟩
        case round =>
          obtain ⟨k, s, hk, rfl, rfl, hss, hrem, hbel⟩ := hrel
          have hc := bcell hbel
          have hzr := hbel.size
          by_cases hlt : k < p.eqs.length
          · have hx : p.eqs[k]? = some p.eqs[k] := List.getElem?_eq_getElem hlt
            have hd : p.eqs.drop k = p.eqs[k] :: p.eqs.drop (k + 1) := List.drop_eq_getElem_cons hlt
            generalize p.eqs[k] = q at hx hd
            obtain ⟨b, off, B1, n1, B2, n2, rfl, hbb, ⟨g0, g1, g2, g3, g4, g5, g6, g7, g8, g9, s1, s2⟩⟩ := (hp4.later hbel).get hx
            rw [hd, eqsGo, eqText] at hrem
            obtain ⟨hqn, hqf, hqz, hq1, hqd⟩ := eqB_parts (HEQS.out q (List.mem_of_getElem? hx))
            have hsz := Ex.showB_size q.e hqf
            have hshow := fun W h => show_any q.e hqf (by omega) B2 n2 W (s2.later h)
            have HQ1 := Lib.hid hq1; clear hq1
            have HQF := Lib.hid hqf; clear hqf
            unfold exV at hshow
            rcases hqd with hqd | hqd | hqd
            · rw [if_neg (by omega), if_neg (by omega)] at hrem
              have q1 : (q.delay == 1) = false := by rw [hqd]; rfl
              have q2 : (q.delay == 2) = false := by rw [hqd]; rfl
              clear hqd
              have HR := Lib.hid hrem; clear hrem hd hx
              go_wp2_with (first | (go_at_call 56; refine (hshow _ belA).mono ?_; rintro r w1 ⟨rfl, hb1⟩; have hc1 := bcell hb1; have hz1 := hb1.size; (try simp at hz1); (try have hy1 := lt0 w w1); (try have hy2 := ltA w 1 w1); (try have hy3 := ltA w 2 w1); (try have hy4 := lt0 wr w1); (try have hy5 := ltA wr 1 w1)))
              go_roundw
              case rel => exact ⟨k + 1, _, by omega, by go_num, rfl, (by simp only [size_app, size_lit, List.size_toArray, List.length_cons, List.length_nil]; omega), HR.out, belA⟩
              case measure => simp [intOf]; omega
            · rw [if_pos hqd] at hrem
              have q1 : (q.delay == 1) = true := by rw [hqd]; rfl
              have q2 : (q.delay == 2) = false := by rw [hqd]; rfl
              obtain ⟨hff, hfz⟩ := HQ1.out hqd
              have hsz1 := Ex.showB_size q.first hff
              have hshow1 := fun W h => show_any q.first hff (by omega) B1 n1 W (s1.later h)
              unfold exV at hshow1
              have HFF := Lib.hid hff; clear hff
              clear hqd
              have HR := Lib.hid hrem; clear hrem hd hx
              go_wp2_with (first | (go_at_call_of 56 B1; refine (hshow1 _ belA).mono ?_; rintro r w1 ⟨rfl, hb1⟩; have hc1 := bcell hb1; have hz1 := hb1.size; (try simp at hz1); (try have hy1 := lt0 w w1); (try have hy2 := ltA w 1 w1); (try have hy3 := ltA w 2 w1); (try have hy4 := lt0 wr w1); (try have hy5 := ltA wr 1 w1); (try have hyb : b < w1.heap.size := by omega)) | (go_at_call_of 56 B2; refine (hshow _ belA).mono ?_; rintro r w1 ⟨rfl, hb1⟩; have hc1 := bcell hb1; have hz1 := hb1.size; (try simp at hz1); (try have hy1 := lt0 w w1); (try have hy2 := ltA w 1 w1); (try have hy3 := ltA w 2 w1); (try have hy4 := lt0 wr w1); (try have hy5 := ltA wr 1 w1); (try have hyb : b < w1.heap.size := by omega)))
              go_roundw
              case rel => exact ⟨k + 1, _, by omega, by go_num, rfl, (by simp only [size_app, size_lit, List.size_toArray, List.length_cons, List.length_nil]; omega), HR.out, belA⟩
              case measure => simp [intOf]; omega
            · rw [if_neg (by omega), if_pos hqd] at hrem
              have q1 : (q.delay == 1) = false := by rw [hqd]; rfl
              have q2 : (q.delay == 2) = true := by rw [hqd]; rfl
              clear hqd
              have HR := Lib.hid hrem; clear hrem hd hx
              go_wp2_with (first | (go_at_call 56; refine (hshow _ belA).mono ?_; rintro r w1 ⟨rfl, hb1⟩; have hc1 := bcell hb1; have hz1 := hb1.size; (try simp at hz1); (try have hy1 := lt0 w w1); (try have hy2 := ltA w 1 w1); (try have hy3 := ltA w 2 w1); (try have hy4 := lt0 wr w1); (try have hy5 := ltA wr 1 w1)))
              go_roundw
              case rel => exact ⟨k + 1, _, by omega, by go_num, rfl, (by simp only [size_app, size_lit, List.size_toArray, List.length_cons, List.length_nil]; omega), HR.out, belA⟩
              case measure => simp [intOf]; omega
          · have hke : k = p.eqs.length := by omega
            have hk3 : k ≤ 1000000 := by omega
            rw [hke, List.drop_length, eqsGo] at hrem
            have hfin : printB p = s ++ ⟨#[116, 101, 108, 10]⟩ := by rw [HPB.out, HIF.out, ← HS.out, ← hrem]
            have hfs : (printB p).size = s.size + 4 := by rw [hfin, size_app]; rfl
            clear hke hrem
            by_cases hbig : 4096 < s.size + 4
            · have hv : printE p = 3 := by rw [HV.out, if_pos (by omega)]
              have hs : printS p = ⟨#[]⟩ := by unfold printS; rw [hv]; rfl
              have HS2 := Lib.hid hs; clear hs
              have HV2 := Lib.hid hv; clear hv hfin hfs
              have hbig' : (4096 : Int) < s.size + 4 := by omega
              go_wp2_with fail
              go_ret2
              exact ⟨by rw [HV2.out, HS2.out]; rfl, belA⟩
            · have hv : printE p = 0 := by rw [HV.out, if_neg (by omega)]
              have hs : printS p = s ++ ⟨#[116, 101, 108, 10]⟩ := by unfold printS; rw [hv, if_pos rfl, hfin]
              have HS2 := Lib.hid hs; clear hs
              have HV2 := Lib.hid hv; clear hv hfin hfs
              have hbig' : ¬ (4096 : Int) < s.size + 4 := by omega
              go_wp2_with fail
              go_ret2
              exact ⟨by rw [HV2.out, HS2.out]; rfl, belA⟩

end Go.Proofs.YtikmbkojnfmiaaaGreatDoorRRRR
