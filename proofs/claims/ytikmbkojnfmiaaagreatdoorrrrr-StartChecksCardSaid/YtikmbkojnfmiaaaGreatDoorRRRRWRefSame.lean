/- Walks over the reference's tree: SameExpr, sameVars, Same (of what is alike). -/
import Derived.Laws.StructEq
import Derived.Test.YtikmbkojnfmiaaaGreatDoorRRRRBA
import Derived.Test.YtikmbkojnfmiaaaGreatDoorRRRRBB
set_option linter.unusedVariables false
set_option linter.unusedSimpArgs false
set_option maxRecDepth 100000
namespace Go.Proofs.YtikmbkojnfmiaaaGreatDoorRRRR
open Go.RowKit Go.Sort

set_option maxHeartbeats 800000 in
theorem refSame_any (e : Ex) : ∀ (y : Ex) (A : Option Addr) (cap : Nat) (A2 : Option Addr) (cap2 : Nat) (w : World), SubsAt w e A cap → SubsAt w y A2 cap2 →
    Calls Tryz.prog 24 #[exV e A cap, exV y A2 cap2] w fun r w' => r = .returned (.bool (e.same y)) ∧ Below w.heap.size w w' := by
  induction e using Ex.ind with
  | h e ih =>
  intro y A cap A2 cap2 w he hy
  have hl := he.len
  have hl' := hy.len
  unfold maxLen at hl hl'
  obtain ⟨hl1, hl2⟩ := hl
  obtain ⟨hl3, hl4⟩ := hl'
  have hv := Ex.same_eq e y
  unfold exV
  cases h1 : (e.kind != y.kind)
  case true => rw [bneI_ne h1, Bool.false_and, Bool.false_and, Bool.false_and, Bool.false_and] at hv
               have HV := Lib.hid hv; clear hv
               go_enter Tryz.func24, Tryz.ntmps24
               go_wp2_with fail
               go_ret
               exact ⟨ret_bool HV.out.symm, belA⟩
  rw [bneI_eq h1, Bool.true_and] at hv
  cases h2 : (e.n != y.n)
  case true => rw [bneI_ne h2, Bool.false_and, Bool.false_and, Bool.false_and] at hv
               have HV := Lib.hid hv; clear hv
               go_enter Tryz.func24, Tryz.ntmps24
               go_wp2_with fail
               go_ret
               exact ⟨ret_bool HV.out.symm, belA⟩
  rw [bneI_eq h2, Bool.true_and] at hv
  cases h3 : (e.name.toList == y.name.toList)
  case false => rw [h3, Bool.false_and, Bool.false_and] at hv
                have HV := Lib.hid hv; clear hv
                go_enter Tryz.func24, Tryz.ntmps24
                go_wp2_with fail
                go_ret
                exact ⟨ret_bool HV.out.symm, belA⟩
  rw [h3, Bool.true_and] at hv
  cases h4 : ((e.sub.length : Int) != y.sub.length)
  case true => have h4n : (e.sub.length == y.sub.length) = false := by { simp at h4; simp; omega }; rw [h4n, Bool.false_and] at hv; clear h4n
               have HV := Lib.hid hv; clear hv
               go_enter Tryz.func24, Tryz.ntmps24
               go_wp2_with fail
               go_ret
               exact ⟨ret_bool HV.out.symm, belA⟩
  have h4n : e.sub.length = y.sub.length := by have := bneI_false h4; omega
  rw [h4n, beq_self_eq_true, Bool.true_and] at hv
  have HV := Lib.hid hv; clear hv
  have H4 := Lib.hid h4n; clear h4n
  go_enter Tryz.func24, Tryz.ntmps24
  go_wp2_with fail
  go_loopw [5] (fun i wr => ∃ (k : Nat), k ≤ e.sub.length ∧ i = .int .i64 k ∧ Ex.sameL (e.sub.drop k) (y.sub.drop k) = e.same y ∧ wr.cell? ⟨w.heap.size + 1, 3, none⟩ = some (.slice A2 y.sub.length cap2) ∧ wr.cell? ⟨w.heap.size, 3, none⟩ = some (.slice A e.sub.length cap) ∧ Below w.heap.size w wr) (fun i _ => e.sub.length - (intOf i).toNat)
  case atStart => exact ⟨0, Nat.zero_le _, rfl, by rw [HV.out]; simp, by go_simp, by go_simp, belA⟩
  case round =>
    obtain ⟨k, hk, rfl, hrem, hbox, hbox1, hbel⟩ := hrel
    have hbz := block_lt_of_cell hbox
    dsimp only at hbz
    have hbz' : w.heap.size < wr.heap.size := by omega
    by_cases hlt : k < e.sub.length
    · have hlt2 : k < y.sub.length := by have := H4.out; omega
      have hx : e.sub[k]? = some e.sub[k] := List.getElem?_eq_getElem hlt
      have hmem : e.sub[k] ∈ e.sub := List.getElem_mem hlt
      have hd : e.sub.drop k = e.sub[k] :: e.sub.drop (k + 1) := List.drop_eq_getElem_cons hlt
      generalize e.sub[k] = x at hx hmem hd
      obtain ⟨b, off, A', cap', rfl, c0, c1, c2, c3, hs⟩ := (he.later hbel).get hx
      have hx2 : y.sub[k]? = some y.sub[k] := List.getElem?_eq_getElem hlt2
      have hd2 : y.sub.drop k = y.sub[k] :: y.sub.drop (k + 1) := List.drop_eq_getElem_cons hlt2
      generalize y.sub[k] = x2 at hx2 hd2
      obtain ⟨b2, off2, A2', cap2', rfl, g0, g1, g2, g3, hy2⟩ := (hy.later hbel).get hx2
      rw [hd, hd2, Ex.sameL] at hrem
      have ihx := ih x hmem
      have hb2 := block_lt_of_cell g0
      dsimp only at hb2
      have hb2' : b2 < wr.heap.size + 1 := by omega
      have hb1' : b < wr.heap.size := block_lt_of_cell c0
      cases hsm : x.same x2
      · rw [hsm] at hrem
        have HR := Lib.hid hrem; clear hrem hd hd2 hx hx2
        go_wp2_with fail
        refine wp_region_qb (by kernel_rfl) (by kernel_rfl) (fun hgq => ?_)
        repeat (quiet_step ((go_at_call 24; exact Calls.regrown_of (ihx x2 _ _ _ _ _ (hs.later belA) (hy2.later belA)))))
        refine wpQuiet_nil ?_
        intro wq hwq
        replace hwq := bel_of_class hwq
        clear hgq
        have hcq := bcell hwq
        have hzq := hwq.size
        (try simp at hzq)
        (try have hyq1 := lt0 w wq); (try have hyq2 := ltA w 1 wq); (try have hyq3 := ltA w 2 wq); (try have hyq4 := lt0 wr wq)
        go_wp2_with fail
        go_ret
        exact ⟨ret_bool HR.out, belA⟩
      · rw [hsm] at hrem
        have HR := Lib.hid hrem; clear hrem hd hd2 hx hx2
        go_wp2_with fail
        refine wp_region_qb (by kernel_rfl) (by kernel_rfl) (fun hgq => ?_)
        repeat (quiet_step ((go_at_call 24; exact Calls.regrown_of (ihx x2 _ _ _ _ _ (hs.later belA) (hy2.later belA)))))
        refine wpQuiet_nil ?_
        intro wq hwq
        replace hwq := bel_of_class hwq
        clear hgq
        have hcq := bcell hwq
        have hzq := hwq.size
        (try simp at hzq)
        (try have hyq1 := lt0 w wq); (try have hyq2 := ltA w 1 wq); (try have hyq3 := ltA w 2 wq); (try have hyq4 := lt0 wr wq)
        go_wp2_with fail
        go_roundw
        case rel => exact ⟨k + 1, by omega, by go_num, HR.out, (by repeat (first | (with_reducible assumption) | refine bel_cell (by with_reducible assumption) ?_ | refine cel_alloc ?_ | refine cel_drew ?_)), (by repeat (first | (with_reducible assumption) | refine bel_cell (by with_reducible assumption) ?_ | refine cel_alloc ?_ | refine cel_drew ?_)), belA⟩
        case measure => simp [intOf]; omega
    · have hke : k = e.sub.length := by omega
      rw [hke, List.drop_length, Ex.sameL] at hrem
      have HR := Lib.hid hrem; clear hrem hke
      go_wp2_with fail
      go_ret
      exact ⟨ret_bool HR.out, belA⟩


mutual
theorem Ex.same_refl : ∀ e : Ex, e.same e = true
  | .mk k n s l => by
    have h := Ex.sameL_refl l
    simp [Ex.same, Ex.kind, Ex.n, Ex.name, Ex.sub, h]
theorem Ex.sameL_refl : ∀ l : List Ex, Ex.sameL l l = true
  | [] => by simp [Ex.sameL]
  | x :: l => by
    have h1 := Ex.same_refl x
    have h2 := Ex.sameL_refl l
    simp [Ex.sameL, h1, h2]
end

theorem eqVarSelf (v : Va) (w : World) : (Op.equalIn 10000 43 (.agg #[.string v.name, .int .i64 v.type, .int .i64 v.ck, .string v.cn]) (.agg #[.string v.name, .int .i64 v.type, .int .i64 v.ck, .string v.cn])).run Tryz.prog w = .ok true w := by
  have hS : Tryz.prog.underlying 43 = some (.struct (Tryz.prog.fieldsOf 43)) := by kernel_rfl
  have hp : Tryz.prog.stoodInHeld 43 = false := by kernel_rfl
  have hS2 : Tryz.prog.underlying 41 = some (.struct (Tryz.prog.fieldsOf 41)) := by kernel_rfl
  have hp2 : Tryz.prog.stoodInHeld 41 = false := by kernel_rfl
  have h2 : ∀ w, (Op.equalIn 9999 41 (.agg #[.int .i64 v.ck, .string v.cn]) (.agg #[.int .i64 v.ck, .string v.cn])).run Tryz.prog w = .ok true w := by
    intro w
    rw [show (9999 : Nat) = 9998 + 1 from rfl, run_equalIn_agg w 9998 41 _ _ hS2 hp2]
    simp only [Program.fieldsOf, Tryz.underlying41]
    go_simp
  rw [show (10000 : Nat) = 9999 + 1 from rfl, run_equalIn_agg w 9999 43 _ _ hS hp]
  simp only [Program.fieldsOf, Tryz.underlying43]
  go_simp
theorem gmVar : Tryz.prog.eqGuardType Tryz.prog.depth 43 = false := by kernel_rfl

set_option maxHeartbeats 1000000 in
theorem sameVars_self (l : List Va) (A : Option Addr) (cap : Nat) (B : Option Addr) (capb : Nat) (w : World) (hl : VarsAt w l A cap) (hm : VarsAt w l B capb) :
    Calls Tryz.prog 23 #[.slice A l.length cap, .slice B l.length capb] w fun r w' => r = .returned (.bool true) ∧ Below w.heap.size w w' := by
  have hlen := hl.len
  unfold maxLen at hlen
  obtain ⟨hlen1, hlen2⟩ := hlen
  have hlen3 := hm.len
  unfold maxLen at hlen3
  obtain ⟨hlen4, hlen5⟩ := hlen3
  have hgm := gmVar
  go_enter Tryz.func23, Tryz.ntmps23
  go_wp2_with fail
  go_loopw [5] (fun i wr => ∃ k : Nat, k ≤ l.length ∧ i = .int .i64 k ∧ Below w.heap.size w wr) (fun i _ => l.length - (intOf i).toNat)
  case atStart => exact ⟨0, Nat.zero_le _, rfl, belA⟩
  case round =>
    obtain ⟨k, hk, rfl, hbel⟩ := hrel
    by_cases hlt : k < l.length
    · have hx : l[k]? = some l[k] := List.getElem?_eq_getElem hlt
      have hd : l.drop k = l[k] :: l.drop (k + 1) := List.drop_eq_getElem_cons hlt
      generalize l[k] = x at hx hd
      obtain ⟨b, off, rfl, hbb, ⟨d0, d1, d2, d3⟩⟩ := (hl.later hbel).get hx
      obtain ⟨b2, off2, rfl, hbb2, ⟨e0, e1, e2, e3⟩⟩ := (hm.later hbel).get hx
      have hfq := fun w => eqVarSelf x w
      clear hd hx
      go_wp2_with fail
      go_quiet (fail)
      go_wp2_with fail
      go_roundw
      case rel => exact ⟨k + 1, by omega, by go_num, belA⟩
      case measure => simp [intOf]; omega
    · obtain rfl : k = l.length := by omega
      go_wp2_with fail
      go_ret
      exact ⟨rfl, belA⟩

set_option maxHeartbeats 4000000 in
set_option maxRecDepth 100000 in
theorem same_self (p : Pr) (a a2 : PrA) (w : World) (hp : PrAt w p a) (hp' : PrAt w p a2) :
    Calls Tryz.prog 9 #[prV p a, prV p a2] w fun r w' => r = .returned (.bool true) ∧ Below w.heap.size w w' := by
  have h1 := fun W h => sameVars_self p.ins _ _ _ _ W (hp.ins.later h) (hp'.ins.later h)
  have h2 := fun W h => sameVars_self p.outs _ _ _ _ W (hp.outs.later h) (hp'.outs.later h)
  have h3 := fun W h => sameVars_self p.locals _ _ _ _ W (hp.locals.later h) (hp'.locals.later h)
  have hq := hp.eqs
  have hq' := hp'.eqs
  have hl4 := hq.len
  have hl5 := hq'.len
  obtain ⟨A1, c1, A2, c2, A3, c3, A4, c4⟩ := a
  obtain ⟨B1, k1, B2, k2, B3, k3, B4, k4⟩ := a2
  unfold maxLen at hl4 hl5
  unfold prV
  dsimp only at *
  obtain ⟨hl41, hl42⟩ := hl4
  obtain ⟨hl51, hl52⟩ := hl5
  clear hp hp'
  go_enter Tryz.func9, Tryz.ntmps9
  go_wp2_with (first | (go_at_call_of 23 (Value.slice A1 p.ins.length c1); refine (h1 _ belA).mono ?_; rintro r wa ⟨rfl, hba⟩; have hca := bcell hba; have hza := hba.size; (try simp at hza); have hya : w.heap.size < wa.heap.size := (by omega); have hya1 : w.heap.size + 1 < wa.heap.size := (by omega); clear h1) | (go_at_call_of 23 (Value.slice A2 p.outs.length c2); refine (h2 _ belA).mono ?_; rintro r wb ⟨rfl, hbb⟩; have hcb := bcell hbb; have hzb := hbb.size; have hyb : w.heap.size < wb.heap.size := (by omega); have hyb1 : w.heap.size + 1 < wb.heap.size := (by omega); clear h2) | (go_at_call_of 23 (Value.slice A3 p.locals.length c3); refine (h3 _ belA).mono ?_; rintro r wd ⟨rfl, hbd⟩; have hcd := bcell hbd; have hzd := hbd.size; have hyd : w.heap.size < wd.heap.size := (by omega); have hyd1 : w.heap.size + 1 < wd.heap.size := (by omega); clear h3))
  refine wp_name fun W0 hW0 => ?_
  have hb0 : Below w.heap.size w W0 := by rw [hW0]; exact belA
  have hz0 : w.heap.size < W0.heap.size := by rw [hW0]; omega
  have hz1 : w.heap.size + 1 < W0.heap.size := by rw [hW0]; omega
  have x4 : W0.cell? ⟨w.heap.size, 4, none⟩ = some (.slice A4 p.eqs.length c4) := by rw [hW0]; go_simp
  have y4 : W0.cell? ⟨w.heap.size + 1, 4, none⟩ = some (.slice B4 p.eqs.length k4) := by rw [hW0]; go_simp
  clear hW0
  replace hq := hq.later hb0
  replace hq' := hq'.later hb0
  go_loopw [5] (fun i wr => ∃ k : Nat, k ≤ p.eqs.length ∧ i = .int .i64 k ∧ Below W0.heap.size W0 wr) (fun i _ => p.eqs.length - (intOf i).toNat)
  case atStart => exact ⟨0, Nat.zero_le _, rfl, Below.refl _ _⟩
  case round =>
    obtain ⟨k, hk, rfl, hbel⟩ := hrel
    have hc := bcell hbel
    have hzr := hbel.size
    have hr1 : w.heap.size < wr.heap.size := by omega
    have hr2 : w.heap.size + 1 < wr.heap.size := by omega
    have hr3 : w.heap.size < wr.heap.size + 1 := by omega
    have hr4 : w.heap.size + 1 < wr.heap.size + 1 := by omega
    by_cases hlt : k < p.eqs.length
    · have hx : p.eqs[k]? = some p.eqs[k] := List.getElem?_eq_getElem hlt
      have hd : p.eqs.drop k = p.eqs[k] :: p.eqs.drop (k + 1) := List.drop_eq_getElem_cons hlt
      generalize p.eqs[k] = q at hx hd
      obtain ⟨b, off, B1, n1, B2, n2, rfl, hbb, ⟨g0, g1, g2, g3, g4, g5, g6, g7, g8, g9, s1, s2⟩⟩ := (hq.later hbel).get hx
      obtain ⟨bb, offb, E1, m1, E2, m2, rfl, hbbb, ⟨j0, j1, j2, j3, j4, j5, j6, j7, j8, j9, u1, u2⟩⟩ := (hq'.later hbel).get hx
      have hbz : bb < wr.heap.size + 1 := by omega
      have hf := fun W h1 h2 => refSame_any q.first q.first B1 n1 E1 m1 W h1 h2
      have hg := fun W h1 h2 => refSame_any q.e q.e B2 n2 E2 m2 W h1 h2
      rw [Ex.same_refl] at hf hg
      unfold exV at hf hg
      clear hd hx
      go_wp2_with (first | (go_at_call_of 24 (Value.slice B1 q.first.sub.length n1); refine (hf _ (s1.later belA) (u1.later belA)).mono ?_; rintro r wa ⟨rfl, hba⟩; have hca := bcell hba; have hza := hba.size; (try simp at hza); have hya : w.heap.size < wa.heap.size := (by omega); have hya1 : w.heap.size + 1 < wa.heap.size := (by omega); have hya2 : wr.heap.size < wa.heap.size := (by omega); have hya3 : wr.heap.size + 1 < wa.heap.size := (by omega); clear hf) | (go_at_call_of 24 (Value.slice B2 q.e.sub.length n2); refine (hg _ (s2.later belA) (u2.later belA)).mono ?_; rintro r wb ⟨rfl, hbb'⟩))
      go_roundw
      case rel => exact ⟨k + 1, by omega, by go_num, belA⟩
      case measure => simp [intOf]; omega
    · obtain rfl : k = p.eqs.length := by omega
      go_wp2_with fail
      go_ret
      exact ⟨rfl, belA⟩

end Go.Proofs.YtikmbkojnfmiaaaGreatDoorRRRR
