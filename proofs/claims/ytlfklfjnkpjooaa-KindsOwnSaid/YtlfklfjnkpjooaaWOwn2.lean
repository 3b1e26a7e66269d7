/- Walk over the law KindsOwn where kinds.Check finds no fault. -/
import Derived.Test.YtlfklfjnkpjooaaWOwn
import Derived.WalkKit
import Derived.WalkSpells
import Derived.WalkLawsBesides
import Derived.Deep.QuietTactic
import Derived.BigQuiet
import Derived.Deep.Draws
import Derived.Lib.Hide
import Derived.Deep.LoopGhost
import Derived.StillTailTactics
import Derived.Deep.RegionHeld3
import Derived.Deep.RegionWith
import Derived.Lib.QuietBelow
set_option linter.unusedVariables false
set_option linter.unusedSimpArgs false
namespace Go.Proofs.Ytlfklfjnkpjooaa
open Go.RowKit Go.Sort

set_option maxHeartbeats 2000000 in
set_option maxRecDepth 100000 in
theorem own_clean (p : Pr) (a : PrA) (w : World) (hp : PrAt w p a) (hck : checkF p = (0, 0, 0)) :
    Calls Try.prog 4 #[prV p a] w fun r w' => r = .returned (.bool true) ∧ Below w.heap.size w w' := by
  obtain ⟨hl1, hl2, hl3⟩ := own_law hck
  have hpe : printE p = 0 := by
    by_cases h : printE p = 0
    · exact h
    · unfold checkF at hck; rw [if_pos h] at hck; simp at hck
  have hsm : ∀ v ∈ varsOf p, v.name.size ≤ maxLen := fun v hv => by have := (vars_short (whole_of_print hpe) v hv).1; unfold maxLen; omega
  have hlight := fun W h => light_any p a W (hp.later h)
  have hcheck := fun W h => check_any p a W (hp.later h)
  have hvars := fun W h => vars_any p a W (hp.later h)
  rw [hck] at hcheck
  have hfq : ∀ w, (Op.equalIn 10000 36 (.agg #[.int .i64 0, .int .i64 0, .int .i64 0]) (.agg #[.int .i64 0, .int .i64 0, .int .i64 0])).run Try.prog w = .ok true w := fun w => by rw [eqFault]; rfl
  have hgm : Try.prog.eqGuardType Try.prog.depth 36 = false := by kernel_rfl
  clear hck hpe
  have hlen : (varsOf p).length = p.ins.length + p.outs.length + p.locals.length := by simp [varsOf]; try omega
  have HSM := Lib.hid hsm; clear hsm
  have HL1 := Lib.hid hl1; clear hl1
  have HL2 := Lib.hid hl2; clear hl2
  have HL3 := Lib.hid hl3; clear hl3
  have hp4 := hp.eqs
  have hq1 := hp.ins.len
  have hq2 := hp.outs.len
  have hq3 := hp.locals.len
  have hq4 := hp.eqs.len
  obtain ⟨A1, c1, A2, c2, A3, c3, A4, c4⟩ := a
  unfold maxLen at hq1 hq2 hq3 hq4
  unfold prV fV at *
  dsimp only at *
  generalize hL : varsOf p = L at *
  clear hL
  have HLEN := Lib.hid hlen; clear hlen
  clear hp
  go_enter Try.func4, Try.ntmps4
  go_wp2_with (first | (go_at_call 5; go_loud (refine (hlight _ (by repeat (first | exact Below.refl _ _ | (with_reducible assumption) | refine bel_trans ?_ (by with_reducible assumption) | refine bel_trans ?_ (below_regrown _ _ _) | refine bel_drew ?_ | refine bel_drewN ?_ _ | refine bel_alloc ?_ _ | refine bel_grow ?_ (by with_reducible assumption) (by omega)))).mono ?_; rintro r wl ⟨⟨bl, rfl, hlb⟩, hbl⟩; have hcl := bcell hbl; have hzl := hbl.size; (try simp at hzl); have hyl : w.heap.size < wl.heap.size := (by omega); cases bl)) | (go_at_call 10; go_loud (refine (hcheck _ (by repeat (first | exact Below.refl _ _ | (with_reducible assumption) | refine bel_trans ?_ (by with_reducible assumption) | refine bel_trans ?_ (below_regrown _ _ _) | refine bel_drew ?_ | refine bel_drewN ?_ _ | refine bel_alloc ?_ _ | refine bel_grow ?_ (by with_reducible assumption) (by omega))) (by have := hlb (by trivial); omega) (by have := hlb (by trivial); omega) (by have := hlb (by trivial); omega) (by have := hlb (by trivial); omega)).mono ?_; rintro r wk ⟨rfl, hbk⟩; have hck := bcell hbk; have hzk := hbk.size; have hyk : w.heap.size < wk.heap.size := (by omega))) | (go_at_call 8; refine (hvars _ (by repeat (first | exact Below.refl _ _ | (with_reducible assumption) | refine bel_trans ?_ (by with_reducible assumption) | refine bel_trans ?_ (below_regrown _ _ _) | refine bel_drew ?_ | refine bel_drewN ?_ _ | refine bel_alloc ?_ _ | refine bel_grow ?_ (by with_reducible assumption) (by omega))) (by have := hlb (by trivial); omega) (by have := hlb (by trivial); omega) (by have := hlb (by trivial); omega)).mono ?_; rintro r wv ⟨⟨A, cap, rfl, hown⟩, hbv⟩; have hcv := bcell hbv; have hzv := hbv.size; have hyv : w.heap.size < wv.heap.size := (by omega); have hva := VarsAt.of_own hown) | (go_at_call 6; refine (known_any _).mono ?_; rintro r wn ⟨rfl, hbn⟩; have hcn := bcell hbn; have hzn := hbn.size))
  · go_ret
    exact ⟨rfl, (by repeat (first | exact Below.refl _ _ | (with_reducible assumption) | refine bel_trans ?_ (by with_reducible assumption) | refine bel_trans ?_ (below_regrown _ _ _) | refine bel_drew ?_ | refine bel_drewN ?_ _ | refine bel_alloc ?_ _ | refine bel_grow ?_ (by with_reducible assumption) (by omega)))⟩
  obtain ⟨t1, t2, t3, t4⟩ := hlb (by trivial)
  have tL : L.length ≤ 180 := by have := HLEN.out; omega
  have tI : p.ins.length ≤ L.length := by have := HLEN.out; omega
  clear hlb hlight hcheck hvars hfq hgm
  refine wp_name fun W0 hW0 => ?_
  have hb0 : Below w.heap.size w W0 := by rw [hW0]; exact (by repeat (first | exact Below.refl _ _ | (with_reducible assumption) | refine bel_trans ?_ (by with_reducible assumption) | refine bel_trans ?_ (below_regrown _ _ _) | refine bel_drew ?_ | refine bel_drewN ?_ _ | refine bel_alloc ?_ _ | refine bel_grow ?_ (by with_reducible assumption) (by omega)))
  have hz0 : w.heap.size < W0.heap.size := by rw [hW0]; omega
  have p1 : W0.cell? ⟨w.heap.size, 1, none⟩ = some (.slice A1 p.ins.length c1) := by rw [hW0]; go_simp
  have p2 : W0.cell? ⟨w.heap.size, 2, none⟩ = some (.slice A2 p.outs.length c2) := by rw [hW0]; go_simp
  have p3 : W0.cell? ⟨w.heap.size, 3, none⟩ = some (.slice A3 p.locals.length c3) := by rw [hW0]; go_simp
  have p4 : W0.cell? ⟨w.heap.size, 4, none⟩ = some (.slice A4 p.eqs.length c4) := by rw [hW0]; go_simp
  have hva0 : VarsAt W0 L A cap := by rw [hW0]; exact hva
  clear hW0
  replace hp4 := hp4.later hb0
  go_loopw [4] (fun i wr => ∃ k : Nat, k ≤ L.length ∧ i = .int .i64 k ∧ Below W0.heap.size W0 wr) (fun i _ => L.length - (intOf i).toNat)
  case atStart => exact ⟨0, Nat.zero_le _, rfl, Below.refl _ _⟩
  case round =>
    obtain ⟨k, hk, rfl, hbel⟩ := hrel
    have hc := bcell hbel
    have hzr := hbel.size
    have hr1 : w.heap.size < wr.heap.size := by omega
    by_cases hlt : k < L.length
    · have hof := fun (q : Qe) Ae ce W h1 h2 => ofF_any q.e Ae ce L A cap W h1 h2 HSM.out (by omega)
      have hx : L[k]? = some L[k] := List.getElem?_eq_getElem hlt
      have hd : L.drop k = L[k] :: L.drop (k + 1) := List.drop_eq_getElem_cons hlt
      generalize L[k] = x at hx hd
      obtain ⟨b, off, rfl, hbb, ⟨d0, d1, d2, d3⟩⟩ := (hva0.later hbel).get hx
      have HCX := Lib.hid (HL2.out k x hx)
      have HQ := Lib.hid (fun q hq hn => HL1.out k x q hx hq hn)
      clear hd hx
      have hvar := hva0.later hbel
      have hpr4 := hp4.later hbel
      replace p1 := (hc _ _ hz0).trans p1
      replace p2 := (hc _ _ hz0).trans p2
      replace p3 := (hc _ _ hz0).trans p3
      replace p4 := (hc _ _ hz0).trans p4
      go_wp2_with fail
      obtain ⟨Wm, rfl⟩ : ∃ Wm, Wm = wr := ⟨wr, rfl⟩
      clear hc
      go_loopw [5, 6] (fun n i wi => ∃ (j m : Nat), j ≤ p.eqs.length ∧ i = .int .i64 j ∧ n = .int .i64 m ∧ m ≤ j ∧ m + cnt x.name (p.eqs.drop j) = cnt x.name p.eqs ∧ Below Wm.heap.size Wm wi) (fun _ i _ => p.eqs.length - (intOf i).toNat)
      case atStart => exact ⟨0, 0, Nat.zero_le _, rfl, rfl, Nat.le_refl _, by simp, Below.refl _ _⟩
      case round =>
        obtain ⟨j, m, hj, rfl, rfl, hmj, hrem, hbi⟩ := hrel
        have hc := bcell hbi
        have hzi := hbi.size
        have hr2 : w.heap.size < wr.heap.size := by omega
        have hbw : b < wr.heap.size := by omega
        by_cases hltj : j < p.eqs.length
        · have hxq : p.eqs[j]? = some p.eqs[j] := List.getElem?_eq_getElem hltj
          have hdq : p.eqs.drop j = p.eqs[j] :: p.eqs.drop (j + 1) := List.drop_eq_getElem_cons hltj
          have hmq : p.eqs[j] ∈ p.eqs := List.getElem_mem hltj
          have hj64 : j < 1000 := by omega
          generalize p.eqs[j] = q at hxq hdq hmq
          obtain ⟨be, oe, B1, n1, B2, n2, rfl, hbe, ⟨g0, g1, g2, g3, g4, g5, g6, g7, g8, g9, s1, s2⟩⟩ := (hpr4.later hbi).get hxq
          rw [hdq, cnt] at hrem
          by_cases hnm : q.name = x.name
          · rw [if_pos hnm] at hrem
            have hty := HQ.out q hmq hnm
            have hofq := fun W h1 h2 => hof q B2 n2 W h1 h2
            rw [hty] at hofq
            have e1 : (q.name.toList == x.name.toList) = true := by rw [hnm]; simp
            have e2 : (q.name.toList != x.name.toList) = false := by rw [hnm]; simp
            have e3 : (x.type != x.type) = false := by simp
            have HR := Lib.hid hrem; clear hrem hdq hxq hnm hty hmq
            have hvq := hvar.later hbi
            unfold exV at hofq
            go_wp2_with fail
            go_quiet (fail)
            go_wp2_with (first | (go_at_call 13; go_loud (refine (hofq _ (s2.later (by repeat (first | exact Below.refl _ _ | (with_reducible assumption) | refine bel_trans ?_ (by with_reducible assumption) | refine bel_trans ?_ (below_regrown _ _ _) | refine bel_drew ?_ | refine bel_drewN ?_ _ | refine bel_alloc ?_ _ | refine bel_grow ?_ (by with_reducible assumption) (by omega)))) (hvq.later (by repeat (first | exact Below.refl _ _ | (with_reducible assumption) | refine bel_trans ?_ (by with_reducible assumption) | refine bel_trans ?_ (below_regrown _ _ _) | refine bel_drew ?_ | refine bel_drewN ?_ _ | refine bel_alloc ?_ _ | refine bel_grow ?_ (by with_reducible assumption) (by omega))))).mono ?_; rintro r w1 ⟨rfl, hb1⟩; have hc1 := bcell hb1; have hz1 := hb1.size; (try simp at hz1); have hy1 : w.heap.size < w1.heap.size := (by omega); have hd1 : w1.cell? ⟨b, off + k * 4 + 1, none⟩ = some (.int .i64 x.type) := (hc1 _ _ hbw).trans ((hc _ _ hbb).trans d1))))
            go_roundw
            case rel => exact ⟨j + 1, m + 1, by omega, by go_num, by go_num, by omega, by have := HR.out; omega, (by repeat (first | exact Below.refl _ _ | (with_reducible assumption) | refine bel_trans ?_ (by with_reducible assumption) | refine bel_trans ?_ (below_regrown _ _ _) | refine bel_drew ?_ | refine bel_drewN ?_ _ | refine bel_alloc ?_ _ | refine bel_grow ?_ (by with_reducible assumption) (by omega)))⟩
            case measure => simp [intOf]; omega
          · rw [if_neg hnm] at hrem
            have e1 : (q.name.toList == x.name.toList) = false := eqS_false hnm
            have e2 : (q.name.toList != x.name.toList) = true := by rw [bne, e1]; rfl
            have HR := Lib.hid hrem; clear hrem hdq hxq hnm hmq
            go_wp2_with fail
            go_quiet (fail)
            go_wp2_with fail
            go_roundw
            case rel => exact ⟨j + 1, m, by omega, by go_num, rfl, by omega, by have := HR.out; omega, (by repeat (first | exact Below.refl _ _ | (with_reducible assumption) | refine bel_trans ?_ (by with_reducible assumption) | refine bel_trans ?_ (below_regrown _ _ _) | refine bel_drew ?_ | refine bel_drewN ?_ _ | refine bel_alloc ?_ _ | refine bel_grow ?_ (by with_reducible assumption) (by omega)))⟩
            case measure => simp [intOf]; omega
        · obtain rfl : j = p.eqs.length := by omega
          rw [List.drop_length, cnt, HCX.out] at hrem
          have hkl : k < 1000 := by omega
          by_cases hki : k < p.ins.length
          · rw [if_pos hki] at hrem
            have m0 : ((m : Int) != 0) = false := by simp; omega
            have HR := Lib.hid hrem; clear hrem
            go_wp2_with fail
            go_roundw
            case rel => exact ⟨k + 1, by omega, by go_num, (by repeat (first | exact Below.refl _ _ | (with_reducible assumption) | refine bel_trans ?_ (by with_reducible assumption) | refine bel_trans ?_ (below_regrown _ _ _) | refine bel_drew ?_ | refine bel_drewN ?_ _ | refine bel_alloc ?_ _ | refine bel_grow ?_ (by with_reducible assumption) (by omega)))⟩
            case measure => simp [intOf]; omega
          · rw [if_neg hki] at hrem
            have m1 : ((m : Int) != 1) = false := by simp; omega
            have hkg : (p.ins.length : Int) ≤ k := by omega
            have HR := Lib.hid hrem; clear hrem
            go_wp2_with fail
            go_roundw
            case rel => exact ⟨k + 1, by omega, by go_num, (by repeat (first | exact Below.refl _ _ | (with_reducible assumption) | refine bel_trans ?_ (by with_reducible assumption) | refine bel_trans ?_ (below_regrown _ _ _) | refine bel_drew ?_ | refine bel_drewN ?_ _ | refine bel_alloc ?_ _ | refine bel_grow ?_ (by with_reducible assumption) (by omega)))⟩
            case measure => simp [intOf]; omega
    obtain rfl : k = L.length := by omega
    have hl4 : ((p.eqs.length : Int) == (p.outs.length : Int) + (p.locals.length : Int)) = true := by rw [beq_iff_eq]; have := HL3.out; omega
    replace p2 := (hc _ _ hz0).trans p2
    replace p3 := (hc _ _ hz0).trans p3
    replace p4 := (hc _ _ hz0).trans p4
    clear hc
    go_wp2_with (first | (go_at_call 6; refine (known_any _).mono ?_; rintro r wn ⟨rfl, hbn⟩))
    go_ret
    exact ⟨rfl, (by repeat (first | exact Below.refl _ _ | (with_reducible assumption) | refine bel_trans ?_ (by with_reducible assumption) | refine bel_trans ?_ (below_regrown _ _ _) | refine bel_drew ?_ | refine bel_drewN ?_ _ | refine bel_alloc ?_ _ | refine bel_grow ?_ (by with_reducible assumption) (by omega)))⟩

end Go.Proofs.Ytlfklfjnkpjooaa
