/- Walk over start's find. -/
import Derived.Test.YtikmbkojnfmiaaaGreatDoorRRRRBZ
import Derived.Test.YtikmbkojnfmiaaaGreatDoorRRRRBU
import Derived.Test.YtikmbkojnfmiaaaGreatDoorRRRRBB
set_option linter.unusedVariables false
set_option linter.unusedSimpArgs false
set_option maxRecDepth 100000
namespace Go.Proofs.YtikmbkojnfmiaaaGreatDoorRRRR
open Go.RowKit Go.Sort

set_option maxHeartbeats 4000000 in
theorem find_fault (p : Pr) (a : PrA) (w : World) (hg : Always w) (hp : PrAt w p a) (hok : PrOK p) (n1 : p.ins.length ≤ 1000000) (n2 : p.outs.length ≤ 1000000) (n3 : p.locals.length ≤ 1000000) (n4 : p.eqs.length ≤ 1000000) (hne : (orderE p).2 ≠ (0, 0, 0)) :
    Calls Tryz.prog 13 #[prV p a] w fun r w' => r = .returned (.tuple #[.map none, fV (orderE p).2]) ∧ Below w.heap.size w w' := by
  have hord := fun W h => order_any p a W (hg.later h) (hp.later h) hok n1 n2 n3 n4
  clear hg hok
  obtain ⟨A1, c1, A2, c2, A3, c3, A4, c4⟩ := a
  unfold prV fV at *
  dsimp only at *
  generalize orderE p = O at *
  obtain ⟨l, f1, f2, f3⟩ := O
  dsimp only at *
  have hne2 : (f1 == 0 && f2 == 0 && f3 == 0) = false := by
    rw [Bool.eq_false_iff]
    intro h
    simp only [Bool.and_eq_true, beq_iff_eq] at h
    exact hne (by rw [h.1.1, h.1.2, h.2])
  have hfq : ∀ w, (Op.equalIn 10000 31 (.agg #[.int .i64 f1, .int .i64 f2, .int .i64 f3]) (.agg #[.int .i64 0, .int .i64 0, .int .i64 0])).run Tryz.prog w = .ok false w := fun w => by rw [eqFault, hne2]
  have hgm : Tryz.prog.eqGuardType Tryz.prog.depth 31 = false := by kernel_rfl
  clear hne hne2 hp
  go_enter Tryz.func13, Tryz.ntmps13
  go_wp2_with (first | (go_at_call 25; go_loud (refine (hord _ belA).mono ?_; rintro r wo ⟨⟨vo, rfl, hrow⟩, hbo⟩; obtain ⟨Ao, co, rfl, ho1, ho2⟩ := own_slice hrow; have hco := bcell hbo; have hfo := bfrozen hbo; have hzo : w.heap.size + 2 ≤ wo.heap.size := (by have := hbo.size; simpa using this); have hyo : w.heap.size < wo.heap.size := (by omega); have hyo1 : w.heap.size + 1 < wo.heap.size := (by omega); clear hrow)))
  go_region
  all_goals
    go_wp2_with fail
    refine bodyPost_ret (v := .tuple #[.map none, .agg #[.int .i64 f1, .int .i64 f2, .int .i64 f3]]) (by simp [results, Tryz.results13, go_sem, *]) rfl ⟨rfl, ?_⟩
    (repeat refine bel_drew ?_)
    exact belS

/-- What an equation of a program without fault is. -/
theorem eqs_clean {p : Pr} (hck : clkF p = (0, 0, 0)) (hok : PrOK p) : ∀ q ∈ p.eqs, q.name.size ≤ maxLen ∧ q.name.toList.isEmpty = false ∧ q.e.formed = true ∧ q.e.OK ∧ q.e.size ≤ 1000000 := fun q hq => by
  have hb := (whole_parts (clean_parts (clkF_parts hck).1).1).2.2.2.2 q hq
  obtain ⟨h1, h2, h3, _⟩ := eqB_parts hb
  simp only [eqB, Bool.and_eq_true] at hb
  exact ⟨by unfold maxLen; omega, nameB_ne hb.1.1, h2, (hok.eqs q hq).2.2.2, by omega⟩

set_option maxHeartbeats 4000000 in
theorem find_clean (p : Pr) (a : PrA) (w : World) (hg : Always w) (hp : PrAt w p a) (hok : PrOK p) (n1 : p.ins.length ≤ 1000000) (n2 : p.outs.length ≤ 1000000) (n3 : p.locals.length ≤ 1000000) (n4 : p.eqs.length ≤ 1000000) (hO2 : (orderE p).2 = (0, 0, 0)) :
    Calls Tryz.prog 13 #[prV p a] w fun r w' => (∃ (B n : Nat) (f : ByteArray → Option Int), r = .returned (.tuple #[.map (some B), fV (0, 0, 0)]) ∧ w.heap.size ≤ B ∧ MapI Tryz.prog 9 3 w' B n f ∧ Agree f (looseE p).1) ∧ Below w.heap.size w w' := by
  obtain ⟨LF, hLF⟩ : ∃ L, L = (looseE p).1 := ⟨_, rfl⟩
  have hL : LF = looseGo p.eqs (presE p.eqs) (orderE p).1 := by rw [hLF]; unfold looseE; rw [if_pos hO2]
  rw [← hLF]
  obtain ⟨hck, hlen, hgood⟩ := orderE_good hO2
  have hqs := eqs_clean hck hok
  have hord := fun W h => order_any p a W (hg.later h) (hp.later h) hok n1 n2 n3 n4
  obtain ⟨l, hl⟩ : ∃ l, orderE p = (l, (0, 0, 0)) := ⟨(orderE p).1, by rw [← hO2]⟩
  rw [hl] at hord hL hgood hlen
  dsimp only at hord hL hgood hlen
  have HL := Lib.hid hL
  have HG := Lib.hid hgood
  have HQS := Lib.hid hqs
  clear hLF hL hO2 hck hqs hgood hl hg hok
  have hfq : ∀ w, (Op.equalIn 10000 31 (.agg #[.int .i64 0, .int .i64 0, .int .i64 0]) (.agg #[.int .i64 0, .int .i64 0, .int .i64 0])).run Tryz.prog w = .ok true w := fun w => by rw [eqFault]; rfl
  have hgm : Tryz.prog.eqGuardType Tryz.prog.depth 31 = false := by kernel_rfl
  have hmm := @run_makeMap Tryz.prog
  have hp4 := hp.eqs
  have hl4 := hp.eqs.len
  obtain ⟨A1, c1, A2, c2, A3, c3, A4, c4⟩ := a
  unfold maxLen at hl4
  unfold prV fV at *
  dsimp only at *
  obtain ⟨hl41, hl42⟩ := hl4
  clear hp
  go_enter Tryz.func13, Tryz.ntmps13
  go_wp2_with (first | (go_at_call 25; go_loud (refine (hord _ belA).mono ?_; rintro r wo ⟨⟨vo, rfl, hrow⟩, hbo⟩; obtain ⟨Ao, co, rfl, ho1, ho2⟩ := own_slice hrow; have hio := IntsAt.of_own hrow; have hco := bcell hbo; have hfo := bfrozen hbo; have hzo : w.heap.size + 2 ≤ wo.heap.size := (by have := hbo.size; simpa using this); have hyo : w.heap.size < wo.heap.size := (by omega); have hyo1 : w.heap.size + 1 < wo.heap.size := (by omega); clear hrow)))
  refine wp_name fun W0 hW0 => ?_
  have hb0 : Below w.heap.size w W0 := by rw [hW0]; (repeat refine bel_drew ?_); exact belS
  have hmb1 : w.heap.size + 1 < wo.heap.size + 1 := by omega
  have hmb0 : w.heap.size < wo.heap.size + 1 := by omega
  have hmb3 : wo.heap.size < wo.heap.size + 1 := by omega
  have hmb2 : wo.heap.size + 1 < W0.heap.size := by rw [hW0]; simp
  have hm0 : MapI Tryz.prog 9 3 W0 (wo.heap.size + 1) 0 (fun _ => none) := by
    rw [hW0]
    have h1 := MapI.made (P := Tryz.prog) (k := 9) (e := 3) (wo.alloc (.cells #[.int .i64 0, .int .i64 0, .int .i64 0] 31))
    simpa using h1
  have hio0 : Below wo.heap.size wo W0 := by rw [hW0]; (repeat refine bel_drew ?_); exact belS
  have x4 : W0.cell? ⟨w.heap.size, 4, none⟩ = some (.slice A4 p.eqs.length c4) := by rw [hW0]; go_simp
  have f0 : W0.cell? ⟨w.heap.size + 1, 0, none⟩ = some (.int .i64 0) := by rw [hW0]; go_simp
  have f1 : W0.cell? ⟨w.heap.size + 1, 1, none⟩ = some (.int .i64 0) := by rw [hW0]; go_simp
  have f2 : W0.cell? ⟨w.heap.size + 1, 2, none⟩ = some (.int .i64 0) := by rw [hW0]; go_simp
  have v0 : W0.cell? ⟨wo.heap.size, 0, none⟩ = some (.int .i64 0) := by rw [hW0]; go_simp
  have v1 : W0.cell? ⟨wo.heap.size, 1, none⟩ = some (.int .i64 0) := by rw [hW0]; go_simp
  have v2 : W0.cell? ⟨wo.heap.size, 2, none⟩ = some (.int .i64 0) := by rw [hW0]; go_simp
  have z0 : W0.frozen? ⟨w.heap.size + 1, 0, none⟩ = false := by rw [hW0]; go_simp
  have z1 : W0.frozen? ⟨w.heap.size + 1, 1, none⟩ = false := by rw [hW0]; go_simp
  have z2 : W0.frozen? ⟨w.heap.size + 1, 2, none⟩ = false := by rw [hW0]; go_simp
  have hl1 := hio.1
  unfold maxLen at ho2
  clear hW0 hco hfo hzo hyo hyo1 hord hmm hfq hgm hbo
  go_loopw [24] (fun i wr => ∃ (k n : Nat) (f : ByteArray → Option Int), k ≤ p.eqs.length ∧ i = .int .i64 k ∧ n ≤ k ∧ Hid (MapI Tryz.prog 9 3 wr (wo.heap.size + 1) n f) ∧ Hid (Agree f (presE (p.eqs.take k))) ∧ Hid (W0.grownBy wr (some (wo.heap.size + 1)))) (fun i _ => p.eqs.length - (intOf i).toNat)
  case atStart => exact ⟨0, 0, _, Nat.zero_le _, rfl, Nat.le_refl _, Lib.hid hm0, Lib.hid agree_nil, Lib.hid ⟨rfl, rfl, rfl, Nat.le_refl _, fun _ _ _ => rfl⟩⟩
  case round =>
    obtain ⟨k, n, f, hk, rfl, hn, hm, hag, hgr⟩ := hrel
    have hgz := hgr.out.size
    have hbwr : Below w.heap.size w wr := bel_grown hb0 hgr.out (fun b hb => by injection hb with hb; omega) (by omega)
    have hbm : Below (wo.heap.size + 1) W0 wr := bel_grown (Below.refl _ W0) hgr.out (fun b hb => by injection hb with hb; omega) (by omega)
    have hcm := bcellM hbm
    have hfm := bfrozenM hbm
    have hmr := hm.out
    have hmlt := hm.out.lt
    have hwr0 : w.heap.size < wr.heap.size := by omega
    by_cases hlt : k < p.eqs.length
    · have hx : p.eqs[k]? = some p.eqs[k] := List.getElem?_eq_getElem hlt
      have hd : p.eqs.drop k = p.eqs[k] :: p.eqs.drop (k + 1) := List.drop_eq_getElem_cons hlt
      generalize p.eqs[k] = q at hx hd
      obtain ⟨b, off, B1, n1, B2, n2, rfl, hbb, ⟨g0, g1, g2, g3, g4, g5, g6, g7, g8, g9, s1, s2⟩⟩ := (hp4.later hbwr).get hx
      have hpt := presE_take p.eqs hx
      obtain ⟨hqs, hqne, _⟩ := HQS.out q (List.mem_of_getElem? hx)
      clear hd hx
      cases hdl : (q.delay == 2)
      · rw [hdl, if_neg (by simp)] at hpt
        have HA := Lib.hid (by rw [hpt]; exact hag.out : Agree f (presE (p.eqs.take (k + 1))))
        clear hpt hqne
        go_wp2_with fail
        go_roundw
        case rel => exact ⟨k + 1, n, f, by omega, by go_num, by omega, Lib.hid (hmr.keep1 (heap_alloc_old _ _ hmlt)), HA, Lib.hid (grownT hgr.out (World.grownBy_alloc wr _ _))⟩
        case measure => simp [intOf]; try omega
      · rw [hdl, if_pos rfl] at hpt
        have HA := Lib.hid (by rw [hpt]; exact agree_snoc hag.out hqne : Agree (upd f q.name 1) (presE (p.eqs.take (k + 1))))
        clear hpt hqne
        go_wp2_with (first | (at_mapUpdate; go_loud (refine wpList_stI rfl (.tmp 31) (.tmp 33) _ 49 rfl Tryz.underlying9 Tryz.underlying49 Tryz.underlying3 (wo.heap.size + 1) n f q.name 1 rfl (hmr.keep1 (heap_alloc_old _ _ hmlt)) (by omega) rfl rfl hqs (by omega) ?_; intro w2 hm2 hg2; have HM2 := Lib.hid hm2; have HG2 := Lib.hid hg2; clear hm2 hg2)))
        go_roundw
        case rel => exact ⟨k + 1, n + 1, _, by omega, by go_num, by omega, HM2, HA, Lib.hid (grownT hgr.out (grownT (World.grownBy_alloc wr _ _) HG2.out))⟩
        case measure => simp [intOf]; try omega
    · obtain rfl : k = p.eqs.length := by omega
      have hag1 := hag.out
      rw [List.take_length] at hag1
      have HAG := Lib.hid hag1
      clear hag hag1
      go_wp2_with fail
      clear hcm hfm hmr hmlt hwr0 hbwr hbm
      go_loopw [37] (fun i wr => ∃ (k n : Nat) (f : ByteArray → Option Int) (out : List ByteArray), k ≤ l.length ∧ i = .int .i64 k ∧ n ≤ p.eqs.length + k ∧ Hid (MapI Tryz.prog 9 3 wr (wo.heap.size + 1) n f) ∧ Hid (Agree f out) ∧ Hid (looseGo p.eqs out (l.drop k) = LF) ∧ Hid (W0.grownBy wr (some (wo.heap.size + 1)))) (fun i _ => l.length - (intOf i).toNat)
      case atStart => exact ⟨0, n, f, presE p.eqs, Nat.zero_le _, rfl, by omega, hm, HAG, Lib.hid (by rw [List.drop_zero]; exact HL.out.symm), hgr⟩
      case round =>
        clear HAG hm hgr hgz
        obtain ⟨k, n, f, out, hk, rfl, hn, hm, hag, hrem, hgr⟩ := hrel
        have hgz := hgr.out.size
        have hbwr : Below w.heap.size w wr := bel_grown hb0 hgr.out (fun b hb => by injection hb with hb; omega) (by omega)
        have hbm : Below (wo.heap.size + 1) W0 wr := bel_grown (Below.refl _ W0) hgr.out (fun b hb => by injection hb with hb; omega) (by omega)
        have hcm := bcellM hbm
        have hfm := bfrozenM hbm
        have hmr := hm.out
        have hmlt := hm.out.lt
        have hwr0 : w.heap.size < wr.heap.size := by omega
        have hiw : Below wo.heap.size wo wr := bel_grown hio0 hgr.out (fun b hb => by injection hb with hb; omega) (by omega)
        by_cases hlt : k < l.length
        · have hx : l[k]? = some l[k] := List.getElem?_eq_getElem hlt
          have hd : l.drop k = l[k] :: l.drop (k + 1) := List.drop_eq_getElem_cons hlt
          generalize l[k] = j at hx hd
          obtain ⟨m, q, rfl, hq⟩ := HG.out k j hx
          have hm' : m < p.eqs.length := (List.getElem?_eq_some_iff.1 hq).1
          obtain ⟨bi, oi, rfl, hbi, di⟩ := (hio.later hiw).get hx
          obtain ⟨b, off, B1, m1, B2, m2, rfl, hbb, ⟨g0, g1, g2, g3, g4, g5, g6, g7, g8, g9, s1, s2⟩⟩ := (hp4.later hbwr).get hq
          obtain ⟨hqs, hqne, hqf, hqok, hqz⟩ := HQS.out q (List.mem_of_getElem? hq)
          have hr := hrem.out
          rw [hd, looseGo, Int.toNat_natCast, hq] at hr
          dsimp only at hr
          rw [← hag.out.reach] at hr
          have hrc := fun W h => reaches_any q.e B2 m2 (wo.heap.size + 1) n f W (s2.later h) hqf hqok hqz (hmr.bel h)
          unfold exV at hrc
          clear hd hx hq hrem hqf hqok hqz s1 g1 g2 g3 g4 g5
          cases hrch : q.e.reach (onM f)
          · rw [hrch, if_neg (by simp)] at hr
            have HRC := Lib.hid hrch
            have HR := Lib.hid hr
            clear hrch hr hqne
            go_wp2_with (first | (go_at_call 15; go_loud (refine (hrc _ belA).mono ?_; rw [HRC.out]; rintro r w1 ⟨rfl, hb1⟩; have hc1 := bcell hb1; have hz1 := hb1.size; have hy1 : w.heap.size < w1.heap.size := (by omega))))
            go_roundw
            case rel => exact ⟨k + 1, n, f, out, by omega, by go_num, by omega, Lib.hid (hmr.bel hb1), hag, HR, Lib.hid (grownT hgr.out (grown_bel hb1))⟩
            case measure => simp [intOf]; try omega
          · rw [hrch, if_pos rfl] at hr
            have HRC := Lib.hid hrch
            have HR := Lib.hid hr
            have HA := Lib.hid (agree_snoc hag.out hqne)
            clear hrch hr hqne
            go_wp2_with (first | (go_at_call 15; go_loud (refine (hrc _ belA).mono ?_; rw [HRC.out]; rintro r w1 ⟨rfl, hb1⟩; have hc1 := bcell hb1; have hz1 := hb1.size; have hy1 : w.heap.size < w1.heap.size := (by omega))) | (at_mapUpdate; go_loud (refine wpList_stI rfl (.tmp 49) (.tmp 55) _ 49 rfl Tryz.underlying9 Tryz.underlying49 Tryz.underlying3 (wo.heap.size + 1) n f q.name 1 rfl (hmr.bel hb1) (by omega) rfl rfl hqs (by omega) ?_; intro w2 hm2 hg2; have HM2 := Lib.hid hm2; have HG2 := Lib.hid hg2; clear hm2 hg2)))
            go_roundw
            case rel => exact ⟨k + 1, n + 1, _, out ++ [q.name], by omega, by go_num, by omega, HM2, HA, HR, Lib.hid (grownT hgr.out (grownT (grown_bel hb1) HG2.out))⟩
            case measure => simp [intOf]; try omega
        · obtain rfl : k = l.length := by omega
          have hr := hrem.out
          rw [List.drop_length, looseGo] at hr
          have HR := Lib.hid hr
          clear hr hrem
          go_wp2_with fail
          go_region
          all_goals
            go_wp2_with fail
            refine bodyPost_ret (v := .tuple #[.map (some (wo.heap.size + 1)), .agg #[.int .i64 0, .int .i64 0, .int .i64 0]]) (by simp [results, Tryz.results13, go_sem, *]) rfl ⟨⟨wo.heap.size + 1, n, f, rfl, by omega, ?_, by rw [← HR.out]; exact hag.out⟩, ?_⟩
            · refine hmr.keep1 ?_
              (repeat first | rfl | refine (heap_setCell_other _ _ _ _ (by show wo.heap.size + 1 ≠ w.heap.size + 1; omega)).trans ?_)
            · (repeat refine bel_drew ?_)
              exact belS

end Go.Proofs.YtikmbkojnfmiaaaGreatDoorRRRR

/- Walk over start's Loose. -/
namespace Go.Proofs.YtikmbkojnfmiaaaGreatDoorRRRR
open Go.RowKit Go.Sort

/-- Of each variable whether it is loose. -/
def looseV (p : Pr) : List Bool := if (orderE p).2 = (0, 0, 0) then (varsOf p).map (fun v => inL (looseE p).1 v.name) else []
theorem boolinfo : (Tryz.prog.info? 4).map (fun i => (i.zero, i.size, i.bytes)) = some (some (.bool false), 1, 1) := by kernel_rfl

set_option maxHeartbeats 4000000 in
theorem loose_fault (p : Pr) (a : PrA) (w : World) (hg : Always w) (hp : PrAt w p a) (hok : PrOK p) (n1 : p.ins.length ≤ 1000000) (n2 : p.outs.length ≤ 1000000) (n3 : p.locals.length ≤ 1000000) (n4 : p.eqs.length ≤ 1000000) (hne : (orderE p).2 ≠ (0, 0, 0)) :
    Calls Tryz.prog 11 #[prV p a] w fun r w' => r = .returned (.tuple #[.slice none 0 0, fV (orderE p).2]) ∧ Below w.heap.size w w' := by
  have hfind := fun W h => find_fault p a W (hg.later h) (hp.later h) hok n1 n2 n3 n4 hne
  clear hg hok
  obtain ⟨A1, c1, A2, c2, A3, c3, A4, c4⟩ := a
  unfold prV fV at *
  dsimp only at *
  generalize (orderE p).2 = O at *
  obtain ⟨f1, f2, f3⟩ := O
  dsimp only at *
  have hne2 : (f1 == 0 && f2 == 0 && f3 == 0) = false := by
    rw [Bool.eq_false_iff]
    intro h
    simp only [Bool.and_eq_true, beq_iff_eq] at h
    exact hne (by rw [h.1.1, h.1.2, h.2])
  have hfq : ∀ w, (Op.equalIn 10000 31 (.agg #[.int .i64 f1, .int .i64 f2, .int .i64 f3]) (.agg #[.int .i64 0, .int .i64 0, .int .i64 0])).run Tryz.prog w = .ok false w := fun w => by rw [eqFault, hne2]
  have hgm : Tryz.prog.eqGuardType Tryz.prog.depth 31 = false := by kernel_rfl
  clear hne hne2 hp
  go_enter Tryz.func11, Tryz.ntmps11
  go_wp2_with (first | (go_at_call 13; go_loud (refine (hfind _ belA).mono ?_; rintro r wo ⟨rfl, hbo⟩; have hco := bcell hbo; have hfo := bfrozen hbo; have hzo : w.heap.size + 2 ≤ wo.heap.size := (by have := hbo.size; simpa using this); have hyo : w.heap.size < wo.heap.size := (by omega); have hyo1 : w.heap.size + 1 < wo.heap.size := (by omega))))
  go_region
  all_goals
    go_wp2_with fail
    refine bodyPost_ret (v := .tuple #[.slice none 0 0, .agg #[.int .i64 f1, .int .i64 f2, .int .i64 f3]]) (by simp [results, Tryz.results11, go_sem, *]) rfl ⟨rfl, ?_⟩
    (repeat refine bel_drew ?_)
    exact belS

set_option maxHeartbeats 4000000 in
theorem loose_clean (p : Pr) (a : PrA) (w : World) (hg : Always w) (hp : PrAt w p a) (hok : PrOK p) (n1 : p.ins.length ≤ 1000000) (n2 : p.outs.length ≤ 1000000) (n3 : p.locals.length ≤ 1000000) (n4 : p.eqs.length ≤ 1000000) (hO2 : (orderE p).2 = (0, 0, 0)) :
    Calls Tryz.prog 11 #[prV p a] w fun r w' => (∃ v, r = .returned (.tuple #[v, fV (0, 0, 0)]) ∧ w'.ownsRow w.heap.size 4 1 v (looseV p).length ((looseV p).map .bool)) ∧ Below w.heap.size w w' := by
  obtain ⟨V, hV⟩ : ∃ V, V = looseV p := ⟨_, rfl⟩
  have hV2 : V = (varsOf p).map (fun v => inL (looseE p).1 v.name) := by rw [hV]; unfold looseV; rw [if_pos hO2]
  rw [← hV]
  have hck := (orderE_good hO2).1
  have hvs : ∀ v ∈ varsOf p, v.name.size ≤ maxLen := fun v hv => by have := (vars_short (clean_parts (clkF_parts hck).1).1 v hv).1; unfold maxLen; omega
  have hfind := fun W h => find_clean p a W (hg.later h) (hp.later h) hok n1 n2 n3 n4 hO2
  have hvars := fun W h => vars_any p a W (hp.later h) n1 n2 n3
  have hL3 : (varsOf p).length ≤ 3000000 := by simp [varsOf]; omega
  generalize (looseE p).1 = LF at *
  have HV2 := Lib.hid hV2
  have HVS := Lib.hid hvs
  clear hV hV2 hO2 hck hvs hg hok
  have hfq : ∀ w, (Op.equalIn 10000 31 (.agg #[.int .i64 0, .int .i64 0, .int .i64 0]) (.agg #[.int .i64 0, .int .i64 0, .int .i64 0])).run Tryz.prog w = .ok true w := fun w => by rw [eqFault]; rfl
  have hgm : Tryz.prog.eqGuardType Tryz.prog.depth 31 = false := by kernel_rfl
  obtain ⟨A1, c1, A2, c2, A3, c3, A4, c4⟩ := a
  unfold prV fV at *
  dsimp only at *
  clear hp
  go_enter Tryz.func11, Tryz.ntmps11
  go_wp2_with (first
    | (go_at_call 13; go_loud (refine (hfind _ belA).mono ?_; rintro r wo ⟨⟨B, n, f, rfl, hB, hm, hag⟩, hbo⟩; have hco := bcell hbo; have hfo := bfrozen hbo; have hzo : w.heap.size + 2 ≤ wo.heap.size := (by have := hbo.size; simpa using this); have hyo : w.heap.size < wo.heap.size := (by omega); have hyo1 : w.heap.size + 1 < wo.heap.size := (by omega); have HAG := Lib.hid hag; clear hag))
    | (go_at_call 14; go_loud (refine (hvars _ belA).mono ?_; rintro r wv ⟨⟨Av, cv, rfl, hrow⟩, hbv⟩; have hcv := bcell hbv; have hfv := bfrozen hbv; have hzv : wo.heap.size + 1 ≤ wv.heap.size := (by have := hbv.size; simpa using this); have hyv : w.heap.size < wv.heap.size := (by omega); have hyv1 : w.heap.size + 1 < wv.heap.size := (by omega); have hyv2 : wo.heap.size < wv.heap.size := (by omega); have hva := VarsAt.of_own hrow; clear hrow)))
  refine wp_name fun W0 hW0 => ?_
  have hb0 : Below w.heap.size w W0 := by rw [hW0]; (repeat refine bel_drew ?_); exact belS
  have hbo0 : Below wo.heap.size wo W0 := by rw [hW0]; (repeat refine bel_drew ?_); exact belS
  have hm0 : MapI Tryz.prog 9 3 W0 B n f := hm.bel hbo0
  have hva0 : VarsAt W0 (varsOf p) Av cv := by rw [hW0]; exact hva.later belA
  have hz0 : w.heap.size + 1 < W0.heap.size := by rw [hW0]; exact hyv1
  have hz00 : w.heap.size < W0.heap.size := by omega
  have hz01 : wo.heap.size < W0.heap.size := by rw [hW0]; exact hyv2
  have f0 : W0.cell? ⟨w.heap.size + 1, 0, none⟩ = some (.int .i64 0) := by rw [hW0]; go_simp
  have f1 : W0.cell? ⟨w.heap.size + 1, 1, none⟩ = some (.int .i64 0) := by rw [hW0]; go_simp
  have f2 : W0.cell? ⟨w.heap.size + 1, 2, none⟩ = some (.int .i64 0) := by rw [hW0]; go_simp
  have v0 : W0.cell? ⟨wo.heap.size, 0, none⟩ = some (.int .i64 0) := by rw [hW0]; go_simp
  have v1 : W0.cell? ⟨wo.heap.size, 1, none⟩ = some (.int .i64 0) := by rw [hW0]; go_simp
  have v2 : W0.cell? ⟨wo.heap.size, 2, none⟩ = some (.int .i64 0) := by rw [hW0]; go_simp
  have z0 : W0.frozen? ⟨w.heap.size + 1, 0, none⟩ = false := by rw [hW0]; go_simp
  have z1 : W0.frozen? ⟨w.heap.size + 1, 1, none⟩ = false := by rw [hW0]; go_simp
  have z2 : W0.frozen? ⟨w.heap.size + 1, 2, none⟩ = false := by rw [hW0]; go_simp
  have hll := hva0.len
  unfold maxLen at hll
  obtain ⟨hll1, hll2⟩ := hll
  clear hW0 hco hfo hzo hyo hyo1 hcv hfv hzv hyv hyv1 hyv2 hva hfind hvars hm hbo hbv hbo0
  generalize varsOf p = L at *
  go_loopw [6, 21] (fun o i wr => ∃ (k : Nat) (D : Option Addr) (dc : Nat), k ≤ L.length ∧ i = .int .i64 k ∧ o = .slice D k dc ∧ Hid (wr.ownsRow W0.heap.size 4 1 (.slice D k dc) k ((L.take k).map (fun v => Value.bool (onM f v.name)))) ∧ Below W0.heap.size W0 wr) (fun _ i _ => L.length - (intOf i).toNat)
  case atStart => exact ⟨0, none, 0, Nat.zero_le _, rfl, rfl, Lib.hid (World.ownsRow_nil _ _ _ _), Below.refl _ _⟩
  case round =>
    obtain ⟨k, D, dc, hk, rfl, rfl, hown, hbel⟩ := hrel
    have hbw : Below w.heap.size w wr := bel_grow hb0 hbel (by omega)
    have hc := bcell hbel
    have hfz := bfrozen hbel
    have hzr := hbel.size
    have hmr := hm0.bel hbel
    have hmlt := hmr.lt
    by_cases hlt : k < L.length
    · have hx : L[k]? = some L[k] := List.getElem?_eq_getElem hlt
      have hsx := HVS.out L[k] (List.getElem_mem hlt)
      have htk : L.take (k + 1) = L.take k ++ [L[k]] := by rw [List.take_add_one, hx]; rfl
      generalize L[k] = x at hx hsx htk
      obtain ⟨b, off, rfl, hbb, ⟨d0, d1, d2, d3⟩⟩ := (hva0.later hbel).get hx
      have HTK := Lib.hid htk
      have hown1 := hown.out
      clear hx htk
      go_wp2_with (first
        | (at_lookup; go_loud (refine wpList_lkI rfl (.tmp 26) (.tmp 28) 49 rfl Tryz.underlying9 Tryz.underlying49 Tryz.underlying3 (zeroInt _) B n f x.name rfl (hmr.keep1 (heap_alloc_old _ _ hmlt)) rfl hsx ?_))
        | (at_builtin; go_loud (refine wpList_app rfl (.tmp 25) (.tmp 31) 44 rfl W0.heap.size 4 _ 1 1 Tryz.underlying44 boolinfo rfl (by omega) (.slice D k dc) k ((L.take k).map (fun v => Value.bool (onM f v.name))) _ 1 [.bool (decide (0 < (f x.name).getD 0))] rfl (own_alloc (own_alloc hown1)) rfl rfl (fun j u hj => (cell_new' (by simp)).trans (by simpa using hj)) (by simp [Value.oneCell']) (by omega) (by omega) (by simp; omega) ?_; intro v8 w8 hown8 hb8; have hz8 := hb8.size; (try simp at hz8); obtain ⟨A8, c8, rfl, hcb1, hcb2⟩ := own_slice hown8)))
      go_roundw
      case rel => exact ⟨k + 1, A8, c8, by omega, by go_num, rfl, Lib.hid (by rw [HTK.out, List.map_append]; exact hown8), (bel_alloc (bel_alloc (Below.refl _ _) _) _).mono (by omega) |> hbel.trans |> fun h => h.trans hb8⟩
      case measure => simp [intOf]; try omega
    · obtain rfl : k = L.length := by omega
      have hout := hown.out
      rw [List.take_length] at hout
      have hvv : V.map Value.bool = L.map (fun v => Value.bool (onM f v.name)) := by
        rw [HV2.out, List.map_map]
        exact List.map_congr_left fun v _ => by show Value.bool _ = Value.bool _; rw [HAG.out v.name]
      have hvl : V.length = L.length := by rw [HV2.out, List.length_map]
      rw [← hvv, ← hvl] at hout
      have HOUT := Lib.hid hout
      have HVL := Lib.hid hvl
      clear hown hout hvv hvl
      go_wp2_with fail
      go_region
      all_goals
        go_wp2_with fail
        refine bodyPost_ret (v := .tuple #[.slice D L.length dc, .agg #[.int .i64 0, .int .i64 0, .int .i64 0]]) (by simp [results, Tryz.results11, go_sem, *]) rfl ⟨⟨.slice D L.length dc, rfl, ?_⟩, ?_⟩
        · refine own_less (B := W0.heap.size) ?_ (by omega)
          rw [← HVL.out]
          (repeat first | with_reducible exact HOUT.out | refine own_alloc ?_ | refine own_drew ?_ | refine own_apart ?_ (fun b hb => by have := (HOUT.out.lt b hb).1; omega) _ _)
        · (repeat refine bel_drew ?_)
          exact belS

end Go.Proofs.YtikmbkojnfmiaaaGreatDoorRRRR

/- Walk over the reference's Names: the loose names. -/
namespace Go.Proofs.YtikmbkojnfmiaaaGreatDoorRRRR
open Go.RowKit Go.Sort

set_option maxHeartbeats 4000000 in
theorem names_fault (p : Pr) (a : PrA) (w : World) (hp : PrAt w p a) (hok : PrOK p) (n1 : p.ins.length ≤ 1000000) (n2 : p.outs.length ≤ 1000000) (n3 : p.locals.length ≤ 1000000) (n4 : p.eqs.length ≤ 1000000) (hne : (orderE p).2.2.2 ≠ 0) :
    Calls Tryz.prog 17 #[prV p a] w fun r w' => r = .returned (.tuple #[.slice none 0 0, fV (orderE p).2]) ∧ Below w.heap.size w w' := by
  have hord := fun W h => rorder_any p a W (hp.later h) hok n1 n2 n3 n4
  clear hok
  obtain ⟨A1, c1, A2, c2, A3, c3, A4, c4⟩ := a
  unfold prV fV at *
  dsimp only at *
  generalize orderE p = O at *
  obtain ⟨l, f1, f2, f3⟩ := O
  dsimp only at *
  have t1 : (f3 != 0) = true := by simpa using hne
  clear hne hp
  go_enter Tryz.func17, Tryz.ntmps17
  go_wp2_with (first | (go_at_call 26; go_loud (refine (hord _ belA).mono ?_; rintro r wo ⟨⟨vo, rfl, hrow⟩, hbo⟩; obtain ⟨Ao, co, rfl, ho1, ho2⟩ := own_slice hrow; have hco := bcell hbo; have hfo := bfrozen hbo; have hzo : w.heap.size + 2 ≤ wo.heap.size := (by have := hbo.size; simpa using this); have hyo : w.heap.size < wo.heap.size := (by omega); have hyo1 : w.heap.size + 1 < wo.heap.size := (by omega); clear hrow)))
  go_region
  all_goals
    go_wp2_with fail
    refine bodyPost_ret (v := .tuple #[.slice none 0 0, .agg #[.int .i64 f1, .int .i64 f2, .int .i64 f3]]) (by simp [results, Tryz.results17, go_sem, *]) rfl ⟨rfl, ?_⟩
    (repeat refine bel_drew ?_)
    exact belS

set_option maxHeartbeats 4000000 in
theorem names_clean (p : Pr) (a : PrA) (w : World) (hp : PrAt w p a) (hok : PrOK p) (n1 : p.ins.length ≤ 1000000) (n2 : p.outs.length ≤ 1000000) (n3 : p.locals.length ≤ 1000000) (n4 : p.eqs.length ≤ 1000000) (hO2 : (orderE p).2 = (0, 0, 0)) :
    Calls Tryz.prog 17 #[prV p a] w fun r w' => (∃ v, r = .returned (.tuple #[v, fV (0, 0, 0)]) ∧ w'.ownsRow w.heap.size 9 1 v (looseE p).1.length ((looseE p).1.map .string)) ∧ Below w.heap.size w w' := by
  obtain ⟨LF, hLF⟩ : ∃ L, L = (looseE p).1 := ⟨_, rfl⟩
  have hL : LF = looseGo p.eqs (presE p.eqs) (orderE p).1 := by rw [hLF]; unfold looseE; rw [if_pos hO2]
  rw [← hLF]
  obtain ⟨hck, hlen, hgood⟩ := orderE_good hO2
  have hqs := eqs_clean hck hok
  have hord := fun W h => rorder_any p a W (hp.later h) hok n1 n2 n3 n4
  obtain ⟨l, hl⟩ : ∃ l, orderE p = (l, (0, 0, 0)) := ⟨(orderE p).1, by rw [← hO2]⟩
  rw [hl] at hord hL hgood hlen
  dsimp only at hord hL hgood hlen
  have HL := Lib.hid hL
  have HG := Lib.hid hgood
  have HQS := Lib.hid hqs
  clear hLF hL hO2 hck hqs hgood hl hok
  have hp4 := hp.eqs
  have hl4 := hp.eqs.len
  obtain ⟨A1, c1, A2, c2, A3, c3, A4, c4⟩ := a
  unfold maxLen at hl4
  unfold prV fV at *
  dsimp only at *
  obtain ⟨hl41, hl42⟩ := hl4
  clear hp
  go_enter Tryz.func17, Tryz.ntmps17
  go_wp2_with (first | (go_at_call 26; go_loud (refine (hord _ belA).mono ?_; rintro r wo ⟨⟨vo, rfl, hrow⟩, hbo⟩; obtain ⟨Ao, co, rfl, ho1, ho2⟩ := own_slice hrow; have hio := IntsAt.of_own hrow; have hco := bcell hbo; have hfo := bfrozen hbo; have hzo : w.heap.size + 2 ≤ wo.heap.size := (by have := hbo.size; simpa using this); have hyo : w.heap.size < wo.heap.size := (by omega); have hyo1 : w.heap.size + 1 < wo.heap.size := (by omega); clear hrow)))
  refine wp_name fun W0 hW0 => ?_
  have hb0 : Below w.heap.size w W0 := by rw [hW0]; (repeat refine bel_drew ?_); exact belS
  have hz0 : w.heap.size + 1 < W0.heap.size := by rw [hW0]; simp; omega
  have hz00 : w.heap.size < W0.heap.size := by omega
  have hio0 : Below wo.heap.size wo W0 := by rw [hW0]; (repeat refine bel_drew ?_); exact belS
  have hio1 : IntsAt W0 l Ao co := hio.later hio0
  have x4 : W0.cell? ⟨w.heap.size, 4, none⟩ = some (.slice A4 p.eqs.length c4) := by rw [hW0]; go_simp
  have f0 : W0.cell? ⟨w.heap.size + 1, 0, none⟩ = some (.int .i64 0) := by rw [hW0]; go_simp
  have f1 : W0.cell? ⟨w.heap.size + 1, 1, none⟩ = some (.int .i64 0) := by rw [hW0]; go_simp
  have f2 : W0.cell? ⟨w.heap.size + 1, 2, none⟩ = some (.int .i64 0) := by rw [hW0]; go_simp
  have z0 : W0.frozen? ⟨w.heap.size + 1, 0, none⟩ = false := by rw [hW0]; go_simp
  have z1 : W0.frozen? ⟨w.heap.size + 1, 1, none⟩ = false := by rw [hW0]; go_simp
  have z2 : W0.frozen? ⟨w.heap.size + 1, 2, none⟩ = false := by rw [hW0]; go_simp
  have hl1 := hio.1
  unfold maxLen at ho2
  clear hW0 hco hfo hzo hyo hyo1 hord hio hio0 hbo
  go_loopw [6, 7] (fun o i wr => ∃ (k : Nat) (D : Option Addr) (dc : Nat) (R : List ByteArray), k ≤ p.eqs.length ∧ i = .int .i64 k ∧ o = .slice D R.length dc ∧ R.length ≤ k ∧ Hid (R = presE (p.eqs.take k)) ∧ Hid (wr.ownsRow W0.heap.size 9 1 (.slice D R.length dc) R.length (R.map .string)) ∧ Below W0.heap.size W0 wr) (fun _ i _ => p.eqs.length - (intOf i).toNat)
  case atStart => exact ⟨0, none, 0, [], Nat.zero_le _, rfl, rfl, Nat.le_refl _, Lib.hid rfl, Lib.hid (World.ownsRow_nil _ _ _ _), Below.refl _ _⟩
  case round =>
    obtain ⟨k, D, dc, R, hk, rfl, rfl, hRl, hR, hown, hbel⟩ := hrel
    have hbw : Below w.heap.size w wr := bel_grow hb0 hbel (by omega)
    have hc := bcell hbel
    have hzr := hbel.size
    by_cases hlt : k < p.eqs.length
    · have hx : p.eqs[k]? = some p.eqs[k] := List.getElem?_eq_getElem hlt
      have hd : p.eqs.drop k = p.eqs[k] :: p.eqs.drop (k + 1) := List.drop_eq_getElem_cons hlt
      generalize p.eqs[k] = q at hx hd
      obtain ⟨b, off, B1, n1, B2, n2, rfl, hbb, ⟨g0, g1, g2, g3, g4, g5, g6, g7, g8, g9, s1, s2⟩⟩ := (hp4.later hbw).get hx
      have hpt := presE_take p.eqs hx
      rw [← hR.out] at hpt
      have hown1 := hown.out
      clear hd hx hR g2 g3 g4 g5 g6 g7 g8 g9 s1 s2
      cases hdl : (q.delay == 2)
      · rw [hdl, if_neg (by simp)] at hpt
        have HP := Lib.hid hpt.symm
        clear hpt
        go_wp2_with fail
        go_roundw
        case rel => exact ⟨k + 1, D, dc, R, by omega, by go_num, rfl, by omega, HP, hown, belA⟩
        case measure => simp [intOf]; try omega
      · rw [hdl, if_pos rfl] at hpt
        have HP := Lib.hid hpt.symm
        clear hpt
        go_wp2_with (first | (at_builtin; go_loud (refine wpList_app rfl (.tmp 32) (.tmp 39) 55 rfl W0.heap.size 9 _ 1 16 Tryz.underlying55 strinfo rfl (by omega) (.slice D R.length dc) R.length (R.map .string) _ 1 [.string q.name] rfl (own_alloc hown1) rfl rfl (fun j u hj => by rw [cell_new]; simpa using hj) (by simp [Value.oneCell']) (by omega) (by omega) (by simp; omega) ?_; intro v2 w2 hown2 hb2; have hz2 := hb2.size; (try simp at hz2); obtain ⟨A2', cv2, rfl, hcb1, hcb2⟩ := own_slice hown2)))
        go_roundw
        case rel => exact ⟨k + 1, A2', cv2, R ++ [q.name], by omega, by go_num, by simp, by simp; omega, HP, Lib.hid (by rw [List.map_append, List.length_append]; exact hown2), belA⟩
        case measure => simp [intOf]; try omega
    · obtain rfl : k = p.eqs.length := by omega
      have hr := hR.out
      rw [List.take_length] at hr
      have HL2 := Lib.hid (by rw [hr]; exact HL.out.symm : looseGo p.eqs R l = LF)
      clear hr hR
      go_wp2_with fail
      clear hbw hc hzr HL
      go_loopw [6, 8] (fun o i wr => ∃ (k : Nat) (D : Option Addr) (dc : Nat) (R : List ByteArray), k ≤ l.length ∧ i = .int .i64 k ∧ o = .slice D R.length dc ∧ R.length ≤ p.eqs.length + k ∧ Hid (looseGo p.eqs R (l.drop k) = LF) ∧ Hid (wr.ownsRow W0.heap.size 9 1 (.slice D R.length dc) R.length (R.map .string)) ∧ Below W0.heap.size W0 wr) (fun _ i _ => l.length - (intOf i).toNat)
      case atStart => exact ⟨0, D, dc, R, Nat.zero_le _, rfl, rfl, by omega, Lib.hid (by rw [List.drop_zero]; exact HL2.out), hown, hbel⟩
      case round =>
        clear HL2 hown hbel
        obtain ⟨k, D, dc, R, hk, rfl, rfl, hRl, hrem, hown, hbel⟩ := hrel
        have hbw : Below w.heap.size w wr := bel_grow hb0 hbel (by omega)
        have hc := bcell hbel
        have hfz := bfrozen hbel
        have hzr := hbel.size
        have hwr0 : w.heap.size < wr.heap.size := by omega
        by_cases hlt : k < l.length
        · have hx : l[k]? = some l[k] := List.getElem?_eq_getElem hlt
          have hd : l.drop k = l[k] :: l.drop (k + 1) := List.drop_eq_getElem_cons hlt
          generalize l[k] = j at hx hd
          obtain ⟨m, q, rfl, hq⟩ := HG.out k j hx
          have hm' : m < p.eqs.length := (List.getElem?_eq_some_iff.1 hq).1
          obtain ⟨bi, oi, rfl, hbi, di⟩ := (hio1.later hbel).get hx
          obtain ⟨b, off, B1, m1, B2, m2, rfl, hbb, ⟨g0, g1, g2, g3, g4, g5, g6, g7, g8, g9, s1, s2⟩⟩ := (hp4.later hbw).get hq
          obtain ⟨hqs, hqne, hqf, hqok, hqz⟩ := HQS.out q (List.mem_of_getElem? hq)
          have hr := hrem.out
          rw [hd, looseGo, Int.toNat_natCast, hq] at hr
          dsimp only at hr
          have hlist := StrsAt.of_own hown.out
          have hrx := fun W h => rexpr_any R q.e B2 m2 D dc W (s2.later h) (hlist.later h) hqf
          unfold exV at hrx
          clear hd hx hq hrem hqf hqok hqz hqne hqs s1 s2 g1 g2 g3 g4 g5
          cases hrch : q.e.reach (inL R)
          · rw [hrch, if_neg (by simp)] at hr
            rw [hrch] at hrx
            have HR := Lib.hid hr
            clear hrch hr
            go_wp2_with fail
            refine wp_region_qb (by kernel_rfl) (by kernel_rfl) (fun hgq => ?_)
            repeat (quiet_step ((first | (go_at_call 22; exact Calls.regrown_of (hrx _ belA)))))
            refine wpQuiet_nil ?_
            intro wq hwq
            replace hwq := bel_of_class hwq
            clear hgq
            have hcq := bcell hwq
            have hzq := hwq.size
            (try simp at hzq)
            (try have hyq1 := lt0 w wq); (try have hyq2 := ltA w 1 wq); (try have hyq3 := ltA w 2 wq); (try have hyq4 := lt0 wr wq)
            go_wp2_with fail
            go_roundw
            case rel => exact ⟨k + 1, D, dc, R, by omega, by go_num, rfl, by omega, HR, Lib.hid (own_bel hown.out hwq), belA⟩
            case measure => simp [intOf]; try omega
          · rw [hrch, if_pos rfl] at hr
            rw [hrch] at hrx
            have HR := Lib.hid hr
            clear hrch hr
            go_wp2_with fail
            refine wp_region_qb (by kernel_rfl) (by kernel_rfl) (fun hgq => ?_)
            repeat (quiet_step ((first | (go_at_call 22; exact Calls.regrown_of (hrx _ belA)))))
            refine wpQuiet_nil ?_
            intro wq hwq
            replace hwq := bel_of_class hwq
            clear hgq
            have hcq := bcell hwq
            have hzq := hwq.size
            (try simp at hzq)
            (try have hyq1 := lt0 w wq); (try have hyq2 := ltA w 1 wq); (try have hyq3 := ltA w 2 wq); (try have hyq4 := lt0 wr wq)
            have hcq := bcell hwq
            have hzq := hwq.size
            have hyq : w.heap.size < wq.heap.size := by omega
            have hyq2 : b < wq.heap.size := by omega
            have hyq3 : bi < wq.heap.size := by omega
            have hownq := own_bel hown.out hwq
            go_wp2_with fail
            go_region_law (first
              | (refine step_cat rfl (.tmp 58) (.tmp 68) 55 rfl W0.heap.size 9 _ 1 16 Tryz.underlying55 strinfo rfl (by omega) (.slice D R.length dc) R.length (R.map .string) (some ⟨wq.heap.size, 0, none⟩) 1 1 [.string q.name] rfl (own_alloc (own_drew hownq)) rfl ⟨rfl, fun _ => ⟨_, _, rfl, fun j u hj => by rw [Nat.zero_add]; exact (cell_new' (by simp)).trans (by simpa using hj)⟩⟩ (by simp [Value.oneCell']) (by omega) (by omega) (by simp; omega) ?_; intro v9 w9 hown9 hb9; go_loud (obtain ⟨A9, c9, rfl, hc91, hc92⟩ := own_slice hown9)))
            all_goals
              go_wp2_with fail
              go_roundw
              case rel => exact ⟨k + 1, A9, c9, R ++ [q.name], by omega, by go_num, by simp, by simp; omega, HR, Lib.hid (by rw [List.map_append, List.length_append]; exact hown9), belA⟩
              case measure => simp [intOf]; try omega
        · obtain rfl : k = l.length := by omega
          have hr := hrem.out
          rw [List.drop_length, looseGo] at hr
          subst hr
          have HOUT := hown.out
          clear hrem
          go_wp2_with fail
          refine bodyPost_ret (v := .tuple #[.slice D R.length dc, .agg #[.int .i64 0, .int .i64 0, .int .i64 0]]) (by simp [results, Tryz.results17, go_sem, *]) rfl ⟨⟨.slice D R.length dc, rfl, ?_⟩, ?_⟩
          · refine own_less (B := W0.heap.size) ?_ (by omega)
            (repeat first | (with_reducible assumption) | refine own_alloc ?_ | refine own_drew ?_ | refine own_apart ?_ (fun b hb => by have := (HOUT.lt b hb).1; omega) _ _)
          · (repeat refine bel_drew ?_)
            exact belS

end Go.Proofs.YtikmbkojnfmiaaaGreatDoorRRRR
