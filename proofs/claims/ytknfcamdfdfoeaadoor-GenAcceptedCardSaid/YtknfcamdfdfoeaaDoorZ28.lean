/- Walk over order.Order of a program without fault. -/
import Derived.Test.YtknfcamdfdfoeaaDoorZ27
import Derived.Test.YtknfcamdfdfoeaaDoorZ02
import Derived.Test.YtknfcamdfdfoeaaDoorZ19
set_option linter.unusedVariables false
set_option linter.unusedSimpArgs false
set_option maxRecDepth 100000
namespace Go.Proofs.YtknfcamdfdfoeaaDoor
open Go.RowKit Go.Sort

theorem own_ne1 {v : Value} {B s z : Nat} (hlt : ∀ k, v.ownBlock = some k → B ≤ k ∧ k < s) (hz : z < B) : v.ownBlock = none ∨ v.ownBlock ≠ some z := by
  cases hv : v.ownBlock with
  | none => exact .inl rfl
  | some b => exact .inr fun e => by have := (hlt b hv).1; injection e with e; omega

theorem EqsAt.nameCell {w : World} {l : List Qe} {b off cap k : Nat} {q : Qe} (h : EqsAt w l (some ⟨b, off, none⟩) cap) (hk : l[k]? = some q) : w.cell? ⟨b, off + k * 10, none⟩ = some (.string q.name) := by
  obtain ⟨b', o', _, _, _, _, hA, _, hc⟩ := h.get hk
  injection hA with e
  injection e with e1 e2
  subst e1 e2
  exact hc.g0
theorem bcellM {B : Nat} {w w' : World} (h : Below B w w') : ∀ b o : Nat, b < B → w'.cell? ⟨b, o, none⟩ = w.cell? ⟨b, o, none⟩ := fun b o hb => h.cell (p := ⟨b, o, none⟩) hb
theorem bfrozenM {B : Nat} {w w' : World} (h : Below B w w') : ∀ b o : Nat, b < B → w'.frozen? ⟨b, o, none⟩ = w.frozen? ⟨b, o, none⟩ := fun b o hb => h.frozen (p := ⟨b, o, none⟩) hb

set_option maxHeartbeats 4000000 in
theorem order_clean (p : Pr) (a : PrA) (w : World) (hg : Always w) (hp : PrAt w p a) (hok : PrOK p) (n1 : p.ins.length ≤ 1000000) (n2 : p.outs.length ≤ 1000000) (n3 : p.locals.length ≤ 1000000) (n4 : p.eqs.length ≤ 1000000) (hck : clkF p = (0, 0, 0)) :
    Calls Tryd.prog 18 #[prV p a] w fun r w' => (∃ v, r = .returned (.tuple #[v, fV (orderP p).2]) ∧ w'.ownsRow w.heap.size 3 1 v (orderP p).1.length ((orderP p).1.map (.int .i64))) ∧ Below w.heap.size w w' := by
  have hO : orderP p = ordP (needQ (varsOf p)) p.eqs (waitGo 0 (fun _ => none) 0 p.eqs).2 (waitGo 0 (fun _ => none) 0 p.eqs).1 (waitGo 0 (fun _ => none) 0 p.eqs).2 [] := rfl
  generalize orderP p = O at *
  obtain ⟨FW, hFW⟩ : ∃ F, F = waitGo 0 (fun _ => none) 0 p.eqs := ⟨_, rfl⟩
  rw [← hFW] at hO
  have hwh := (clean_parts (clkF_parts hck).1).1
  have hqs : ∀ q ∈ p.eqs, q.name.size ≤ maxLen ∧ q.e.OK ∧ q.e.size ≤ 1000000 := fun q hq => by
    obtain ⟨h1, _, h2, _⟩ := eqB_parts ((whole_parts hwh).2.2.2.2 q hq)
    exact ⟨by unfold maxLen; omega, (hok.eqs q hq).2.2.2, by omega⟩
  have hvs : ∀ v ∈ varsOf p, v.name.size ≤ maxLen := fun v hv => by have := (vars_short hwh v hv).1; unfold maxLen; omega
  have hnds : ∀ q ∈ p.eqs, ∀ s ∈ needQ (varsOf p) q, s.size ≤ maxLen := fun q hq s hs => by
    obtain ⟨v, hv, rfl⟩ := needQ_found hck hq hs
    exact hvs v hv
  have hcheck := fun W h => clkCheck_any p a W (hg.later h) (hp.later h) n1 n2 n3 n4
  have hneeds := Lib.hid (fun W (h : Below w.heap.size w W) => oneeds_any p a W (hp.later h) n1 n2 n3 n4 hvs hqs)
  rw [hck] at hcheck
  clear hck hwh hok hg
  generalize varsOf p = L at *
  obtain ⟨nd, hnd⟩ : ∃ nd, nd = needQ L := ⟨_, rfl⟩
  have hnrow : ∀ g k W xs, NeedRows L p.eqs g k W xs → ∀ (j : Nat) (q : Qe), j < k → p.eqs[j]? = some q → ∃ A cap, xs[j]? = some (.slice A (nd q).length cap) ∧ Off (g + 1) none W (fun V => StrsAt V (nd q) A cap) := fun g k W xs h => by rw [hnd]; exact h.1
  rw [← hnd] at hO hnds
  have HO := Lib.hid hO
  have HFW := Lib.hid hFW
  have HQS := Lib.hid hqs
  have HNDS := Lib.hid hnds
  clear hO hFW hqs hnds hvs hnd
  have hfq : ∀ w, (Op.equalIn 10000 34 (.agg #[.int .i64 0, .int .i64 0, .int .i64 0]) (.agg #[.int .i64 0, .int .i64 0, .int .i64 0])).run Tryd.prog w = .ok true w := fun w => by rw [eqFault]; rfl
  have hgm : Tryd.prog.eqGuardType Tryd.prog.depth 34 = false := by kernel_rfl
  have hmm := @run_makeMap Tryd.prog
  have hp4 := hp.eqs
  have hl4 := hp.eqs.len
  obtain ⟨A1, c1, A2, c2, A3, c3, A4, c4⟩ := a
  unfold maxLen at hl4
  unfold prV fV at *
  dsimp only at *
  obtain ⟨hl41, hl42⟩ := hl4
  clear hp
  go_enter Tryd.func18, Tryd.ntmps18
  go_wp2_with (first | (go_at_call 29; refine (hcheck _ belA).mono ?_; rintro r wa ⟨rfl, hba⟩; have hca := bcell hba; have hfa := bfrozen hba; have hza : w.heap.size + 2 ≤ wa.heap.size := (by have := hba.size; simpa using this); have hya : w.heap.size < wa.heap.size := (by omega); have hya1 : w.heap.size + 1 < wa.heap.size := (by omega)))
  refine wp_name fun W0 hW0 => ?_
  have hb0 : Below w.heap.size w W0 := by rw [hW0]; (repeat refine bel_drew ?_); exact belS
  have hmb1 : w.heap.size + 1 < (wa.heap.size + 1) := by omega
  have hmb2 : (wa.heap.size + 1) < W0.heap.size := by rw [hW0]; simp
  have hm0 : MapN Tryd.prog 9 3 W0 (wa.heap.size + 1) 0 (fun _ => none) 0 := by
    rw [hW0]
    have h1 := MapN.made (P := Tryd.prog) (k := 9) (e := 3) (wa.alloc (.cells #[.int .i64 0, .int .i64 0, .int .i64 0] 34))
    simpa using h1
  have x0 : W0.cell? ⟨w.heap.size, 0, none⟩ = some (.string p.name) := by rw [hW0]; go_simp
  have x1 : W0.cell? ⟨w.heap.size, 1, none⟩ = some (.slice A1 p.ins.length c1) := by rw [hW0]; go_simp
  have x2 : W0.cell? ⟨w.heap.size, 2, none⟩ = some (.slice A2 p.outs.length c2) := by rw [hW0]; go_simp
  have x3 : W0.cell? ⟨w.heap.size, 3, none⟩ = some (.slice A3 p.locals.length c3) := by rw [hW0]; go_simp
  have x4 : W0.cell? ⟨w.heap.size, 4, none⟩ = some (.slice A4 p.eqs.length c4) := by rw [hW0]; go_simp
  have f0 : W0.cell? ⟨w.heap.size + 1, 0, none⟩ = some (.int .i64 0) := by rw [hW0]; go_simp
  have f1 : W0.cell? ⟨w.heap.size + 1, 1, none⟩ = some (.int .i64 0) := by rw [hW0]; go_simp
  have f2 : W0.cell? ⟨w.heap.size + 1, 2, none⟩ = some (.int .i64 0) := by rw [hW0]; go_simp
  have z0 : W0.frozen? ⟨w.heap.size + 1, 0, none⟩ = false := by rw [hW0]; go_simp
  have z1 : W0.frozen? ⟨w.heap.size + 1, 1, none⟩ = false := by rw [hW0]; go_simp
  have z2 : W0.frozen? ⟨w.heap.size + 1, 2, none⟩ = false := by rw [hW0]; go_simp
  have hmb0 : w.heap.size < (wa.heap.size + 1) := by omega
  clear hW0 hca hfa hba hza hya hya1 hcheck hmm hfq hgm
  go_loopw [26] (fun i wr => ∃ (k n c : Nat) (f : ByteArray → Option Int), k ≤ p.eqs.length ∧ i = .int .i64 k ∧ n ≤ k ∧ c ≤ k ∧ Hid (MapN Tryd.prog 9 3 wr (wa.heap.size + 1) n f c) ∧ Hid (waitGo k f c (p.eqs.drop k) = FW) ∧ Hid (W0.grownBy wr (some (wa.heap.size + 1)))) (fun i _ => p.eqs.length - (intOf i).toNat)
  case atStart => exact ⟨0, 0, 0, _, Nat.zero_le _, rfl, Nat.le_refl _, Nat.le_refl _, Lib.hid hm0, Lib.hid (by rw [List.drop_zero]; exact HFW.out.symm), Lib.hid ⟨rfl, rfl, rfl, Nat.le_refl _, fun _ _ _ => rfl⟩⟩
  case round =>
    obtain ⟨k, n, c, f, hk, rfl, hn, hc, hm, hwait, hgr⟩ := hrel
    have hgz := hgr.out.size
    have hbwr : Below w.heap.size w wr := bel_grown hb0 hgr.out (fun b hb => by injection hb with hb; omega) (by omega)
    have hbm : Below (wa.heap.size + 1) W0 wr := bel_grown (Below.refl (wa.heap.size + 1) W0) hgr.out (fun b hb => by injection hb with hb; omega) (by omega)
    have hcm := bcellM hbm
    have hfm := bfrozenM hbm
    have hmr := hm.out
    have hmlt := hm.out.lt
    have hwr0 : w.heap.size < wr.heap.size := by omega
    by_cases hlt : k < p.eqs.length
    · have hx : p.eqs[k]? = some p.eqs[k] := List.getElem?_eq_getElem hlt
      have hd : p.eqs.drop k = p.eqs[k] :: p.eqs.drop (k + 1) := List.drop_eq_getElem_cons hlt
      generalize p.eqs[k] = q at hx hd
      obtain ⟨b, off, B1, n1, B2, n2, rfl, hbb, ⟨g0, g1, g2, g3, g4, g5, g6, g7, g8, g9, s1, s2⟩⟩ := (hp4.later hbwr).get hx
      have hwt := hwait.out
      rw [hd, waitGo] at hwt
      have hqs := (HQS.out q (List.mem_of_getElem? hx)).1
      clear hd hx hwait
      cases hdl : (q.delay == 0)
      · rw [hdl, if_neg (by simp)] at hwt
        have HW := Lib.hid hwt
        clear hwt
        go_wp2_with fail
        go_roundw
        case rel => exact ⟨k + 1, n, c, f, by omega, by go_num, by omega, by omega, Lib.hid (hmr.keep1 (heap_alloc_old _ _ hmlt)), HW, Lib.hid (grownT hgr.out (World.grownBy_alloc wr _ _))⟩
        case measure => simp [intOf]; omega
      · rw [hdl, if_pos rfl] at hwt
        have HW := Lib.hid hwt
        clear hwt
        go_wp2_with (first | (at_mapUpdate; go_loud (refine wpList_stN rfl (.tmp 34) (.tmp 36) (.tmp 37) 108 rfl Tryd.underlying9 Tryd.underlying108 Tryd.underlying3 (wa.heap.size + 1) n f c q.name (k : Int) rfl (hmr.keep1 (heap_alloc_old _ _ hmlt)) (by omega) rfl rfl hqs (by omega) ?_; intro w2 hm2 hg2; have HM2 := Lib.hid hm2; have HG2 := Lib.hid hg2; clear hm2 hg2)))
        go_roundw
        case rel => exact ⟨k + 1, n + 1, _, _, by omega, by go_num, by omega, by split <;> omega, HM2, HW, Lib.hid (grownT hgr.out (grownT (World.grownBy_alloc wr _ _) HG2.out))⟩
        case measure => simp [intOf]; omega
    · obtain rfl : k = p.eqs.length := by omega
      have hwt := hwait.out
      rw [List.drop_length] at hwt
      have hfw : FW = (f, c) := hwt.symm
      have ho := HO.out
      rw [hfw] at ho
      have HO2 := Lib.hid ho.symm
      clear hwait hwt hfw ho HO HFW
      go_wp2_with (first | (go_at_call 30; go_loud (refine (hneeds.out _ belA).mono ?_; rintro r wn ⟨⟨g, xs, rfl, hgw, hown, hnr⟩, hbn⟩; have hcn := bcell hbn; have hfn := bfrozen hbn; have hzn := hbn.size; have hyn : w.heap.size < wn.heap.size := (by omega); have hyn1 : w.heap.size + 1 < wn.heap.size := (by omega); have HROWS := Lib.hid hown; have HNR := Lib.hid hnr; clear hown hnr)))
      have hmn : (wa.heap.size + 1) < g := by omega
      refine wp_name fun W1 hW1 => ?_
      have hW1n : wn = W1 := by rw [hW1]
      subst hW1n
      have hbwn : Below w.heap.size w wn := bel_grow hbwr hbn (by omega)
      have hbmn : Below (wa.heap.size + 1) W0 wn := hbm.trans (hbn.mono (by omega))
      have hm1 : Hid (MapN Tryd.prog 9 3 wn (wa.heap.size + 1) n f c) := Lib.hid (hmr.bel hbn)
      have hglt : g < wn.heap.size := (HROWS.out.lt g rfl).2
      clear hcn hfn hcm hfm hbm hbwr hgr hm hmr hW1 hneeds hbn
      go_loopw [9] (fun o wr => ∃ (c : Nat) (f : ByteArray → Option Int) (B : Option Addr) (bc : Nat) (out : List Int), out.length + c ≤ 1000000 ∧ o = .slice B out.length bc ∧ Hid (MapN Tryd.prog 9 3 wr (wa.heap.size + 1) n f c) ∧ Hid (ordP nd p.eqs c f c out = O) ∧ Hid (wr.ownsRow wn.heap.size 3 1 (.slice B out.length bc) out.length (out.map (.int .i64))) ∧ Hid (wn.grownBy wr (some (wa.heap.size + 1)))) (fun o _ => 1000000 - sliceLen o)
      case atStart => exact ⟨c, f, none, 0, [], by simp; omega, rfl, hm1, HO2, Lib.hid (World.ownsRow_nil _ _ _ _), Lib.hid ⟨rfl, rfl, rfl, Nat.le_refl _, fun _ _ _ => rfl⟩⟩
      case round =>
        clear hm1 HO2 hc
        obtain ⟨c, f, B, bc, out, hoc, rfl, hm, hrem, hout, hgr⟩ := hrel
        have hgz := hgr.out.size
        have hbw : Below w.heap.size w wr := bel_grown hbwn hgr.out (fun b hb => by injection hb with hb; omega) (by omega)
        have hbm : Below (wa.heap.size + 1) W0 wr := bel_grown hbmn hgr.out (fun b hb => by injection hb with hb; omega) (by omega)
        have hcm := bcellM hbm
        have hfm := bfrozenM hbm
        have hw1 : w.heap.size + 1 < wr.heap.size := by omega
        have hw0 : w.heap.size < wr.heap.size := by omega
        cases c with
        | zero =>
          have hv : O = (out, (0, 0, 0)) := by rw [← hrem.out]; rfl
          have HOUT := hout.out
          have HV := Lib.hid hv
          clear hv hrem
          go_wp2_with (first | (at_len; go_loud (refine wpList_lenN rfl (.tmp 41) 108 rfl Tryd.underlying108 (wa.heap.size + 1) n f 0 rfl hm.out ?_)))
          refine bodyPost_ret (v := .tuple #[.slice B out.length bc, .agg #[.int .i64 0, .int .i64 0, .int .i64 0]]) (by simp [results, Tryd.results18, go_sem, *]) rfl ⟨⟨.slice B out.length bc, by rw [HV.out], ?_⟩, ?_⟩
          · rw [HV.out]
            dsimp only
            refine own_less (B := wn.heap.size) ?_ (by omega)
            (repeat first | (with_reducible assumption) | refine own_alloc ?_ | refine own_drew ?_ | refine own_apart ?_ (fun b hb => by have := (HOUT.lt b hb).1; omega) _ _)
          · (repeat refine bel_drew ?_)
            exact belS
        | succ c =>
          have hrm := hrem.out
          rw [ordP, if_pos (by omega), Nat.add_sub_cancel] at hrm
          obtain ⟨S, hS⟩ : ∃ S, S = scanP f nd 0 p.eqs (-1) := ⟨_, rfl⟩
          rw [← hS] at hrm
          have HRM := Lib.hid hrm
          have HSS := Lib.hid hS
          clear hrm hrem hS
          obtain ⟨W3, rfl⟩ : ∃ W3, W3 = wr := ⟨wr, rfl⟩
          have hc0 : (0 : Int) < ((c + 1 : Nat) : Int) := by omega
          have hw3g : g < W3.heap.size := by omega
          go_wp2_with (first | (at_len; go_loud (refine wpList_lenN rfl (.tmp 41) 108 rfl Tryd.underlying108 (wa.heap.size + 1) n f (c + 1) rfl hm.out ?_)))
          go_loopw [10, 11, 47] (fun x l i wr => ∃ (k : Nat) (m0 : Int), k ≤ p.eqs.length ∧ i = .int .i64 k ∧ x = .int .i64 (-1) ∧ l = .int .i64 m0 ∧ Hid (scanP f nd k (p.eqs.drop k) m0 = S) ∧ Below W3.heap.size W3 wr) (fun _ _ i _ => p.eqs.length - (intOf i).toNat)
          case atStart => exact ⟨0, -1, Nat.zero_le _, rfl, rfl, rfl, Lib.hid (by rw [List.drop_zero]; exact HSS.out.symm), Below.refl _ _⟩
          case round =>
            obtain ⟨k, m0, hk, rfl, rfl, rfl, hsc, hbv⟩ := hrel
            have hbwv : Below w.heap.size w wr := bel_grow hbw hbv (by omega)
            have hcv := bcell hbv
            have hfv := bfrozen hbv
            have hzv := hbv.size
            have hwv : w.heap.size < wr.heap.size := by omega
            have hwv1 : w.heap.size + 1 < wr.heap.size := by omega
            have hwvg : g < wr.heap.size := by omega
            by_cases hlt : k < p.eqs.length
            · have hx : p.eqs[k]? = some p.eqs[k] := List.getElem?_eq_getElem hlt
              have hd : p.eqs.drop k = p.eqs[k] :: p.eqs.drop (k + 1) := List.drop_eq_getElem_cons hlt
              generalize p.eqs[k] = q at hx hd
              obtain ⟨b, off, B1, n1, B2, n2, rfl, hbb, ⟨g0, g1, g2, g3, g4, g5, g6, g7, g8, g9, s1, s2⟩⟩ := (hp4.later hbwv).get hx
              have hsq := hsc.out
              rw [hd, scanP] at hsq
              obtain ⟨Ar, cr, hxs, hoff⟩ := hnrow g _ _ xs HNR.out k q hlt hx
              have hls : StrsAt wr (nd q) Ar cr := hoff wr (fun b h1 h2 _ => (hbv.block b (by omega)).trans (hgr.out.block b h2 (by intro he; injection he with he; omega)))
              have r0 : W3.cell? ⟨g, k, none⟩ = some (.slice Ar (nd q).length cr) := cell_block (hgr.out.block g hglt (by intro he; injection he with he; omega)) ((HROWS.out.cellAt k (by omega)).trans hxs)
              have hmr := hm.out.bel hbv
              have hmlt := hmr.lt
              have hmem := List.mem_of_getElem? hx
              have hqs := (HQS.out q hmem).1
              have hnds := HNDS.out q hmem
              have HX := Lib.hid hx
              have hbk : b < wr.heap.size := by omega
              clear hxs hoff hd hx hsc hmem s1 s2
              rcases hfn : f q.name with _ | v
              · rw [hfn, if_neg (by simp)] at hsq
                have HFN := Lib.hid hfn
                have HSQ := Lib.hid hsq
                clear hfn hsq
                go_wp2_with (first | (at_lookup; go_loud (refine wpList_lkokI rfl (.tmp 53) (.tmp 55) 108 rfl Tryd.underlying9 Tryd.underlying108 Tryd.underlying3 (zeroInt _) (wa.heap.size + 1) n f q.name rfl ((hmr.keep1 (heap_alloc_old _ _ hmlt)).plain) rfl hqs ?_; rw [HFN.out]; simp only [Option.getD_none, Option.isSome_none, Option.getD_some, Option.isSome_some])))
                go_roundw
                case rel => exact ⟨k + 1, m0, by omega, by go_num, rfl, rfl, HSQ, belA⟩
                case measure => simp [intOf]; try omega
              by_cases hvk : v = (k : Int)
              · subst hvk
                rw [hfn, if_pos rfl] at hsq
                have HFN := Lib.hid hfn
                have t5 : ((k : Int) != (k : Int)) = false := by simp
                clear hfn
                cases hrd : readyB f (nd q)
                · rw [hrd, if_neg (by simp)] at hsq
                  have HRD := Lib.hid hrd
                  clear hrd
                  by_cases hm0 : m0 < 0
                  · rw [if_pos hm0] at hsq
                    have HSQ := Lib.hid hsq
                    clear hsq
                    go_wp2_with (first | (at_lookup; go_loud (refine wpList_lkokI rfl (.tmp 53) (.tmp 55) 108 rfl Tryd.underlying9 Tryd.underlying108 Tryd.underlying3 (zeroInt _) (wa.heap.size + 1) n f q.name rfl ((hmr.keep1 (heap_alloc_old _ _ hmlt)).plain) rfl hqs ?_; rw [HFN.out]; simp only [Option.getD_none, Option.isSome_none, Option.getD_some, Option.isSome_some])) | (go_at_call 31; go_loud (refine (ready_any (nd q) Ar cr (wa.heap.size + 1) n f _ (hls.later belA) ((hmr.keep1 (heap_alloc_old _ _ hmlt)).plain) hnds).mono ?_; rw [HRD.out]; rintro r wy ⟨rfl, hby⟩; have hcy := bcell hby; have hfy := bfrozen hby; have hzy : wr.heap.size + 1 ≤ wy.heap.size := (by have := hby.size; simpa using this); have hyy : w.heap.size < wy.heap.size := (by omega); have hyy1 : w.heap.size + 1 < wy.heap.size := (by omega))))
                    go_roundw
                    case rel => exact ⟨k + 1, k, by omega, by go_num, rfl, rfl, HSQ, belA⟩
                    case measure => simp [intOf]; try omega
                  · rw [if_neg hm0] at hsq
                    have HSQ := Lib.hid hsq
                    clear hsq
                    go_wp2_with (first | (at_lookup; go_loud (refine wpList_lkokI rfl (.tmp 53) (.tmp 55) 108 rfl Tryd.underlying9 Tryd.underlying108 Tryd.underlying3 (zeroInt _) (wa.heap.size + 1) n f q.name rfl ((hmr.keep1 (heap_alloc_old _ _ hmlt)).plain) rfl hqs ?_; rw [HFN.out]; simp only [Option.getD_none, Option.isSome_none, Option.getD_some, Option.isSome_some])) | (go_at_call 31; go_loud (refine (ready_any (nd q) Ar cr (wa.heap.size + 1) n f _ (hls.later belA) ((hmr.keep1 (heap_alloc_old _ _ hmlt)).plain) hnds).mono ?_; rw [HRD.out]; rintro r wy ⟨rfl, hby⟩; have hcy := bcell hby; have hfy := bfrozen hby; have hzy : wr.heap.size + 1 ≤ wy.heap.size := (by have := hby.size; simpa using this); have hyy : w.heap.size < wy.heap.size := (by omega); have hyy1 : w.heap.size + 1 < wy.heap.size := (by omega))))
                    go_roundw
                    case rel => exact ⟨k + 1, m0, by omega, by go_num, rfl, rfl, HSQ, belA⟩
                    case measure => simp [intOf]; try omega
                · rw [hrd, if_pos rfl] at hsq
                  have HRD := Lib.hid hrd
                  have hrm := HRM.out
                  rw [← hsq] at hrm
                  dsimp only at hrm
                  rw [if_neg (by omega), nameAt_of (q := q) (by rw [Int.toNat_natCast]; exact HX.out)] at hrm
                  have HV := Lib.hid hrm
                  have hn1 : ¬ ((k : Int) < 0) := by omega
                  clear hrd hsq hrm HRM HSS
                  by_cases hm0 : m0 < 0
                  · go_wp2_with (first | (at_lookup; go_loud (refine wpList_lkokI rfl (.tmp 53) (.tmp 55) 108 rfl Tryd.underlying9 Tryd.underlying108 Tryd.underlying3 (zeroInt _) (wa.heap.size + 1) n f q.name rfl ((hmr.keep1 (heap_alloc_old _ _ hmlt)).plain) rfl hqs ?_; rw [HFN.out]; simp only [Option.getD_none, Option.isSome_none, Option.getD_some, Option.isSome_some])) | (go_at_call 31; go_loud (refine (ready_any (nd q) Ar cr (wa.heap.size + 1) n f _ (hls.later belA) ((hmr.keep1 (heap_alloc_old _ _ hmlt)).plain) hnds).mono ?_; rw [HRD.out]; rintro r wy ⟨rfl, hby⟩; have hcy := bcell hby; have hfy := bfrozen hby; have hzy : wr.heap.size + 1 ≤ wy.heap.size := (by have := hby.size; simpa using this); have hyy : w.heap.size < wy.heap.size := (by omega); have hyy1 : w.heap.size + 1 < wy.heap.size := (by omega))) | (at_builtin; go_loud (refine wpList_cat2 rfl (.tmp 81) (.tmp 83) 79 rfl wn.heap.size 3 _ 1 8 Tryd.underlying79 intinfo rfl (by omega) (.slice B out.length bc) out.length (out.map (.int .i64)) _ 1 1 [.int .i64 (k : Int)] rfl (own_alloc (own_bel (own_alloc (own_bel hout.out hbv)) hby)) rfl rfl (fun j u hj => by rw [cell_new]; simpa using hj) (by simp [Value.oneCell']) (by omega) (by omega) (by simp; omega) ?_; intro v4 w4 hown4 hg4 hor4; have hgr4 := grown_step (grownT (grownT (grownT (grownT hgr.out (grown_bel hbv)) (World.grownBy_alloc _ _ _)) (grown_bel hby)) (World.grownBy_alloc _ _ _)) hg4 (.inr fun k hk => (hout.out.lt k hk).1); have hm4 := hm.out.keep1 (((hg4.block (wa.heap.size + 1) (by simp; omega) (fun e => by have := (hout.out.lt _ e.symm).1; omega)).trans ((heap_alloc_old _ _ (by omega)).trans ((hby.block (wa.heap.size + 1) (by simp; omega)).trans (heap_alloc_old _ _ (by omega))))).trans (hbv.block (wa.heap.size + 1) (by omega))); have hb4w : Below w.heap.size w w4 := bel_grown hbwn hgr4 (fun b hb => by injection hb with hb; omega) (by omega); have hb4m : Below (wa.heap.size + 1) W0 w4 := bel_grown hbmn hgr4 (fun b hb => by injection hb with hb; omega) (by omega); have hc4 := bcellM hb4m; have hz4 : wn.heap.size ≤ w4.heap.size := hgr4.size; have gq4 := (hp4.later hb4w).nameCell HX.out; obtain ⟨A4', cv4, rfl, hcb1, hcb2⟩ := own_slice hown4)) | (at_delete; go_loud (refine wpList_delN rfl (.tmp 85) (.tmp 91) 108 rfl Tryd.underlying9 Tryd.underlying108 (wa.heap.size + 1) n f (c + 1) q.name rfl hm4 rfl hqs ?_; intro w5 c5 hm5 hc5 hg5; rw [HFN.out] at hc5; simp only [Option.isSome_some, if_true] at hc5; simp only [Act.put])))
                    go_roundw
                    case rel =>
                      obtain rfl : c5 = c := by omega
                      exact ⟨_, strike f q.name, A4', cv4, out ++ [(k : Int)], by simp; omega, by simp, Lib.hid hm5, HV, Lib.hid (by rw [List.map_append, List.length_append]; exact hown4.kept hg5 (own_ne1 hown4.lt (by omega))), Lib.hid (grownT hgr4 hg5)⟩
                    case measure => simp [sliceLen]; try omega
                  · go_wp2_with (first | (at_lookup; go_loud (refine wpList_lkokI rfl (.tmp 53) (.tmp 55) 108 rfl Tryd.underlying9 Tryd.underlying108 Tryd.underlying3 (zeroInt _) (wa.heap.size + 1) n f q.name rfl ((hmr.keep1 (heap_alloc_old _ _ hmlt)).plain) rfl hqs ?_; rw [HFN.out]; simp only [Option.getD_none, Option.isSome_none, Option.getD_some, Option.isSome_some])) | (go_at_call 31; go_loud (refine (ready_any (nd q) Ar cr (wa.heap.size + 1) n f _ (hls.later belA) ((hmr.keep1 (heap_alloc_old _ _ hmlt)).plain) hnds).mono ?_; rw [HRD.out]; rintro r wy ⟨rfl, hby⟩; have hcy := bcell hby; have hfy := bfrozen hby; have hzy : wr.heap.size + 1 ≤ wy.heap.size := (by have := hby.size; simpa using this); have hyy : w.heap.size < wy.heap.size := (by omega); have hyy1 : w.heap.size + 1 < wy.heap.size := (by omega))) | (at_builtin; go_loud (refine wpList_cat2 rfl (.tmp 81) (.tmp 83) 79 rfl wn.heap.size 3 _ 1 8 Tryd.underlying79 intinfo rfl (by omega) (.slice B out.length bc) out.length (out.map (.int .i64)) _ 1 1 [.int .i64 (k : Int)] rfl (own_alloc (own_bel (own_alloc (own_bel hout.out hbv)) hby)) rfl rfl (fun j u hj => by rw [cell_new]; simpa using hj) (by simp [Value.oneCell']) (by omega) (by omega) (by simp; omega) ?_; intro v4 w4 hown4 hg4 hor4; have hgr4 := grown_step (grownT (grownT (grownT (grownT hgr.out (grown_bel hbv)) (World.grownBy_alloc _ _ _)) (grown_bel hby)) (World.grownBy_alloc _ _ _)) hg4 (.inr fun k hk => (hout.out.lt k hk).1); have hm4 := hm.out.keep1 (((hg4.block (wa.heap.size + 1) (by simp; omega) (fun e => by have := (hout.out.lt _ e.symm).1; omega)).trans ((heap_alloc_old _ _ (by omega)).trans ((hby.block (wa.heap.size + 1) (by simp; omega)).trans (heap_alloc_old _ _ (by omega))))).trans (hbv.block (wa.heap.size + 1) (by omega))); have hb4w : Below w.heap.size w w4 := bel_grown hbwn hgr4 (fun b hb => by injection hb with hb; omega) (by omega); have hb4m : Below (wa.heap.size + 1) W0 w4 := bel_grown hbmn hgr4 (fun b hb => by injection hb with hb; omega) (by omega); have hc4 := bcellM hb4m; have hz4 : wn.heap.size ≤ w4.heap.size := hgr4.size; have gq4 := (hp4.later hb4w).nameCell HX.out; obtain ⟨A4', cv4, rfl, hcb1, hcb2⟩ := own_slice hown4)) | (at_delete; go_loud (refine wpList_delN rfl (.tmp 85) (.tmp 91) 108 rfl Tryd.underlying9 Tryd.underlying108 (wa.heap.size + 1) n f (c + 1) q.name rfl hm4 rfl hqs ?_; intro w5 c5 hm5 hc5 hg5; rw [HFN.out] at hc5; simp only [Option.isSome_some, if_true] at hc5; simp only [Act.put])))
                    go_roundw
                    case rel =>
                      obtain rfl : c5 = c := by omega
                      exact ⟨_, strike f q.name, A4', cv4, out ++ [(k : Int)], by simp; omega, by simp, Lib.hid hm5, HV, Lib.hid (by rw [List.map_append, List.length_append]; exact hown4.kept hg5 (own_ne1 hown4.lt (by omega))), Lib.hid (grownT hgr4 hg5)⟩
                    case measure => simp [sliceLen]; try omega
              · rw [hfn, if_neg (by intro e; injection e with e; exact hvk e)] at hsq
                have HFN := Lib.hid hfn
                have HSQ := Lib.hid hsq
                have t5 : (v != (k : Int)) = true := by simpa using hvk
                clear hfn hsq hvk
                go_wp2_with (first | (at_lookup; go_loud (refine wpList_lkokI rfl (.tmp 53) (.tmp 55) 108 rfl Tryd.underlying9 Tryd.underlying108 Tryd.underlying3 (zeroInt _) (wa.heap.size + 1) n f q.name rfl ((hmr.keep1 (heap_alloc_old _ _ hmlt)).plain) rfl hqs ?_; rw [HFN.out]; simp only [Option.getD_none, Option.isSome_none, Option.getD_some, Option.isSome_some])))
                go_roundw
                case rel => exact ⟨k + 1, m0, by omega, by go_num, rfl, rfl, HSQ, belA⟩
                case measure => simp [intOf]; try omega
            · obtain rfl : k = p.eqs.length := by omega
              have hsq := hsc.out
              rw [List.drop_length, scanP] at hsq
              have hrm := HRM.out
              rw [← hsq] at hrm
              dsimp only at hrm
              rw [if_pos (by decide)] at hrm
              have HV := Lib.hid hrm
              clear hrm hsq hsc
              go_wp2_with fail
              refine bodyPost_ret (v := .tuple #[.slice none 0 0, .agg #[.int .i64 3, .int .i64 m0, .int .i64 22]]) (by simp [results, Tryd.results18, go_sem, *]) rfl ⟨⟨.slice none 0 0, by rw [← HV.out], ?_⟩, ?_⟩
              · rw [← HV.out]
                exact World.ownsRow_nil _ _ _ _
              · (repeat refine bel_drew ?_)
                exact belS
end Go.Proofs.YtknfcamdfdfoeaaDoor

/- Both Orders of any program; Needs of any expression; what the laws ask: the clock of a name, and whether a name is ready. -/
namespace Go.Proofs.YtknfcamdfdfoeaaDoor
open Go.RowKit Go.Sort

theorem order_any (p : Pr) (a : PrA) (w : World) (hg : Always w) (hp : PrAt w p a) (hok : PrOK p) (n1 : p.ins.length ≤ 1000000) (n2 : p.outs.length ≤ 1000000) (n3 : p.locals.length ≤ 1000000) (n4 : p.eqs.length ≤ 1000000) :
    Calls Tryd.prog 18 #[prV p a] w fun r w' => (∃ v, r = .returned (.tuple #[v, fV (orderE p).2]) ∧ w'.ownsRow w.heap.size 3 1 v (orderE p).1.length ((orderE p).1.map (.int .i64))) ∧ Below w.heap.size w w' := by
  by_cases hck : clkF p = (0, 0, 0)
  · have h := order_clean p a w hg hp hok n1 n2 n3 n4 hck
    rw [show orderE p = orderP p by unfold orderE; rw [if_pos hck, order_same hck]]
    exact h
  · refine (order_fault p a w hg hp n1 n2 n3 n4 hck).mono ?_
    rintro r w' ⟨rfl, hb⟩
    rw [show orderE p = ([], clkF p) by unfold orderE; rw [if_neg hck]]
    exact ⟨⟨.slice none 0 0, rfl, World.ownsRow_nil _ _ _ _⟩, hb⟩
theorem IntsAt.take {w : World} {l : List Int} {A : Option Addr} {cap : Nat} (h : IntsAt w l A cap) (k : Nat) : IntsAt w (l.take k) A cap :=
  ⟨by have := h.1; simp; omega, h.2.1, fun hl => by
    obtain ⟨b, off, hA, hr⟩ := h.2.2 (by simp at hl; omega)
    exact ⟨b, off, hA, fun j x hj => hr j x (by rw [List.getElem?_take] at hj; split at hj <;> simp_all)⟩⟩

end Go.Proofs.YtknfcamdfdfoeaaDoor

/- Walk over start's find. -/
namespace Go.Proofs.YtknfcamdfdfoeaaDoor
open Go.RowKit Go.Sort

set_option maxHeartbeats 4000000 in
theorem find_fault (p : Pr) (a : PrA) (w : World) (hg : Always w) (hp : PrAt w p a) (hok : PrOK p) (n1 : p.ins.length ≤ 1000000) (n2 : p.outs.length ≤ 1000000) (n3 : p.locals.length ≤ 1000000) (n4 : p.eqs.length ≤ 1000000) (hne : (orderE p).2 ≠ (0, 0, 0)) :
    Calls Tryd.prog 55 #[prV p a] w fun r w' => r = .returned (.tuple #[.map none, fV (orderE p).2]) ∧ Below w.heap.size w w' := by
  have hord := fun W h => order_any p a W (hg.later h) (hp.later h) hok n1 n2 n3 n4
  clear hg hok
  obtain ⟨A1, c1, A2, c2, A3, c3, A4, c4⟩ := a
  unfold prV fV at *
  dsimp only at *
  generalize orderE p = O at *
  obtain ⟨l, f1, f2, f3⟩ := O
  dsimp only at *
  have hne2 : (f1 == 0 && f2 == 0 && f3 == 0) = false := by
    rw [Bool.eq_false_iff]
    intro h
    simp only [Bool.and_eq_true, beq_iff_eq] at h
    exact hne (by rw [h.1.1, h.1.2, h.2])
  have hfq : ∀ w, (Op.equalIn 10000 34 (.agg #[.int .i64 f1, .int .i64 f2, .int .i64 f3]) (.agg #[.int .i64 0, .int .i64 0, .int .i64 0])).run Tryd.prog w = .ok false w := fun w => by rw [eqFault, hne2]
  have hgm : Tryd.prog.eqGuardType Tryd.prog.depth 34 = false := by kernel_rfl
  clear hne hne2 hp
  go_enter Tryd.func55, Tryd.ntmps55
  go_wp2_with (first | (go_at_call 18; go_loud (refine (hord _ belA).mono ?_; rintro r wo ⟨⟨vo, rfl, hrow⟩, hbo⟩; obtain ⟨Ao, co, rfl, ho1, ho2⟩ := own_slice hrow; have hco := bcell hbo; have hfo := bfrozen hbo; have hzo : w.heap.size + 2 ≤ wo.heap.size := (by have := hbo.size; simpa using this); have hyo : w.heap.size < wo.heap.size := (by omega); have hyo1 : w.heap.size + 1 < wo.heap.size := (by omega); clear hrow)))
  go_region
  all_goals
    go_wp2_with fail
    refine bodyPost_ret (v := .tuple #[.map none, .agg #[.int .i64 f1, .int .i64 f2, .int .i64 f3]]) (by simp [results, Tryd.results55, go_sem, *]) rfl ⟨rfl, ?_⟩
    (repeat refine bel_drew ?_)
    exact belS

/-- What an equation of a program without fault is. -/
theorem eqs_clean {p : Pr} (hck : clkF p = (0, 0, 0)) (hok : PrOK p) : ∀ q ∈ p.eqs, q.name.size ≤ maxLen ∧ q.name.toList.isEmpty = false ∧ q.e.formed = true ∧ q.e.OK ∧ q.e.size ≤ 1000000 := fun q hq => by
  have hb := (whole_parts (clean_parts (clkF_parts hck).1).1).2.2.2.2 q hq
  obtain ⟨h1, h2, h3, _⟩ := eqB_parts hb
  simp only [eqB, Bool.and_eq_true] at hb
  exact ⟨by unfold maxLen; omega, nameB_ne hb.1.1, h2, (hok.eqs q hq).2.2.2, by omega⟩

set_option maxHeartbeats 4000000 in
theorem find_clean (p : Pr) (a : PrA) (w : World) (hg : Always w) (hp : PrAt w p a) (hok : PrOK p) (n1 : p.ins.length ≤ 1000000) (n2 : p.outs.length ≤ 1000000) (n3 : p.locals.length ≤ 1000000) (n4 : p.eqs.length ≤ 1000000) (hO2 : (orderE p).2 = (0, 0, 0)) :
    Calls Tryd.prog 55 #[prV p a] w fun r w' => (∃ (B n : Nat) (f : ByteArray → Option Int), r = .returned (.tuple #[.map (some B), fV (0, 0, 0)]) ∧ w.heap.size ≤ B ∧ MapI Tryd.prog 9 3 w' B n f ∧ Agree f (looseE p).1) ∧ Below w.heap.size w w' := by
  obtain ⟨LF, hLF⟩ : ∃ L, L = (looseE p).1 := ⟨_, rfl⟩
  have hL : LF = looseGo p.eqs (presE p.eqs) (orderE p).1 := by rw [hLF]; unfold looseE; rw [if_pos hO2]
  rw [← hLF]
  obtain ⟨hck, hlen, hgood⟩ := orderE_good hO2
  have hqs := eqs_clean hck hok
  have hord := fun W h => order_any p a W (hg.later h) (hp.later h) hok n1 n2 n3 n4
  obtain ⟨l, hl⟩ : ∃ l, orderE p = (l, (0, 0, 0)) := ⟨(orderE p).1, by rw [← hO2]⟩
  rw [hl] at hord hL hgood hlen
  dsimp only at hord hL hgood hlen
  have HL := Lib.hid hL
  have HG := Lib.hid hgood
  have HQS := Lib.hid hqs
  clear hLF hL hO2 hck hqs hgood hl hg hok
  have hfq : ∀ w, (Op.equalIn 10000 34 (.agg #[.int .i64 0, .int .i64 0, .int .i64 0]) (.agg #[.int .i64 0, .int .i64 0, .int .i64 0])).run Tryd.prog w = .ok true w := fun w => by rw [eqFault]; rfl
  have hgm : Tryd.prog.eqGuardType Tryd.prog.depth 34 = false := by kernel_rfl
  have hmm := @run_makeMap Tryd.prog
  have hp4 := hp.eqs
  have hl4 := hp.eqs.len
  obtain ⟨A1, c1, A2, c2, A3, c3, A4, c4⟩ := a
  unfold maxLen at hl4
  unfold prV fV at *
  dsimp only at *
  obtain ⟨hl41, hl42⟩ := hl4
  clear hp
  go_enter Tryd.func55, Tryd.ntmps55
  go_wp2_with (first | (go_at_call 18; go_loud (refine (hord _ belA).mono ?_; rintro r wo ⟨⟨vo, rfl, hrow⟩, hbo⟩; obtain ⟨Ao, co, rfl, ho1, ho2⟩ := own_slice hrow; have hio := IntsAt.of_own hrow; have hco := bcell hbo; have hfo := bfrozen hbo; have hzo : w.heap.size + 2 ≤ wo.heap.size := (by have := hbo.size; simpa using this); have hyo : w.heap.size < wo.heap.size := (by omega); have hyo1 : w.heap.size + 1 < wo.heap.size := (by omega); clear hrow)))
  refine wp_name fun W0 hW0 => ?_
  have hb0 : Below w.heap.size w W0 := by rw [hW0]; (repeat refine bel_drew ?_); exact belS
  have hmb1 : w.heap.size + 1 < wo.heap.size + 1 := by omega
  have hmb0 : w.heap.size < wo.heap.size + 1 := by omega
  have hmb3 : wo.heap.size < wo.heap.size + 1 := by omega
  have hmb2 : wo.heap.size + 1 < W0.heap.size := by rw [hW0]; simp
  have hm0 : MapI Tryd.prog 9 3 W0 (wo.heap.size + 1) 0 (fun _ => none) := by
    rw [hW0]
    have h1 := MapI.made (P := Tryd.prog) (k := 9) (e := 3) (wo.alloc (.cells #[.int .i64 0, .int .i64 0, .int .i64 0] 34))
    simpa using h1
  have hio0 : Below wo.heap.size wo W0 := by rw [hW0]; (repeat refine bel_drew ?_); exact belS
  have x4 : W0.cell? ⟨w.heap.size, 4, none⟩ = some (.slice A4 p.eqs.length c4) := by rw [hW0]; go_simp
  have f0 : W0.cell? ⟨w.heap.size + 1, 0, none⟩ = some (.int .i64 0) := by rw [hW0]; go_simp
  have f1 : W0.cell? ⟨w.heap.size + 1, 1, none⟩ = some (.int .i64 0) := by rw [hW0]; go_simp
  have f2 : W0.cell? ⟨w.heap.size + 1, 2, none⟩ = some (.int .i64 0) := by rw [hW0]; go_simp
  have v0 : W0.cell? ⟨wo.heap.size, 0, none⟩ = some (.int .i64 0) := by rw [hW0]; go_simp
  have v1 : W0.cell? ⟨wo.heap.size, 1, none⟩ = some (.int .i64 0) := by rw [hW0]; go_simp
  have v2 : W0.cell? ⟨wo.heap.size, 2, none⟩ = some (.int .i64 0) := by rw [hW0]; go_simp
  have z0 : W0.frozen? ⟨w.heap.size + 1, 0, none⟩ = false := by rw [hW0]; go_simp
  have z1 : W0.frozen? ⟨w.heap.size + 1, 1, none⟩ = false := by rw [hW0]; go_simp
  have z2 : W0.frozen? ⟨w.heap.size + 1, 2, none⟩ = false := by rw [hW0]; go_simp
  have hl1 := hio.1
  unfold maxLen at ho2
  clear hW0 hco hfo hzo hyo hyo1 hord hmm hfq hgm hbo
  go_loopw [24] (fun i wr => ∃ (k n : Nat) (f : ByteArray → Option Int), k ≤ p.eqs.length ∧ i = .int .i64 k ∧ n ≤ k ∧ Hid (MapI Tryd.prog 9 3 wr (wo.heap.size + 1) n f) ∧ Hid (Agree f (presE (p.eqs.take k))) ∧ Hid (W0.grownBy wr (some (wo.heap.size + 1)))) (fun i _ => p.eqs.length - (intOf i).toNat)
  case atStart => exact ⟨0, 0, _, Nat.zero_le _, rfl, Nat.le_refl _, Lib.hid hm0, Lib.hid agree_nil, Lib.hid ⟨rfl, rfl, rfl, Nat.le_refl _, fun _ _ _ => rfl⟩⟩
  case round =>
    obtain ⟨k, n, f, hk, rfl, hn, hm, hag, hgr⟩ := hrel
    have hgz := hgr.out.size
    have hbwr : Below w.heap.size w wr := bel_grown hb0 hgr.out (fun b hb => by injection hb with hb; omega) (by omega)
    have hbm : Below (wo.heap.size + 1) W0 wr := bel_grown (Below.refl _ W0) hgr.out (fun b hb => by injection hb with hb; omega) (by omega)
    have hcm := bcellM hbm
    have hfm := bfrozenM hbm
    have hmr := hm.out
    have hmlt := hm.out.lt
    have hwr0 : w.heap.size < wr.heap.size := by omega
    by_cases hlt : k < p.eqs.length
    · have hx : p.eqs[k]? = some p.eqs[k] := List.getElem?_eq_getElem hlt
      have hd : p.eqs.drop k = p.eqs[k] :: p.eqs.drop (k + 1) := List.drop_eq_getElem_cons hlt
      generalize p.eqs[k] = q at hx hd
      obtain ⟨b, off, B1, n1, B2, n2, rfl, hbb, ⟨g0, g1, g2, g3, g4, g5, g6, g7, g8, g9, s1, s2⟩⟩ := (hp4.later hbwr).get hx
      have hpt := presE_take p.eqs hx
      obtain ⟨hqs, hqne, _⟩ := HQS.out q (List.mem_of_getElem? hx)
      clear hd hx
      cases hdl : (q.delay == 2)
      · rw [hdl, if_neg (by simp)] at hpt
        have HA := Lib.hid (by rw [hpt]; exact hag.out : Agree f (presE (p.eqs.take (k + 1))))
        clear hpt hqne
        go_wp2_with fail
        go_roundw
        case rel => exact ⟨k + 1, n, f, by omega, by go_num, by omega, Lib.hid (hmr.keep1 (heap_alloc_old _ _ hmlt)), HA, Lib.hid (grownT hgr.out (World.grownBy_alloc wr _ _))⟩
        case measure => simp [intOf]; try omega
      · rw [hdl, if_pos rfl] at hpt
        have HA := Lib.hid (by rw [hpt]; exact agree_snoc hag.out hqne : Agree (upd f q.name 1) (presE (p.eqs.take (k + 1))))
        clear hpt hqne
        go_wp2_with (first | (at_mapUpdate; go_loud (refine wpList_stI rfl (.tmp 31) (.tmp 33) _ 142 rfl Tryd.underlying9 Tryd.underlying142 Tryd.underlying3 (wo.heap.size + 1) n f q.name 1 rfl (hmr.keep1 (heap_alloc_old _ _ hmlt)) (by omega) rfl rfl hqs (by omega) ?_; intro w2 hm2 hg2; have HM2 := Lib.hid hm2; have HG2 := Lib.hid hg2; clear hm2 hg2)))
        go_roundw
        case rel => exact ⟨k + 1, n + 1, _, by omega, by go_num, by omega, HM2, HA, Lib.hid (grownT hgr.out (grownT (World.grownBy_alloc wr _ _) HG2.out))⟩
        case measure => simp [intOf]; try omega
    · obtain rfl : k = p.eqs.length := by omega
      have hag1 := hag.out
      rw [List.take_length] at hag1
      have HAG := Lib.hid hag1
      clear hag hag1
      go_wp2_with fail
      clear hcm hfm hmr hmlt hwr0 hbwr hbm
      go_loopw [37] (fun i wr => ∃ (k n : Nat) (f : ByteArray → Option Int) (out : List ByteArray), k ≤ l.length ∧ i = .int .i64 k ∧ n ≤ p.eqs.length + k ∧ Hid (MapI Tryd.prog 9 3 wr (wo.heap.size + 1) n f) ∧ Hid (Agree f out) ∧ Hid (looseGo p.eqs out (l.drop k) = LF) ∧ Hid (W0.grownBy wr (some (wo.heap.size + 1)))) (fun i _ => l.length - (intOf i).toNat)
      case atStart => exact ⟨0, n, f, presE p.eqs, Nat.zero_le _, rfl, by omega, hm, HAG, Lib.hid (by rw [List.drop_zero]; exact HL.out.symm), hgr⟩
      case round =>
        clear HAG hm hgr hgz
        obtain ⟨k, n, f, out, hk, rfl, hn, hm, hag, hrem, hgr⟩ := hrel
        have hgz := hgr.out.size
        have hbwr : Below w.heap.size w wr := bel_grown hb0 hgr.out (fun b hb => by injection hb with hb; omega) (by omega)
        have hbm : Below (wo.heap.size + 1) W0 wr := bel_grown (Below.refl _ W0) hgr.out (fun b hb => by injection hb with hb; omega) (by omega)
        have hcm := bcellM hbm
        have hfm := bfrozenM hbm
        have hmr := hm.out
        have hmlt := hm.out.lt
        have hwr0 : w.heap.size < wr.heap.size := by omega
        have hiw : Below wo.heap.size wo wr := bel_grown hio0 hgr.out (fun b hb => by injection hb with hb; omega) (by omega)
        by_cases hlt : k < l.length
        · have hx : l[k]? = some l[k] := List.getElem?_eq_getElem hlt
          have hd : l.drop k = l[k] :: l.drop (k + 1) := List.drop_eq_getElem_cons hlt
          generalize l[k] = j at hx hd
          obtain ⟨m, q, rfl, hq⟩ := HG.out k j hx
          have hm' : m < p.eqs.length := (List.getElem?_eq_some_iff.1 hq).1
          obtain ⟨bi, oi, rfl, hbi, di⟩ := (hio.later hiw).get hx
          obtain ⟨b, off, B1, m1, B2, m2, rfl, hbb, ⟨g0, g1, g2, g3, g4, g5, g6, g7, g8, g9, s1, s2⟩⟩ := (hp4.later hbwr).get hq
          obtain ⟨hqs, hqne, hqf, hqok, hqz⟩ := HQS.out q (List.mem_of_getElem? hq)
          have hr := hrem.out
          rw [hd, looseGo, Int.toNat_natCast, hq] at hr
          dsimp only at hr
          rw [← hag.out.reach] at hr
          have hrc := fun W h => reaches_any q.e B2 m2 (wo.heap.size + 1) n f W (s2.later h) hqf hqok hqz (hmr.bel h)
          unfold exV at hrc
          clear hd hx hq hrem hqf hqok hqz s1 g1 g2 g3 g4 g5
          cases hrch : q.e.reach (onM f)
          · rw [hrch, if_neg (by simp)] at hr
            have HRC := Lib.hid hrch
            have HR := Lib.hid hr
            clear hrch hr hqne
            go_wp2_with (first | (go_at_call 56; go_loud (refine (hrc _ belA).mono ?_; rw [HRC.out]; rintro r w1 ⟨rfl, hb1⟩; have hc1 := bcell hb1; have hz1 := hb1.size; have hy1 : w.heap.size < w1.heap.size := (by omega))))
            go_roundw
            case rel => exact ⟨k + 1, n, f, out, by omega, by go_num, by omega, Lib.hid (hmr.bel hb1), hag, HR, Lib.hid (grownT hgr.out (grown_bel hb1))⟩
            case measure => simp [intOf]; try omega
          · rw [hrch, if_pos rfl] at hr
            have HRC := Lib.hid hrch
            have HR := Lib.hid hr
            have HA := Lib.hid (agree_snoc hag.out hqne)
            clear hrch hr hqne
            go_wp2_with (first | (go_at_call 56; go_loud (refine (hrc _ belA).mono ?_; rw [HRC.out]; rintro r w1 ⟨rfl, hb1⟩; have hc1 := bcell hb1; have hz1 := hb1.size; have hy1 : w.heap.size < w1.heap.size := (by omega))) | (at_mapUpdate; go_loud (refine wpList_stI rfl (.tmp 49) (.tmp 55) _ 142 rfl Tryd.underlying9 Tryd.underlying142 Tryd.underlying3 (wo.heap.size + 1) n f q.name 1 rfl (hmr.bel hb1) (by omega) rfl rfl hqs (by omega) ?_; intro w2 hm2 hg2; have HM2 := Lib.hid hm2; have HG2 := Lib.hid hg2; clear hm2 hg2)))
            go_roundw
            case rel => exact ⟨k + 1, n + 1, _, out ++ [q.name], by omega, by go_num, by omega, HM2, HA, HR, Lib.hid (grownT hgr.out (grownT (grown_bel hb1) HG2.out))⟩
            case measure => simp [intOf]; try omega
        · obtain rfl : k = l.length := by omega
          have hr := hrem.out
          rw [List.drop_length, looseGo] at hr
          have HR := Lib.hid hr
          clear hr hrem
          go_wp2_with fail
          go_region
          all_goals
            go_wp2_with fail
            refine bodyPost_ret (v := .tuple #[.map (some (wo.heap.size + 1)), .agg #[.int .i64 0, .int .i64 0, .int .i64 0]]) (by simp [results, Tryd.results55, go_sem, *]) rfl ⟨⟨wo.heap.size + 1, n, f, rfl, by omega, ?_, by rw [← HR.out]; exact hag.out⟩, ?_⟩
            · refine hmr.keep1 ?_
              (repeat first | rfl | refine (heap_setCell_other _ _ _ _ (by show wo.heap.size + 1 ≠ w.heap.size + 1; omega)).trans ?_)
            · (repeat refine bel_drew ?_)
              exact belS

end Go.Proofs.YtknfcamdfdfoeaaDoor

/- Walk over start's torn. -/
namespace Go.Proofs.YtknfcamdfdfoeaaDoor
open Go.RowKit Go.Sort

set_option maxHeartbeats 4000000 in
theorem torn_any (B n : Nat) (f : ByteArray → Option Int) (e : Ex) : ∀ (A : Option Addr) (cap : Nat) (w : World), SubsAt w e A cap → e.formed = true → e.OK → e.size ≤ 1000000 → MapI Tryd.prog 9 3 w B n f →
    Calls Tryd.prog 57 #[.map (some B), exV e A cap] w fun r w' => r = .returned (.bool (e.torn (onM f))) ∧ Below w.heap.size w w' := by
  induction e using Ex.ind with
  | h e ih =>
  intro A cap w he hf hok hz hm
  obtain ⟨R, hR⟩ : ∃ R, R = e.torn (onM f) := ⟨_, rfl⟩
  rw [← hR]
  rw [Ex.torn_eq] at hR
  have hrch := fun W h => reaches_any e A cap B n f W (he.later h) hf hok hz (hm.bel h)
  have hoks : Ex.OKL e.sub := by cases e; simp only [Ex.OK] at hok; exact hok.2.2.2
  have hse := Ex.size_eq e
  have hel := he.len
  unfold maxLen at hel
  obtain ⟨hel1, hel2⟩ := hel
  unfold exV at *
  by_cases hk : e.kind = 10
  · have tk : (e.kind == 10) = true := by simpa using hk
    rw [show decide (e.kind = 10) = true by simpa using hk, Bool.true_and] at hR
    clear hk
    cases hrc : e.reach (onM f)
    · rw [hrc, Bool.false_or] at hR
      have HRC := Lib.hid hrc
      have HB := Lib.hid (by rw [hR]; rfl : Ex.tornL (onM f) (e.sub.drop 0) = R)
      clear hrc hR hok
      go_enter Tryd.func57, Tryd.ntmps57
      go_wp2_with (first | (go_at_call 56; go_loud (refine (hrch _ belA).mono ?_; rw [HRC.out]; rintro r wh ⟨rfl, hbh⟩; have hch := bcell hbh; have hzh : w.heap.size + 1 ≤ wh.heap.size := (by have := hbh.size; simpa using this); have hyh : w.heap.size < wh.heap.size := (by omega))))
      refine wp_name fun W0 hW0 => ?_
      have hb0 : Below w.heap.size w W0 := by rw [hW0]; exact belA
      clear hW0
      go_loopw [18] (fun i wr => ∃ k : Nat, k ≤ e.sub.length ∧ i = .int .i64 k ∧ Hid (Ex.tornL (onM f) (e.sub.drop k) = R) ∧ Below w.heap.size w wr) (fun i _ => e.sub.length - (intOf i).toNat)
      case atStart => exact ⟨0, Nat.zero_le _, rfl, HB, hb0⟩
      case round =>
        obtain ⟨k, hk, rfl, hrem, hbel⟩ := hrel
        have hzr := hbel.size
        by_cases hlt : k < e.sub.length
        · have hx : e.sub[k]? = some e.sub[k] := List.getElem?_eq_getElem hlt
          have hmem : e.sub[k] ∈ e.sub := List.getElem_mem hlt
          have hd : e.sub.drop k = e.sub[k] :: e.sub.drop (k + 1) := List.drop_eq_getElem_cons hlt
          generalize e.sub[k] = x at hx hmem hd
          obtain ⟨b, off, A', cap', rfl, c0, c1, c2, c3, hs⟩ := (he.later hbel).get hx
          have ihx := ih x hmem
          have hxf := formed_subs hf x hmem
          have hxok := Ex.OKL_mem hoks x hmem
          have hxz : x.size ≤ 1000000 := by have := Ex.size_mem _ _ _ hx; omega
          have hr := hrem.out
          rw [hd, Ex.tornL] at hr
          clear hd hx hmem hrem
          cases hxr : x.torn (onM f)
          · rw [hxr, Bool.false_or] at hr
            have HXR := Lib.hid hxr
            have HR := Lib.hid hr
            clear hxr hr
            go_wp2_with (first | (go_at_call 57; go_loud (refine (ihx A' cap' _ (hs.later belA) hxf hxok hxz (hm.bel belA)).mono ?_; rw [HXR.out]; rintro r w1 ⟨rfl, hb1⟩)))
            go_roundw
            case rel => exact ⟨k + 1, by omega, by go_num, HR, belA⟩
            case measure => simp [intOf]; try omega
          · rw [hxr, Bool.true_or] at hr
            have HXR := Lib.hid hxr
            have HR := Lib.hid hr
            clear hxr hr
            go_wp2_with (first | (go_at_call 57; go_loud (refine (ihx A' cap' _ (hs.later belA) hxf hxok hxz (hm.bel belA)).mono ?_; rw [HXR.out]; rintro r w1 ⟨rfl, hb1⟩)))
            go_ret
            exact ⟨ret_bool HR.out, belA⟩
        · obtain rfl : k = e.sub.length := by omega
          have hr := hrem.out
          rw [List.drop_length, Ex.tornL] at hr
          have HR := Lib.hid hr
          clear hr hrem
          go_wp2_with fail
          go_ret
          exact ⟨ret_bool HR.out, belA⟩
    · rw [hrc, Bool.true_or] at hR
      have HRC := Lib.hid hrc
      have HR := Lib.hid hR.symm
      clear hrc hR hok
      go_enter Tryd.func57, Tryd.ntmps57
      go_wp2_with (first | (go_at_call 56; go_loud (refine (hrch _ belA).mono ?_; rw [HRC.out]; rintro r wh ⟨rfl, hbh⟩)))
      go_ret
      exact ⟨ret_bool HR.out, belA⟩
  · have tk : (e.kind == 10) = false := by simpa using hk
    rw [show decide (e.kind = 10) = false by simpa using hk, Bool.false_and, Bool.false_or] at hR
    have HB := Lib.hid (by rw [hR]; rfl : Ex.tornL (onM f) (e.sub.drop 0) = R)
    clear hk hR hok hrch
    go_enter Tryd.func57, Tryd.ntmps57
    go_wp2_with (first | (go_at_call 56; go_loud (refine (hrch _ belA).mono ?_; rw [HRC.out]; rintro r wh ⟨rfl, hbh⟩; have hch := bcell hbh; have hzh : w.heap.size + 1 ≤ wh.heap.size := (by have := hbh.size; simpa using this); have hyh : w.heap.size < wh.heap.size := (by omega))))
    refine wp_name fun W0 hW0 => ?_
    have hb0 : Below w.heap.size w W0 := by rw [hW0]; exact belA
    clear hW0
    go_loopw [18] (fun i wr => ∃ k : Nat, k ≤ e.sub.length ∧ i = .int .i64 k ∧ Hid (Ex.tornL (onM f) (e.sub.drop k) = R) ∧ Below w.heap.size w wr) (fun i _ => e.sub.length - (intOf i).toNat)
    case atStart => exact ⟨0, Nat.zero_le _, rfl, HB, hb0⟩
    case round =>
      obtain ⟨k, hk, rfl, hrem, hbel⟩ := hrel
      have hzr := hbel.size
      by_cases hlt : k < e.sub.length
      · have hx : e.sub[k]? = some e.sub[k] := List.getElem?_eq_getElem hlt
        have hmem : e.sub[k] ∈ e.sub := List.getElem_mem hlt
        have hd : e.sub.drop k = e.sub[k] :: e.sub.drop (k + 1) := List.drop_eq_getElem_cons hlt
        generalize e.sub[k] = x at hx hmem hd
        obtain ⟨b, off, A', cap', rfl, c0, c1, c2, c3, hs⟩ := (he.later hbel).get hx
        have ihx := ih x hmem
        have hxf := formed_subs hf x hmem
        have hxok := Ex.OKL_mem hoks x hmem
        have hxz : x.size ≤ 1000000 := by have := Ex.size_mem _ _ _ hx; omega
        have hr := hrem.out
        rw [hd, Ex.tornL] at hr
        clear hd hx hmem hrem
        cases hxr : x.torn (onM f)
        · rw [hxr, Bool.false_or] at hr
          have HXR := Lib.hid hxr
          have HR := Lib.hid hr
          clear hxr hr
          go_wp2_with (first | (go_at_call 57; go_loud (refine (ihx A' cap' _ (hs.later belA) hxf hxok hxz (hm.bel belA)).mono ?_; rw [HXR.out]; rintro r w1 ⟨rfl, hb1⟩)))
          go_roundw
          case rel => exact ⟨k + 1, by omega, by go_num, HR, belA⟩
          case measure => simp [intOf]; try omega
        · rw [hxr, Bool.true_or] at hr
          have HXR := Lib.hid hxr
          have HR := Lib.hid hr
          clear hxr hr
          go_wp2_with (first | (go_at_call 57; go_loud (refine (ihx A' cap' _ (hs.later belA) hxf hxok hxz (hm.bel belA)).mono ?_; rw [HXR.out]; rintro r w1 ⟨rfl, hb1⟩)))
          go_ret
          exact ⟨ret_bool HR.out, belA⟩
      · obtain rfl : k = e.sub.length := by omega
        have hr := hrem.out
        rw [List.drop_length, Ex.tornL] at hr
        have HR := Lib.hid hr
        clear hr hrem
        go_wp2_with fail
        go_ret
        exact ⟨ret_bool HR.out, belA⟩

end Go.Proofs.YtknfcamdfdfoeaaDoor
