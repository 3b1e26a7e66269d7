/- Walk over the law OrderSound: it answers true. -/
import Derived.Test.YtlfklfjnkpjooaaDoorBU
import Derived.Test.YtlfklfjnkpjooaaDoorBY
import Derived.WalkKit
import Derived.WalkSpells
import Derived.WalkLawsBesides
import Derived.Deep.QuietTactic
import Derived.BigQuiet
import Derived.Deep.Draws
import Derived.Lib.Hide
import Derived.Deep.LoopGhost
import Derived.StillTailTactics
import Derived.Deep.RegionHeld3
import Derived.Deep.RegionWith
import Derived.Lib.QuietBelow
set_option linter.unusedVariables false
set_option linter.unusedSimpArgs false
set_option maxRecDepth 100000
namespace Go.Proofs.YtlfklfjnkpjooaaDoor
open Go.RowKit Go.Sort

theorem IntsAt.cell {w : World} {l : List Int} {b off cap k : Nat} {x : Int} (h : IntsAt w l (some ⟨b, off, none⟩) cap) (hk : l[k]? = some x) : w.cell? ⟨b, off + k, none⟩ = some (.int .i64 x) := by
  obtain ⟨b', o', hA, hb, hc⟩ := h.get hk
  injection hA with e
  injection e with e1 e2
  subst e1 e2
  exact hc
theorem EqsAt.cells {w : World} {l : List Qe} {b off cap k : Nat} {q : Qe} (h : EqsAt w l (some ⟨b, off, none⟩) cap) (hk : l[k]? = some q) : ∃ A1 c1 A2 c2, EqCells w b (off + k * 10) q A1 c1 A2 c2 := by
  obtain ⟨b', o', A1, c1, A2, c2, hA, _, hc⟩ := h.get hk
  injection hA with e
  injection e with e1 e2
  subst e1 e2
  exact ⟨A1, c1, A2, c2, hc⟩
theorem leftE_take (l : List Qe) {k : Nat} {q : Qe} (h : l[k]? = some q) : leftE (l.take (k + 1)) = if (q.delay == 0) = true then leftE (l.take k) + 1 else leftE (l.take k) := by
  rw [List.take_add_one, h]
  show leftE (l.take k ++ [q]) = _
  rw [leftE_snoc]
  by_cases hd : q.delay = 0 <;> simp [hd]

set_option maxHeartbeats 4000000 in
theorem sound_fault (p : Pr) (a : PrA) (w : World) (hg : Always w) (hp : PrAt w p a) (hok : PrOK p) (f1 f2 f3 : Int) (hO : orderE p = ([], (f1, f2, f3))) (hf : f3 ≠ 0) :
    Calls Tryd.prog 9 #[prV p a] w fun r w' => r = .returned (.bool true) ∧ Below w.heap.size w w' := by
  have hlight := fun W h => lightS_any p a W (hp.later h)
  have hord := Lib.hid (fun (n1 : p.ins.length ≤ 1000000) (n2 : p.outs.length ≤ 1000000) (n3 : p.locals.length ≤ 1000000) (n4 : p.eqs.length ≤ 1000000) W (h : Below w.heap.size w W) => order_any p a W (hg.later h) (hp.later h) hok n1 n2 n3 n4)
  rw [hO] at hord
  have hkn := fun W h => known16_any W (hg.later h)
  have t1 : (f3 != 0) = true := by simpa using hf
  clear hg hp hok hO hf
  obtain ⟨A1, c1, A2, c2, A3, c3, A4, c4⟩ := a
  unfold prV fV at *
  dsimp only [List.length_nil, List.map_nil] at *
  go_enter Tryd.func9, Tryd.ntmps9
  go_wp2_with (first
    | (go_at_call 12; go_loud (refine (hlight _ belA).mono ?_; rintro r wl ⟨⟨bl, rfl, hlb⟩, hbl⟩; have hcl := bcell hbl; have hzl := hbl.size; (try simp at hzl); have hyl : w.heap.size < wl.heap.size := (by omega); cases bl))
    | (go_at_call 27; go_loud (refine (hord.out (by have := hlb (by trivial); omega) (by have := hlb (by trivial); omega) (by have := hlb (by trivial); omega) (by have := hlb (by trivial); omega) _ belA).mono ?_; rintro r wo ⟨⟨vo, rfl, hrow⟩, hbo⟩; obtain ⟨Ao, co, rfl, ho1, ho2⟩ := own_slice hrow; have hco := bcell hbo; have hzo := hbo.size; have hyo : w.heap.size < wo.heap.size := (by omega); clear hrow))
    | (go_at_call 25; refine (hkn _ belA).mono ?_; rintro r wn ⟨rfl, hbn⟩; have hcn := bcell hbn; have hzn := hbn.size))
  all_goals
    go_ret
    exact ⟨rfl, belA⟩

set_option maxHeartbeats 8000000 in
theorem sound_clean (p : Pr) (a : PrA) (w : World) (hg : Always w) (hp : PrAt w p a) (hok : PrOK p) (res : List Int) (hO : orderE p = (res, (0, 0, 0))) (hlen : res.length = leftE p.eqs) (hgood : ∀ (i : Nat) (j : Int), res[i]? = some j → Good (readyE p) (ofR (varsOf p)) p.eqs i j res) :
    Calls Tryd.prog 9 #[prV p a] w fun r w' => r = .returned (.bool true) ∧ Below w.heap.size w w' := by
  have hlight := fun W h => lightS_any p a W (hp.later h)
  have hord := Lib.hid (fun (n1 : p.ins.length ≤ 1000000) (n2 : p.outs.length ≤ 1000000) (n3 : p.locals.length ≤ 1000000) (n4 : p.eqs.length ≤ 1000000) W (h : Below w.heap.size w W) => order_any p a W (hg.later h) (hp.later h) hok n1 n2 n3 n4)
  rw [hO] at hord
  have hkn := fun W h => known16_any W (hg.later h)
  have hvars := Lib.hid (fun (n1 : p.ins.length ≤ 1000000) (n2 : p.outs.length ≤ 1000000) (n3 : p.locals.length ≤ 1000000) W (h : Below w.heap.size w W) => refVars_any p a W (hp.later h) n1 n2 n3)
  have hjs : ∀ j ∈ res, 0 ≤ j ∧ j < (p.eqs.length : Int) := fun j hj => by
    obtain ⟨i, hi⟩ := List.getElem?_of_mem hj
    obtain ⟨h1, q, hq, _⟩ := hgood i j hi
    have := (List.getElem?_eq_some_iff.1 hq).1
    exact ⟨h1, by omega⟩
  have hrdy := Lib.hid (fun (k : Nat) (hk : k ≤ res.length) (A : Option Addr) (cap : Nat) (s : ByteArray) (W0 : World) (hb : Below w.heap.size w W0) (hl : IntsAt W0 res A cap) W (h : Below W0.heap.size W0 W) => by
    have := ready16_any p a s (res.take k) A cap W ((hp.later hb).later h) ((hl.later h).take k) (fun j hj => hjs j (List.mem_of_mem_take hj))
    rw [List.length_take, Nat.min_eq_left hk] at this
    exact this)
  have HOK := Lib.hid hok
  have HGOOD := Lib.hid hgood
  have HLEN := Lib.hid hlen
  clear hg hok hO hjs hlen hgood
  have hp4 := hp.eqs
  have hl4 := hp.eqs.len
  obtain ⟨A1, c1, A2, c2, A3, c3, A4, c4⟩ := a
  unfold maxLen at hl4
  unfold prV fV at *
  dsimp only at *
  obtain ⟨hl41, hl42⟩ := hl4
  clear hp
  go_enter Tryd.func9, Tryd.ntmps9
  go_wp2_with (first
    | (go_at_call 12; go_loud (refine (hlight _ belA).mono ?_; rintro r wl ⟨⟨bl, rfl, hlb⟩, hbl⟩; have hcl := bcell hbl; have hzl := hbl.size; (try simp at hzl); have hyl : w.heap.size < wl.heap.size := (by omega); cases bl))
    | (go_at_call 27; go_loud (have hlb2 := hlb (by trivial); clear hlb; have n1 : p.ins.length ≤ 1000000 := (by omega); have n2 : p.outs.length ≤ 1000000 := (by omega); have n3 : p.locals.length ≤ 1000000 := (by omega); have n4 : p.eqs.length ≤ 1000000 := (by omega); have HSZ := Lib.hid hlb2.2.2.2.2; refine (hord.out n1 n2 n3 n4 _ belA).mono ?_; rintro r wo ⟨⟨vo, rfl, hrow⟩, hbo⟩; obtain ⟨Ao, co, rfl, ho1, ho2⟩ := own_slice hrow; have hio := IntsAt.of_own hrow; have hco := bcell hbo; have hzo := hbo.size; have hyo : w.heap.size < wo.heap.size := (by omega); clear hrow hlb2))
    | (go_at_call 25; refine (hkn _ belA).mono ?_; rintro r wn ⟨rfl, hbn⟩; have hcn := bcell hbn; have hzn := hbn.size))
  · go_ret
    exact ⟨rfl, belA⟩
  refine wp_name fun W0 hW0 => ?_
  have hb0 : Below w.heap.size w W0 := by rw [hW0]; (repeat refine bel_drew ?_); repeat (first | exact Below.refl _ _ | (with_reducible assumption) | refine bel_trans ?_ (by with_reducible assumption) | refine Below.setCell ?_ (by simp) _ | refine bel_alloc ?_ _ | refine bel_grow ?_ (by with_reducible assumption) (by omega))
  have hz0 : w.heap.size < W0.heap.size := by rw [hW0]; simp; omega
  have hio0 : IntsAt W0 res Ao co := by rw [hW0]; exact hio.later (by (repeat refine bel_drew ?_); repeat (first | exact Below.refl _ _ | (with_reducible assumption) | refine bel_trans ?_ (by with_reducible assumption) | refine Below.setCell ?_ (by simp) _ | refine bel_alloc ?_ _ | refine bel_grow ?_ (by with_reducible assumption) (by omega)))
  have x0 : W0.cell? ⟨w.heap.size, 0, none⟩ = some (.string p.name) := by rw [hW0]; go_simp
  have x1 : W0.cell? ⟨w.heap.size, 1, none⟩ = some (.slice A1 p.ins.length c1) := by rw [hW0]; go_simp
  have x2 : W0.cell? ⟨w.heap.size, 2, none⟩ = some (.slice A2 p.outs.length c2) := by rw [hW0]; go_simp
  have x3 : W0.cell? ⟨w.heap.size, 3, none⟩ = some (.slice A3 p.locals.length c3) := by rw [hW0]; go_simp
  have x4 : W0.cell? ⟨w.heap.size, 4, none⟩ = some (.slice A4 p.eqs.length c4) := by rw [hW0]; go_simp
  clear hW0 hio hco hzo hyo hbo hcl hzl hyl hbl hlight hord
  unfold maxLen at ho2
  go_loopw [5, 6] (fun c i wr => ∃ (k n : Nat), k ≤ p.eqs.length ∧ i = .int .i64 k ∧ c = .int .i64 n ∧ n ≤ k ∧ Hid (n = leftE (p.eqs.take k)) ∧ Below W0.heap.size W0 wr) (fun _ i _ => p.eqs.length - (intOf i).toNat)
  case atStart => exact ⟨0, 0, Nat.zero_le _, rfl, rfl, Nat.le_refl _, Lib.hid rfl, Below.refl _ _⟩
  case round =>
    obtain ⟨k, n, hk, rfl, rfl, hn, hnl, hbel⟩ := hrel
    have hbw : Below w.heap.size w wr := bel_grow hb0 hbel (by omega)
    have hc := bcell hbel
    have hzr := hbel.size
    by_cases hlt : k < p.eqs.length
    · have hx : p.eqs[k]? = some p.eqs[k] := List.getElem?_eq_getElem hlt
      have hd : p.eqs.drop k = p.eqs[k] :: p.eqs.drop (k + 1) := List.drop_eq_getElem_cons hlt
      generalize p.eqs[k] = q at hx hd
      obtain ⟨b, off, B1, n1, B2, n2, rfl, hbb, ⟨g0, g1, g2, g3, g4, g5, g6, g7, g8, g9, s1, s2⟩⟩ := (hp4.later hbw).get hx
      have h2 := leftE_take p.eqs hx
      rw [← hnl.out] at h2
      clear hd hx hnl g2 g3 g4 g5 g6 g7 g8 g9 s1 s2
      cases hdl : (q.delay == 0)
      · rw [hdl, if_neg (by simp)] at h2
        have H2 := Lib.hid h2.symm; clear h2
        go_wp2_with fail
        go_roundw
        case rel => exact ⟨k + 1, n, by omega, by go_num, by go_num, by omega, H2, belA⟩
        case measure => simp [intOf]; omega
      · rw [hdl, if_pos rfl] at h2
        have H2 := Lib.hid h2.symm; clear h2
        go_wp2_with fail
        go_roundw
        case rel => exact ⟨k + 1, n + 1, by omega, by go_num, by go_num, by omega, H2, belA⟩
        case measure => simp [intOf]; omega
    · obtain rfl : k = p.eqs.length := by omega
      have h2 := hnl.out
      rw [List.take_length, ← HLEN.out] at h2
      subst h2
      have t1 : ((res.length : Int) != (res.length : Int)) = false := by simp
      clear hnl
      go_wp2_with (first | (go_at_call 30; go_loud (refine (hvars.out n1 n2 n3 _ belA).mono ?_; rintro r wv ⟨⟨Av, cv, rfl, hrow⟩, hbv⟩; have hva := VarsAt.of_own hrow; have hcv := bcell hbv; have hzv := hbv.size; have hyv : w.heap.size < wv.heap.size := (by omega); clear hrow)))
      refine wp_name fun W1 hW1 => ?_
      have hwv1 : Below wv.heap.size wv W1 := by rw [hW1]; exact belA
      have hb01 : Below W0.heap.size W0 W1 := (hbel.trans (hbv.mono (by omega))).trans (hwv1.mono (by omega))
      have hva1 : VarsAt W1 (varsOf p) Av cv := hva.later hwv1
      have hbw1 : Below w.heap.size w W1 := bel_grow hb0 hb01 (by omega)
      have hio1 : IntsAt W1 res Ao co := hio0.later hb01
      have y0 : W1.cell? ⟨w.heap.size, 0, none⟩ = some (.string p.name) := bel_cell hb01 x0
      have y1 : W1.cell? ⟨w.heap.size, 1, none⟩ = some (.slice A1 p.ins.length c1) := bel_cell hb01 x1
      have y2 : W1.cell? ⟨w.heap.size, 2, none⟩ = some (.slice A2 p.outs.length c2) := bel_cell hb01 x2
      have y3 : W1.cell? ⟨w.heap.size, 3, none⟩ = some (.slice A3 p.locals.length c3) := bel_cell hb01 x3
      have y4 : W1.cell? ⟨w.heap.size, 4, none⟩ = some (.slice A4 p.eqs.length c4) := bel_cell hb01 x4
      have hz1 : w.heap.size < W1.heap.size := by have := hb01.size; omega
      clear hW1 hwv1 hva hcv hzv hyv hbv hc hbw hzr hbel hio0 x0 x1 x2 x3 x4 hb0 hz0 hb01 hvars t1
      generalize varsOf p = L at *
      go_loopw [8] (fun i wr => ∃ k : Nat, k ≤ res.length ∧ i = .int .i64 k ∧ Below W1.heap.size W1 wr) (fun i _ => res.length - (intOf i).toNat)
      case atStart => exact ⟨0, Nat.zero_le _, rfl, Below.refl _ _⟩
      case round =>
        obtain ⟨k, hk, rfl, hbel⟩ := hrel
        have hbw : Below w.heap.size w wr := bel_grow hbw1 hbel (by omega)
        have hc := bcell hbel
        have hzr := hbel.size
        have hwr0 : w.heap.size < wr.heap.size := by omega
        by_cases hlt : k < res.length
        · have hx : res[k]? = some res[k] := List.getElem?_eq_getElem hlt
          generalize res[k] = j at hx
          obtain ⟨hj0, q, hq, hnm, hnd⟩ := HGOOD.out k j hx
          obtain ⟨m, rfl⟩ : ∃ m : Nat, j = m := ⟨j.toNat, by omega⟩
          rw [Int.toNat_natCast] at hq
          have hm : m < p.eqs.length := (List.getElem?_eq_some_iff.1 hq).1
          have hmem := List.mem_of_getElem? hq
          have hdl : (q.delay != 0) = false := by simpa using plain_of hmem hnm
          have hqok := (HOK.out.eqs q hmem).2.2.2
          have hqz := (HSZ.out q hmem).2
          have hnc : ∀ s ∈ needC L q, hasB (readyE p ++ (res.take k).map (nameAt p.eqs)) s = true := fun s hs => hasB_iff.2 (needC_mem.2 hnd s hs)
          obtain ⟨bi, oi, rfl, hbi, di⟩ := (hio1.later hbel).get hx
          obtain ⟨b, off, _, _, _, _, rfl, hbb, ⟨_, g1, _, _, _, _, _, _, _, _, _, _⟩⟩ := (hp4.later hbw).get hq
          have hmn0 : ¬ ((m : Int) < 0) := by omega
          have hmn1 : ¬ ((p.eqs.length : Int) ≤ (m : Int)) := by omega
          have hneq : ∀ (k' : Nat) (j' : Int), k' < k → res[k']? = some j' → j' ≠ (m : Int) := fun k' j' hk' hx' e => by
            subst e
            refine hnm (List.mem_append.2 (.inr (List.mem_map.2 ⟨(m : Int), ?_, nameAt_of (by rw [Int.toNat_natCast]; exact hq)⟩)))
            exact List.mem_of_getElem? (i := k') (by rw [List.getElem?_take, if_pos hk']; exact hx')
          have HNEQ := Lib.hid hneq
          have HQ := Lib.hid hq
          have hready := fun (s : ByteArray) (hs : hasB (readyE p ++ (res.take k).map (nameAt p.eqs)) s = true) W (h : Below W1.heap.size W1 W) => hrdy.out k hk (some ⟨bi, oi, none⟩) co s W1 hbw1 hio1 W h
          have hrd0 : ∀ (s : ByteArray), hasB (readyE p ++ (res.take k).map (nameAt p.eqs)) s = true → ∀ W, Below W1.heap.size W1 W → Calls Tryd.prog 32 #[.agg #[.string p.name, .slice A1 p.ins.length c1, .slice A2 p.outs.length c2, .slice A3 p.locals.length c3, .slice (some ⟨b, off, none⟩) p.eqs.length c4], .string s, .slice (some ⟨bi, oi, none⟩) k co] W fun r w' => r = .returned (.bool true) ∧ Below W.heap.size W w' := fun s hs W h => by
            have := hready s hs W h
            rw [hs] at this
            exact this
          clear hready
          rw [needC_eq] at hnc
          obtain ⟨cs, hcs⟩ : ∃ cs, cs = clockN L q.name := ⟨_, rfl⟩
          rw [← hcs] at hnc
          have HCN := Lib.hid hcs
          have HNC := Lib.hid hnc
          have hnl0 := needs_len q.e
          clear hneq hnc hnd hnm hq hmem hcs
          go_wp2_with fail
          go_quiet (fail)
          go_wp2_with fail
          refine wp_name fun W3 hW3 => ?_
          have hb3 : Below wr.heap.size wr W3 := by rw [hW3]; exact belA
          have hb13 : Below W1.heap.size W1 W3 := hbel.trans (hb3.mono hzr)
          have hbw3 : Below w.heap.size w W3 := bel_grow hbw1 hb13 (by omega)
          have hio3 : IntsAt W3 res (some ⟨bi, oi, none⟩) co := hio1.later hb13
          have hc3 := bcell hb13
          have hz3 := hb13.size
          clear hW3 di g1 hc hbb hbi hb3
          go_loopw [9] (fun i wr => ∃ k3 : Nat, k3 ≤ k ∧ i = .int .i64 k3 ∧ Below W3.heap.size W3 wr) (fun i _ => k - (intOf i).toNat)
          case atStart => exact ⟨0, Nat.zero_le _, rfl, Below.refl _ _⟩
          case round =>
            obtain ⟨k3, hk3, rfl, hb3r⟩ := hrel
            have hb13r : Below W1.heap.size W1 wr := hb13.trans (hb3r.mono hz3)
            have hbw3r : Below w.heap.size w wr := bel_grow hbw1 hb13r (by omega)
            have hc3r := bcell hb13r
            have hz3r := hb13r.size
            have dik := (hio3.later hb3r).cell hx
            by_cases hlt3 : k3 < k
            · have hltr : k3 < res.length := by omega
              have hx3 : res[k3]? = some res[k3] := List.getElem?_eq_getElem hltr
              generalize res[k3] = j3 at hx3
              have t5 : (j3 == (m : Int)) = false := by simpa using HNEQ.out k3 j3 hlt3 hx3
              have dj3 := (hio3.later hb3r).cell hx3
              clear hx3
              go_wp2_with fail
              go_quiet (fail)
              go_wp2_with fail
              go_roundw
              case rel => exact ⟨k3 + 1, by omega, by go_num, belA⟩
              case measure => simp [intOf]; try omega
            · obtain rfl : k3 = k := by omega
              obtain ⟨B1, m1, B2, m2, hqc⟩ := (hp4.later hbw3r).cells HQ.out
              obtain ⟨g0, g1, g2, g3, g4, g5, g6, g7, g8, g9, s1, s2⟩ := hqc
              have hneed := fun W h => needs_all q.e B2 m2 W (s2.later h) hqok
              clear s1
              unfold exV at hneed
              obtain ⟨W5, rfl⟩ : ∃ W5, W5 = wr := ⟨wr, rfl⟩
              have hwz5 : w.heap.size < W5.heap.size := by omega
              have hkc : k3 ≤ co := by omega
              have hco0 : ¬ co = 0 := by omega
              have hbi5 : bi < W5.heap.size := block_lt_of_cell dik
              have hbb5 : b < W5.heap.size := block_lt_of_cell g0
              cases hcse : cs.toList.isEmpty
              · have hnl1 : ∀ s ∈ needsF q.e ++ [cs], hasB (readyE p ++ (res.take k3).map (nameAt p.eqs)) s = true := by
                  have := HNC.out
                  rw [hcse, if_neg (by simp)] at this
                  exact this
                have HNL := Lib.hid hnl1
                clear hnl1 HNC
                go_wp2_with fail
                go_region
                all_goals
                  go_wp2_with (first
                    | (go_at_call 24; go_loud (refine (hneed _ belA).mono ?_; rintro r wn ⟨⟨vn, rfl, hrow⟩, hbn⟩; obtain ⟨An, cn, rfl, hn1, hn2⟩ := own_slice hrow; have hls := StrsAt.of_own hrow; have hrow5 : wn.ownsRow W5.heap.size 9 1 (.slice An (needsF q.e).length cn) (needsF q.e).length ((needsF q.e).map .string) := own_less hrow (by simp); have hcn := bcell hbn; have hzn : W5.heap.size + 1 ≤ wn.heap.size := (by have := hbn.size; simpa using this); have hyn : w.heap.size < wn.heap.size := (by omega); have hyn2 : W5.heap.size < wn.heap.size := (by omega)))
                    | (go_at_call 31; go_loud (refine (clock16_any L Av cv q.name _ (hva1.later belA)).mono ?_; rw [← HCN.out]; rintro r wc ⟨rfl, hbc⟩; have hcc := bcell hbc; have hzc := hbc.size; have hyc : w.heap.size < wc.heap.size := (by omega); have hyc2 : W5.heap.size < wc.heap.size := (by omega)))
                    | (at_builtin; go_loud (refine wpList_app rfl (.tmp 118) (.tmp 120) 52 rfl W5.heap.size 9 _ 1 16 Tryd.underlying52 strinfo rfl (by omega) (.slice An (needsF q.e).length cn) (needsF q.e).length ((needsF q.e).map .string) _ 1 [.string cs] rfl (own_alloc (own_bel hrow5 hbc)) rfl rfl (fun j u hj => by rw [cell_new]; simpa using hj) (by simp [Value.oneCell']) (by omega) (by omega) (by simp; omega) ?_; intro v9 w9 hown9 hb9; have hz9 := hb9.size; obtain ⟨A9, c9, rfl, hcb1, hcb2⟩ := own_slice hown9)))
                  refine wp_name fun W4 hW4 => ?_
                  have hb94 : Below w9.heap.size w9 W4 := by rw [hW4]; exact belA
                  have hown94 : w9.ownsRow W5.heap.size 9 1 (.slice A9 (needsF q.e ++ [cs]).length c9) (needsF q.e ++ [cs]).length ((needsF q.e ++ [cs]).map .string) := by rw [List.map_append, List.length_append]; exact hown9
                  have hnl : StrsAt W4 (needsF q.e ++ [cs]) A9 c9 := (StrsAt.of_own hown94).later hb94
                  have hb54 : Below W5.heap.size W5 W4 := by rw [hW4]; exact belA
                  have hb14 : Below W1.heap.size W1 W4 := hb13r.trans (hb54.mono hz3r)
                  clear hb94 hown94 hown9 hb9 hz9 hrow hrow5 hls hbc hcc hzc hyc hyc2 hbn hcn hzn hyn hyn2 g0 g1 g2 g3 g4 g5 g6 g7 g8 g9 s2 hneed
                  have hz14 := hb14.size
                  have hz4w : w.heap.size < W4.heap.size := by omega
                  have hc14 := bcell hb14
                  clear hW4
                  go_loopw [13] (fun i wr => ∃ k4 : Nat, k4 ≤ ((needsF q.e).length + 1) ∧ i = .int .i64 k4 ∧ Below W4.heap.size W4 wr) (fun i _ => ((needsF q.e).length + 1) - (intOf i).toNat)
                  case atStart => exact ⟨0, Nat.zero_le _, rfl, Below.refl _ _⟩
                  case round =>
                    obtain ⟨k4, hk4, rfl, hb4⟩ := hrel
                    have hc4 := bcell hb4
                    have hz4 := hb4.size
                    have hy4 : w.heap.size < wr.heap.size := by omega
                    by_cases hlt4 : k4 < ((needsF q.e).length + 1)
                    · obtain ⟨s4, hx4⟩ : ∃ s, (needsF q.e ++ [cs])[k4]? = some s := ⟨_, List.getElem?_eq_getElem (by first | omega | (simp; omega))⟩
                      obtain ⟨b4, o4, rfl, hbb4, d4⟩ := (hnl.later hb4).get hx4
                      have hrd := hrd0 s4 (HNL.out s4 (List.mem_of_getElem? hx4))
                      clear hx4
                      go_wp2_with fail
                      refine wp_region_qb (by kernel_rfl) (by kernel_rfl) (fun hgq => ?_)
                      repeat (quiet_step ((first | (go_at_call 32; exact Calls.regrown_of (hrd _ belA)))))
                      refine wpQuiet_nil ?_
                      intro wq hwq
                      replace hwq := bel_of_class hwq
                      clear hgq
                      have hcq := bcell hwq
                      have hzq := hwq.size
                      (try simp at hzq)
                      (try have hyq1 : w.heap.size < wq.heap.size := by omega); (try have hyq2 : w.heap.size + 1 < wq.heap.size := by omega); (try have hyq3 : w.heap.size + 2 < wq.heap.size := by omega); (try have hyq4 : wr.heap.size < wq.heap.size := by omega)
                      go_wp2_with fail
                      go_roundw
                      case rel => exact ⟨k4 + 1, by omega, by go_num, belA⟩
                      case measure => simp [intOf]; try omega
                    · obtain rfl : k4 = ((needsF q.e).length + 1) := by omega
                      go_wp2_with fail
                      go_roundw
                      case rel => exact ⟨k3 + 1, by omega, by go_num, bel_grow hb14 hb4 (by omega)⟩
                      case measure => simp [intOf]; try omega
              · have hnl1 : ∀ s ∈ needsF q.e, hasB (readyE p ++ (res.take k3).map (nameAt p.eqs)) s = true := by
                  have := HNC.out
                  rw [hcse, if_pos rfl] at this
                  exact this
                have HNL := Lib.hid hnl1
                clear hnl1 HNC
                go_wp2_with fail
                go_region
                all_goals
                  go_wp2_with (first
                    | (go_at_call 24; go_loud (refine (hneed _ belA).mono ?_; rintro r wn ⟨⟨vn, rfl, hrow⟩, hbn⟩; obtain ⟨An, cn, rfl, hn1, hn2⟩ := own_slice hrow; have hls := StrsAt.of_own hrow; have hrow5 : wn.ownsRow W5.heap.size 9 1 (.slice An (needsF q.e).length cn) (needsF q.e).length ((needsF q.e).map .string) := own_less hrow (by simp); have hcn := bcell hbn; have hzn : W5.heap.size + 1 ≤ wn.heap.size := (by have := hbn.size; simpa using this); have hyn : w.heap.size < wn.heap.size := (by omega); have hyn2 : W5.heap.size < wn.heap.size := (by omega)))
                    | (go_at_call 31; go_loud (refine (clock16_any L Av cv q.name _ (hva1.later belA)).mono ?_; rw [← HCN.out]; rintro r wc ⟨rfl, hbc⟩; have hcc := bcell hbc; have hzc := hbc.size; have hyc : w.heap.size < wc.heap.size := (by omega); have hyc2 : W5.heap.size < wc.heap.size := (by omega)))
                    | fail)
                  refine wp_name fun W4 hW4 => ?_
                  have hb94 : Below wc.heap.size wc W4 := by rw [hW4]; exact belA
                  have hnl : StrsAt W4 (needsF q.e) An cn := (hls.later hbc).later hb94
                  have hb54 : Below W5.heap.size W5 W4 := by rw [hW4]; exact belA
                  have hb14 : Below W1.heap.size W1 W4 := hb13r.trans (hb54.mono hz3r)
                  clear hb94 hrow hrow5 hls hbc hcc hzc hyc hyc2 hbn hcn hzn hyn hyn2 g0 g1 g2 g3 g4 g5 g6 g7 g8 g9 s2 hneed
                  have hz14 := hb14.size
                  have hz4w : w.heap.size < W4.heap.size := by omega
                  have hc14 := bcell hb14
                  clear hW4
                  go_loopw [13] (fun i wr => ∃ k4 : Nat, k4 ≤ (needsF q.e).length ∧ i = .int .i64 k4 ∧ Below W4.heap.size W4 wr) (fun i _ => (needsF q.e).length - (intOf i).toNat)
                  case atStart => exact ⟨0, Nat.zero_le _, rfl, Below.refl _ _⟩
                  case round =>
                    obtain ⟨k4, hk4, rfl, hb4⟩ := hrel
                    have hc4 := bcell hb4
                    have hz4 := hb4.size
                    have hy4 : w.heap.size < wr.heap.size := by omega
                    by_cases hlt4 : k4 < (needsF q.e).length
                    · obtain ⟨s4, hx4⟩ : ∃ s, (needsF q.e)[k4]? = some s := ⟨_, List.getElem?_eq_getElem (by first | omega | (simp; omega))⟩
                      obtain ⟨b4, o4, rfl, hbb4, d4⟩ := (hnl.later hb4).get hx4
                      have hrd := hrd0 s4 (HNL.out s4 (List.mem_of_getElem? hx4))
                      clear hx4
                      go_wp2_with fail
                      refine wp_region_qb (by kernel_rfl) (by kernel_rfl) (fun hgq => ?_)
                      repeat (quiet_step ((first | (go_at_call 32; exact Calls.regrown_of (hrd _ belA)))))
                      refine wpQuiet_nil ?_
                      intro wq hwq
                      replace hwq := bel_of_class hwq
                      clear hgq
                      have hcq := bcell hwq
                      have hzq := hwq.size
                      (try simp at hzq)
                      (try have hyq1 : w.heap.size < wq.heap.size := by omega); (try have hyq2 : w.heap.size + 1 < wq.heap.size := by omega); (try have hyq3 : w.heap.size + 2 < wq.heap.size := by omega); (try have hyq4 : wr.heap.size < wq.heap.size := by omega)
                      go_wp2_with fail
                      go_roundw
                      case rel => exact ⟨k4 + 1, by omega, by go_num, belA⟩
                      case measure => simp [intOf]; try omega
                    · obtain rfl : k4 = (needsF q.e).length := by omega
                      go_wp2_with fail
                      go_roundw
                      case rel => exact ⟨k3 + 1, by omega, by go_num, bel_grow hb14 hb4 (by omega)⟩
                      case measure => simp [intOf]; try omega
        · obtain rfl : k = res.length := by omega
          go_wp2_with (first | (go_at_call 25; refine (hkn _ belA).mono ?_; rintro r wn ⟨rfl, hbn⟩))
          go_ret
          exact ⟨rfl, belA⟩

end Go.Proofs.YtlfklfjnkpjooaaDoor

/- The law OrderSound answers true for every program. -/
namespace Go.Proofs.YtlfklfjnkpjooaaDoor
open Go.RowKit Go.Sort

theorem orderSound_any (p : Pr) (a : PrA) (w : World) (hg : Always w) (hp : PrAt w p a) (hok : PrOK p) :
    Calls Tryd.prog 9 #[prV p a] w fun r w' => r = .returned (.bool true) ∧ Below w.heap.size w w' := by
  by_cases hck : clkF p = (0, 0, 0)
  · rcases orderR_cases (clkF_parts hck).1 with ⟨res, h1, h2, h3⟩ | ⟨out, m, q, h1, _⟩
    · exact sound_clean p a w hg hp hok res (by unfold orderE; rw [if_pos hck]; exact h1) h2 h3
    · exact sound_fault p a w hg hp hok 3 m 22 (by unfold orderE; rw [if_pos hck]; exact h1) (by decide)
  · exact sound_fault p a w hg hp hok (clkF p).1 (clkF p).2.1 (clkF p).2.2 (by unfold orderE; rw [if_neg hck]) (clk_E hck)
end Go.Proofs.YtlfklfjnkpjooaaDoor
