/- Walk over the law StartReaches: it answers true. -/
import Derived.Test.YtikmbkojnfmiaaaDoorRRRRCE
import Derived.Test.YtikmbkojnfmiaaaDoorRRRRCD
import Derived.Test.YtikmbkojnfmiaaaDoorRRRRBY
import Derived.Test.YtikmbkojnfmiaaaDoorRRRRWRefVars
set_option linter.unusedVariables false
set_option linter.unusedSimpArgs false
set_option maxRecDepth 100000
namespace Go.Proofs.YtikmbkojnfmiaaaDoorRRRR
open Go.RowKit Go.Sort

theorem any_take {l : List ByteArray} {g : ByteArray → Bool} {k : Nat} {s : ByteArray} (h : l[k]? = some s) : (l.take (k + 1)).any g = ((l.take k).any g || g s) := by
  rw [List.take_add_one, h, List.any_append]
  simp

set_option maxHeartbeats 4000000 in
theorem reaches_fault (p : Pr) (a : PrA) (w : World) (hg : Always w) (hp : PrAt w p a) (hok : PrOK p) (hO : (orderE p).2 ≠ (0, 0, 0)) :
    Calls Tryd.prog 4 #[prV p a] w fun r w' => r = .returned (.bool true) ∧ Below w.heap.size w w' := by
  have hlight := fun W h => lightS_any p a W (hp.later h)
  have hord := Lib.hid (fun (n1 : p.ins.length ≤ 1000000) (n2 : p.outs.length ≤ 1000000) (n3 : p.locals.length ≤ 1000000) (n4 : p.eqs.length ≤ 1000000) W (h : Below w.heap.size w W) => loose_fault p a W (hg.later h) (hp.later h) hok n1 n2 n3 n4 hO)
  have hkn := fun W h => known17_any W (hg.later h)
  have hf := orderE_E hO
  clear hg hp hok hO
  generalize (orderE p).2 = O at *
  obtain ⟨f1, f2, f3⟩ := O
  have t1 : (f3 != 0) = true := by simpa using hf
  clear hf
  obtain ⟨A1, c1, A2, c2, A3, c3, A4, c4⟩ := a
  unfold prV fV at *
  dsimp only at *
  go_enter Tryd.func4, Tryd.ntmps4
  go_wp2_with (first
    | (go_at_call 6; go_loud (refine (hlight _ belA).mono ?_; rintro r wl ⟨⟨bl, rfl, hlb⟩, hbl⟩; have hcl := bcell hbl; have hzl := hbl.size; (try simp at hzl); have hyl : w.heap.size < wl.heap.size := (by omega); cases bl))
    | (go_at_call 12; go_loud (refine (hord.out (by have := hlb (by trivial); omega) (by have := hlb (by trivial); omega) (by have := hlb (by trivial); omega) (by have := hlb (by trivial); omega) _ belA).mono ?_; rintro r wo ⟨rfl, hbo⟩; have hco := bcell hbo; have hzo := hbo.size; have hyo : w.heap.size < wo.heap.size := (by omega)))
    | (go_at_call 7; refine (hkn _ belA).mono ?_; rintro r wn ⟨rfl, hbn⟩; have hcn := bcell hbn; have hzn := hbn.size))
  all_goals
    go_ret
    exact ⟨rfl, belA⟩

set_option maxHeartbeats 8000000 in
theorem reaches_clean (p : Pr) (a : PrA) (w : World) (hg : Always w) (hp : PrAt w p a) (hok : PrOK p) (L : List Va) (hL : L = varsOf p) (V : List Bool) (g : ByteArray → Bool) (hO : (orderE p).2 = (0, 0, 0)) (hV : looseV p = V) (hVL : V.length = L.length)
    (hq : ∀ q ∈ p.eqs, ∃ (j : Nat) (x : Bool), refFind L q.name = (j : Int) ∧ V[j]? = some x ∧ ((q.delay == 2) = true → x = true) ∧ ((q.delay == 1) = true → x = false) ∧ ((q.delay == 0) = true → x = true → (needsF q.e).any g = true))
    (his : ∀ s, isB L V s = g s) (hins : ∀ (k : Nat) (x : Bool), k < p.ins.length → V[k]? = some x → x = false) (hLl : p.ins.length ≤ V.length) :
    Calls Tryd.prog 4 #[prV p a] w fun r w' => r = .returned (.bool true) ∧ Below w.heap.size w w' := by
  have hlight := fun W h => lightS_any p a W (hp.later h)
  have hord := Lib.hid (fun (n1 : p.ins.length ≤ 1000000) (n2 : p.outs.length ≤ 1000000) (n3 : p.locals.length ≤ 1000000) (n4 : p.eqs.length ≤ 1000000) W (h : Below w.heap.size w W) => loose_clean p a W (hg.later h) (hp.later h) hok n1 n2 n3 n4 hO)
  rw [hV] at hord
  have hkn := fun W h => known17_any W (hg.later h)
  have hvars := Lib.hid (fun (n1 : p.ins.length ≤ 1000000) (n2 : p.outs.length ≤ 1000000) (n3 : p.locals.length ≤ 1000000) W (h : Below w.heap.size w W) => refVars_any p a W (hp.later h) n1 n2 n3)
  rw [← hL] at hvars
  have hisa := fun (A : Option Addr) (cap : Nat) (Ab : Option Addr) (cb : Nat) (s : ByteArray) (W : World) (hl : VarsAt W L A cap) (hb : BoolsAt W V Ab cb) => is_any L A cap V Ab cb s W hl hb
  have HOK := Lib.hid hok
  have HQ := Lib.hid hq
  have HIS := Lib.hid his
  have HINS := Lib.hid hins
  have HVL := Lib.hid hVL
  have HLL := Lib.hid hLl
  have hp1 := hp.ins
  have hp4 := hp.eqs
  have hl1 := hp.ins.len
  have hl4 := hp.eqs.len
  clear hg hok hO hV hL hq his hins hVL hLl hp
  obtain ⟨A1, c1, A2, c2, A3, c3, A4, c4⟩ := a
  unfold maxLen at hl1 hl4
  unfold prV fV at *
  dsimp only at *
  obtain ⟨hl11, hl12⟩ := hl1
  obtain ⟨hl41, hl42⟩ := hl4
  have t1 : ((V.length : Int) != (L.length : Int)) = false := by rw [HVL.out]; simp
  go_enter Tryd.func4, Tryd.ntmps4
  go_wp2_with (first
    | (go_at_call 6; go_loud (refine (hlight _ belA).mono ?_; rintro r wl ⟨⟨bl, rfl, hlb⟩, hbl⟩; have hcl := bcell hbl; have hzl := hbl.size; (try simp at hzl); have hyl : w.heap.size < wl.heap.size := (by omega); cases bl))
    | (go_at_call 12; go_loud (have hlb2 := hlb (by trivial); clear hlb; have n1 : p.ins.length ≤ 1000000 := (by omega); have n2 : p.outs.length ≤ 1000000 := (by omega); have n3 : p.locals.length ≤ 1000000 := (by omega); have n4 : p.eqs.length ≤ 1000000 := (by omega); refine (hord.out n1 n2 n3 n4 _ belA).mono ?_; rintro r wo ⟨⟨vo, rfl, hrow⟩, hbo⟩; obtain ⟨Ao, co, rfl, ho1, ho2⟩ := own_slice hrow; have hio := BoolsAt.of_own hrow; have hco := bcell hbo; have hzo := hbo.size; have hyo : w.heap.size < wo.heap.size := (by omega); have hyo2 : w.heap.size < wo.heap.size + 1 := (by omega); clear hrow hlb2))
    | (go_at_call 9; go_loud (refine (hvars.out n1 n2 n3 _ belA).mono ?_; rintro r wv ⟨⟨Av, cv, rfl, hrow⟩, hbv⟩; have hva := VarsAt.of_own hrow; have hcv := bcell hbv; have hzv : wo.heap.size + 1 ≤ wv.heap.size := (by have := hbv.size; simpa using this); have hyv : w.heap.size < wv.heap.size := (by omega); have hyvo : wo.heap.size < wv.heap.size := (by omega); clear hrow))
    | (go_at_call 7; refine (hkn _ belA).mono ?_; rintro r wn ⟨rfl, hbn⟩; have hcn := bcell hbn; have hzn := hbn.size))
  · go_ret
    exact ⟨rfl, belA⟩
  refine wp_name fun W0 hW0 => ?_
  have hb0 : Below w.heap.size w W0 := by rw [hW0]; (repeat refine bel_drew ?_); exact belS
  have hz0 : w.heap.size < W0.heap.size := by rw [hW0]; first | exact hyv | (simp; omega)
  have hio0 : BoolsAt W0 V Ao co := by rw [hW0]; exact hio.later (by (repeat refine bel_drew ?_); exact belS)
  have hva0 : VarsAt W0 L Av cv := by rw [hW0]; exact hva.later (by (repeat refine bel_drew ?_); exact belS)
  have x0 : W0.cell? ⟨w.heap.size, 0, none⟩ = some (.string p.name) := by rw [hW0]; go_simp
  have x1 : W0.cell? ⟨w.heap.size, 1, none⟩ = some (.slice A1 p.ins.length c1) := by rw [hW0]; go_simp
  have x2 : W0.cell? ⟨w.heap.size, 2, none⟩ = some (.slice A2 p.outs.length c2) := by rw [hW0]; go_simp
  have x3 : W0.cell? ⟨w.heap.size, 3, none⟩ = some (.slice A3 p.locals.length c3) := by rw [hW0]; go_simp
  have x4 : W0.cell? ⟨w.heap.size, 4, none⟩ = some (.slice A4 p.eqs.length c4) := by rw [hW0]; go_simp
  have hll := hva0.len
  unfold maxLen at hll ho2
  obtain ⟨hll1, hll2⟩ := hll
  clear hW0 hio hco hzo hyo hbo hcl hzl hyl hbl hlight hord hva hcv hzv hyv hbv hyvo t1 hvars
  go_loopw [6] (fun i wr => ∃ (k : Nat), k ≤ p.eqs.length ∧ i = .int .i64 k ∧ Below W0.heap.size W0 wr) (fun i _ => p.eqs.length - (intOf i).toNat)
  case atStart => exact ⟨0, Nat.zero_le _, rfl, Below.refl _ _⟩
  case round =>
    obtain ⟨k, hk, rfl, hbel⟩ := hrel
    have hbw : Below w.heap.size w wr := bel_grow hb0 hbel (by omega)
    have hc := bcell hbel
    have hzr := hbel.size
    have hwr0 : w.heap.size < wr.heap.size := by omega
    by_cases hlt : k < p.eqs.length
    · have hx : p.eqs[k]? = some p.eqs[k] := List.getElem?_eq_getElem hlt
      have hd : p.eqs.drop k = p.eqs[k] :: p.eqs.drop (k + 1) := List.drop_eq_getElem_cons hlt
      generalize p.eqs[k] = q at hx hd
      obtain ⟨b, off, B1, n1, B2, n2, rfl, hbb, ⟨g0, g1, g2, g3, g4, g5, g6, g7, g8, g9, s1, s2⟩⟩ := (hp4.later hbw).get hx
      have hmem := List.mem_of_getElem? hx
      obtain ⟨j, x, hrf, hxj, d2, d1, d0⟩ := HQ.out q hmem
      have hqok := (HOK.out.eqs q hmem).2.2.2
      have hfd := fun W h => refFind_any L Av cv q.name W ((hva0.later hbel).later h)
      rw [hrf] at hfd
      have hneed := fun W h => needs_all q.e B2 n2 W (s2.later h) hqok
      have hnl0 := needs_len q.e
      have hjV : j < V.length := (List.getElem?_eq_some_iff.1 hxj).1
      obtain ⟨bi, oi, rfl, hbi, di⟩ := (hio0.later hbel).get hxj
      have HXJ := Lib.hid hxj
      have D2 := Lib.hid d2
      have D1 := Lib.hid d1
      have D0 := Lib.hid d0
      have tj0 : ¬ ((j : Int) < 0) := by omega
      have hrow0 : ∀ (W : World), Below wr.heap.size wr W → BoolsAt W V (some ⟨bi, oi, none⟩) co := fun W h => (hio0.later hbel).later h
      unfold exV at hneed
      clear hx hd hmem d2 d1 d0 hrf s1 hxj
      go_wp2_with (first
        | (go_at_call 10; go_loud (refine (hfd _ belA).mono ?_; rintro r w1 ⟨rfl, hb1⟩; have hc1 := bcell hb1; have hz1 : wr.heap.size + 1 ≤ w1.heap.size := (by have := hb1.size; simpa using this); have hy1 : w.heap.size < w1.heap.size := (by omega); have hy4 : wr.heap.size < w1.heap.size := (by omega); have hy2 : bi < w1.heap.size := (by omega); have hy3 : b < w1.heap.size := (by omega)))
        | (go_at_call 14; go_loud (refine (hneed _ belA).mono ?_; rintro r wn ⟨⟨vn, rfl, hrow⟩, hbn⟩; obtain ⟨An, cn, rfl, hn1, hn2⟩ := own_slice hrow; have hls := StrsAt.of_own hrow; have hcn := bcell hbn; have hzn := hbn.size; have hyn : w.heap.size < wn.heap.size := (by omega); have hyn2 : bi < wn.heap.size := (by omega); have hyn3 : wr.heap.size < wn.heap.size := (by omega); clear hrow)))
      refine wp_name fun W4 hW4 => ?_
      have hb4 : Below wr.heap.size wr W4 := by rw [hW4]; exact belA
      have hb04 : Below W0.heap.size W0 W4 := hbel.trans (hb4.mono hzr)
      have hls4 : StrsAt W4 (needsF q.e) An cn := by rw [hW4]; exact hls.later belA
      have hva4 : VarsAt W4 L Av cv := hva0.later hb04
      have hio4 : BoolsAt W4 V (some ⟨bi, oi, none⟩) co := hrow0 _ hb4
      have hz4 := hb04.size
      have hc4 := bcell hb04
      have di4 : W4.cell? ⟨bi, oi + j, none⟩ = some (.bool x) := bel_cell hb4 di
      have hbi4 : bi < W4.heap.size := block_lt_of_cell di4
      have qd : W4.cell? ⟨wr.heap.size, 1, none⟩ = some (.int .i64 q.delay) := by rw [hW4]; go_simp
      clear hW4 hb1 hbn hcn hzn hyn hc1 hz1 hy1 hy2 hy3 hy4 hyn3 hc hwr0 di hbi hneed hfd hls s2 g0 g1 g2 g3 g4 g5 g6 g7 g8 g9 hrow0 hyn2
      go_loopw [10, 11] (fun m i wr => ∃ (k4 : Nat), k4 ≤ (needsF q.e).length ∧ i = .int .i64 k4 ∧ m = .bool (((needsF q.e).take k4).any g) ∧ Below W4.heap.size W4 wr) (fun _ i _ => (needsF q.e).length - (intOf i).toNat)
      case atStart => exact ⟨0, Nat.zero_le _, rfl, rfl, Below.refl _ _⟩
      case round =>
        obtain ⟨k4, hk4, rfl, rfl, hb4r⟩ := hrel
        have hc4r := bcell hb4r
        have hz4r := hb4r.size
        have hll4 := hls4.len
        unfold maxLen at hll4
        obtain ⟨hll41, hll42⟩ := hll4
        have hy4 : w.heap.size < wr.heap.size := by omega
        by_cases hlt4 : k4 < (needsF q.e).length
        · obtain ⟨s4, hx4⟩ : ∃ s, (needsF q.e)[k4]? = some s := ⟨_, List.getElem?_eq_getElem hlt4⟩
          obtain ⟨b4, o4, rfl, hbb4, d4⟩ := (hls4.later hb4r).get hx4
          have hnx := any_take (g := g) hx4
          have hi := fun W h => is_any L Av cv V (some ⟨bi, oi, none⟩) co s4 W ((hva4.later hb4r).later h) ((hio4.later hb4r).later h)
          rw [HIS.out s4] at hi
          clear hx4
          cases hm : ((needsF q.e).take k4).any g
          · rw [hm, Bool.false_or] at hnx
            have HNX := Lib.hid hnx.symm; clear hnx hm
            go_wp2_with (first | (go_at_call 15; go_loud (refine (hi _ belA).mono ?_; rintro r w1 ⟨rfl, hb1⟩)))
            go_roundw
            case rel => exact ⟨k4 + 1, by omega, by go_num, by rw [HNX.out], belA⟩
            case measure => simp [intOf]; try omega
          · rw [hm, Bool.true_or] at hnx
            have HNX := Lib.hid hnx.symm; clear hnx hm
            go_wp2_with fail
            go_roundw
            case rel => exact ⟨k4 + 1, by omega, by go_num, by rw [HNX.out], belA⟩
            case measure => simp [intOf]; try omega
        · obtain rfl : k4 = (needsF q.e).length := by omega
          rw [List.take_length]
          have e2 := D2.out
          have e1 := D1.out
          have e0 := D0.out
          have di5 := bel_cell hb4r di4
          have qd5 := bel_cell hb4r qd
          generalize (needsF q.e).any g = m at *
          generalize q.delay = dl at *
          have hdd : ((dl == 2) = true ∧ (dl == 1) = false ∧ (dl == 0) = false ∧ x = true) ∨ ((dl == 2) = false ∧ (dl == 1) = true ∧ (dl == 0) = false ∧ x = false) ∨ ((dl == 2) = false ∧ (dl == 1) = false ∧ (dl == 0) = true ∧ x = false) ∨ ((dl == 2) = false ∧ (dl == 1) = false ∧ (dl == 0) = true ∧ x = true ∧ m = true) ∨ ((dl == 2) = false ∧ (dl == 1) = false ∧ (dl == 0) = false) := by
            by_cases h2 : dl = 2
            · subst h2; exact .inl ⟨rfl, rfl, rfl, e2 rfl⟩
            by_cases h1 : dl = 1
            · subst h1; exact .inr (.inl ⟨rfl, rfl, rfl, e1 rfl⟩)
            by_cases h0 : dl = 0
            · subst h0
              cases x
              · exact .inr (.inr (.inl ⟨rfl, rfl, rfl, rfl⟩))
              · exact .inr (.inr (.inr (.inl ⟨rfl, rfl, rfl, rfl, e0 rfl rfl⟩)))
            · exact .inr (.inr (.inr (.inr ⟨by simpa using h2, by simpa using h1, by simpa using h0⟩)))
          clear e2 e1 e0 D2 D1 D0
          have hend : Below W0.heap.size W0 wr := bel_grow hb04 hb4r (by omega)
          rcases hdd with ⟨t2, t1, t0, rfl⟩ | ⟨t2, t1, t0, rfl⟩ | ⟨t2, t1, t0, rfl⟩ | ⟨t2, t1, t0, rfl, rfl⟩ | ⟨t2, t1, t0⟩
          all_goals
            go_wp2_with fail
            go_roundw
            case rel => exact ⟨k + 1, by omega, by go_num, by first | exact hend | exact bel_drew hend | exact bel_drewN hend _⟩
            case measure => simp [intOf]; try omega
    · obtain rfl : k = p.eqs.length := by omega
      obtain ⟨W5, rfl⟩ : ∃ W5, W5 = wr := ⟨wr, rfl⟩
      go_wp2_with fail
      go_loopw [12] (fun i wr => ∃ (k : Nat), k ≤ p.ins.length ∧ i = .int .i64 k ∧ Below W5.heap.size W5 wr) (fun i _ => p.ins.length - (intOf i).toNat)
      case atStart => exact ⟨0, Nat.zero_le _, rfl, Below.refl _ _⟩
      case round =>
        obtain ⟨k, hk, rfl, hbel5⟩ := hrel
        have hc5 := bcell hbel5
        have hz5 := hbel5.size
        have hwr0 : w.heap.size < wr.heap.size := by omega
        by_cases hlt : k < p.ins.length
        · have hkV : k < V.length := by have := HLL.out; omega
          have hx : V[k]? = some V[k] := List.getElem?_eq_getElem hkV
          have hxf := HINS.out k _ hlt hx
          rw [hxf] at hx
          obtain ⟨bi, oi, rfl, hbi, di⟩ := ((hio0.later hbel).later hbel5).get hx
          clear hx hxf
          go_wp2_with fail
          go_roundw
          case rel => exact ⟨k + 1, by omega, by go_num, belA⟩
          case measure => simp [intOf]; try omega
        · obtain rfl : k = p.ins.length := by omega
          go_wp2_with (first | (go_at_call 7; refine (hkn _ (bel_grow hbw hbel5 (by omega))).mono ?_; rintro r wn ⟨rfl, hbn⟩))
          go_ret
          exact ⟨rfl, belA⟩

theorem startReaches_any (p : Pr) (a : PrA) (w : World) (hg : Always w) (hp : PrAt w p a) (hok : PrOK p) :
    Calls Tryd.prog 4 #[prV p a] w fun r w' => r = .returned (.bool true) ∧ Below w.heap.size w w' := by
  by_cases hO : (orderE p).2 = (0, 0, 0)
  · exact reaches_clean p a w hg hp hok (varsOf p) rfl _ (inL (looseE p).1) hO (by unfold looseV; rw [if_pos hO]) (by simp) (fun q hq => reaches_q hO hq) (isB_loose hO) (fun k x => reaches_ins hO) (by simp [varsOf])
  · exact reaches_fault p a w hg hp hok hO
end Go.Proofs.YtikmbkojnfmiaaaDoorRRRR
