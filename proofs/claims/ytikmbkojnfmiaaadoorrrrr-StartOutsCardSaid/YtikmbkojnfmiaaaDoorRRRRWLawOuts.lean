/- Walk over the law StartOuts: it answers true. -/
import Derived.Test.YtikmbkojnfmiaaaDoorRRRRCE
import Derived.Test.YtikmbkojnfmiaaaDoorRRRRCD
import Derived.Test.YtikmbkojnfmiaaaDoorRRRRBY
import Derived.Test.YtikmbkojnfmiaaaDoorRRRRWRefVars
set_option linter.unusedVariables false
set_option linter.unusedSimpArgs false
set_option maxRecDepth 100000
namespace Go.Proofs.YtikmbkojnfmiaaaDoorRRRR
open Go.RowKit Go.Sort

set_option maxHeartbeats 4000000 in
theorem outs_fault (p : Pr) (a : PrA) (w : World) (hg : Always w) (hp : PrAt w p a) (hok : PrOK p) (hS : startF p ≠ (0, 0, 0)) :
    Calls Tryd.prog 5 #[prV p a] w fun r w' => r = .returned (.bool true) ∧ Below w.heap.size w w' := by
  have hlight := fun W h => lightS_any p a W (hp.later h)
  have hchk := Lib.hid (fun (n1 : p.ins.length ≤ 1000000) (n2 : p.outs.length ≤ 1000000) (n3 : p.locals.length ≤ 1000000) (n4 : p.eqs.length ≤ 1000000) W (h : Below w.heap.size w W) => scheck_any p a W (hg.later h) (hp.later h) hok n1 n2 n3 n4)
  have hkn := fun W h => known17_any W (hg.later h)
  clear hg hp hok
  generalize startF p = O at *
  obtain ⟨f1, f2, f3⟩ := O
  have hne2 : (f1 == 0 && f2 == 0 && f3 == 0) = false := by
    rw [Bool.eq_false_iff]
    intro h
    simp only [Bool.and_eq_true, beq_iff_eq] at h
    exact hS (by rw [h.1.1, h.1.2, h.2])
  have hfq : ∀ w, (Op.equalIn 10000 43 (.agg #[.int .i64 f1, .int .i64 f2, .int .i64 f3]) (.agg #[.int .i64 0, .int .i64 0, .int .i64 0])).run Tryd.prog w = .ok false w := fun w => by rw [eqFault, hne2]
  have hgm : Tryd.prog.eqGuardType Tryd.prog.depth 43 = false := by kernel_rfl
  clear hS hne2
  obtain ⟨A1, c1, A2, c2, A3, c3, A4, c4⟩ := a
  unfold prV fV at *
  dsimp only at *
  go_enter Tryd.func5, Tryd.ntmps5
  go_wp2_with (first
    | (go_at_call 6; go_loud (refine (hlight _ belA).mono ?_; rintro r wl ⟨⟨bl, rfl, hlb⟩, hbl⟩; have hcl := bcell hbl; have hzl := hbl.size; (try simp at hzl); have hyl : w.heap.size < wl.heap.size := (by omega); cases bl))
    | (go_at_call 13; go_loud (refine (hchk.out (by have := hlb (by trivial); omega) (by have := hlb (by trivial); omega) (by have := hlb (by trivial); omega) (by have := hlb (by trivial); omega) _ belA).mono ?_; rintro r wo ⟨rfl, hbo⟩; have hco := bcell hbo; have hzo := hbo.size; have hyo : w.heap.size < wo.heap.size := (by omega)))
    | (go_at_call 7; refine (hkn _ belA).mono ?_; rintro r wn ⟨rfl, hbn⟩; have hcn := bcell hbn; have hzn := hbn.size))
  all_goals
    go_ret
    exact ⟨rfl, belA⟩

set_option maxHeartbeats 8000000 in
theorem outs_walk (p : Pr) (a : PrA) (w : World) (hg : Always w) (hp : PrAt w p a) (hok : PrOK p) (L : List Va) (hL : L = varsOf p) (V : List Bool) (hS : startF p = (0, 0, 0)) (hO : (orderE p).2 = (0, 0, 0)) (hV : looseV p = V) (hVL : V.length = L.length)
    (ho : ∀ (k : Nat) (x : Bool), k < p.ins.length + p.outs.length → V[k]? = some x → x = false) (hcn : ∀ v ∈ L, v.cn.toList.isEmpty = false → isB L V v.cn = false) :
    Calls Tryd.prog 5 #[prV p a] w fun r w' => r = .returned (.bool true) ∧ Below w.heap.size w w' := by
  have hlight := fun W h => lightS_any p a W (hp.later h)
  have hchk := Lib.hid (fun (n1 : p.ins.length ≤ 1000000) (n2 : p.outs.length ≤ 1000000) (n3 : p.locals.length ≤ 1000000) (n4 : p.eqs.length ≤ 1000000) W (h : Below w.heap.size w W) => scheck_any p a W (hg.later h) (hp.later h) hok n1 n2 n3 n4)
  rw [hS] at hchk
  have hord := Lib.hid (fun (n1 : p.ins.length ≤ 1000000) (n2 : p.outs.length ≤ 1000000) (n3 : p.locals.length ≤ 1000000) (n4 : p.eqs.length ≤ 1000000) W (h : Below w.heap.size w W) => loose_clean p a W (hg.later h) (hp.later h) hok n1 n2 n3 n4 hO)
  rw [hV] at hord
  have hkn := fun W h => known17_any W (hg.later h)
  have hvars := Lib.hid (fun (n1 : p.ins.length ≤ 1000000) (n2 : p.outs.length ≤ 1000000) (n3 : p.locals.length ≤ 1000000) W (h : Below w.heap.size w W) => refVars_any p a W (hp.later h) n1 n2 n3)
  rw [← hL] at hvars
  have hisa := fun (A : Option Addr) (cap : Nat) (Ab : Option Addr) (cb : Nat) (s : ByteArray) (W : World) (hl : VarsAt W L A cap) (hb : BoolsAt W V Ab cb) => is_any L A cap V Ab cb s W hl hb
  have HO := Lib.hid ho
  have HCN := Lib.hid hcn
  have HVL := Lib.hid hVL
  have hl1 := hp.ins.len
  have hl2 := hp.outs.len
  have hfq : ∀ w, (Op.equalIn 10000 43 (.agg #[.int .i64 0, .int .i64 0, .int .i64 0]) (.agg #[.int .i64 0, .int .i64 0, .int .i64 0])).run Tryd.prog w = .ok true w := fun w => by rw [eqFault]; rfl
  have hgm : Tryd.prog.eqGuardType Tryd.prog.depth 43 = false := by kernel_rfl
  clear hg hok hO hS hV hL ho hcn hVL hp
  obtain ⟨A1, c1, A2, c2, A3, c3, A4, c4⟩ := a
  unfold maxLen at hl1 hl2
  unfold prV fV at *
  dsimp only at *
  obtain ⟨hl11, hl12⟩ := hl1
  obtain ⟨hl21, hl22⟩ := hl2
  have t1 : ((V.length : Int) != (L.length : Int)) = false := by rw [HVL.out]; simp
  go_enter Tryd.func5, Tryd.ntmps5
  go_wp2_with (first
    | (go_at_call 6; go_loud (refine (hlight _ belA).mono ?_; rintro r wl ⟨⟨bl, rfl, hlb⟩, hbl⟩; have hcl := bcell hbl; have hzl := hbl.size; (try simp at hzl); have hyl : w.heap.size < wl.heap.size := (by omega); cases bl))
    | (go_at_call 13; go_loud (have hlb2 := hlb (by trivial); clear hlb; have n1 : p.ins.length ≤ 1000000 := (by omega); have n2 : p.outs.length ≤ 1000000 := (by omega); have n3 : p.locals.length ≤ 1000000 := (by omega); have n4 : p.eqs.length ≤ 1000000 := (by omega); refine (hchk.out n1 n2 n3 n4 _ belA).mono ?_; rintro r wk ⟨rfl, hbk⟩; have hck := bcell hbk; have hzk := hbk.size; have hyk : w.heap.size < wk.heap.size := (by omega); clear hlb2))
    | (go_at_call 12; go_loud (refine (hord.out n1 n2 n3 n4 _ belA).mono ?_; rintro r wo ⟨⟨vo, rfl, hrow⟩, hbo⟩; obtain ⟨Ao, co, rfl, ho1, ho2⟩ := own_slice hrow; have hio := BoolsAt.of_own hrow; have hco := bcell hbo; have hzo := hbo.size; have hyo : w.heap.size < wo.heap.size := (by omega); have hyo2 : w.heap.size < wo.heap.size + 1 := (by omega); clear hrow))
    | (go_at_call 9; go_loud (refine (hvars.out n1 n2 n3 _ belA).mono ?_; rintro r wv ⟨⟨Av, cv, rfl, hrow⟩, hbv⟩; have hva := VarsAt.of_own hrow; have hcv := bcell hbv; have hzv : wo.heap.size + 1 ≤ wv.heap.size := (by have := hbv.size; simpa using this); have hyv : w.heap.size < wv.heap.size := (by omega); have hyvo : wo.heap.size < wv.heap.size := (by omega); clear hrow))
    | (go_at_call 7; refine (hkn _ belA).mono ?_; rintro r wn ⟨rfl, hbn⟩; have hcn := bcell hbn; have hzn := hbn.size))
  · go_ret
    exact ⟨rfl, belA⟩
  refine wp_name fun W0 hW0 => ?_
  have hb0 : Below w.heap.size w W0 := by rw [hW0]; (repeat refine bel_drew ?_); exact belS
  have hz0 : w.heap.size < W0.heap.size := by rw [hW0]; first | exact hyv | (simp; omega)
  have hio0 : BoolsAt W0 V Ao co := by rw [hW0]; exact hio.later (by (repeat refine bel_drew ?_); exact belS)
  have hva0 : VarsAt W0 L Av cv := by rw [hW0]; exact hva.later (by (repeat refine bel_drew ?_); exact belS)
  have x1 : W0.cell? ⟨w.heap.size, 1, none⟩ = some (.slice A1 p.ins.length c1) := by rw [hW0]; go_simp
  have x2 : W0.cell? ⟨w.heap.size, 2, none⟩ = some (.slice A2 p.outs.length c2) := by rw [hW0]; go_simp
  have hll := hva0.len
  unfold maxLen at hll ho2
  obtain ⟨hll1, hll2⟩ := hll
  clear hW0 hio hco hzo hyo hbo hcl hzl hyl hbl hlight hord hva hcv hzv hyv hbv hyvo t1 hvars hfq hgm hchk hck hzk hyk hbk hyo2
  go_loopw [6] (fun i wr => ∃ (k : Nat), k ≤ L.length ∧ i = .int .i64 k ∧ Below W0.heap.size W0 wr) (fun i _ => L.length - (intOf i).toNat)
  case atStart => exact ⟨0, Nat.zero_le _, rfl, Below.refl _ _⟩
  case round =>
    obtain ⟨k, hk, rfl, hbel⟩ := hrel
    have hbw : Below w.heap.size w wr := bel_grow hb0 hbel (by omega)
    have hc := bcell hbel
    have hzr := hbel.size
    have hwr0 : w.heap.size < wr.heap.size := by omega
    by_cases hlt : k < L.length
    · have hkV : k < V.length := by rw [HVL.out]; exact hlt
      have hxV : V[k]? = some V[k] := List.getElem?_eq_getElem hkV
      generalize V[k] = x at hxV
      obtain ⟨bi, oi, rfl, hbi, di⟩ := (hio0.later hbel).get hxV
      have hx : L[k]? = some L[k] := List.getElem?_eq_getElem hlt
      generalize L[k] = v at hx
      obtain ⟨bv, ov, rfl, hbv, ⟨d0, d1, d2, d3⟩⟩ := (hva0.later hbel).get hx
      have hmem := List.mem_of_getElem? hx
      have hi := fun W h => is_any L (some ⟨bv, ov, none⟩) cv V (some ⟨bi, oi, none⟩) co v.cn W ((hva0.later hbel).later h) ((hio0.later hbel).later h)
      have hQ := HO.out k x
      have hP := HCN.out v hmem
      clear hx hmem hisa
      have hkk : (k : Int) < (p.ins.length : Int) + (p.outs.length : Int) ∧ x = false ∨ ¬ (k : Int) < (p.ins.length : Int) + (p.outs.length : Int) := by
        by_cases h : (k : Int) < (p.ins.length : Int) + (p.outs.length : Int)
        · exact .inl ⟨h, hQ (by omega) hxV⟩
        · exact .inr h
      clear hQ hxV
      rcases hkk with ⟨tk, rfl⟩ | tk
      all_goals
        cases hce : v.cn.toList.isEmpty
        · rw [hP hce] at hi
          clear hP
          go_wp2_with (first | (go_at_call 15; go_loud (refine (hi _ belA).mono ?_; rintro r w1 ⟨rfl, hb1⟩)))
          go_roundw
          case rel => exact ⟨k + 1, by omega, by go_num, belA⟩
          case measure => simp [intOf]; try omega
        · clear hP
          go_wp2_with fail
          go_roundw
          case rel => exact ⟨k + 1, by omega, by go_num, belA⟩
          case measure => simp [intOf]; try omega
    · obtain rfl : k = L.length := by omega
      go_wp2_with (first | (go_at_call 7; refine (hkn _ hbw).mono ?_; rintro r wn ⟨rfl, hbn⟩))
      go_ret
      exact ⟨rfl, belA⟩

theorem startOuts_any (p : Pr) (a : PrA) (w : World) (hg : Always w) (hp : PrAt w p a) (hok : PrOK p) :
    Calls Tryd.prog 5 #[prV p a] w fun r w' => r = .returned (.bool true) ∧ Below w.heap.size w w' := by
  by_cases hS : startF p = (0, 0, 0)
  · have hO := (outs_clean hS).1
    exact outs_walk p a w hg hp hok (varsOf p) rfl _ hS hO (by unfold looseV; rw [if_pos hO]) (by simp) (fun k x => outs_q hS) (fun v => outs_c hS)
  · exact outs_fault p a w hg hp hok hS
end Go.Proofs.YtikmbkojnfmiaaaDoorRRRR
