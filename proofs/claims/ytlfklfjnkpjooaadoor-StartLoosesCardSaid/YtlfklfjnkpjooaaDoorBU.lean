/- Two faults that are alike. -/
import Derived.Test.YtlfklfjnkpjooaaDoorBH
import Derived.WalkKit
import Derived.WalkSpells
import Derived.WalkLawsBesides
import Derived.Deep.QuietTactic
import Derived.BigQuiet
import Derived.Deep.Draws
import Derived.Lib.Hide
import Derived.Deep.LoopGhost
import Derived.StillTailTactics
import Derived.Deep.RegionHeld3
import Derived.Deep.RegionWith
import Derived.Lib.QuietBelow
import Derived.Test.YtlfklfjnkpjooaaDoorWOrd11
import Derived.Test.YtlfklfjnkpjooaaDoorBG
import Derived.Test.YtlfklfjnkpjooaaDoorBF
set_option linter.unusedVariables false
set_option linter.unusedSimpArgs false
set_option maxRecDepth 100000
namespace Go.Proofs.YtlfklfjnkpjooaaDoor
open Go.RowKit Go.Sort

theorem eqFaultSelf16 (a b c : Int) (w : World) : (Op.equalIn 10000 31 (.agg #[.int .i64 a, .int .i64 b, .int .i64 c]) (.agg #[.int .i64 a, .int .i64 b, .int .i64 c])).run Tryd.prog w = .ok true w := by
  have hS : Tryd.prog.underlying 31 = some (.struct (Tryd.prog.fieldsOf 31)) := by kernel_rfl
  have hp : Tryd.prog.stoodInHeld 31 = false := by kernel_rfl
  rw [show (10000 : Nat) = 9999 + 1 from rfl, run_equalIn_agg w 9999 31 _ _ hS hp]
  simp only [Program.fieldsOf, Tryd.underlying31]
  go_simp
end Go.Proofs.YtlfklfjnkpjooaaDoor

/- Both Orders of any program; Needs of any expression; what the laws ask: the clock of a name, and whether a name is ready. -/
namespace Go.Proofs.YtlfklfjnkpjooaaDoor
open Go.RowKit Go.Sort

theorem order_any (p : Pr) (a : PrA) (w : World) (hg : Always w) (hp : PrAt w p a) (hok : PrOK p) (n1 : p.ins.length ≤ 1000000) (n2 : p.outs.length ≤ 1000000) (n3 : p.locals.length ≤ 1000000) (n4 : p.eqs.length ≤ 1000000) :
    Calls Tryd.prog 27 #[prV p a] w fun r w' => (∃ v, r = .returned (.tuple #[v, fV (orderE p).2]) ∧ w'.ownsRow w.heap.size 3 1 v (orderE p).1.length ((orderE p).1.map (.int .i64))) ∧ Below w.heap.size w w' := by
  by_cases hck : clkF p = (0, 0, 0)
  · have h := order_clean p a w hg hp hok n1 n2 n3 n4 hck
    rw [show orderE p = orderP p by unfold orderE; rw [if_pos hck, order_same hck]]
    exact h
  · refine (order_fault p a w hg hp n1 n2 n3 n4 hck).mono ?_
    rintro r w' ⟨rfl, hb⟩
    rw [show orderE p = ([], clkF p) by unfold orderE; rw [if_neg hck]]
    exact ⟨⟨.slice none 0 0, rfl, World.ownsRow_nil _ _ _ _⟩, hb⟩
theorem rorder_any (p : Pr) (a : PrA) (w : World) (hp : PrAt w p a) (hok : PrOK p) (n1 : p.ins.length ≤ 1000000) (n2 : p.outs.length ≤ 1000000) (n3 : p.locals.length ≤ 1000000) (n4 : p.eqs.length ≤ 1000000) :
    Calls Tryd.prog 28 #[prV p a] w fun r w' => (∃ v, r = .returned (.tuple #[v, fV (orderE p).2]) ∧ w'.ownsRow w.heap.size 3 1 v (orderE p).1.length ((orderE p).1.map (.int .i64))) ∧ Below w.heap.size w w' := by
  by_cases hck : clkF p = (0, 0, 0)
  · have h := rorder_clean p a w hp hok n1 n2 n3 n4 hck
    rw [show orderE p = orderR p by unfold orderE; rw [if_pos hck]]
    exact h
  · refine (rorder_fault p a w hp hok n1 n2 n3 n4 hck).mono ?_
    rintro r w' ⟨rfl, hb⟩
    rw [show orderE p = ([], clkF p) by unfold orderE; rw [if_neg hck]]
    exact ⟨⟨.slice none 0 0, rfl, World.ownsRow_nil _ _ _ _⟩, hb⟩

theorem needsF_big {e : Ex} (h : 400 ≤ e.count 400) : needsF e = [] := by
  unfold needsF
  rw [if_pos]
  by_cases hc : e.count 121 < 121
  · have h1 := Ex.count_size e 121 hc
    have h2 := count_le e 400
    omega
  · omega
set_option maxHeartbeats 1000000 in
theorem needs_all (e : Ex) (A : Option Addr) (cap : Nat) (w : World) (he : SubsAt w e A cap) (hok : e.OK) :
    Calls Tryd.prog 24 #[exV e A cap] w fun r w' => (∃ v, r = .returned v ∧ w'.ownsRow w.heap.size 9 1 v (needsF e).length ((needsF e).map .string)) ∧ Below w.heap.size w w' := by
  by_cases hc : e.count 121 < 121
  · have h1 := Ex.count_size e 121 hc
    exact needs_any e A cap w he hok (by omega)
  · have hsize := fun W h => size16_any e A cap 121 W (he.later h) (by omega) (by omega)
    have hv : needsF e = [] := by unfold needsF; rw [if_pos (by omega)]
    generalize e.count 121 = c at *
    have hc2 : 120 < c := by omega
    unfold exV at *
    have HV := Lib.hid hv; clear hv
    go_enter Tryd.func24, Tryd.ntmps24
    go_wp2_with (first | (go_at_call 50; refine (hsize _ belA).mono ?_; rintro r w1 ⟨rfl, hb1⟩; have hc1 := bcell hb1; have hz1 := hb1.size; (try simp at hz1); (try have hy1 : w.heap.size < w1.heap.size := by omega); (try have hy2 : w.heap.size + 1 < w1.heap.size := by omega); (try have hy3 : w.heap.size + 2 < w1.heap.size := by omega); (try have hy4 : wr.heap.size < w1.heap.size := by omega); (try have hy5 : wr.heap.size + 1 < w1.heap.size := by omega)))
    go_ret
    exact ⟨⟨_, rfl, by rw [HV.out]; exact World.ownsRow_nil _ _ _ _⟩, belA⟩

/-- The name of the clock of the variable of a name. -/
def clockN (L : List Va) (s : ByteArray) : ByteArray := match findC L s with | some v => v.cn | none => ⟨#[]⟩
theorem needC_eq (L : List Va) (q : Qe) : needC L q = if (clockN L q.name).toList.isEmpty = true then needsF q.e else needsF q.e ++ [clockN L q.name] := by
  unfold needC clockN
  cases findC L q.name with
  | none => simp
  | some v => rfl
set_option maxHeartbeats 1000000 in
theorem clock16_any (L : List Va) (A : Option Addr) (cap : Nat) (s : ByteArray) (w : World) (hl : VarsAt w L A cap) :
    Calls Tryd.prog 31 #[.slice A L.length cap, .string s] w fun r w' => r = .returned (.string (clockN L s)) ∧ Below w.heap.size w w' := by
  have hfind := fun W h => refFind_any L A cap s W (hl.later h)
  have hlen := hl.len
  unfold maxLen at hlen
  obtain ⟨hlen1, hlen2⟩ := hlen
  rcases refFind_cases L s with ⟨hrf, hfc⟩ | ⟨k, v, hrf, hx, hfc⟩
  · have hv : clockN L s = ⟨#[]⟩ := by unfold clockN; rw [hfc]
    rw [hrf] at hfind
    clear hrf hfc
    have HV := Lib.hid hv; clear hv
    go_enter Tryd.func31, Tryd.ntmps31
    go_wp2_with (first | (go_at_call 22; refine (hfind _ belA).mono ?_; rintro r w1 ⟨rfl, hb1⟩; have hc1 := bcell hb1; have hz1 := hb1.size; (try simp at hz1); (try have hy1 : w.heap.size < w1.heap.size := by omega); (try have hy2 : w.heap.size + 1 < w1.heap.size := by omega); (try have hy3 : w.heap.size + 2 < w1.heap.size := by omega); (try have hy4 : wr.heap.size < w1.heap.size := by omega); (try have hy5 : wr.heap.size + 1 < w1.heap.size := by omega)))
    go_ret
    exact ⟨ret_str HV.out.symm, belA⟩
  · have hv : clockN L s = v.cn := by unfold clockN; rw [hfc]
    rw [hrf] at hfind
    have hkl : k < L.length := (List.getElem?_eq_some_iff.1 hx).1
    obtain ⟨b, off, rfl, hb, ⟨d0, d1, d2, d3⟩⟩ := hl.get hx
    have tk1 : (0 : Int) ≤ (k : Int) := by omega
    clear hrf hfc hx d0 d1 d2
    have HV := Lib.hid hv; clear hv
    go_enter Tryd.func31, Tryd.ntmps31
    go_wp2_with (first | (go_at_call 22; refine (hfind _ belA).mono ?_; rintro r wf ⟨rfl, hbf⟩; have hcf := bcell hbf))
    go_ret
    exact ⟨ret_str HV.out.symm, belA⟩

theorem delaysE_cons (q : Qe) (r : List Qe) : delaysE (q :: r) = if (q.delay != 0) = true then q.name :: delaysE r else delaysE r := by
  unfold delaysE
  rw [List.filter_cons]
  split <;> simp [*]
theorem hasB_app (a b : List ByteArray) (s : ByteArray) : hasB (a ++ b) s = (hasB a s || hasB b s) := by unfold hasB; rw [List.any_append]
theorem IntsAt.take {w : World} {l : List Int} {A : Option Addr} {cap : Nat} (h : IntsAt w l A cap) (k : Nat) : IntsAt w (l.take k) A cap :=
  ⟨by have := h.1; simp; omega, h.2.1, fun hl => by
    obtain ⟨b, off, hA, hr⟩ := h.2.2 (by simp at hl; omega)
    exact ⟨b, off, hA, fun j x hj => hr j x (by rw [List.getElem?_take] at hj; split at hj <;> simp_all)⟩⟩

set_option maxHeartbeats 4000000 in
theorem ready16_any (p : Pr) (a : PrA) (s : ByteArray) (l : List Int) (A : Option Addr) (cap : Nat) (w : World) (hp : PrAt w p a) (hl : IntsAt w l A cap) (hj : ∀ j ∈ l, 0 ≤ j ∧ j < (p.eqs.length : Int)) :
    Calls Tryd.prog 32 #[prV p a, .string s, .slice A l.length cap] w fun r w' => r = .returned (.bool (hasB (readyE p ++ l.map (nameAt p.eqs)) s)) ∧ Below w.heap.size w w' := by
  obtain ⟨R, hR⟩ : ∃ R, R = hasB (readyE p ++ l.map (nameAt p.eqs)) s := ⟨_, rfl⟩
  rw [← hR]
  obtain ⟨R3, hR3⟩ : ∃ R, R = hasB (l.map (nameAt p.eqs)) s := ⟨_, rfl⟩
  obtain ⟨R2, hR2⟩ : ∃ R, R = (hasB (delaysE p.eqs) s || R3) := ⟨_, rfl⟩
  have hR1 : (hasB (p.ins.map (·.name)) s || R2) = R := by rw [hR, hR2, hR3, hasB_app]; unfold readyE; rw [hasB_app, Bool.or_assoc]
  have HR1 := Lib.hid hR1
  have HR2 := Lib.hid hR2.symm
  have HR3 := Lib.hid hR3.symm
  clear hR hR1 hR2 hR3
  have HJ := Lib.hid hj
  clear hj
  have hp1 := hp.ins
  have hl1 := hp.ins.len
  have hp4 := hp.eqs
  have hl4 := hp.eqs.len
  have hll1 := hl.1
  have hll2 := hl.2.1
  obtain ⟨A1, c1, A2, c2, A3, c3, A4, c4⟩ := a
  unfold maxLen at hl1 hl4 hll2
  unfold prV at *
  dsimp only at *
  obtain ⟨hl11, hl12⟩ := hl1
  obtain ⟨hl41, hl42⟩ := hl4
  clear hp
  go_enter Tryd.func32, Tryd.ntmps32
  go_wp2_with fail
  refine wp_name fun W0 hW0 => ?_
  have hb0 : Below w.heap.size w W0 := by rw [hW0]; (repeat refine bel_drew ?_); repeat (first | exact Below.refl _ _ | (with_reducible assumption) | refine bel_trans ?_ (by with_reducible assumption) | refine Below.setCell ?_ (by simp) _ | refine bel_alloc ?_ _ | refine bel_grow ?_ (by with_reducible assumption) (by omega))
  have hz0 : w.heap.size < W0.heap.size := by rw [hW0]; simp
  have x1 : W0.cell? ⟨w.heap.size, 1, none⟩ = some (.slice A1 p.ins.length c1) := by rw [hW0]; go_simp
  have x4 : W0.cell? ⟨w.heap.size, 4, none⟩ = some (.slice A4 p.eqs.length c4) := by rw [hW0]; go_simp
  clear hW0
  go_loopw [7] (fun i wr => ∃ k : Nat, k ≤ p.ins.length ∧ i = .int .i64 k ∧ Hid ((hasB ((p.ins.drop k).map (·.name)) s || R2) = R) ∧ Below W0.heap.size W0 wr) (fun i _ => p.ins.length - (intOf i).toNat)
  case atStart => exact ⟨0, Nat.zero_le _, rfl, HR1, Below.refl _ _⟩
  case round =>
    clear HR1
    obtain ⟨k, hk, rfl, hrem, hbel⟩ := hrel
    have hbw : Below w.heap.size w wr := bel_grow hb0 hbel (by omega)
    have hc := bcell hbel
    have hzr := hbel.size
    by_cases hlt : k < p.ins.length
    · have hx : p.ins[k]? = some p.ins[k] := List.getElem?_eq_getElem hlt
      have hd : p.ins.drop k = p.ins[k] :: p.ins.drop (k + 1) := List.drop_eq_getElem_cons hlt
      generalize p.ins[k] = x at hx hd
      obtain ⟨b, off, rfl, hbb, ⟨d0, d1, d2, d3⟩⟩ := (hp1.later hbw).get hx
      have hr := hrem.out
      rw [hd, List.map_cons, hasB_cons] at hr
      clear hd hx hrem
      cases hcs : (x.name.toList == s.toList)
      · rw [hcs, Bool.false_or] at hr
        have HR := Lib.hid hr; clear hr
        go_wp2_with fail
        go_roundw
        case rel => exact ⟨k + 1, by omega, by go_num, HR, belA⟩
        case measure => simp [intOf]; omega
      · rw [hcs, Bool.true_or, Bool.true_or] at hr
        have HR := Lib.hid hr; clear hr
        go_wp2_with fail
        go_ret
        exact ⟨ret_bool HR.out, belA⟩
    · obtain rfl : k = p.ins.length := by omega
      have hr := hrem.out
      rw [List.drop_length, List.map_nil, show hasB [] s = false from rfl, Bool.false_or] at hr
      subst hr
      clear hrem
      go_wp2_with fail
      clear hc hzr hbw
      go_loopw [8] (fun i wr => ∃ k : Nat, k ≤ p.eqs.length ∧ i = .int .i64 k ∧ Hid ((hasB (delaysE (p.eqs.drop k)) s || R3) = R2) ∧ Below W0.heap.size W0 wr) (fun i _ => p.eqs.length - (intOf i).toNat)
      case atStart => exact ⟨0, Nat.zero_le _, rfl, HR2, hbel⟩
      case round =>
        clear HR2 hbel
        obtain ⟨k, hk, rfl, hrem, hbel⟩ := hrel
        have hbw : Below w.heap.size w wr := bel_grow hb0 hbel (by omega)
        have hc := bcell hbel
        have hzr := hbel.size
        by_cases hlt : k < p.eqs.length
        · have hx : p.eqs[k]? = some p.eqs[k] := List.getElem?_eq_getElem hlt
          have hd : p.eqs.drop k = p.eqs[k] :: p.eqs.drop (k + 1) := List.drop_eq_getElem_cons hlt
          generalize p.eqs[k] = q at hx hd
          obtain ⟨b, off, B1, n1, B2, n2, rfl, hbb, ⟨g0, g1, g2, g3, g4, g5, g6, g7, g8, g9, s1, s2⟩⟩ := (hp4.later hbw).get hx
          have hr := hrem.out
          rw [hd, delaysE_cons] at hr
          clear hd hx hrem g2 g3 g4 g5 g6 g7 g8 g9 s1 s2
          cases hdl : (q.delay != 0)
          · rw [hdl, if_neg (by simp)] at hr
            have HR := Lib.hid hr; clear hr
            go_wp2_with fail
            go_roundw
            case rel => exact ⟨k + 1, by omega, by go_num, HR, belA⟩
            case measure => simp [intOf]; omega
          · rw [hdl, if_pos rfl, hasB_cons] at hr
            cases hcs : (q.name.toList == s.toList)
            · rw [hcs, Bool.false_or] at hr
              have HR := Lib.hid hr; clear hr
              go_wp2_with fail
              go_roundw
              case rel => exact ⟨k + 1, by omega, by go_num, HR, belA⟩
              case measure => simp [intOf]; omega
            · rw [hcs, Bool.true_or, Bool.true_or] at hr
              have HR := Lib.hid hr; clear hr
              go_wp2_with fail
              go_ret
              exact ⟨ret_bool HR.out, belA⟩
        · obtain rfl : k = p.eqs.length := by omega
          have hr := hrem.out
          rw [List.drop_length, show delaysE [] = [] from rfl, show hasB [] s = false from rfl, Bool.false_or] at hr
          subst hr
          clear hrem
          go_wp2_with fail
          clear hc hzr hbw
          go_loopw [9] (fun i wr => ∃ k : Nat, k ≤ l.length ∧ i = .int .i64 k ∧ Hid (hasB ((l.drop k).map (nameAt p.eqs)) s = R3) ∧ Below W0.heap.size W0 wr) (fun i _ => l.length - (intOf i).toNat)
          case atStart => exact ⟨0, Nat.zero_le _, rfl, HR3, hbel⟩
          case round =>
            clear HR3 hbel
            obtain ⟨k, hk, rfl, hrem, hbel⟩ := hrel
            have hbw : Below w.heap.size w wr := bel_grow hb0 hbel (by omega)
            have hc := bcell hbel
            have hzr := hbel.size
            by_cases hlt : k < l.length
            · have hx : l[k]? = some l[k] := List.getElem?_eq_getElem hlt
              have hmem : l[k] ∈ l := List.getElem_mem hlt
              have hd : l.drop k = l[k] :: l.drop (k + 1) := List.drop_eq_getElem_cons hlt
              generalize l[k] = j at hx hd hmem
              obtain ⟨hj1, hj2⟩ := HJ.out j hmem
              obtain ⟨m, rfl⟩ : ∃ m : Nat, j = m := ⟨j.toNat, by omega⟩
              have hm : m < p.eqs.length := by omega
              obtain ⟨bi, oi, rfl, hbi, di⟩ := (hl.later hbw).get hx
              have hqx : p.eqs[m]? = some p.eqs[m] := List.getElem?_eq_getElem hm
              generalize p.eqs[m] = q at hqx
              have hr := hrem.out
              rw [hd, List.map_cons, hasB_cons, nameAt_of (q := q) (by rw [Int.toNat_natCast]; exact hqx)] at hr
              obtain ⟨b, off, B1, n1, B2, n2, rfl, hbb, ⟨g0, g1, g2, g3, g4, g5, g6, g7, g8, g9, s1, s2⟩⟩ := (hp4.later hbw).get hqx
              clear hd hx hrem hmem hqx g1 g2 g3 g4 g5 g6 g7 g8 g9 s1 s2 hj1 hj2
              cases hcs : (q.name.toList == s.toList)
              · rw [hcs, Bool.false_or] at hr
                have HR := Lib.hid hr; clear hr
                go_wp2_with fail
                go_quiet (fail)
                go_wp2_with fail
                go_roundw
                case rel => exact ⟨k + 1, by omega, by go_num, HR, belA⟩
                case measure => simp [intOf]; omega
              · rw [hcs, Bool.true_or] at hr
                have HR := Lib.hid hr; clear hr
                go_wp2_with fail
                go_quiet (fail)
                go_wp2_with fail
                go_ret
                exact ⟨ret_bool HR.out, belA⟩
            · obtain rfl : k = l.length := by omega
              have hr := hrem.out
              rw [List.drop_length, List.map_nil, show hasB [] s = false from rfl] at hr
              have HR := Lib.hid hr; clear hr hrem
              go_wp2_with fail
              go_ret
              exact ⟨ret_bool HR.out, belA⟩

end Go.Proofs.YtlfklfjnkpjooaaDoor

/- Walk over the law's fixed calls (known) of the order. -/
namespace Go.Proofs.YtlfklfjnkpjooaaDoor
open Go.RowKit Go.Sort

def zE : Ex := .mk 0 0 ⟨#[]⟩ []
def vK (s : ByteArray) : Va := ⟨s, 1, 0, ⟨#[]⟩⟩
def eK (s : ByteArray) : Ex := .mk 3 0 s []
/-- The fixed program; s: what its second equation names. -/
def pK (s : ByteArray) : Pr := ⟨⟨#[102]⟩, [vK ⟨#[120]⟩], [vK ⟨#[121]⟩], [vK ⟨#[97]⟩], [⟨⟨#[121]⟩, 0, zE, eK ⟨#[97]⟩⟩, ⟨⟨#[97]⟩, 0, zE, eK s⟩]⟩
theorem known16a : orderE (pK ⟨#[120]⟩) = ([1, 0], (0, 0, 0)) := by decide +kernel
theorem known16b : orderE (pK ⟨#[97]⟩) = ([], (3, 0, 22)) := by decide +kernel
theorem known16c : needsF (eK ⟨#[120]⟩) = [⟨#[120]⟩] := by decide +kernel
theorem ok_ex (k : Int) (s : ByteArray) (hk : I64 k) (hs : s.size ≤ maxLen) : (Ex.mk k 0 s []).OK := by
  unfold Ex.OK
  exact ⟨hk, by unfold I32; omega, hs, by unfold Ex.OKL; trivial⟩
theorem ok_known (s : ByteArray) (hs : s.size ≤ maxLen) : PrOK (pK s) := by
  have h1 : ∀ c, (⟨#[c]⟩ : ByteArray).size ≤ maxLen := fun c => by unfold maxLen; show 1 ≤ _; omega
  have h0 : (⟨#[]⟩ : ByteArray).size ≤ maxLen := by unfold maxLen; show 0 ≤ _; omega
  have i0 : I64 0 := by unfold I64; omega
  have i1 : I64 1 := by unfold I64; omega
  have i3 : I64 3 := by unfold I64; omega
  have hv : ∀ c, VaOK (vK ⟨#[c]⟩) := fun c => ⟨h1 c, i1, i0, h0⟩
  refine ⟨h1 _, fun v hv' => ?_, fun v hv' => ?_, fun v hv' => ?_, fun q hq => ?_⟩
  · obtain rfl : v = vK ⟨#[120]⟩ := by simpa [pK] using hv'
    exact hv _
  · obtain rfl : v = vK ⟨#[121]⟩ := by simpa [pK] using hv'
    exact hv _
  · obtain rfl : v = vK ⟨#[97]⟩ := by simpa [pK] using hv'
    exact hv _
  · have : q = ⟨⟨#[121]⟩, 0, zE, eK ⟨#[97]⟩⟩ ∨ q = ⟨⟨#[97]⟩, 0, zE, eK s⟩ := by simpa [pK] using hq
    rcases this with rfl | rfl
    · exact ⟨h1 _, i0, ok_ex _ _ i0 h0, ok_ex _ _ i3 (h1 _)⟩
    · exact ⟨h1 _, i0, ok_ex _ _ i0 h0, ok_ex _ _ i3 hs⟩
theorem vars_one {W : World} {b : Nat} {s : ByteArray} (c0 : W.cell? ⟨b, 0, none⟩ = some (.string s)) (c1 : W.cell? ⟨b, 1, none⟩ = some (.int .i64 1)) (c2 : W.cell? ⟨b, 2, none⟩ = some (.int .i64 0)) (c3 : W.cell? ⟨b, 3, none⟩ = some (.string ⟨#[]⟩)) : VarsAt W [vK s] (some ⟨b, 0, none⟩) 1 := by
  refine ⟨Nat.le_refl _, by unfold maxLen; omega, fun _ => ⟨b, 0, rfl, fun k v hk => ?_⟩⟩
  match k with
  | 0 => obtain rfl : vK s = v := by simpa using hk
         exact ⟨c0, c1, c2, c3⟩
  | k + 1 => simp at hk
theorem eqs_two {W : World} {b : Nat} {s : ByteArray} (c0 : W.cell? ⟨b, 0, none⟩ = some (.string ⟨#[121]⟩)) (c1 : W.cell? ⟨b, 1, none⟩ = some (.int .i64 0)) (c2 : W.cell? ⟨b, 2, none⟩ = some (.int .i64 0)) (c3 : W.cell? ⟨b, 3, none⟩ = some (.int .i32 0)) (c4 : W.cell? ⟨b, 4, none⟩ = some (.string ⟨#[]⟩)) (c5 : W.cell? ⟨b, 5, none⟩ = some (.slice none 0 0))
    (c6 : W.cell? ⟨b, 6, none⟩ = some (.int .i64 3)) (c7 : W.cell? ⟨b, 7, none⟩ = some (.int .i32 0)) (c8 : W.cell? ⟨b, 8, none⟩ = some (.string ⟨#[97]⟩)) (c9 : W.cell? ⟨b, 9, none⟩ = some (.slice none 0 0))
    (d0 : W.cell? ⟨b, 10, none⟩ = some (.string ⟨#[97]⟩)) (d1 : W.cell? ⟨b, 11, none⟩ = some (.int .i64 0)) (d2 : W.cell? ⟨b, 12, none⟩ = some (.int .i64 0)) (d3 : W.cell? ⟨b, 13, none⟩ = some (.int .i32 0)) (d4 : W.cell? ⟨b, 14, none⟩ = some (.string ⟨#[]⟩)) (d5 : W.cell? ⟨b, 15, none⟩ = some (.slice none 0 0))
    (d6 : W.cell? ⟨b, 16, none⟩ = some (.int .i64 3)) (d7 : W.cell? ⟨b, 17, none⟩ = some (.int .i32 0)) (d8 : W.cell? ⟨b, 18, none⟩ = some (.string s)) (d9 : W.cell? ⟨b, 19, none⟩ = some (.slice none 0 0)) :
    EqsAt W [⟨⟨#[121]⟩, 0, zE, eK ⟨#[97]⟩⟩, ⟨⟨#[97]⟩, 0, zE, eK s⟩] (some ⟨b, 0, none⟩) 2 := by
  refine ⟨Nat.le_refl _, by unfold maxLen; omega, fun _ => ⟨b, 0, rfl, fun k q hk => ?_⟩⟩
  match k with
  | 0 => obtain rfl : (⟨⟨#[121]⟩, 0, zE, eK ⟨#[97]⟩⟩ : Qe) = q := by simpa using hk
         exact ⟨none, 0, none, 0, c0, c1, c2, c3, c4, c5, c6, c7, c8, c9, subs_nil _ _ _ _, subs_nil _ _ _ _⟩
  | 1 => obtain rfl : (⟨⟨#[97]⟩, 0, zE, eK s⟩ : Qe) = q := by simpa using hk
         exact ⟨none, 0, none, 0, d0, d1, d2, d3, d4, d5, d6, d7, d8, d9, subs_nil _ _ _ _, subs_nil _ _ _ _⟩
  | k + 2 => simp at hk

theorem ints_two {W : World} {b c : Nat} (h1 : 2 ≤ c) (h2 : c ≤ maxLen) (c0 : W.cell? ⟨b, 0, none⟩ = some (.int .i64 1)) (c1 : W.cell? ⟨b, 1, none⟩ = some (.int .i64 0)) : IntsAt W [1, 0] (some ⟨b, 0, none⟩) c := by
  refine ⟨h1, h2, fun _ => ⟨b, 0, rfl, fun k x hk => ?_⟩⟩
  match k with
  | 0 => obtain rfl : 1 = x := by simpa using hk
         exact c0
  | 1 => obtain rfl : 0 = x := by simpa using hk
         exact c1
  | k + 2 => simp at hk

set_option maxHeartbeats 4000000 in
theorem known16_any (w : World) (hg : Always w) : Calls Tryd.prog 25 #[] w fun r w' => r = .returned (.bool true) ∧ Below w.heap.size w w' := by
  have hs1 : (⟨#[120]⟩ : ByteArray).size ≤ maxLen := by unfold maxLen; show 1 ≤ _; omega
  have hs2 : (⟨#[97]⟩ : ByteArray).size ≤ maxLen := by unfold maxLen; show 1 ≤ _; omega
  have h1 := fun A1 A2 A3 A4 W hg hp => order_any (pK ⟨#[120]⟩) ⟨A1, 1, A2, 1, A3, 1, A4, 2⟩ W hg hp (ok_known _ hs1) (by simp [pK]) (by simp [pK]) (by simp [pK]) (by simp [pK])
  have h2 := fun A1 A2 A3 A4 W hg hp => order_any (pK ⟨#[97]⟩) ⟨A1, 1, A2, 1, A3, 1, A4, 2⟩ W hg hp (ok_known _ hs2) (by simp [pK]) (by simp [pK]) (by simp [pK]) (by simp [pK])
  have h3 := fun W => needs_all (eK ⟨#[120]⟩) none 0 W (subs_nil W _ _ _) (ok_ex _ _ (by unfold I64; omega) hs1)
  have h4 := fun A cap B capb W hl hm => ints_any [1, 0] [1, 0] A cap B capb W hl hm
  rw [show (([1, 0] : List Int) == [1, 0]) = true from rfl] at h4
  rw [known16a] at h1
  rw [known16b] at h2
  rw [known16c] at h3
  unfold prV fV at h1 h2
  unfold exV at h3
  dsimp only [pK, eK, Ex.kind, Ex.n, Ex.name, Ex.sub, List.length_cons, List.length_nil, List.map_cons, List.map_nil] at h1 h2 h3 h4
  have hfq1 := fun w => eqFaultSelf16 0 0 0 w
  have hfq2 := fun w => eqFaultSelf16 3 0 22 w
  have hgm : Tryd.prog.eqGuardType Tryd.prog.depth 31 = false := by kernel_rfl
  clear hs1 hs2
  go_enter Tryd.func25, Tryd.ntmps25
  go_wp2_with (first
    | (go_at_call 27; have hbX := hb1; clear hbX; go_loud (refine (h2 _ _ _ _ _ (hg.later (by (repeat refine bel_drew ?_); repeat (first | exact Below.refl _ _ | (with_reducible assumption) | refine bel_trans ?_ (by with_reducible assumption) | refine Below.setCell ?_ (by simp <;> omega) _ | refine bel_alloc ?_ _ | refine bel_drew ?_ | refine bel_grow ?_ (by with_reducible assumption) (by omega)))) ⟨vars_one (by go_simp) (by go_simp) (by go_simp) (by go_simp), vars_one (by go_simp) (by go_simp) (by go_simp) (by go_simp), vars_one (by go_simp) (by go_simp) (by go_simp) (by go_simp), eqs_two (by go_simp) (by go_simp) (by go_simp) (by go_simp) (by go_simp) (by go_simp) (by go_simp) (by go_simp) (by go_simp) (by go_simp) (by go_simp) (by go_simp) (by go_simp) (by go_simp) (by go_simp) (by go_simp) (by go_simp) (by go_simp) (by go_simp) (by go_simp)⟩).mono ?_; rintro r w2 ⟨⟨v2, rfl, hv2⟩, hb2⟩; obtain ⟨A2, c2, rfl, hs1, hs2⟩ := own_slice hv2; have hc2 := bcell hb2; have hf2 := bfrozen hb2; have hz2 := hb2.size; (try simp at hz2); have hx2 : w1.heap.size < w2.heap.size := (by omega); have hgz2 : g < w2.heap.size := (by omega); have hgne : ¬ g = w.heap.size + 1 + 1 + 1 + 1 + 1 := (by omega); have yb0 : w.heap.size < w2.heap.size := (by omega); have yb1 : w.heap.size + 1 < w2.heap.size := (by omega); have yb2 : w.heap.size + 1 + 1 < w2.heap.size := (by omega); have yb3 : w.heap.size + 1 + 1 + 1 < w2.heap.size := (by omega); have yb4 : w.heap.size + 1 + 1 + 1 + 1 < w2.heap.size := (by omega); have yb5 : w.heap.size + 1 + 1 + 1 + 1 + 1 < w2.heap.size := (by omega); have yb6 : w.heap.size + 1 + 1 + 1 + 1 + 1 + 1 < w2.heap.size := (by omega)))
    | (go_at_call 27; refine (h1 _ _ _ _ _ (hg.later belA) ⟨vars_one (by go_simp) (by go_simp) (by go_simp) (by go_simp), vars_one (by go_simp) (by go_simp) (by go_simp) (by go_simp), vars_one (by go_simp) (by go_simp) (by go_simp) (by go_simp), eqs_two (by go_simp) (by go_simp) (by go_simp) (by go_simp) (by go_simp) (by go_simp) (by go_simp) (by go_simp) (by go_simp) (by go_simp) (by go_simp) (by go_simp) (by go_simp) (by go_simp) (by go_simp) (by go_simp) (by go_simp) (by go_simp) (by go_simp) (by go_simp)⟩).mono ?_; rintro r w1 ⟨⟨v1, rfl, hv1⟩, hb1⟩; obtain ⟨g, cg, rfl, hgb, hgl, hgn, hgm, hgc⟩ := own_get hv1 (by decide); have d0 := hgc 0 (.int .i64 1) rfl; have d1 := hgc 1 (.int .i64 0) rfl; clear hgc hv1; (simp at hgb); have hc1 := bcell hb1; have hf1 := bfrozen hb1; have hz1 := hb1.size; (try simp at hz1); have ya0 : w.heap.size < w1.heap.size := (by omega); have ya1 : w.heap.size + 1 < w1.heap.size := (by omega); have ya2 : w.heap.size + 1 + 1 < w1.heap.size := (by omega); have ya3 : w.heap.size + 1 + 1 + 1 < w1.heap.size := (by omega); have ya4 : w.heap.size + 1 + 1 + 1 + 1 < w1.heap.size := (by omega); have ya5 : w.heap.size + 1 + 1 + 1 + 1 + 1 < w1.heap.size := (by omega); have ya6 : w.heap.size + 1 + 1 + 1 + 1 + 1 + 1 < w1.heap.size := (by omega))
    | (go_at_call 29; go_loud (refine (h4 _ _ _ _ _ (ints_two hgn hgm (by go_simp) (by go_simp)) (ints_two (Nat.le_refl _) (by unfold maxLen; omega) (by go_simp) (by go_simp))).mono ?_; rintro r w3 ⟨rfl, hb3⟩; have hc3 := bcell hb3; have hz3 := hb3.size; (try simp at hz3); have hx3 : w1.heap.size < w3.heap.size := (by omega); have hx5 : w1.heap.size < w2.heap.size + 1 + 1 := (by omega); have hx6 : w.heap.size < w2.heap.size + 1 + 1 := (by omega); have hx7 : w2.heap.size < w2.heap.size + 1 + 1 := (by omega); have hx8 : w.heap.size < w1.heap.size + 1 := (by omega); have hx4 : w2.heap.size < w3.heap.size := (by omega); have yc0 : w.heap.size < w3.heap.size := (by omega); have yc1 : w.heap.size + 1 < w3.heap.size := (by omega); have yc2 : w.heap.size + 1 + 1 < w3.heap.size := (by omega); have yc3 : w.heap.size + 1 + 1 + 1 < w3.heap.size := (by omega); have yc4 : w.heap.size + 1 + 1 + 1 + 1 < w3.heap.size := (by omega); have yc5 : w.heap.size + 1 + 1 + 1 + 1 + 1 < w3.heap.size := (by omega); have yc6 : w.heap.size + 1 + 1 + 1 + 1 + 1 + 1 < w3.heap.size := (by omega)))
    | (go_at_call 24; go_loud (refine (h3 _).mono ?_; rintro r w4 ⟨⟨v4, rfl, hv4⟩, hb4⟩; obtain ⟨A4, c4, rfl, ht1, ht2⟩ := own_slice hv4)))
  go_ret
  exact ⟨rfl, (by (repeat refine bel_drew ?_); repeat (first | exact Below.refl _ _ | (with_reducible assumption) | refine bel_trans ?_ (by with_reducible assumption) | refine Below.setCell ?_ (by simp <;> omega) _ | refine bel_alloc ?_ _ | refine bel_drew ?_ | refine bel_grow ?_ (by with_reducible assumption) (by omega)))⟩

end Go.Proofs.YtlfklfjnkpjooaaDoor
