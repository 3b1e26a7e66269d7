/- Walk over the law OrderCycles: it answers true. -/
import Derived.Test.YtlfklfjnkpjooaaDoorBW
import Derived.WalkKit
import Derived.WalkSpells
import Derived.WalkLawsBesides
import Derived.Deep.QuietTactic
import Derived.BigQuiet
import Derived.Deep.Draws
import Derived.Lib.Hide
import Derived.Deep.LoopGhost
import Derived.StillTailTactics
import Derived.Deep.RegionHeld3
import Derived.Deep.RegionWith
import Derived.Lib.QuietBelow
set_option linter.unusedVariables false
set_option linter.unusedSimpArgs false
set_option maxRecDepth 100000
namespace Go.Proofs.YtlfklfjnkpjooaaDoor
open Go.RowKit Go.Sort

set_option maxHeartbeats 4000000 in
theorem cycles_other (p : Pr) (a : PrA) (w : World) (hg : Always w) (hp : PrAt w p a) (hok : PrOK p) (l : List Int) (f1 f2 f3 : Int) (hO : orderE p = (l, (f1, f2, f3))) (hf : f3 ≠ 22) :
    Calls Tryd.prog 10 #[prV p a] w fun r w' => r = .returned (.bool true) ∧ Below w.heap.size w w' := by
  have hlight := fun W h => lightS_any p a W (hp.later h)
  have hord := Lib.hid (fun (n1 : p.ins.length ≤ 1000000) (n2 : p.outs.length ≤ 1000000) (n3 : p.locals.length ≤ 1000000) (n4 : p.eqs.length ≤ 1000000) W (h : Below w.heap.size w W) => order_any p a W (hg.later h) (hp.later h) hok n1 n2 n3 n4)
  rw [hO] at hord
  have hkn := fun W h => known16_any W (hg.later h)
  have t1 : (f3 != 22) = true := by simpa using hf
  clear hg hp hok hO hf
  obtain ⟨A1, c1, A2, c2, A3, c3, A4, c4⟩ := a
  unfold prV fV at *
  dsimp only at *
  go_enter Tryd.func10, Tryd.ntmps10
  go_wp2_with (first
    | (go_at_call 12; go_loud (refine (hlight _ belA).mono ?_; rintro r wl ⟨⟨bl, rfl, hlb⟩, hbl⟩; have hcl := bcell hbl; have hzl := hbl.size; (try simp at hzl); have hyl : w.heap.size < wl.heap.size := (by omega); cases bl))
    | (go_at_call 27; go_loud (refine (hord.out (by have := hlb (by trivial); omega) (by have := hlb (by trivial); omega) (by have := hlb (by trivial); omega) (by have := hlb (by trivial); omega) _ belA).mono ?_; rintro r wo ⟨⟨vo, rfl, hrow⟩, hbo⟩; obtain ⟨Ao, co, rfl, ho1, ho2⟩ := own_slice hrow; have hco := bcell hbo; have hzo := hbo.size; have hyo : w.heap.size < wo.heap.size := (by omega); clear hrow))
    | (go_at_call 25; refine (hkn _ belA).mono ?_; rintro r wn ⟨rfl, hbn⟩; have hcn := bcell hbn; have hzn := hbn.size))
  all_goals
    go_ret
    exact ⟨rfl, belA⟩

/-- What stands of the equations that are done. -/
structure DoneOK (p : Pr) (RS : List ByteArray) (done : List Int) : Prop where
  range : ∀ j ∈ done, 0 ≤ j ∧ j < (p.eqs.length : Int)
  nodup : done.Nodup
  sub : ∀ s ∈ readyE p ++ done.map (nameAt p.eqs), s ∈ RS
theorem DoneOK.len {p : Pr} {RS : List ByteArray} {done : List Int} (h : DoneOK p RS done) : done.length ≤ p.eqs.length := by
  have := nodup_len done ((List.range p.eqs.length).map (fun n : Nat => (n : Int))) h.nodup fun j hj => by
    obtain ⟨h1, h2⟩ := h.range j hj
    exact List.mem_map.2 ⟨j.toNat, by rw [List.mem_range]; omega, by omega⟩
  simpa using this
theorem DoneOK.snoc {p : Pr} {L : List Va} {RS : List ByteArray} {done : List Int} (h : DoneOK p RS done) {k : Nat} {q : Qe} (hq : p.eqs[k]? = some q) (hn : hasB (readyE p ++ done.map (nameAt p.eqs)) q.name = false)
    (hall : (needC L q).all (hasB (readyE p ++ done.map (nameAt p.eqs))) = true) (hst : ∀ x ∈ p.eqs, x.name ∉ RS → ¬ ∀ s ∈ ofR L x, s ∈ RS) : DoneOK p RS (done ++ [(k : Int)]) := by
  have hname : nameAt p.eqs (k : Int) = q.name := nameAt_of (by rw [Int.toNat_natCast]; exact hq)
  have hlt := (List.getElem?_eq_some_iff.1 hq).1
  refine ⟨fun j hj => ?_, ?_, fun s hs => ?_⟩
  · rcases List.mem_append.1 hj with h1 | h1
    · exact h.range j h1
    · obtain rfl : j = (k : Int) := by simpa using h1
      omega
  · rw [List.nodup_append]
    refine ⟨h.nodup, by simp, fun a ha b hb e => ?_⟩
    obtain rfl : b = (k : Int) := by simpa using hb
    subst e
    exact hasB_not.1 hn (List.mem_append.2 (.inr (List.mem_map.2 ⟨(k : Int), ha, hname⟩)))
  · rw [List.map_append, ← List.append_assoc] at hs
    rcases List.mem_append.1 hs with h1 | h1
    · exact h.sub s h1
    · obtain rfl : s = q.name := by simpa [hname] using h1
      refine Classical.byContradiction fun hno => hst q (List.mem_of_getElem? hq) hno ?_
      exact needC_mem.1 fun s hs => h.sub s (hasB_iff.1 (List.all_eq_true.1 hall s hs))

def boolN (v : Value) : Nat := match v with | .bool true => 1 | _ => 0

set_option maxHeartbeats 16000000 in
theorem cycles_cycle (p : Pr) (a : PrA) (w : World) (hg : Always w) (hp : PrAt w p a) (hok : PrOK p) (m : Nat) (q0 : Qe) (RS : List ByteArray) (hO : orderE p = ([], (3, (m : Int), 22))) (hq0 : p.eqs[m]? = some q0) (hn0 : q0.name ∉ RS) (hd0 : q0.delay = 0) (hRS : ∀ s ∈ readyE p, s ∈ RS) (hst : ∀ x ∈ p.eqs, x.name ∉ RS → ¬ ∀ s ∈ ofR (varsOf p) x, s ∈ RS) :
    Calls Tryd.prog 10 #[prV p a] w fun r w' => r = .returned (.bool true) ∧ Below w.heap.size w w' := by
  have hlight := fun W h => lightS_any p a W (hp.later h)
  have hord := Lib.hid (fun (n1 : p.ins.length ≤ 1000000) (n2 : p.outs.length ≤ 1000000) (n3 : p.locals.length ≤ 1000000) (n4 : p.eqs.length ≤ 1000000) W (h : Below w.heap.size w W) => order_any p a W (hg.later h) (hp.later h) hok n1 n2 n3 n4)
  rw [hO] at hord
  have hkn := fun W h => known16_any W (hg.later h)
  have hvars := Lib.hid (fun (n1 : p.ins.length ≤ 1000000) (n2 : p.outs.length ≤ 1000000) (n3 : p.locals.length ≤ 1000000) W (h : Below w.heap.size w W) => refVars_any p a W (hp.later h) n1 n2 n3)
  have hrdy := Lib.hid (fun (dn : List Int) (hd : DoneOK p RS dn) (A : Option Addr) (cap : Nat) (s : ByteArray) W (h : Below w.heap.size w W) (hl : IntsAt W dn A cap) => ready16_any p a s dn A cap W (hp.later h) hl hd.range)
  have hm : m < p.eqs.length := (List.getElem?_eq_some_iff.1 hq0).1
  have hdl0 : (q0.delay == 0) = true := by simpa using hd0
  have hmn0 : ¬ ((m : Int) < 0) := by omega
  have hmn1 : ¬ ((p.eqs.length : Int) ≤ (m : Int)) := by omega
  have HOK := Lib.hid hok
  have HQ0 := Lib.hid hq0
  have HN0 := Lib.hid hn0
  have HRS := Lib.hid hRS
  have HST := Lib.hid hst
  clear hg hok hO hq0 hn0 hd0 hRS hst
  have hp4 := hp.eqs
  have hl4 := hp.eqs.len
  obtain ⟨A1, c1, A2, c2, A3, c3, A4, c4⟩ := a
  unfold maxLen at hl4
  unfold prV fV at *
  dsimp only [List.length_nil, List.map_nil] at *
  obtain ⟨hl41, hl42⟩ := hl4
  clear hp
  go_enter Tryd.func10, Tryd.ntmps10
  go_wp2_with (first
    | (go_at_call 12; go_loud (refine (hlight _ belA).mono ?_; rintro r wl ⟨⟨bl, rfl, hlb⟩, hbl⟩; have hcl := bcell hbl; have hzl := hbl.size; (try simp at hzl); have hyl : w.heap.size < wl.heap.size := (by omega); cases bl))
    | (go_at_call 27; go_loud (have hlb2 := hlb (by trivial); clear hlb; have n1 : p.ins.length ≤ 1000000 := (by omega); have n2 : p.outs.length ≤ 1000000 := (by omega); have n3 : p.locals.length ≤ 1000000 := (by omega); have n4 : p.eqs.length ≤ 1000000 := (by omega); have HSZ := Lib.hid hlb2.2.2.2.2; refine (hord.out n1 n2 n3 n4 _ belA).mono ?_; rintro r wo ⟨⟨vo, rfl, hrow⟩, hbo⟩; obtain ⟨Ao, co, rfl, ho1, ho2⟩ := own_slice hrow; have hco := bcell hbo; have hzo := hbo.size; have hyo : w.heap.size < wo.heap.size := (by omega); have hyo1 : w.heap.size < wo.heap.size + 1 := (by omega); clear hrow hlb2))
    | (go_at_call 30; go_loud (refine (hvars.out n1 n2 n3 _ belA).mono ?_; rintro r wv ⟨⟨Av, cv, rfl, hrow⟩, hbv⟩; have hva := VarsAt.of_own hrow; have hcv := bcell hbv; have hzv : wo.heap.size + 1 ≤ wv.heap.size := (by have := hbv.size; simpa using this); have hyv : w.heap.size < wv.heap.size := (by omega); have hyv1 : wo.heap.size < wv.heap.size := (by omega); clear hrow))
    | (go_at_call 25; refine (hkn _ belA).mono ?_; rintro r wn ⟨rfl, hbn⟩; have hcn := bcell hbn; have hzn := hbn.size))
  · go_ret
    exact ⟨rfl, belA⟩
  refine wp_name fun W0 hW0 => ?_
  have hb0 : Below w.heap.size w W0 := by rw [hW0]; (repeat refine bel_drew ?_); repeat (first | exact Below.refl _ _ | (with_reducible assumption) | refine bel_trans ?_ (by with_reducible assumption) | refine Below.setCell ?_ (by simp) _ | refine bel_alloc ?_ _ | refine bel_grow ?_ (by with_reducible assumption) (by omega))
  have hz0 : w.heap.size < W0.heap.size := by rw [hW0]; exact hyv
  have hz01 : wo.heap.size < W0.heap.size := by rw [hW0]; exact hyv1
  have x0 : W0.cell? ⟨w.heap.size, 0, none⟩ = some (.string p.name) := by rw [hW0]; go_simp
  have x1 : W0.cell? ⟨w.heap.size, 1, none⟩ = some (.slice A1 p.ins.length c1) := by rw [hW0]; go_simp
  have x2 : W0.cell? ⟨w.heap.size, 2, none⟩ = some (.slice A2 p.outs.length c2) := by rw [hW0]; go_simp
  have x3 : W0.cell? ⟨w.heap.size, 3, none⟩ = some (.slice A3 p.locals.length c3) := by rw [hW0]; go_simp
  have x4 : W0.cell? ⟨w.heap.size, 4, none⟩ = some (.slice A4 p.eqs.length c4) := by rw [hW0]; go_simp
  have v1 : W0.cell? ⟨wo.heap.size, 1, none⟩ = some (.int .i64 (m : Int)) := by rw [hW0]; go_simp
  have hva0 : VarsAt W0 (varsOf p) Av cv := by rw [hW0]; exact hva.later belA
  clear hW0 hva hcv hzv hyv hyv1 hbv hco hzo hyo hyo1 hbo hcl hzl hyl hbl hlight hord hvars
  generalize varsOf p = L at *
  go_loopw [6, 7] (fun o ag wr => ∃ (D : Option Addr) (dc : Nat) (dn : List Int) (b : Bool), o = .slice D dn.length dc ∧ ag = .bool b ∧ Hid (DoneOK p RS dn) ∧ Hid (wr.ownsRow W0.heap.size 3 1 (.slice D dn.length dc) dn.length (dn.map (.int .i64))) ∧ Below W0.heap.size W0 wr) (fun o ag _ => 2 * (p.eqs.length - sliceLen o) + boolN ag)
  case atStart => exact ⟨none, 0, [], true, rfl, rfl, Lib.hid ⟨by simp, by simp, by simpa using HRS.out⟩, Lib.hid (World.ownsRow_nil _ _ _ _), Below.refl _ _⟩
  case round =>
    obtain ⟨D, dc, dn0, b, rfl, rfl, hdn, hown, hbel⟩ := hrel
    have hbw : Below w.heap.size w wr := bel_grow hb0 hbel (by omega)
    have hc := bcell hbel
    have hzr := hbel.size
    have hwr0 : w.heap.size < wr.heap.size := by omega
    have hwr1 : wo.heap.size < wr.heap.size := by omega
    cases b
    · have hrd0 : ∀ W, Below wr.heap.size wr W → Calls Tryd.prog 32 #[.agg #[.string p.name, .slice A1 p.ins.length c1, .slice A2 p.outs.length c2, .slice A3 p.locals.length c3, .slice A4 p.eqs.length c4], .string q0.name, .slice D dn0.length dc] W fun r w' => r = .returned (.bool false) ∧ Below W.heap.size W w' := fun W h => by
        have h1 := hrdy.out dn0 hdn.out D dc q0.name W (bel_grow hbw h (by omega)) ((IntsAt.of_own hown.out).later h)
        have h2 : hasB (readyE p ++ dn0.map (nameAt p.eqs)) q0.name = false := hasB_not.2 fun hm => HN0.out (hdn.out.sub _ hm)
        rw [h2] at h1
        exact h1
      obtain ⟨bq, oq, _, _, _, _, rfl, hbbq, ⟨g0, g1, _, _, _, _, _, _, _, _, _, _⟩⟩ := (hp4.later hbw).get HQ0.out
      go_wp2_with fail
      refine wp_region_qb (by kernel_rfl) (by kernel_rfl) (fun hgq => ?_)
      repeat (quiet_step ((first | (go_at_call 32; exact Calls.regrown_of (hrd0 _ belA)) | (go_at_call 25; exact Calls.regrown_of (hkn _ belA)))))
      refine wpQuiet_nil ?_
      intro wq hwq
      replace hwq := bel_of_class hwq
      clear hgq
      have hcq := bcell hwq
      have hzq := hwq.size
      (try simp at hzq)
      (try have hyq1 : w.heap.size < wq.heap.size := by omega); (try have hyq2 : w.heap.size + 1 < wq.heap.size := by omega); (try have hyq3 : w.heap.size + 2 < wq.heap.size := by omega); (try have hyq4 : wr.heap.size < wq.heap.size := by omega)
      go_wp2_with fail
      go_ret
      exact ⟨rfl, belA⟩
    · go_wp2_with fail
      clear hbw hc hzr hwr0 hwr1
      go_loopw [6, 7, 8] (fun o ag i wr => ∃ (k : Nat) (D : Option Addr) (dc : Nat) (dn : List Int) (b : Bool), k ≤ p.eqs.length ∧ i = .int .i64 k ∧ o = .slice D dn.length dc ∧ ag = .bool b ∧ (b = true → dn0.length < dn.length) ∧ dn0.length ≤ dn.length ∧ Hid (DoneOK p RS dn) ∧ Hid (wr.ownsRow W0.heap.size 3 1 (.slice D dn.length dc) dn.length (dn.map (.int .i64))) ∧ Below W0.heap.size W0 wr) (fun _ _ i _ => p.eqs.length - (intOf i).toNat)
      case atStart => exact ⟨0, D, dc, dn0, false, Nat.zero_le _, rfl, rfl, rfl, by simp, Nat.le_refl _, hdn, hown, hbel⟩
      case round =>
        clear hdn hown hbel
        obtain ⟨k, D, dc, dn, b0, hk, rfl, rfl, rfl, hgt, hge, hdn, hown, hbel⟩ := hrel
        have hbw : Below w.heap.size w wr := bel_grow hb0 hbel (by omega)
        have hc := bcell hbel
        have hzr := hbel.size
        have hwr0 : w.heap.size < wr.heap.size := by omega
        have hwr1 : wo.heap.size < wr.heap.size := by omega
        by_cases hlt : k < p.eqs.length
        · have hx : p.eqs[k]? = some p.eqs[k] := List.getElem?_eq_getElem hlt
          have hd : p.eqs.drop k = p.eqs[k] :: p.eqs.drop (k + 1) := List.drop_eq_getElem_cons hlt
          generalize p.eqs[k] = q at hx hd
          obtain ⟨b, off, B1, n1, B2, n2, rfl, hbb, ⟨g0, g1, g2, g3, g4, g5, g6, g7, g8, g9, s1, s2⟩⟩ := (hp4.later hbw).get hx
          have hmem := List.mem_of_getElem? hx
          have hqok := (HOK.out.eqs q hmem).2.2.2
          have hqz := (HSZ.out q hmem).2
          have HX := Lib.hid hx
          clear hx hd hmem
          cases hdl : (q.delay != 0)
          · obtain ⟨RD, hRD⟩ : ∃ R, R = readyE p ++ dn.map (nameAt p.eqs) := ⟨_, rfl⟩
            obtain ⟨W5, rfl⟩ : ∃ W5, W5 = wr := ⟨wr, rfl⟩
            have hrd1 : ∀ (s : ByteArray) W, Below W5.heap.size W5 W → Calls Tryd.prog 32 #[.agg #[.string p.name, .slice A1 p.ins.length c1, .slice A2 p.outs.length c2, .slice A3 p.locals.length c3, .slice (some ⟨b, off, none⟩) p.eqs.length c4], .string s, .slice D dn.length dc] W fun r w' => r = .returned (.bool (hasB RD s)) ∧ Below W.heap.size W w' := fun s W h => by
              have h1 := hrdy.out dn hdn.out D dc s W (bel_grow hbw h (by omega)) ((IntsAt.of_own hown.out).later h)
              rw [← hRD] at h1
              exact h1
            have HRD := Lib.hid hRD
            clear hRD
            cases hh : hasB RD q.name
            · have HH := Lib.hid hh
              have hneed := fun W h => needs_all q.e B2 n2 W (s2.later h) hqok
              obtain ⟨cs, hcs⟩ : ∃ cs, cs = clockN L q.name := ⟨_, rfl⟩
              have hnc := needC_eq L q
              rw [← hcs] at hnc
              have HCN := Lib.hid hcs
              have hnl0 := needs_len q.e
              clear hh hcs s1
              unfold exV at hneed
              cases hcse : cs.toList.isEmpty
              · rw [hcse, if_neg (by simp)] at hnc
                have HNEED := Lib.hid hnc
                clear hnc
                go_wp2_with (first
                  | (go_at_call 32; go_loud (refine (hrd1 q.name _ belA).mono ?_; rw [HH.out]; rintro r wy ⟨rfl, hby⟩; have hcy := bcell hby; have hzy : W5.heap.size + 1 ≤ wy.heap.size := (by have := hby.size; simpa using this); have hyy : w.heap.size < wy.heap.size := (by omega); have hyy2 : W5.heap.size < wy.heap.size := (by omega)))
                  | (go_at_call 24; go_loud (refine (hneed _ belA).mono ?_; rintro r wn ⟨⟨vn, rfl, hrow⟩, hbn⟩; obtain ⟨An, cn, rfl, hn1, hn2⟩ := own_slice hrow; have hls := StrsAt.of_own hrow; have hrow5 : wn.ownsRow W5.heap.size 9 1 (.slice An (needsF q.e).length cn) (needsF q.e).length ((needsF q.e).map .string) := own_less hrow (by omega); have hcn := bcell hbn; have hzn := hbn.size; have hyn : w.heap.size < wn.heap.size := (by omega); have hyn2 : W5.heap.size < wn.heap.size := (by omega)))
                  | (go_at_call 31; go_loud (refine (clock16_any L Av cv q.name _ (hva0.later belA)).mono ?_; rw [← HCN.out]; rintro r wc ⟨rfl, hbc⟩; have hcc := bcell hbc; have hzc := hbc.size; have hyc : w.heap.size < wc.heap.size := (by omega); have hyc2 : W5.heap.size < wc.heap.size := (by omega)))
                  | (at_builtin; go_loud (refine wpList_app rfl (.tmp 77) (.tmp 79) 52 rfl W5.heap.size 9 _ 1 16 Tryd.underlying52 strinfo rfl (by omega) (.slice An (needsF q.e).length cn) (needsF q.e).length ((needsF q.e).map .string) _ 1 [.string cs] rfl (own_alloc (own_bel hrow5 hbc)) rfl rfl (fun j u hj => by rw [cell_new]; simpa using hj) (by simp [Value.oneCell']) (by omega) (by omega) (by simp; omega) ?_; intro v9 w9 hown9 hb9; have hz9 := hb9.size; obtain ⟨A9, c9, rfl, hcb1, hcb2⟩ := own_slice hown9)))
                refine wp_name fun W4 hW4 => ?_
                have hb94 : Below w9.heap.size w9 W4 := by rw [hW4]; exact belA
                have hown94 : w9.ownsRow W5.heap.size 9 1 (.slice A9 (needsF q.e ++ [cs]).length c9) (needsF q.e ++ [cs]).length ((needsF q.e ++ [cs]).map .string) := by rw [List.map_append, List.length_append]; exact hown9
                have hnl : StrsAt W4 (needsF q.e ++ [cs]) A9 c9 := (StrsAt.of_own hown94).later hb94
                have hb54 : Below W5.heap.size W5 W4 := by rw [hW4]; exact belA
                clear hb94 hown94 hown9 hb9 hz9 hrow hrow5 hls hbc hcc hzc hyc hyc2 hbn hcn hzn hyn hyn2 hby hcy hzy hyy hyy2 g0 g1 g2 g3 g4 g5 g6 g7 g8 g9 s2 hneed
                have hz54 := hb54.size
                have hz4w : w.heap.size < W4.heap.size := by omega
                have hc54 := bcell hb54
                clear hW4
                go_loopw [12, 13] (fun ok i wr => ∃ (k4 : Nat) (bb : Bool), k4 ≤ ((needsF q.e).length + 1) ∧ i = .int .i64 k4 ∧ ok = .bool bb ∧ Hid (bb = ((needsF q.e ++ [cs]).take k4).all (hasB RD)) ∧ Below W4.heap.size W4 wr) (fun _ i _ => ((needsF q.e).length + 1) - (intOf i).toNat)
                case atStart => exact ⟨0, true, Nat.zero_le _, rfl, rfl, Lib.hid rfl, Below.refl _ _⟩
                case round =>
                  obtain ⟨k4, bb, hk4, rfl, rfl, hbb4, hb4⟩ := hrel
                  have hc4 := bcell hb4
                  have hz4 := hb4.size
                  have hy4 : w.heap.size < wr.heap.size := by omega
                  by_cases hlt4 : k4 < ((needsF q.e).length + 1)
                  · obtain ⟨s4, hx4⟩ : ∃ s, (needsF q.e ++ [cs])[k4]? = some s := ⟨_, List.getElem?_eq_getElem (by first | omega | (simp; omega))⟩
                    obtain ⟨b4, o4, rfl, hbo4, d4⟩ := (hnl.later hb4).get hx4
                    have htk : ((needsF q.e ++ [cs]).take (k4 + 1)).all (hasB RD) = (((needsF q.e ++ [cs]).take k4).all (hasB RD) && hasB RD s4) := by rw [List.take_add_one, hx4, List.all_append]; simp
                    rw [← hbb4.out] at htk
                    clear hx4 hbb4
                    have hrd := hrd1 s4
                    cases bb
                    · rw [Bool.false_and] at htk
                      have HTK := Lib.hid htk.symm
                      clear htk
                      go_wp2_with fail
                      go_quiet (fail)
                      go_wp2_with fail
                      go_roundw
                      case rel => exact ⟨k4 + 1, false, by omega, by go_num, rfl, HTK, belA⟩
                      case measure => simp [intOf]; try omega
                    · rw [Bool.true_and] at htk
                      have HTK := Lib.hid htk.symm
                      clear htk
                      go_wp2_with fail
                      refine wp_region_qb (by kernel_rfl) (by kernel_rfl) (fun hgq => ?_)
                      repeat (quiet_step ((first | (go_at_call 32; exact Calls.regrown_of (hrd _ belA)))))
                      refine wpQuiet_nil ?_
                      intro wq hwq
                      replace hwq := bel_of_class hwq
                      clear hgq
                      have hcq := bcell hwq
                      have hzq := hwq.size
                      (try simp at hzq)
                      (try have hyq1 : w.heap.size < wq.heap.size := by omega); (try have hyq2 : w.heap.size + 1 < wq.heap.size := by omega); (try have hyq3 : w.heap.size + 2 < wq.heap.size := by omega); (try have hyq4 : wr.heap.size < wq.heap.size := by omega)
                      go_wp2_with fail
                      go_roundw
                      case rel => exact ⟨k4 + 1, hasB RD s4, by omega, by go_num, rfl, HTK, belA⟩
                      case measure => simp [intOf]; try omega
                  · obtain rfl : k4 = ((needsF q.e).length + 1) := by omega
                    have hall := hbb4.out
                    rw [List.take_of_length_le (by simp)] at hall
                    clear hbb4
                    have hb0f : Below W0.heap.size W0 wr := (hbel.trans (hb54.mono hzr)).trans (hb4.mono (by omega))
                    have hownf := own_bel (own_bel hown.out hb54) hb4
                    cases bb
                    · have HOWN := Lib.hid hownf
                      clear hall hownf
                      go_wp2_with fail
                      go_roundw
                      case rel => exact ⟨k + 1, D, dc, dn, b0, by omega, by go_num, rfl, rfl, hgt, hge, hdn, HOWN, hb0f⟩
                      case measure => simp [intOf]; try omega
                    · have hdn2 := Lib.hid (hdn.out.snoc (L := L) HX.out (by rw [← HRD.out]; exact HH.out) (by rw [← HRD.out, HNEED.out]; exact hall.symm) HST.out)
                      have hdl2 := hdn.out.len
                      clear hall
                      go_wp2_with (first | (at_builtin; go_loud (refine wpList_app rfl (.tmp 98) (.tmp 100) 54 rfl W0.heap.size 3 _ 1 8 Tryd.underlying54 intinfo rfl (by omega) (.slice D dn.length dc) dn.length (dn.map (.int .i64)) _ 1 [.int .i64 (k : Int)] rfl (own_alloc hownf) rfl rfl (fun j u hj => by rw [cell_new]; simpa using hj) (by simp [Value.oneCell']) (by omega) (by omega) (by simp; omega) ?_; intro v8 w8 hown8 hb8; have hz8 := hb8.size; (try simp at hz8); obtain ⟨A8, c8, rfl, hcb1, hcb2⟩ := own_slice hown8)))
                      go_roundw
                      case rel => exact ⟨k + 1, A8, c8, dn ++ [(k : Int)], true, by omega, by go_num, by simp, rfl, fun _ => by simp; omega, by simp; omega, hdn2, Lib.hid (by rw [List.map_append, List.length_append]; exact hown8), hb0f.trans ((bel_alloc (Below.refl _ _) _).mono (by omega) |>.trans hb8)⟩
                      case measure => simp [intOf]; try omega
              · rw [hcse, if_pos rfl] at hnc
                have HNEED := Lib.hid hnc
                clear hnc
                go_wp2_with (first
                  | (go_at_call 32; go_loud (refine (hrd1 q.name _ belA).mono ?_; rw [HH.out]; rintro r wy ⟨rfl, hby⟩; have hcy := bcell hby; have hzy : W5.heap.size + 1 ≤ wy.heap.size := (by have := hby.size; simpa using this); have hyy : w.heap.size < wy.heap.size := (by omega); have hyy2 : W5.heap.size < wy.heap.size := (by omega)))
                  | (go_at_call 24; go_loud (refine (hneed _ belA).mono ?_; rintro r wn ⟨⟨vn, rfl, hrow⟩, hbn⟩; obtain ⟨An, cn, rfl, hn1, hn2⟩ := own_slice hrow; have hls := StrsAt.of_own hrow; have hrow5 : wn.ownsRow W5.heap.size 9 1 (.slice An (needsF q.e).length cn) (needsF q.e).length ((needsF q.e).map .string) := own_less hrow (by omega); have hcn := bcell hbn; have hzn := hbn.size; have hyn : w.heap.size < wn.heap.size := (by omega); have hyn2 : W5.heap.size < wn.heap.size := (by omega)))
                  | (go_at_call 31; go_loud (refine (clock16_any L Av cv q.name _ (hva0.later belA)).mono ?_; rw [← HCN.out]; rintro r wc ⟨rfl, hbc⟩; have hcc := bcell hbc; have hzc := hbc.size; have hyc : w.heap.size < wc.heap.size := (by omega); have hyc2 : W5.heap.size < wc.heap.size := (by omega)))
                  | fail)
                refine wp_name fun W4 hW4 => ?_
                have hb94 : Below wc.heap.size wc W4 := by rw [hW4]; exact belA
                have hnl : StrsAt W4 (needsF q.e) An cn := (hls.later hbc).later hb94
                have hb54 : Below W5.heap.size W5 W4 := by rw [hW4]; exact belA
                clear hb94 hrow hrow5 hls hbc hcc hzc hyc hyc2 hbn hcn hzn hyn hyn2 hby hcy hzy hyy hyy2 g0 g1 g2 g3 g4 g5 g6 g7 g8 g9 s2 hneed
                have hz54 := hb54.size
                have hz4w : w.heap.size < W4.heap.size := by omega
                have hc54 := bcell hb54
                clear hW4
                go_loopw [12, 13] (fun ok i wr => ∃ (k4 : Nat) (bb : Bool), k4 ≤ (needsF q.e).length ∧ i = .int .i64 k4 ∧ ok = .bool bb ∧ Hid (bb = ((needsF q.e).take k4).all (hasB RD)) ∧ Below W4.heap.size W4 wr) (fun _ i _ => (needsF q.e).length - (intOf i).toNat)
                case atStart => exact ⟨0, true, Nat.zero_le _, rfl, rfl, Lib.hid rfl, Below.refl _ _⟩
                case round =>
                  obtain ⟨k4, bb, hk4, rfl, rfl, hbb4, hb4⟩ := hrel
                  have hc4 := bcell hb4
                  have hz4 := hb4.size
                  have hy4 : w.heap.size < wr.heap.size := by omega
                  by_cases hlt4 : k4 < (needsF q.e).length
                  · obtain ⟨s4, hx4⟩ : ∃ s, (needsF q.e)[k4]? = some s := ⟨_, List.getElem?_eq_getElem (by first | omega | (simp; omega))⟩
                    obtain ⟨b4, o4, rfl, hbo4, d4⟩ := (hnl.later hb4).get hx4
                    have htk : ((needsF q.e).take (k4 + 1)).all (hasB RD) = (((needsF q.e).take k4).all (hasB RD) && hasB RD s4) := by rw [List.take_add_one, hx4, List.all_append]; simp
                    rw [← hbb4.out] at htk
                    clear hx4 hbb4
                    have hrd := hrd1 s4
                    cases bb
                    · rw [Bool.false_and] at htk
                      have HTK := Lib.hid htk.symm
                      clear htk
                      go_wp2_with fail
                      go_quiet (fail)
                      go_wp2_with fail
                      go_roundw
                      case rel => exact ⟨k4 + 1, false, by omega, by go_num, rfl, HTK, belA⟩
                      case measure => simp [intOf]; try omega
                    · rw [Bool.true_and] at htk
                      have HTK := Lib.hid htk.symm
                      clear htk
                      go_wp2_with fail
                      refine wp_region_qb (by kernel_rfl) (by kernel_rfl) (fun hgq => ?_)
                      repeat (quiet_step ((first | (go_at_call 32; exact Calls.regrown_of (hrd _ belA)))))
                      refine wpQuiet_nil ?_
                      intro wq hwq
                      replace hwq := bel_of_class hwq
                      clear hgq
                      have hcq := bcell hwq
                      have hzq := hwq.size
                      (try simp at hzq)
                      (try have hyq1 : w.heap.size < wq.heap.size := by omega); (try have hyq2 : w.heap.size + 1 < wq.heap.size := by omega); (try have hyq3 : w.heap.size + 2 < wq.heap.size := by omega); (try have hyq4 : wr.heap.size < wq.heap.size := by omega)
                      go_wp2_with fail
                      go_roundw
                      case rel => exact ⟨k4 + 1, hasB RD s4, by omega, by go_num, rfl, HTK, belA⟩
                      case measure => simp [intOf]; try omega
                  · obtain rfl : k4 = (needsF q.e).length := by omega
                    have hall := hbb4.out
                    rw [List.take_of_length_le (by simp)] at hall
                    clear hbb4
                    have hb0f : Below W0.heap.size W0 wr := (hbel.trans (hb54.mono hzr)).trans (hb4.mono (by omega))
                    have hownf := own_bel (own_bel hown.out hb54) hb4
                    cases bb
                    · have HOWN := Lib.hid hownf
                      clear hall hownf
                      go_wp2_with fail
                      go_roundw
                      case rel => exact ⟨k + 1, D, dc, dn, b0, by omega, by go_num, rfl, rfl, hgt, hge, hdn, HOWN, hb0f⟩
                      case measure => simp [intOf]; try omega
                    · have hdn2 := Lib.hid (hdn.out.snoc (L := L) HX.out (by rw [← HRD.out]; exact HH.out) (by rw [← HRD.out, HNEED.out]; exact hall.symm) HST.out)
                      have hdl2 := hdn.out.len
                      clear hall
                      go_wp2_with (first | (at_builtin; go_loud (refine wpList_app rfl (.tmp 98) (.tmp 100) 54 rfl W0.heap.size 3 _ 1 8 Tryd.underlying54 intinfo rfl (by omega) (.slice D dn.length dc) dn.length (dn.map (.int .i64)) _ 1 [.int .i64 (k : Int)] rfl (own_alloc hownf) rfl rfl (fun j u hj => by rw [cell_new]; simpa using hj) (by simp [Value.oneCell']) (by omega) (by omega) (by simp; omega) ?_; intro v8 w8 hown8 hb8; have hz8 := hb8.size; (try simp at hz8); obtain ⟨A8, c8, rfl, hcb1, hcb2⟩ := own_slice hown8)))
                      go_roundw
                      case rel => exact ⟨k + 1, A8, c8, dn ++ [(k : Int)], true, by omega, by go_num, by simp, rfl, fun _ => by simp; omega, by simp; omega, hdn2, Lib.hid (by rw [List.map_append, List.length_append]; exact hown8), hb0f.trans ((bel_alloc (Below.refl _ _) _).mono (by omega) |>.trans hb8)⟩
                      case measure => simp [intOf]; try omega
            · have HH := Lib.hid hh
              clear hh
              go_wp2_with (first | (go_at_call 32; go_loud (refine (hrd1 q.name _ belA).mono ?_; rw [HH.out]; rintro r wy ⟨rfl, hby⟩)))
              go_roundw
              case rel => exact ⟨k + 1, D, dc, dn, b0, by omega, by go_num, rfl, rfl, hgt, hge, hdn, Lib.hid (own_bel (own_alloc hown.out) hby), belA⟩
              case measure => simp [intOf]; try omega
          · go_wp2_with fail
            go_roundw
            case rel => exact ⟨k + 1, D, dc, dn, b0, by omega, by go_num, rfl, rfl, hgt, hge, hdn, Lib.hid (own_alloc hown.out), belA⟩
            case measure => simp [intOf]; try omega
        · obtain rfl : k = p.eqs.length := by omega
          have hdl := hdn.out.len
          go_wp2_with fail
          go_roundw
          case rel => exact ⟨D, dc, dn, b0, rfl, rfl, hdn, hown, hbel⟩
          case measure =>
            cases b0
            · simp [sliceLen, boolN]; try omega
            · have := hgt rfl
              simp [sliceLen, boolN]; try omega

end Go.Proofs.YtlfklfjnkpjooaaDoor

/- The law OrderCycles answers true for every program. -/
namespace Go.Proofs.YtlfklfjnkpjooaaDoor
open Go.RowKit Go.Sort

theorem orderCycles_any (p : Pr) (a : PrA) (w : World) (hg : Always w) (hp : PrAt w p a) (hok : PrOK p) :
    Calls Tryd.prog 10 #[prV p a] w fun r w' => r = .returned (.bool true) ∧ Below w.heap.size w w' := by
  by_cases hck : clkF p = (0, 0, 0)
  · rcases orderR_cases (clkF_parts hck).1 with ⟨res, h1, h2, h3⟩ | ⟨out, m, q, h1, h2, h3, h4, h5⟩
    · exact cycles_other p a w hg hp hok res 0 0 0 (by unfold orderE; rw [if_pos hck]; exact h1) (by decide)
    · exact cycles_cycle p a w hg hp hok m q (readyE p ++ out.map (nameAt p.eqs)) (by unfold orderE; rw [if_pos hck]; exact h1) h2 h3 h4 (fun s hs => List.mem_append.2 (.inl hs)) h5
  · exact cycles_other p a w hg hp hok [] (clkF p).1 (clkF p).2.1 (clkF p).2.2 (by unfold orderE; rw [if_neg hck]) (clkF_code p)
end Go.Proofs.YtlfklfjnkpjooaaDoor
