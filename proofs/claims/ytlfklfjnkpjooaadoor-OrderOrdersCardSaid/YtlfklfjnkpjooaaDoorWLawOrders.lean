/- Walk over the law OrderOrders: it answers true. -/
import Derived.Test.YtlfklfjnkpjooaaDoorBU
import Derived.Test.YtlfklfjnkpjooaaDoorBJ
import Derived.Test.YtlfklfjnkpjooaaDoorWRefSame
import Derived.Test.YtlfklfjnkpjooaaDoorBY
import Derived.WalkKit
import Derived.WalkSpells
import Derived.WalkLawsBesides
import Derived.Deep.QuietTactic
import Derived.BigQuiet
import Derived.Deep.Draws
import Derived.Lib.Hide
import Derived.Deep.LoopGhost
import Derived.StillTailTactics
import Derived.Deep.RegionHeld3
import Derived.Deep.RegionWith
import Derived.Lib.QuietBelow
set_option linter.unusedVariables false
set_option linter.unusedSimpArgs false
set_option maxRecDepth 100000
namespace Go.Proofs.YtlfklfjnkpjooaaDoor
open Go.RowKit Go.Sort

set_option maxHeartbeats 8000000 in
theorem orderOrders_any (p : Pr) (a : PrA) (w : World) (hg : Always w) (hp : PrAt w p a) (hok : PrOK p) :
    Calls Tryd.prog 8 #[prV p a] w fun r w' => r = .returned (.bool true) ∧ Below w.heap.size w w' := by
  have hlight := fun W h => lightS_any p a W (hp.later h)
  have hlent := Lib.hid (fun (n1 : p.ins.length ≤ 1000000) (n2 : p.outs.length ≤ 1000000) (n3 : p.locals.length ≤ 1000000) (n4 : p.eqs.length ≤ 1000000) (n5 : ∀ q ∈ p.eqs, q.first.size ≤ 1000000 ∧ q.e.size ≤ 1000000) W (h : Below w.heap.size w W) => lent_any p a W (hp.later h) n1 n2 n3 n4 n5)
  have hror := Lib.hid (fun (n1 : p.ins.length ≤ 1000000) (n2 : p.outs.length ≤ 1000000) (n3 : p.locals.length ≤ 1000000) (n4 : p.eqs.length ≤ 1000000) W (h : Below w.heap.size w W) => rorder_any p a W (hp.later h) hok n1 n2 n3 n4)
  have hord := Lib.hid (fun (a' : PrA) (wt : World) (hbt : Below w.heap.size w wt) (hpt : PrAt wt p a') (n1 : p.ins.length ≤ 1000000) (n2 : p.outs.length ≤ 1000000) (n3 : p.locals.length ≤ 1000000) (n4 : p.eqs.length ≤ 1000000) W (h : Below wt.heap.size wt W) => order_any p a' W ((hg.later hbt).later h) (hpt.later h) hok n1 n2 n3 n4)
  have hsam := Lib.hid (fun (a' : PrA) (wt : World) (hbt : Below w.heap.size w wt) (hpt : PrAt wt p a') W (h : Below wt.heap.size wt W) => same_self p a' a W (hpt.later h) ((hp.later hbt).later h))
  have hkn := fun W h => known16_any W (hg.later h)
  have hgm : Tryd.prog.eqGuardType Tryd.prog.depth 31 = false := by kernel_rfl
  clear hg hp hok
  obtain ⟨A1, c1, A2, c2, A3, c3, A4, c4⟩ := a
  unfold prV fV at *
  dsimp only at *
  generalize orderE p = O at *
  obtain ⟨l, f1, f2, f3⟩ := O
  dsimp only at *
  have hfq := fun w => eqFaultSelf16 f1 f2 f3 w
  have hints := fun A cap B capb W hl hm => ints_any l l A cap B capb W hl hm
  rw [show (l == l) = true from by simp] at hints
  go_enter Tryd.func8, Tryd.ntmps8
  go_wp2_with (first
    | (go_at_call 12; go_loud (refine (hlight _ belA).mono ?_; rintro r wl ⟨⟨bl, rfl, hlb⟩, hbl⟩; have hcl := bcell hbl; have hzl := hbl.size; (try simp at hzl); have hyl : w.heap.size < wl.heap.size := (by omega); cases bl))
    | (go_at_call 14; go_loud (have n1 : p.ins.length ≤ 1000000 := (by have := hlb (by trivial); omega); have n2 : p.outs.length ≤ 1000000 := (by have := hlb (by trivial); omega); have n3 : p.locals.length ≤ 1000000 := (by have := hlb (by trivial); omega); have n4 : p.eqs.length ≤ 1000000 := (by have := hlb (by trivial); omega); refine (hlent.out n1 n2 n3 n4 (hlb (by trivial)).2.2.2.2 _ belA).mono ?_; rintro r wt ⟨⟨⟨B1, k1, B2, k2, B3, k3, B4, k4⟩, rfl, hpt⟩, hbt⟩; have hct := bcell hbt; have hft := bfrozen hbt; have hzt := hbt.size; have hyt : w.heap.size < wt.heap.size := (by omega); have hbw : Below w.heap.size w wt := belA; have hord' := hord.out _ wt hbw hpt n1 n2 n3 n4; have hsam' := hsam.out _ wt hbw hpt; have hror' := hror.out n1 n2 n3 n4; clear hord hsam hror hlent hlight))
    | (go_at_call 27; go_loud (refine (hord' _ belA).mono ?_; rintro r wo ⟨⟨vo, rfl, hrow⟩, hbo⟩; obtain ⟨Ao, co, rfl, ho1, ho2⟩ := own_slice hrow; have hio := IntsAt.of_own hrow; have hco := bcell hbo; have hfo := bfrozen hbo; have hzo : wt.heap.size + 1 ≤ wo.heap.size := (by have := hbo.size; simpa using this); have hyo : w.heap.size < wo.heap.size := (by omega); have hyo2 : wt.heap.size < wo.heap.size := (by omega); clear hrow))
    | (go_at_call 28; go_loud (refine (hror' _ belA).mono ?_; rintro r wq ⟨⟨vq, rfl, hrow⟩, hbq⟩; obtain ⟨Aq, cq, rfl, hq1, hq2⟩ := own_slice hrow; have hiq := IntsAt.of_own hrow; have hcq := bcell hbq; have hfq2 := bfrozen hbq; have hzq : wo.heap.size + 1 ≤ wq.heap.size := (by have := hbq.size; simpa using this); have hyq : w.heap.size < wq.heap.size := (by omega); have hyq2 : wt.heap.size < wq.heap.size := (by omega); have hyq3 : wo.heap.size < wq.heap.size := (by omega); clear hrow))
    | (go_at_call 29; go_loud (refine (hints _ _ _ _ _ (hio.later belA) (hiq.later belA)).mono ?_; rintro r wi ⟨rfl, hbi⟩; have hci := bcell hbi; have hzi : wq.heap.size + 1 ≤ wi.heap.size := (by have := hbi.size; simpa using this); have hyi : w.heap.size < wi.heap.size := (by omega); have hyi2 : wt.heap.size < wi.heap.size := (by omega); have hyi3 : wo.heap.size < wi.heap.size := (by omega); have hyi4 : wq.heap.size < wi.heap.size := (by omega)))
    | (go_at_call 17; go_loud (refine (hsam' _ belA).mono ?_; rintro r ws ⟨rfl, hbs⟩; have hcs := bcell hbs; have hzs := hbs.size))
    | (go_at_call 25; refine (hkn _ belA).mono ?_; rintro r wn ⟨rfl, hbn⟩; have hcn := bcell hbn; have hzn := hbn.size))
  all_goals
    go_ret
    exact ⟨rfl, belA⟩

end Go.Proofs.YtlfklfjnkpjooaaDoor
