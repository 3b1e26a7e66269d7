/- start's and the reference's Loose, start's Check, of any program. -/
import Derived.Test.YtlfklfjnkpjooaaDoorCB
import Derived.Test.YtlfklfjnkpjooaaDoorWSta8
import Derived.WalkKit
import Derived.WalkSpells
import Derived.WalkLawsBesides
import Derived.Deep.QuietTactic
import Derived.BigQuiet
import Derived.Deep.Draws
import Derived.Lib.Hide
import Derived.Deep.LoopGhost
import Derived.StillTailTactics
import Derived.Deep.RegionHeld3
import Derived.Deep.RegionWith
import Derived.Lib.QuietBelow
import Derived.Test.YtlfklfjnkpjooaaDoorBU
import Derived.Test.YtlfklfjnkpjooaaDoorBJ
import Derived.Test.YtlfklfjnkpjooaaDoorWRefSame
import Derived.Test.YtlfklfjnkpjooaaDoorBY
set_option linter.unusedVariables false
set_option linter.unusedSimpArgs false
set_option maxRecDepth 100000
namespace Go.Proofs.YtlfklfjnkpjooaaDoor
open Go.RowKit Go.Sort

/-- A slice of truths. -/
def BoolsAt (w : World) (l : List Bool) (A : Option Addr) (cap : Nat) : Prop :=
  l.length ≤ cap ∧ cap ≤ maxLen ∧ (0 < l.length → ∃ b off, A = some ⟨b, off, none⟩ ∧ ∀ (k : Nat) (x : Bool), l[k]? = some x → w.cell? ⟨b, off + k, none⟩ = some (.bool x))
theorem BoolsAt.later {w w' : World} {l : List Bool} {A : Option Addr} {cap : Nat} (h : BoolsAt w l A cap) (hb : Below w.heap.size w w') : BoolsAt w' l A cap :=
  ⟨h.1, h.2.1, fun hl => by
    obtain ⟨b, off, hA, hr⟩ := h.2.2 hl
    exact ⟨b, off, hA, fun k s hk => bel_cell hb (hr k s hk)⟩⟩
theorem BoolsAt.drewN {w : World} {l : List Bool} {A : Option Addr} {cap : Nat} (h : BoolsAt w l A cap) (n : Nat) : BoolsAt (w.drewN n) l A cap := h.later (bel_drewN (Below.refl _ _) n)
theorem BoolsAt.get {w : World} {l : List Bool} {A : Option Addr} {cap k : Nat} {x : Bool} (h : BoolsAt w l A cap) (hk : l[k]? = some x) : ∃ b off, A = some ⟨b, off, none⟩ ∧ b < w.heap.size ∧ w.cell? ⟨b, off + k, none⟩ = some (.bool x) := by
  have hlt : k < l.length := (List.getElem?_eq_some_iff.1 hk).1
  obtain ⟨b, off, hA, hr⟩ := h.2.2 (by omega)
  exact ⟨b, off, hA, block_lt_of_cell (hr k x hk), hr k x hk⟩
theorem BoolsAt.of_own {w : World} {base : Nat} {e : TypeId} {l : List Bool} {A : Option Addr} {cap : Nat} (h : w.ownsRow base e 1 (.slice A l.length cap) l.length (l.map .bool)) : BoolsAt w l A cap := by
  rcases Nat.eq_zero_or_pos l.length with h0 | h0
  · obtain ⟨A', c', hv, h1, h2⟩ := own_slice h
    injection hv with e1 e2 e3
    subst e3
    exact ⟨h1, h2, fun hl => absurd hl (by omega)⟩
  · obtain ⟨g, c', hv, _, _, h1, h2, hc⟩ := own_get h h0
    injection hv with e1 e2 e3
    subst e1 e3
    refine ⟨h1, h2, fun _ => ⟨g, 0, rfl, fun k s hk => ?_⟩⟩
    rw [Nat.zero_add]
    exact hc k _ (by simp [hk])

theorem orderE_E {p : Pr} (h : (orderE p).2 ≠ (0, 0, 0)) : (orderE p).2.2.2 ≠ 0 := by
  unfold orderE at h ⊢
  by_cases hck : clkF p = (0, 0, 0)
  · rw [if_pos hck] at h ⊢
    rcases orderR_cases (clkF_parts hck).1 with ⟨res, h1, _⟩ | ⟨out, m, q, h1, _⟩
    · rw [h1] at h
      exact absurd rfl h
    · rw [h1]
      show (22 : Int) ≠ 0
      decide
  · rw [if_neg hck]
    exact clk_E hck
theorem loose_any (p : Pr) (a : PrA) (w : World) (hg : Always w) (hp : PrAt w p a) (hok : PrOK p) (n1 : p.ins.length ≤ 1000000) (n2 : p.outs.length ≤ 1000000) (n3 : p.locals.length ≤ 1000000) (n4 : p.eqs.length ≤ 1000000) :
    Calls Tryd.prog 34 #[prV p a] w fun r w' => (∃ v, r = .returned (.tuple #[v, fV (orderE p).2]) ∧ w'.ownsRow w.heap.size 4 1 v (looseV p).length ((looseV p).map .bool)) ∧ Below w.heap.size w w' := by
  by_cases hO : (orderE p).2 = (0, 0, 0)
  · have h := loose_clean p a w hg hp hok n1 n2 n3 n4 hO
    rw [hO]
    exact h
  · refine (loose_fault p a w hg hp hok n1 n2 n3 n4 hO).mono ?_
    rintro r w' ⟨rfl, hb⟩
    rw [show looseV p = [] by unfold looseV; rw [if_neg hO]]
    exact ⟨⟨.slice none 0 0, rfl, World.ownsRow_nil _ _ _ _⟩, hb⟩
theorem rloose_any (p : Pr) (a : PrA) (w : World) (hp : PrAt w p a) (hok : PrOK p) (n1 : p.ins.length ≤ 1000000) (n2 : p.outs.length ≤ 1000000) (n3 : p.locals.length ≤ 1000000) (n4 : p.eqs.length ≤ 1000000) :
    Calls Tryd.prog 35 #[prV p a] w fun r w' => (∃ v, r = .returned (.tuple #[v, fV (orderE p).2]) ∧ w'.ownsRow w.heap.size 4 1 v (looseV p).length ((looseV p).map .bool)) ∧ Below w.heap.size w w' := by
  by_cases hO : (orderE p).2 = (0, 0, 0)
  · have h := rloose_clean p a w hp hok n1 n2 n3 n4 hO
    rw [hO]
    exact h
  · refine (rloose_fault p a w hp hok n1 n2 n3 n4 (orderE_E hO)).mono ?_
    rintro r w' ⟨rfl, hb⟩
    rw [show looseV p = [] by unfold looseV; rw [if_neg hO]]
    exact ⟨⟨.slice none 0 0, rfl, World.ownsRow_nil _ _ _ _⟩, hb⟩
theorem scheck_any (p : Pr) (a : PrA) (w : World) (hg : Always w) (hp : PrAt w p a) (hok : PrOK p) (n1 : p.ins.length ≤ 1000000) (n2 : p.outs.length ≤ 1000000) (n3 : p.locals.length ≤ 1000000) (n4 : p.eqs.length ≤ 1000000) :
    Calls Tryd.prog 57 #[prV p a] w fun r w' => r = .returned (fV (startF p)) ∧ Below w.heap.size w w' := by
  by_cases hO : (orderE p).2 = (0, 0, 0)
  · exact scheck_clean p a w hg hp hok n1 n2 n3 n4 hO
  · have h := scheck_fault p a w hg hp hok n1 n2 n3 n4 hO
    rw [show startF p = (orderE p).2 by unfold startF; rw [if_neg hO]]
    exact h
end Go.Proofs.YtlfklfjnkpjooaaDoor

/- Walk over the law's fixed calls (known) of the start. -/
namespace Go.Proofs.YtlfklfjnkpjooaaDoor
open Go.RowKit Go.Sort

/-- The fixed program; e: what its equation says. -/
def pN (e : Ex) : Pr := ⟨⟨#[102]⟩, [], [], [vK ⟨#[110]⟩], [⟨⟨#[110]⟩, 2, zE, e⟩]⟩
def nE : Ex := .mk 1 0 ⟨#[]⟩ []
theorem known17a : (orderE (pN nE)).2 = (0, 0, 0) := by decide +kernel
theorem known17b : looseV (pN nE) = [true] := by decide +kernel
theorem known17c : startF (pN nE) = (0, 0, 0) := by decide +kernel
theorem known17d : startF (pN (eK ⟨#[110]⟩)) = (3, 0, 23) := by decide +kernel
theorem ok_known17 (e : Ex) (he : e.OK) : PrOK (pN e) := by
  have h1 : ∀ c, (⟨#[c]⟩ : ByteArray).size ≤ maxLen := fun c => by unfold maxLen; show 1 ≤ _; omega
  have h0 : (⟨#[]⟩ : ByteArray).size ≤ maxLen := by unfold maxLen; show 0 ≤ _; omega
  have i0 : I64 0 := by unfold I64; omega
  have i1 : I64 1 := by unfold I64; omega
  have i2 : I64 2 := by unfold I64; omega
  refine ⟨h1 _, fun v hv' => by simp [pN] at hv', fun v hv' => by simp [pN] at hv', fun v hv' => ?_, fun q hq => ?_⟩
  · obtain rfl : v = vK ⟨#[110]⟩ := by simpa [pN] using hv'
    exact ⟨h1 _, i1, i0, h0⟩
  · obtain rfl : q = ⟨⟨#[110]⟩, 2, zE, e⟩ := by simpa [pN] using hq
    exact ⟨h1 _, i2, ok_ex _ _ i0 h0, he⟩
theorem eqs_one {W : World} {b : Nat} {k : Int} {s : ByteArray} (c0 : W.cell? ⟨b, 0, none⟩ = some (.string ⟨#[110]⟩)) (c1 : W.cell? ⟨b, 1, none⟩ = some (.int .i64 2)) (c2 : W.cell? ⟨b, 2, none⟩ = some (.int .i64 0)) (c3 : W.cell? ⟨b, 3, none⟩ = some (.int .i32 0)) (c4 : W.cell? ⟨b, 4, none⟩ = some (.string ⟨#[]⟩)) (c5 : W.cell? ⟨b, 5, none⟩ = some (.slice none 0 0)) (c6 : W.cell? ⟨b, 6, none⟩ = some (.int .i64 k)) (c7 : W.cell? ⟨b, 7, none⟩ = some (.int .i32 0)) (c8 : W.cell? ⟨b, 8, none⟩ = some (.string s)) (c9 : W.cell? ⟨b, 9, none⟩ = some (.slice none 0 0)) : EqsAt W [⟨⟨#[110]⟩, 2, zE, .mk k 0 s []⟩] (some ⟨b, 0, none⟩) 1 := by
  refine ⟨Nat.le_refl _, by unfold maxLen; omega, fun _ => ⟨b, 0, rfl, fun j q hj => ?_⟩⟩
  match j with
  | 0 => obtain rfl : (⟨⟨#[110]⟩, 2, zE, .mk k 0 s []⟩ : Qe) = q := by simpa using hj
         exact ⟨none, 0, none, 0, c0, c1, c2, c3, c4, c5, c6, c7, c8, c9, subs_nil _ _ _ _, subs_nil _ _ _ _⟩
  | j + 1 => simp at hj

set_option maxHeartbeats 4000000 in
theorem known17_any (w : World) (hg : Always w) : Calls Tryd.prog 33 #[] w fun r w' => r = .returned (.bool true) ∧ Below w.heap.size w w' := by
  have hs0 : (⟨#[]⟩ : ByteArray).size ≤ maxLen := by unfold maxLen; show 0 ≤ _; omega
  have hs1 : (⟨#[110]⟩ : ByteArray).size ≤ maxLen := by unfold maxLen; show 1 ≤ _; omega
  have i1 : I64 1 := by unfold I64; omega
  have i3 : I64 3 := by unfold I64; omega
  have h1 := fun A3 A4 W hg hp => loose_any (pN nE) ⟨none, 0, none, 0, A3, 1, A4, 1⟩ W hg hp (ok_known17 _ (ok_ex _ _ i1 hs0)) (by simp [pN]) (by simp [pN]) (by simp [pN]) (by simp [pN])
  have h2 := fun A3 A4 W hg hp => scheck_any (pN nE) ⟨none, 0, none, 0, A3, 1, A4, 1⟩ W hg hp (ok_known17 _ (ok_ex _ _ i1 hs0)) (by simp [pN]) (by simp [pN]) (by simp [pN]) (by simp [pN])
  have h3 := fun A3 A4 W hg hp => scheck_any (pN (eK ⟨#[110]⟩)) ⟨none, 0, none, 0, A3, 1, A4, 1⟩ W hg hp (ok_known17 _ (ok_ex _ _ i3 hs1)) (by simp [pN]) (by simp [pN]) (by simp [pN]) (by simp [pN])
  rw [known17a, known17b] at h1
  rw [known17c] at h2
  rw [known17d] at h3
  unfold prV fV at h1 h2 h3
  dsimp only [pN, nE, eK, Ex.kind, Ex.n, Ex.name, Ex.sub, List.length_cons, List.length_nil, List.map_cons, List.map_nil] at h1 h2 h3
  have hfq1 := fun w => eqFaultSelf16 0 0 0 w
  have hfq2 := fun w => eqFaultSelf16 3 0 23 w
  have hgm : Tryd.prog.eqGuardType Tryd.prog.depth 31 = false := by kernel_rfl
  clear hs0 hs1 i1 i3
  go_enter Tryd.func33, Tryd.ntmps33
  go_wp2_with (first
    | (go_at_call 34; go_loud (refine (h1 _ _ _ (hg.later belA) ⟨vars_nil _, vars_nil _, vars_one (by go_simp) (by go_simp) (by go_simp) (by go_simp), eqs_one (by go_simp) (by go_simp) (by go_simp) (by go_simp) (by go_simp) (by go_simp) (by go_simp) (by go_simp) (by go_simp) (by go_simp)⟩).mono ?_; rintro r w1 ⟨⟨v1, rfl, hv1⟩, hb1⟩; obtain ⟨g, cg, rfl, hgb, hgl, hgn, hgm2, hgc⟩ := own_get hv1 (by decide); have d0 := hgc 0 (.bool true) rfl; clear hgc hv1; have hc1 := bcell hb1; have hf1 := bfrozen hb1; have hz1 := hb1.size; (try simp at hz1); (simp at hgb); have ya0 : w.heap.size < w1.heap.size := (by omega); have ya1 : w.heap.size + 1 < w1.heap.size := (by omega); have ya2 : w.heap.size + 1 + 1 < w1.heap.size := (by omega); have ya3 : w.heap.size + 1 + 1 + 1 < w1.heap.size := (by omega)))
    | (go_at_call 57; have hbX := hb2; clear hbX; go_loud (refine (h3 _ _ _ (hg.later (by (repeat refine bel_drew ?_); repeat (first | exact Below.refl _ _ | (with_reducible assumption) | refine bel_trans ?_ (by with_reducible assumption) | refine Below.setCell ?_ (by simp <;> omega) _ | refine bel_alloc ?_ _ | refine bel_drew ?_ | refine bel_grow ?_ (by with_reducible assumption) (by omega)))) ⟨vars_nil _, vars_nil _, vars_one (by go_simp) (by go_simp) (by go_simp) (by go_simp), eqs_one (by go_simp) (by go_simp) (by go_simp) (by go_simp) (by go_simp) (by go_simp) (by go_simp) (by go_simp) (by go_simp) (by go_simp)⟩).mono ?_; rintro r w3 ⟨rfl, hb3⟩; have hc3 := bcell hb3; have hz3 := hb3.size; (try simp at hz3)))
    | (go_at_call 57; go_loud (refine (h2 _ _ _ (hg.later belA) ⟨vars_nil _, vars_nil _, vars_one (by go_simp) (by go_simp) (by go_simp) (by go_simp), eqs_one (by go_simp) (by go_simp) (by go_simp) (by go_simp) (by go_simp) (by go_simp) (by go_simp) (by go_simp) (by go_simp) (by go_simp)⟩).mono ?_; rintro r w2 ⟨rfl, hb2⟩; have hc2 := bcell hb2; have hf2 := bfrozen hb2; have hz2 := hb2.size; (try simp at hz2); have hx2 : w1.heap.size < w2.heap.size := (by omega); have hgz2 : g < w2.heap.size := (by omega); have hgne : ¬ g = w.heap.size + 1 + 1 := (by omega); have hgz3 : g < w1.heap.size + 1 := (by omega); have yb0 : w.heap.size < w2.heap.size := (by omega); have yb1 : w.heap.size + 1 < w2.heap.size := (by omega); have yb2 : w.heap.size + 1 + 1 < w2.heap.size := (by omega); have yb3 : w.heap.size + 1 + 1 + 1 < w2.heap.size := (by omega); have yc0 : w.heap.size < w1.heap.size + 1 := (by omega); have yc1 : w.heap.size + 1 < w1.heap.size + 1 := (by omega); have yc2 : w.heap.size + 1 + 1 < w1.heap.size + 1 := (by omega); have yc3 : w.heap.size + 1 + 1 + 1 < w1.heap.size + 1 := (by omega))))
  go_ret
  exact ⟨rfl, (by (repeat refine bel_drew ?_); repeat (first | exact Below.refl _ _ | (with_reducible assumption) | refine bel_trans ?_ (by with_reducible assumption) | refine Below.setCell ?_ (by simp <;> omega) _ | refine bel_alloc ?_ _ | refine bel_drew ?_ | refine bel_grow ?_ (by with_reducible assumption) (by omega)))⟩

end Go.Proofs.YtlfklfjnkpjooaaDoor

/- Walk over the law StartLooses: it answers true. -/
namespace Go.Proofs.YtlfklfjnkpjooaaDoor
open Go.RowKit Go.Sort

set_option maxHeartbeats 8000000 in
theorem startLooses_any (p : Pr) (a : PrA) (w : World) (hg : Always w) (hp : PrAt w p a) (hok : PrOK p) :
    Calls Tryd.prog 11 #[prV p a] w fun r w' => r = .returned (.bool true) ∧ Below w.heap.size w w' := by
  have hlight := fun W h => lightS_any p a W (hp.later h)
  have hlent := Lib.hid (fun (n1 : p.ins.length ≤ 1000000) (n2 : p.outs.length ≤ 1000000) (n3 : p.locals.length ≤ 1000000) (n4 : p.eqs.length ≤ 1000000) (n5 : ∀ q ∈ p.eqs, q.first.size ≤ 1000000 ∧ q.e.size ≤ 1000000) W (h : Below w.heap.size w W) => lent_any p a W (hp.later h) n1 n2 n3 n4 n5)
  have hror := Lib.hid (fun (n1 : p.ins.length ≤ 1000000) (n2 : p.outs.length ≤ 1000000) (n3 : p.locals.length ≤ 1000000) (n4 : p.eqs.length ≤ 1000000) W (h : Below w.heap.size w W) => rloose_any p a W (hp.later h) hok n1 n2 n3 n4)
  have hord := Lib.hid (fun (a' : PrA) (wt : World) (hbt : Below w.heap.size w wt) (hpt : PrAt wt p a') (n1 : p.ins.length ≤ 1000000) (n2 : p.outs.length ≤ 1000000) (n3 : p.locals.length ≤ 1000000) (n4 : p.eqs.length ≤ 1000000) W (h : Below wt.heap.size wt W) => loose_any p a' W ((hg.later hbt).later h) (hpt.later h) hok n1 n2 n3 n4)
  have hsam := Lib.hid (fun (a' : PrA) (wt : World) (hbt : Below w.heap.size w wt) (hpt : PrAt wt p a') W (h : Below wt.heap.size wt W) => same_self p a' a W (hpt.later h) ((hp.later hbt).later h))
  have hkn := fun W h => known17_any W (hg.later h)
  have hgm : Tryd.prog.eqGuardType Tryd.prog.depth 31 = false := by kernel_rfl
  clear hg hp hok
  obtain ⟨A1, c1, A2, c2, A3, c3, A4, c4⟩ := a
  unfold prV fV at *
  dsimp only at *
  generalize (orderE p).2 = O at *
  obtain ⟨f1, f2, f3⟩ := O
  generalize looseV p = V at *
  dsimp only at *
  have hfq := fun w => eqFaultSelf16 f1 f2 f3 w
  go_enter Tryd.func11, Tryd.ntmps11
  go_wp2_with (first
    | (go_at_call 12; go_loud (refine (hlight _ belA).mono ?_; rintro r wl ⟨⟨bl, rfl, hlb⟩, hbl⟩; have hcl := bcell hbl; have hzl := hbl.size; (try simp at hzl); have hyl : w.heap.size < wl.heap.size := (by omega); cases bl))
    | (go_at_call 14; go_loud (have n1 : p.ins.length ≤ 1000000 := (by have := hlb (by trivial); omega); have n2 : p.outs.length ≤ 1000000 := (by have := hlb (by trivial); omega); have n3 : p.locals.length ≤ 1000000 := (by have := hlb (by trivial); omega); have n4 : p.eqs.length ≤ 1000000 := (by have := hlb (by trivial); omega); refine (hlent.out n1 n2 n3 n4 (hlb (by trivial)).2.2.2.2 _ belA).mono ?_; rintro r wt ⟨⟨⟨B1, k1, B2, k2, B3, k3, B4, k4⟩, rfl, hpt⟩, hbt⟩; have hct := bcell hbt; have hft := bfrozen hbt; have hzt := hbt.size; have hyt : w.heap.size < wt.heap.size := (by omega); have hbw : Below w.heap.size w wt := belA; have hord' := hord.out _ wt hbw hpt n1 n2 n3 n4; have hsam' := hsam.out _ wt hbw hpt; have hror' := hror.out n1 n2 n3 n4; clear hord hsam hror hlent hlight))
    | (go_at_call 34; go_loud (refine (hord' _ belA).mono ?_; rintro r wo ⟨⟨vo, rfl, hrow⟩, hbo⟩; obtain ⟨Ao, co, rfl, ho1, ho2⟩ := own_slice hrow; have hio := BoolsAt.of_own hrow; have hco := bcell hbo; have hfo := bfrozen hbo; have hzo : wt.heap.size + 1 ≤ wo.heap.size := (by have := hbo.size; simpa using this); have hyo : w.heap.size < wo.heap.size := (by omega); have hyo2 : wt.heap.size < wo.heap.size := (by omega); clear hrow))
    | (go_at_call 35; go_loud (refine (hror' _ belA).mono ?_; rintro r wq ⟨⟨vq, rfl, hrow⟩, hbq⟩; obtain ⟨Aq, cq, rfl, hq1, hq2⟩ := own_slice hrow; have hiq := BoolsAt.of_own hrow; have hcq := bcell hbq; have hfq2 := bfrozen hbq; have hzq : wo.heap.size + 1 ≤ wq.heap.size := (by have := hbq.size; simpa using this); have hyq : w.heap.size < wq.heap.size := (by omega); have hyq2 : wt.heap.size < wq.heap.size := (by omega); have hyq3 : wo.heap.size < wq.heap.size := (by omega); clear hrow))
    | (go_at_call 33; refine (hkn _ belA).mono ?_; rintro r wn ⟨rfl, hbn⟩; have hcn := bcell hbn; have hzn := hbn.size))
  · go_ret
    exact ⟨rfl, belA⟩
  refine wp_name fun W0 hW0 => ?_
  have hb0 : Below w.heap.size w W0 := by rw [hW0]; (repeat refine bel_drew ?_); repeat (first | exact Below.refl _ _ | (with_reducible assumption) | refine bel_trans ?_ (by with_reducible assumption) | refine Below.setCell ?_ (by simp) _ | refine bel_alloc ?_ _ | refine bel_grow ?_ (by with_reducible assumption) (by omega))
  have hbt0 : Below wt.heap.size wt W0 := by rw [hW0]; (repeat refine bel_drew ?_); repeat (first | exact Below.refl _ _ | (with_reducible assumption) | refine bel_trans ?_ (by with_reducible assumption) | refine Below.setCell ?_ (by simp) _ | refine bel_alloc ?_ _ | refine bel_grow ?_ (by with_reducible assumption) (by omega))
  have hio0 : BoolsAt W0 V Ao co := by rw [hW0]; exact hio.later (by (repeat refine bel_drew ?_); repeat (first | exact Below.refl _ _ | (with_reducible assumption) | refine bel_trans ?_ (by with_reducible assumption) | refine Below.setCell ?_ (by simp) _ | refine bel_alloc ?_ _ | refine bel_grow ?_ (by with_reducible assumption) (by omega)))
  have hiq0 : BoolsAt W0 V Aq cq := by rw [hW0]; exact hiq.later (by (repeat refine bel_drew ?_); repeat (first | exact Below.refl _ _ | (with_reducible assumption) | refine bel_trans ?_ (by with_reducible assumption) | refine Below.setCell ?_ (by simp) _ | refine bel_alloc ?_ _ | refine bel_grow ?_ (by with_reducible assumption) (by omega)))
  have x0 : W0.cell? ⟨w.heap.size, 0, none⟩ = some (.string p.name) := by rw [hW0]; go_simp
  have x1 : W0.cell? ⟨w.heap.size, 1, none⟩ = some (.slice A1 p.ins.length c1) := by rw [hW0]; go_simp
  have x2 : W0.cell? ⟨w.heap.size, 2, none⟩ = some (.slice A2 p.outs.length c2) := by rw [hW0]; go_simp
  have x3 : W0.cell? ⟨w.heap.size, 3, none⟩ = some (.slice A3 p.locals.length c3) := by rw [hW0]; go_simp
  have x4 : W0.cell? ⟨w.heap.size, 4, none⟩ = some (.slice A4 p.eqs.length c4) := by rw [hW0]; go_simp
  have y0 : W0.cell? ⟨wt.heap.size, 0, none⟩ = some (.string p.name) := by rw [hW0]; go_simp
  have y1 : W0.cell? ⟨wt.heap.size, 1, none⟩ = some (.slice B1 p.ins.length k1) := by rw [hW0]; go_simp
  have y2 : W0.cell? ⟨wt.heap.size, 2, none⟩ = some (.slice B2 p.outs.length k2) := by rw [hW0]; go_simp
  have y3 : W0.cell? ⟨wt.heap.size, 3, none⟩ = some (.slice B3 p.locals.length k3) := by rw [hW0]; go_simp
  have y4 : W0.cell? ⟨wt.heap.size, 4, none⟩ = some (.slice B4 p.eqs.length k4) := by rw [hW0]; go_simp
  have hz0 : w.heap.size < W0.heap.size := by rw [hW0]; first | exact hyq | (simp; omega)
  have hz1 : wt.heap.size < W0.heap.size := by rw [hW0]; first | exact hyq2 | (simp; omega)
  have hv1 := hio0.1
  have hv2 := hio0.2.1
  have hv3 := hiq0.1
  have hv4 := hiq0.2.1
  unfold maxLen at hv2 hv4
  clear hW0 hio hiq hco hcq hct hfo hfq2 hft hzo hzq hzt hyo hyo2 hyq hyq2 hyq3 hbo hbq hfq hgm hord' hror'
  go_loopw [8] (fun i wr => ∃ k : Nat, k ≤ V.length ∧ i = .int .i64 k ∧ Below W0.heap.size W0 wr) (fun i _ => V.length - (intOf i).toNat)
  case atStart => exact ⟨0, Nat.zero_le _, rfl, Below.refl _ _⟩
  case round =>
    obtain ⟨k, hk, rfl, hbel⟩ := hrel
    have hbwr : Below w.heap.size w wr := bel_grow hb0 hbel (by omega)
    have hbtr : Below wt.heap.size wt wr := bel_grow hbt0 hbel (by omega)
    have hc := bcell hbel
    have hzr := hbel.size
    by_cases hlt : k < V.length
    · have hx : V[k]? = some V[k] := List.getElem?_eq_getElem hlt
      generalize V[k] = x at hx
      obtain ⟨b, off, rfl, hbb, d0⟩ := (hio0.later hbel).get hx
      obtain ⟨b2, off2, rfl, hbb2, e0⟩ := (hiq0.later hbel).get hx
      have t3 : (x != x) = false := by simp
      clear hx
      go_wp2_with fail
      go_quiet (fail)
      go_wp2_with fail
      go_roundw
      case rel => exact ⟨k + 1, by omega, by go_num, belA⟩
      case measure => simp [intOf]; try omega
    · obtain rfl : k = V.length := by omega
      go_wp2_with (first
        | (go_at_call 17; go_loud (refine (hsam' _ belA).mono ?_; rintro r ws ⟨rfl, hbs⟩; have hcs := bcell hbs; have hzs := hbs.size))
        | (go_at_call 33; refine (hkn _ belA).mono ?_; rintro r wn ⟨rfl, hbn⟩))
      go_ret
      exact ⟨rfl, belA⟩

end Go.Proofs.YtlfklfjnkpjooaaDoor
