/- Walks over the package clocks: of (joined), Of; Check of a program whose names or types have a fault; the law's small. -/
import Derived.Test.YtlfklfjnkpjooaaDoorWClk3
import Derived.Test.YtlfklfjnkpjooaaDoorWClk4
import Derived.Test.YtlfklfjnkpjooaaDoorWClk5
import Derived.Test.YtlfklfjnkpjooaaDoorBA
import Derived.Test.YtlfklfjnkpjooaaDoorBY
import Derived.Test.YtlfklfjnkpjooaaDoorBF
import Derived.WalkKit
import Derived.WalkSpells
import Derived.WalkLawsBesides
import Derived.Deep.QuietTactic
import Derived.BigQuiet
import Derived.Deep.Draws
import Derived.Lib.Hide
import Derived.Deep.LoopGhost
import Derived.StillTailTactics
import Derived.Deep.RegionHeld3
import Derived.Deep.RegionWith
import Derived.Lib.QuietBelow
set_option linter.unusedVariables false
set_option linter.unusedSimpArgs false
set_option maxRecDepth 100000
namespace Go.Proofs.YtlfklfjnkpjooaaDoor
open Go.RowKit Go.Sort

theorem hof_any (l : List Va) (A : Option Addr) (cap : Nat) (hn : l.length ≤ 1000000) (e : Ex) : e.formed = true → OfP l A cap e := by
  induction e using Ex.ind with
  | h e ih =>
  intro hf Ae ce ck cs w hg he hl
  have ih' : ∀ x ∈ e.sub, OfP l A cap x := fun x hx => ih x hx (formed_subs hf x hx)
  by_cases h3 : e.kind = 3
  · exact of_var l A cap hn e hf ih' Ae ce ck cs w hg he hl h3
  by_cases h8 : e.kind = 8
  · exact of_when l A cap hn e hf ih' Ae ce ck cs w hg he hl h8
  by_cases h9 : e.kind = 9
  · exact of_unless l A cap hn e hf ih' Ae ce ck cs w hg he hl h9
  by_cases h10 : e.kind = 10
  · exact of_merge l A cap hn e hf ih' Ae ce ck cs w hg he hl h10
  exact of_other l A cap hn e hf ih' Ae ce ck cs w hg he hl ⟨h3, h8, h9, h10⟩

set_option maxHeartbeats 1000000 in
theorem clkOf_any (l : List Va) (A : Option Addr) (cap : Nat) (hn : l.length ≤ 1000000) (e : Ex) (Ae : Option Addr) (ce : Nat) (ck : Int) (cs : ByteArray) (w : World) (hg : Always w) (he : SubsAt w e Ae ce) (hl : VarsAt w l A cap) :
    Calls Tryd.prog 19 #[exV e Ae ce, .agg #[.int .i64 ck, .string cs], .slice A l.length cap] w fun r w' => r = .returned (.int .i64 (clkOf l e (ck, cs))) ∧ Below w.heap.size w w' := by
  have hright := fun W h => right_any e Ae ce W (he.later h)
  by_cases hr : e.right = 0
  · have hf : e.formed = true := (Ex.right_zero.1 hr).2.2
    have hof := fun W h => hof_any l A cap hn e hf Ae ce ck cs W (hg.later h) (he.later h) (hl.later h)
    have hv : clkOf l e (ck, cs) = e.clk l (ck, cs) := by unfold clkOf; rw [if_neg (by omega)]
    have h1 : (e.right != 0) = false := by simpa using hr
    clear hr hf
    have HV := Lib.hid hv; clear hv
    unfold exV at *
    generalize e.right = er at *
    go_enter Tryd.func19, Tryd.ntmps19
    go_wp2_with (first | (go_at_call 47; refine (hright _ belA).mono ?_; rintro r w1 ⟨rfl, hb1⟩; have hc1 := bcell hb1; have hz1 := hb1.size; (try simp at hz1); (try have hy1 : w.heap.size < w1.heap.size := by omega); (try have hy2 : w.heap.size + 1 < w1.heap.size := by omega); (try have hy3 : w.heap.size + 2 < w1.heap.size := by omega); (try have hy4 : wr.heap.size < w1.heap.size := by omega); (try have hy5 : wr.heap.size + 1 < w1.heap.size := by omega)) | (go_at_call 41; refine (hof _ belA).mono ?_; rintro r w1 ⟨rfl, hb1⟩; have hc1 := bcell hb1; have hz1 := hb1.size; (try simp at hz1); (try have hy1 : w.heap.size < w1.heap.size := by omega); (try have hy2 : w.heap.size + 1 < w1.heap.size := by omega); (try have hy3 : w.heap.size + 2 < w1.heap.size := by omega); (try have hy4 : wr.heap.size < w1.heap.size := by omega); (try have hy5 : wr.heap.size + 1 < w1.heap.size := by omega)))
    go_ret
    exact ⟨ret_int HV.out.symm, belA⟩
  · have hv : clkOf l e (ck, cs) = e.right := by unfold clkOf; rw [if_pos hr]
    have h1 : (e.right != 0) = true := by simpa using hr
    clear hr
    have HV := Lib.hid hv; clear hv
    unfold exV at *
    generalize e.right = er at *
    go_enter Tryd.func19, Tryd.ntmps19
    go_wp2_with (first | (go_at_call 47; refine (hright _ belA).mono ?_; rintro r w1 ⟨rfl, hb1⟩; have hc1 := bcell hb1; have hz1 := hb1.size; (try simp at hz1); (try have hy1 : w.heap.size < w1.heap.size := by omega); (try have hy2 : w.heap.size + 1 < w1.heap.size := by omega); (try have hy3 : w.heap.size + 2 < w1.heap.size := by omega); (try have hy4 : wr.heap.size < w1.heap.size := by omega); (try have hy5 : wr.heap.size + 1 < w1.heap.size := by omega)))
    go_ret
    exact ⟨ret_int HV.out.symm, belA⟩

/-- What small says. -/
def SmallR (l : List Va) (r : Ending) : Prop := ∃ b, r = .returned (.bool b) ∧ (b = true → l.length ≤ 200)
set_option maxHeartbeats 1000000 in
theorem small_any (l : List Va) (A : Option Addr) (cap : Nat) (e : Ex) (Ae : Option Addr) (ce : Nat) (w : World) (he : SubsAt w e Ae ce) (hl : VarsAt w l A cap) :
    Calls Tryd.prog 18 #[exV e Ae ce, .slice A l.length cap] w fun r w' => SmallR l r ∧ Below w.heap.size w w' := by
  have hll := hl.len
  unfold maxLen at hll
  obtain ⟨hl1, hl2⟩ := hll
  have hparts := fun W h => parts_any e Ae ce 400 W (he.later h) (by omega) (by omega)
  unfold exV at *
  generalize e.count 400 = ec at *
  by_cases hs : l.length ≤ 200
  · by_cases hc : ec < 400
    · have hcd : decide (ec < 400) = true := by simpa using hc
      go_enter Tryd.func18, Tryd.ntmps18
      go_wp2_with (first | (go_at_call 23; refine (hparts _ belA).mono ?_; rintro r w1 ⟨rfl, hb1⟩; have hc1 := bcell hb1; have hz1 := hb1.size; (try simp at hz1); (try have hy1 : w.heap.size < w1.heap.size := by omega); (try have hy2 : w.heap.size + 1 < w1.heap.size := by omega); (try have hy3 : w.heap.size + 2 < w1.heap.size := by omega); (try have hy4 : wr.heap.size < w1.heap.size := by omega); (try have hy5 : wr.heap.size + 1 < w1.heap.size := by omega)))
      go_ret
      exact ⟨⟨true, rfl, fun _ => hs⟩, belA⟩
    · have hcd : decide (ec < 400) = false := by simpa using hc
      go_enter Tryd.func18, Tryd.ntmps18
      go_wp2_with (first | (go_at_call 23; refine (hparts _ belA).mono ?_; rintro r w1 ⟨rfl, hb1⟩; have hc1 := bcell hb1; have hz1 := hb1.size; (try simp at hz1); (try have hy1 : w.heap.size < w1.heap.size := by omega); (try have hy2 : w.heap.size + 1 < w1.heap.size := by omega); (try have hy3 : w.heap.size + 2 < w1.heap.size := by omega); (try have hy4 : wr.heap.size < w1.heap.size := by omega); (try have hy5 : wr.heap.size + 1 < w1.heap.size := by omega)))
      go_ret
      exact ⟨⟨false, rfl, by simp⟩, belA⟩
  · go_enter Tryd.func18, Tryd.ntmps18
    go_wp2_with fail
    go_ret
    exact ⟨⟨false, rfl, by simp⟩, belA⟩

theorem eqFault (a b c : Int) (w : World) : (Op.equalIn 10000 31 (.agg #[.int .i64 a, .int .i64 b, .int .i64 c]) (.agg #[.int .i64 0, .int .i64 0, .int .i64 0])).run Tryd.prog w = .ok (a == 0 && b == 0 && c == 0) w := by
  have hS : Tryd.prog.underlying 31 = some (.struct (Tryd.prog.fieldsOf 31)) := by kernel_rfl
  have hp : Tryd.prog.stoodInHeld 31 = false := by kernel_rfl
  rw [show (10000 : Nat) = 9999 + 1 from rfl, run_equalIn_agg w 9999 31 _ _ hS hp]
  simp only [Program.fieldsOf, Tryd.underlying31]
  go_simp
  by_cases h1 : a = 0 <;> by_cases h2 : b = 0 <;> by_cases h3 : c = 0 <;> simp [h1, h2, h3]

set_option maxHeartbeats 4000000 in
set_option maxRecDepth 100000 in
theorem clkCheck_fault (p : Pr) (a : PrA) (w : World) (hp : PrAt w p a) (n1 : p.ins.length ≤ 1000000) (n2 : p.outs.length ≤ 1000000) (n3 : p.locals.length ≤ 1000000) (n4 : p.eqs.length ≤ 1000000) (hck : checkF p ≠ (0, 0, 0)) :
    Calls Tryd.prog 15 #[prV p a] w fun r w' => r = .returned (fV (checkF p)) ∧ Below w.heap.size w w' := by
  have hcheck := fun W h => check_any p a W (hp.later h) n1 n2 n3 n4
  have hne : ((checkF p).1 == 0 && (checkF p).2.1 == 0 && (checkF p).2.2 == 0) = false := by
    rw [Bool.eq_false_iff]
    intro h
    simp only [Bool.and_eq_true, beq_iff_eq] at h
    exact hck (Prod.ext h.1.1 (Prod.ext h.1.2 h.2))
  have hfq : ∀ w, (Op.equalIn 10000 31 (.agg #[.int .i64 (checkF p).1, .int .i64 (checkF p).2.1, .int .i64 (checkF p).2.2]) (.agg #[.int .i64 0, .int .i64 0, .int .i64 0])).run Tryd.prog w = .ok false w := fun w => by rw [eqFault, hne]
  have hgm : Tryd.prog.eqGuardType Tryd.prog.depth 31 = false := by kernel_rfl
  clear hck hne
  obtain ⟨A1, c1, A2, c2, A3, c3, A4, c4⟩ := a
  unfold prV fV at *
  dsimp only at *
  generalize (checkF p).1 = k1 at *
  generalize (checkF p).2.1 = k2 at *
  generalize (checkF p).2.2 = k3 at *
  clear hp
  go_enter Tryd.func15, Tryd.ntmps15
  go_wp2_with (first | (go_at_call 37; refine (hcheck _ belA).mono ?_; rintro r w1 ⟨rfl, hb1⟩; have hc1 := bcell hb1; have hfz1 := bfrozen hb1; have hz1 := hb1.size; (try simp at hz1); (try have hy1 : w.heap.size < w1.heap.size := by omega); (try have hy2 : w.heap.size + 1 < w1.heap.size := by omega); (try have hy3 : w.heap.size + 2 < w1.heap.size := by omega); (try have hy4 : wr.heap.size < w1.heap.size := by omega); (try have hy5 : wr.heap.size + 1 < w1.heap.size := by omega)))
  refine bodyPost_ret (v := .agg #[.int .i64 k1, .int .i64 k2, .int .i64 k3]) (by simp [results, Tryd.results15, go_sem, *]) rfl ⟨rfl, ?_⟩
  repeat (first | exact Below.refl _ _ | (with_reducible assumption) | refine bel_trans ?_ (by with_reducible assumption) | refine Below.setCell ?_ (by simp) _ | refine bel_alloc ?_ _ | refine bel_grow ?_ (by with_reducible assumption) (by omega))

end Go.Proofs.YtlfklfjnkpjooaaDoor

/- Walks over the law's fixed calls (known) of the clocks. -/
namespace Go.Proofs.YtlfklfjnkpjooaaDoor
open Go.RowKit Go.Sort

def eW : Ex := .mk 8 0 ⟨#[98]⟩ [xE]
def xVarC : Va := ⟨⟨#[120]⟩, 1, 0, ⟨#[]⟩⟩
def bVarC : Va := ⟨⟨#[98]⟩, 2, 0, ⟨#[]⟩⟩
theorem knownC1 : clkOf [xVarC, bVarC] eW (1, ⟨#[98]⟩) = 0 := by decide +kernel
theorem knownC2 : clkOf [xVarC, bVarC] eW (0, ⟨#[]⟩) = 21 := by decide +kernel

theorem subs_eW {W : World} {b : Nat} (c0 : W.cell? ⟨b, 0, none⟩ = some (.int .i64 3)) (c1 : W.cell? ⟨b, 1, none⟩ = some (.int .i32 0)) (c2 : W.cell? ⟨b, 2, none⟩ = some (.string ⟨#[120]⟩)) (c3 : W.cell? ⟨b, 3, none⟩ = some (.slice none 0 0)) : SubsAt W eW (some ⟨b, 0, none⟩) 1 := by
  unfold eW
  rw [SubsAt_iff]
  refine ⟨Nat.le_refl _, by unfold maxLen; omega, fun _ => ⟨b, 0, rfl, ?_⟩⟩
  simp only [Ex.sub, RowAt]
  exact ⟨⟨none, 0, c0, c1, c2, c3, subs_nil _ _ _ _⟩, trivial⟩
theorem vars_xb {W : World} {b : Nat} (c0 : W.cell? ⟨b, 0, none⟩ = some (.string ⟨#[120]⟩)) (c1 : W.cell? ⟨b, 1, none⟩ = some (.int .i64 1)) (c2 : W.cell? ⟨b, 2, none⟩ = some (.int .i64 0)) (c3 : W.cell? ⟨b, 3, none⟩ = some (.string ⟨#[]⟩))
    (c4 : W.cell? ⟨b, 4, none⟩ = some (.string ⟨#[98]⟩)) (c5 : W.cell? ⟨b, 5, none⟩ = some (.int .i64 2)) (c6 : W.cell? ⟨b, 6, none⟩ = some (.int .i64 0)) (c7 : W.cell? ⟨b, 7, none⟩ = some (.string ⟨#[]⟩)) : VarsAt W [xVarC, bVarC] (some ⟨b, 0, none⟩) 2 := by
  refine ⟨Nat.le_refl _, by unfold maxLen; omega, fun _ => ⟨b, 0, rfl, fun k v hk => ?_⟩⟩
  match k with
  | 0 => obtain rfl : xVarC = v := by simpa using hk
         exact ⟨c0, c1, c2, c3⟩
  | 1 => obtain rfl : bVarC = v := by simpa using hk
         exact ⟨c4, c5, c6, c7⟩
  | k + 2 => simp at hk

set_option maxHeartbeats 1000000 in
theorem known15_any (w : World) (hg : Always w) : Calls Tryd.prog 13 #[] w fun r w' => r = .returned (.bool true) ∧ Below w.heap.size w w' := by
  have h1 := fun A Ae W hg he hl => clkOf_any [xVarC, bVarC] A 2 (by simp) eW Ae 1 1 ⟨#[98]⟩ W hg he hl
  have h2 := fun A Ae W hg he hl => clkOf_any [xVarC, bVarC] A 2 (by simp) eW Ae 1 0 ⟨#[]⟩ W hg he hl
  have h3 := fun W => clkCheck_fault zeroPr _ W (pr_zero W) (by simp [zeroPr]) (by simp [zeroPr]) (by simp [zeroPr]) (by simp [zeroPr]) (by rw [known_zero]; simp)
  rw [knownC1] at h1
  rw [knownC2] at h2
  rw [known_zero] at h3
  unfold exV at h1 h2
  unfold prV fV at h3
  dsimp only [eW, xE, xVarC, bVarC, zeroPr, Ex.kind, Ex.n, Ex.name, Ex.sub, List.length_cons, List.length_nil] at h1 h2 h3
  go_enter Tryd.func13, Tryd.ntmps13
  have hfd : ∀ w : World, (Instr.field 31 (.agg #[.int .i64 4, .int .i64 0, .int .i64 4]) 2).run Tryd.prog w = .ok (.int .i64 4) w := fun _ => by kernel_rfl
  go_wp2_with (first
    | (go_at_call_of 19 (Value.int IntKind.i64 1); refine (h1 _ _ _ (hg.later belA) (subs_eW (by go_simp) (by go_simp) (by go_simp) (by go_simp)) (vars_xb (by go_simp) (by go_simp) (by go_simp) (by go_simp) (by go_simp) (by go_simp) (by go_simp) (by go_simp))).mono ?_; rintro r w1 ⟨rfl, hb1⟩; have hc1 := bcell hb1; have hz1 := hb1.size; (try simp at hz1); (try have hy1 : w.heap.size < w1.heap.size := by omega); (try have hy2 : w.heap.size + 1 < w1.heap.size := by omega); (try have hy3 : w.heap.size + 2 < w1.heap.size := by omega); (try have hy4 : wr.heap.size < w1.heap.size := by omega); (try have hy5 : wr.heap.size + 1 < w1.heap.size := by omega))
    | (go_at_call 19; refine (h2 _ _ _ (hg.later belA) (subs_eW (by go_simp) (by go_simp) (by go_simp) (by go_simp)) (vars_xb (by go_simp) (by go_simp) (by go_simp) (by go_simp) (by go_simp) (by go_simp) (by go_simp) (by go_simp))).mono ?_; rintro r w2 ⟨rfl, hb2⟩)
    | (go_at_call 15; refine (h3 _).mono ?_; rintro r w3 ⟨rfl, hb3⟩))
  go_ret
  exact ⟨rfl, belA⟩

end Go.Proofs.YtlfklfjnkpjooaaDoor
