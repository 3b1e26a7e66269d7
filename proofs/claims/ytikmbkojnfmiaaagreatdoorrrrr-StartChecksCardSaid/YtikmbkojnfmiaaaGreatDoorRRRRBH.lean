/- Walks over the package clocks: of (joined), Of; Check of a program whose names or types have a fault; the law's small. -/
import Derived.Test.YtikmbkojnfmiaaaGreatDoorRRRRWClk3
import Derived.Test.YtikmbkojnfmiaaaGreatDoorRRRRWClk4
import Derived.Test.YtikmbkojnfmiaaaGreatDoorRRRRWClk5
import Derived.Test.YtikmbkojnfmiaaaGreatDoorRRRRBA
import Derived.Test.YtikmbkojnfmiaaaGreatDoorRRRRBY
import Derived.Test.YtikmbkojnfmiaaaGreatDoorRRRRBF
set_option linter.unusedVariables false
set_option linter.unusedSimpArgs false
set_option maxRecDepth 100000
namespace Go.Proofs.YtikmbkojnfmiaaaGreatDoorRRRR
open Go.RowKit Go.Sort

theorem hof_any (l : List Va) (A : Option Addr) (cap : Nat) (hn : l.length ≤ 1000000) (e : Ex) : e.formed = true → OfP l A cap e := by
  induction e using Ex.ind with
  | h e ih =>
  intro hf Ae ce ck cs w hg he hl
  have ih' : ∀ x ∈ e.sub, OfP l A cap x := fun x hx => ih x hx (formed_subs hf x hx)
  by_cases h3 : e.kind = 3
  · exact of_var l A cap hn e hf ih' Ae ce ck cs w hg he hl h3
  by_cases h8 : e.kind = 8
  · exact of_when l A cap hn e hf ih' Ae ce ck cs w hg he hl h8
  by_cases h9 : e.kind = 9
  · exact of_unless l A cap hn e hf ih' Ae ce ck cs w hg he hl h9
  by_cases h10 : e.kind = 10
  · exact of_merge l A cap hn e hf ih' Ae ce ck cs w hg he hl h10
  exact of_other l A cap hn e hf ih' Ae ce ck cs w hg he hl ⟨h3, h8, h9, h10⟩

/-- What small says. -/
def SmallR (l : List Va) (r : Ending) : Prop := ∃ b, r = .returned (.bool b) ∧ (b = true → l.length ≤ 200)
theorem eqFault (a b c : Int) (w : World) : (Op.equalIn 10000 31 (.agg #[.int .i64 a, .int .i64 b, .int .i64 c]) (.agg #[.int .i64 0, .int .i64 0, .int .i64 0])).run Tryz.prog w = .ok (a == 0 && b == 0 && c == 0) w := by
  have hS : Tryz.prog.underlying 31 = some (.struct (Tryz.prog.fieldsOf 31)) := by kernel_rfl
  have hp : Tryz.prog.stoodInHeld 31 = false := by kernel_rfl
  rw [show (10000 : Nat) = 9999 + 1 from rfl, run_equalIn_agg w 9999 31 _ _ hS hp]
  simp only [Program.fieldsOf, Tryz.underlying31]
  go_simp
  by_cases h1 : a = 0 <;> by_cases h2 : b = 0 <;> by_cases h3 : c = 0 <;> simp [h1, h2, h3]

set_option maxHeartbeats 4000000 in
set_option maxRecDepth 100000 in
theorem clkCheck_fault (p : Pr) (a : PrA) (w : World) (hp : PrAt w p a) (n1 : p.ins.length ≤ 1000000) (n2 : p.outs.length ≤ 1000000) (n3 : p.locals.length ≤ 1000000) (n4 : p.eqs.length ≤ 1000000) (hck : checkF p ≠ (0, 0, 0)) :
    Calls Tryz.prog 27 #[prV p a] w fun r w' => r = .returned (fV (checkF p)) ∧ Below w.heap.size w w' := by
  have hcheck := fun W h => check_any p a W (hp.later h) n1 n2 n3 n4
  have hne : ((checkF p).1 == 0 && (checkF p).2.1 == 0 && (checkF p).2.2 == 0) = false := by
    rw [Bool.eq_false_iff]
    intro h
    simp only [Bool.and_eq_true, beq_iff_eq] at h
    exact hck (Prod.ext h.1.1 (Prod.ext h.1.2 h.2))
  have hfq : ∀ w, (Op.equalIn 10000 31 (.agg #[.int .i64 (checkF p).1, .int .i64 (checkF p).2.1, .int .i64 (checkF p).2.2]) (.agg #[.int .i64 0, .int .i64 0, .int .i64 0])).run Tryz.prog w = .ok false w := fun w => by rw [eqFault, hne]
  have hgm : Tryz.prog.eqGuardType Tryz.prog.depth 31 = false := by kernel_rfl
  clear hck hne
  obtain ⟨A1, c1, A2, c2, A3, c3, A4, c4⟩ := a
  unfold prV fV at *
  dsimp only at *
  generalize (checkF p).1 = k1 at *
  generalize (checkF p).2.1 = k2 at *
  generalize (checkF p).2.2 = k3 at *
  clear hp
  go_enter Tryz.func27, Tryz.ntmps27
  go_wp2_with (first | (go_at_call 32; refine (hcheck _ belA).mono ?_; rintro r w1 ⟨rfl, hb1⟩; have hc1 := bcell hb1; have hfz1 := bfrozen hb1; have hz1 := hb1.size; (try simp at hz1); (try have hy1 := lt0 w w1); (try have hy2 := ltA w 1 w1); (try have hy3 := ltA w 2 w1); (try have hy4 := lt0 wr w1); (try have hy5 := ltA wr 1 w1)))
  refine bodyPost_ret (v := .agg #[.int .i64 k1, .int .i64 k2, .int .i64 k3]) (by simp [results, Tryz.results27, go_sem, *]) rfl ⟨rfl, ?_⟩
  exact belS

end Go.Proofs.YtikmbkojnfmiaaaGreatDoorRRRR

/- Walks over the law's fixed calls (known) of the clocks. -/
namespace Go.Proofs.YtikmbkojnfmiaaaGreatDoorRRRR
open Go.RowKit Go.Sort

def eW : Ex := .mk 8 0 ⟨#[98]⟩ [xE]
def xVarC : Va := ⟨⟨#[120]⟩, 1, 0, ⟨#[]⟩⟩
def bVarC : Va := ⟨⟨#[98]⟩, 2, 0, ⟨#[]⟩⟩
theorem knownC1 : clkOf [xVarC, bVarC] eW (1, ⟨#[98]⟩) = 0 := by decide +kernel
theorem knownC2 : clkOf [xVarC, bVarC] eW (0, ⟨#[]⟩) = 21 := by decide +kernel

theorem subs_eW {W : World} {b : Nat} (c0 : W.cell? ⟨b, 0, none⟩ = some (.int .i64 3)) (c1 : W.cell? ⟨b, 1, none⟩ = some (.int .i32 0)) (c2 : W.cell? ⟨b, 2, none⟩ = some (.string ⟨#[120]⟩)) (c3 : W.cell? ⟨b, 3, none⟩ = some (.slice none 0 0)) : SubsAt W eW (some ⟨b, 0, none⟩) 1 := by
  unfold eW
  rw [SubsAt_iff]
  refine ⟨Nat.le_refl _, by unfold maxLen; omega, fun _ => ⟨b, 0, rfl, ?_⟩⟩
  simp only [Ex.sub, RowAt]
  exact ⟨⟨none, 0, c0, c1, c2, c3, subs_nil _ _ _ _⟩, trivial⟩
theorem vars_xb {W : World} {b : Nat} (c0 : W.cell? ⟨b, 0, none⟩ = some (.string ⟨#[120]⟩)) (c1 : W.cell? ⟨b, 1, none⟩ = some (.int .i64 1)) (c2 : W.cell? ⟨b, 2, none⟩ = some (.int .i64 0)) (c3 : W.cell? ⟨b, 3, none⟩ = some (.string ⟨#[]⟩))
    (c4 : W.cell? ⟨b, 4, none⟩ = some (.string ⟨#[98]⟩)) (c5 : W.cell? ⟨b, 5, none⟩ = some (.int .i64 2)) (c6 : W.cell? ⟨b, 6, none⟩ = some (.int .i64 0)) (c7 : W.cell? ⟨b, 7, none⟩ = some (.string ⟨#[]⟩)) : VarsAt W [xVarC, bVarC] (some ⟨b, 0, none⟩) 2 := by
  refine ⟨Nat.le_refl _, by unfold maxLen; omega, fun _ => ⟨b, 0, rfl, fun k v hk => ?_⟩⟩
  match k with
  | 0 => obtain rfl : xVarC = v := by simpa using hk
         exact ⟨c0, c1, c2, c3⟩
  | 1 => obtain rfl : bVarC = v := by simpa using hk
         exact ⟨c4, c5, c6, c7⟩
  | k + 2 => simp at hk

end Go.Proofs.YtikmbkojnfmiaaaGreatDoorRRRR
