/- Both Orders of a program that has a fault. -/
import Derived.Test.YtikmbkojnfmiaaaDoorRRRRBO
import Derived.Test.YtikmbkojnfmiaaaDoorRRRRWRefTree
import Derived.Test.YtikmbkojnfmiaaaDoorRRRRBN
import Derived.Test.YtikmbkojnfmiaaaDoorRRRRWRefPrint
import Derived.Test.YtikmbkojnfmiaaaDoorRRRRBE
import Derived.Test.YtikmbkojnfmiaaaDoorRRRRWClk12
import Derived.Test.YtikmbkojnfmiaaaDoorRRRRBR
import Derived.Test.YtikmbkojnfmiaaaDoorRRRRBS
set_option linter.unusedVariables false
set_option linter.unusedSimpArgs false
set_option maxRecDepth 100000
namespace Go.Proofs.YtikmbkojnfmiaaaDoorRRRR
open Go.RowKit Go.Sort

theorem clkGoV_some {l : List Va} : ∀ {r : List Va} {k j : Nat} {e : Int}, clkGoV l k r = some (j, e) → e ≠ 0
  | [], k, j, e, h => by simp [clkGoV] at h
  | v :: r, k, j, e, h => by
    rw [clkGoV] at h
    by_cases hc : declaredE l v ≠ 0
    · rw [if_pos hc] at h
      simp only [Option.some.injEq, Prod.mk.injEq] at h
      rw [← h.2]; exact hc
    · rw [if_neg hc] at h
      exact clkGoV_some h
theorem clkGoQ_some {l : List Va} : ∀ {r : List Qe} {k j : Nat} {e : Int}, clkGoQ l k r = some (j, e) → e ≠ 0
  | [], k, j, e, h => by simp [clkGoQ] at h
  | q :: r, k, j, e, h => by
    rw [clkGoQ] at h
    by_cases hc : q.e.clk l (clockOf l q.name) ≠ 0
    · rw [if_pos hc] at h
      simp only [Option.some.injEq, Prod.mk.injEq] at h
      rw [← h.2]; exact hc
    · rw [if_neg hc] at h
      exact clkGoQ_some h
theorem clk_E {p : Pr} (h : clkF p ≠ (0, 0, 0)) : (clkF p).2.2 ≠ 0 := by
  unfold clkF at h ⊢
  by_cases hc : checkF p ≠ (0, 0, 0)
  · rw [if_pos hc]; exact check_E hc
  rw [if_neg hc] at h ⊢
  unfold clkVF at h ⊢
  cases hv : clkGoV (varsOf p) 0 (varsOf p) with
  | some k => exact clkGoV_some (e := k.2) (j := k.1) hv
  | none =>
  rw [hv] at h
  simp only at h ⊢
  unfold clkQF at h ⊢
  cases hq : clkGoQ (varsOf p) 0 p.eqs with
  | some k => exact clkGoQ_some (e := k.2) (j := k.1) hq
  | none => rw [hq] at h; simp at h

set_option maxHeartbeats 4000000 in
theorem order_fault (p : Pr) (a : PrA) (w : World) (hg : Always w) (hp : PrAt w p a) (n1 : p.ins.length ≤ 1000000) (n2 : p.outs.length ≤ 1000000) (n3 : p.locals.length ≤ 1000000) (n4 : p.eqs.length ≤ 1000000) (hck : clkF p ≠ (0, 0, 0)) :
    Calls Tryd.prog 11 #[prV p a] w fun r w' => r = .returned (.tuple #[.slice none 0 0, fV (clkF p)]) ∧ Below w.heap.size w w' := by
  have hcheck := fun W h => clkCheck_any p a W (hg.later h) (hp.later h) n1 n2 n3 n4
  have hne : ((clkF p).1 == 0 && (clkF p).2.1 == 0 && (clkF p).2.2 == 0) = false := by
    rw [Bool.eq_false_iff]
    intro h
    simp only [Bool.and_eq_true, beq_iff_eq] at h
    exact hck (Prod.ext h.1.1 (Prod.ext h.1.2 h.2))
  have hfq : ∀ w, (Op.equalIn 10000 43 (.agg #[.int .i64 (clkF p).1, .int .i64 (clkF p).2.1, .int .i64 (clkF p).2.2]) (.agg #[.int .i64 0, .int .i64 0, .int .i64 0])).run Tryd.prog w = .ok false w := fun w => by rw [eqFault, hne]
  have hgm : Tryd.prog.eqGuardType Tryd.prog.depth 43 = false := by kernel_rfl
  clear hck hne
  obtain ⟨A1, c1, A2, c2, A3, c3, A4, c4⟩ := a
  unfold prV fV at *
  dsimp only at *
  generalize (clkF p).1 = k1 at *
  generalize (clkF p).2.1 = k2 at *
  generalize (clkF p).2.2 = k3 at *
  go_enter Tryd.func11, Tryd.ntmps11
  go_wp2_with (first | (go_at_call 18; refine (hcheck _ belA).mono ?_; rintro r wa ⟨rfl, hba⟩; have hca := bcell hba; have hfa := bfrozen hba; have hza : w.heap.size + 2 ≤ wa.heap.size := (by have := hba.size; simpa using this); have hya : w.heap.size < wa.heap.size := (by omega); have hya1 : w.heap.size + 1 < wa.heap.size := (by omega)))
  go_region
  all_goals
    go_wp2_with fail
    refine bodyPost_ret (v := .tuple #[.slice none 0 0, .agg #[.int .i64 k1, .int .i64 k2, .int .i64 k3]]) (by simp [results, Tryd.results11, go_sem, *]) rfl ⟨rfl, ?_⟩
    (repeat refine bel_drew ?_)
    exact belS
end Go.Proofs.YtikmbkojnfmiaaaDoorRRRR

/- Walk over the reference's Order of a program without fault. -/
namespace Go.Proofs.YtikmbkojnfmiaaaDoorRRRR
open Go.RowKit Go.Sort

def sliceLen (v : Value) : Nat := match v with | .slice _ n _ => n | _ => 0

/-- Two rows that are apart, and stay so. -/
theorem own_ne {v u : Value} (h : ∀ b, v.ownBlock = some b → u.ownBlock ≠ some b) : v.ownBlock = none ∨ v.ownBlock ≠ u.ownBlock := by
  cases hv : v.ownBlock with
  | none => exact .inl rfl
  | some b => exact .inr fun e => h b hv e.symm
theorem own_ne' {v u : Value} (h : ∀ b, v.ownBlock = some b → u.ownBlock ≠ some b) : u.ownBlock = none ∨ u.ownBlock ≠ v.ownBlock := by
  cases hu : u.ownBlock with
  | none => exact .inl rfl
  | some b => exact .inr fun e => h b e.symm hu
theorem hap_left {v u u2 : Value} {B s s2 : Nat} (h : ∀ b, v.ownBlock = some b → u.ownBlock ≠ some b) (hlt : ∀ k, v.ownBlock = some k → B ≤ k ∧ k < s) (hor : u2.ownBlock = u.ownBlock ∨ ∀ k, u2.ownBlock = some k → s2 ≤ k) (hs : s ≤ s2) : ∀ b, v.ownBlock = some b → u2.ownBlock ≠ some b := by
  intro b hb e
  rcases hor with h1 | h1
  · exact h b hb (h1 ▸ e)
  · have := h1 b e
    have := (hlt b hb).2
    omega
theorem hap_right {v v2 u : Value} {B s s2 : Nat} (h : ∀ b, v.ownBlock = some b → u.ownBlock ≠ some b) (hlt : ∀ k, u.ownBlock = some k → B ≤ k ∧ k < s) (hor : v2.ownBlock = v.ownBlock ∨ ∀ k, v2.ownBlock = some k → s2 ≤ k) (hs : s ≤ s2) : ∀ b, v2.ownBlock = some b → u.ownBlock ≠ some b := by
  intro b hb e
  rcases hor with h1 | h1
  · exact h b (h1 ▸ hb) e
  · have := h1 b hb
    have := (hlt b e).2
    omega

end Go.Proofs.YtikmbkojnfmiaaaDoorRRRR
