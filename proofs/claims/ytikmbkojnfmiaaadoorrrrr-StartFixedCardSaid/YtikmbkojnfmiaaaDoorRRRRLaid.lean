/- What a row gives its walk: the listed variable's cells; the arguments opened. -/
import Derived.Test.YtikmbkojnfmiaaaDoorRRRRTie
import Derived.Test.YtikmbkojnfmiaaaDoorRRRRCards
import Derived.Test.YtikmbkojnfmiaaaDoorRRRROpen
import Derived.Test.YtikmbkojnfmiaaaDoorRRRRBG
import Derived.ProofKit
import Derived.LaidMore
import Derived.OpenShut
import Derived.Stop.Joined
set_option linter.unusedVariables false
set_option linter.unusedSimpArgs false
set_option maxRecDepth 100000
namespace Go.Proofs.YtikmbkojnfmiaaaDoorRRRR
open Go.ChangeShapes Go.WideShapes Go.ChangeAt Go.WideMaps Go.WideElems Go.RowKit

/-- The one listed variable, with what it holds. -/
def laidL : List (String × DataW Unit) := Rows.startFixedRow.laid

theorem door_met (os : Os) (args : Array Value) : laidMetH Tryd.prog laidL ((World.doorLaid Tryd.prog 400 os).forCall (fun _ _ => 0) ⟨#[], args, []⟩).memory :=
  laidMetH_of_parts3 (fuel := 8) (laidMet_of_run' 8 (by kernel_rfl) (by kernel_rfl)) (by kernel_rfl) (by kernel_rfl)

theorem of_laid {W : World} (h : laidMetH Tryd.prog laidL W) : Always W := by
  rw [MakeChecks.laidMetH_plain _ _ _ (by kernel_rfl)] at h
  obtain ⟨ps, ⟨g0, t0, cs0, f0, p0, q0, hg0, ht0, hv0, hd0, _, _⟩, _, _⟩ := h
  obtain rfl := Option.some.inj ((show Tryd.prog.globalNamed _ = some 0 by kernel_rfl).symm.trans hg0)
  obtain rfl := Option.some.inj ((show (Tryd.prog.globals[0]?).map (·.type) = some 37 by kernel_rfl).symm.trans ht0)
  obtain ⟨xs, n, rfl, hx, hlen, hxl, hg⟩ := DataW.trod_struct Tryd.underlying37 hd0
  rw [cellsClock] at hlen
  obtain ⟨cs0⟩ := cs0
  simp only [Prod.mk.injEq] at hx
  obtain ⟨hx, _⟩ := hx
  match cs0, hlen, xs, hxl with
  | [c0, c1], _, [y0, y1], _ =>
    have k0 : DataW.trod _ Tryd.prog W 0 _ _ n 3 (([c0, c1].drop 0).take (Tryd.prog.cellsOf 3)) = some y0 := hg 0 _ rfl
    have k1 : DataW.trod _ Tryd.prog W 0 _ _ n 9 (([c0, c1].drop 1).take (Tryd.prog.cellsOf 9)) = some y1 := hg 1 _ rfl
    rw [cellsInt] at k0
    rw [cellsString] at k1
    obtain ⟨k, hk, hy0, _⟩ := DataW.trod_int Tryd.underlying3 k0
    obtain ⟨s, hs, hy1, _⟩ := DataW.trod_string Tryd.underlying9 k1
    simp at hk hs
    subst hk hs
    subst hy0 hy1
    have hd : (DataW.agg [.lit (.int .i64 0), .lit (.string [])] : DataW Unit) = .agg [.lit (.int .i64 k), .lit (.string s.data.toList)] := hx
    injection hd with hd
    injection hd with h1 h2
    injection h1 with h1
    injection h1 with _ h1
    injection h2 with h2 _
    injection h2 with h2
    injection h2 with h2
    have hs0 : s = ⟨#[]⟩ := WideShapes.bytes_inj (by rw [← h2])
    subst h1 hs0
    have e0 := World.var?_cell hg0 hv0 0
    have e1 := World.var?_cell hg0 hv0 1
    exact ⟨by simpa using e0, by simpa using e1⟩

section
variable {H : Type} {enc : TypeId × Value → H} {w : World} {spare : Nat → Bool} {held : Bool}
theorem open_ex_arg {base : Nat} {v : Value} {d : DataW H} {ps : List MemPlace} (hv : Value.okWide Tryd.prog w .any base 32 v) (h : DataW.Trod enc Tryd.prog w 0 spare held 32 v d ps) :
    ∃ (e : Ex) (A : Option Addr) (cap : Nat), v = exV e A cap ∧ SubsAt w e A cap ∧ e.OK := by
  obtain ⟨cs, rfl, hsz⟩ := okWide_struct Tryd.underlying32 hv
  obtain ⟨fuel, hf⟩ := h
  obtain ⟨cs⟩ := cs
  obtain ⟨e, A, cap, he, h1, h2⟩ := open_ex _ _ _ hf
  simp only [Value.cells] at he
  subst he
  exact ⟨e, A, cap, rfl, h1, h2⟩
theorem open_vars_arg {base : Nat} {v : Value} {d : DataW H} {ps : List MemPlace} (hv : Value.okWide Tryd.prog w .any base 22 v) (h : DataW.Trod enc Tryd.prog w 0 spare held 22 v d ps) :
    ∃ (l : List Va) (A : Option Addr) (cap : Nat), v = .slice A l.length cap ∧ VarsAt w l A cap ∧ ∀ x ∈ l, VaOK x := by
  obtain ⟨a0, len, cap, rfl⟩ := okWide_slice Tryd.underlying22 hv
  obtain ⟨fuel, hf⟩ := h
  obtain ⟨l, A, cap', hc, h1, h2⟩ := open_vars hf
  simp only [Value.cells, List.cons.injEq, and_true] at hc
  exact ⟨l, A, cap', hc, h1, h2⟩
theorem clock_cells {fuel : Nat} {cs : List Value} {x : DataW H × List MemPlace} (h : DataW.trod enc Tryd.prog w 0 spare held fuel 37 cs = some x) :
    ∃ (k : Int) (s : ByteArray), cs = [.int .i64 k, .string s] ∧ I64 k ∧ s.size ≤ maxLen := by
  obtain ⟨xs, n, rfl, hx, hlen, hxl, hg⟩ := DataW.trod_struct Tryd.underlying37 h
  rw [cellsClock] at hlen
  match cs, hlen, xs, hxl with
  | [c0, c1], _, [y0, y1], _ =>
    have k0 : DataW.trod enc Tryd.prog w 0 spare held n 3 (([c0, c1].drop 0).take (Tryd.prog.cellsOf 3)) = some y0 := hg 0 _ rfl
    have k1 : DataW.trod enc Tryd.prog w 0 spare held n 9 (([c0, c1].drop 1).take (Tryd.prog.cellsOf 9)) = some y1 := hg 1 _ rfl
    rw [cellsInt] at k0
    rw [cellsString] at k1
    obtain ⟨k, hk, _, wk⟩ := DataW.trod_int Tryd.underlying3 k0
    obtain ⟨s, hs, _, ws⟩ := DataW.trod_string Tryd.underlying9 k1
    simp at hk hs
    subst hk hs
    exact ⟨k, s, rfl, i64_of wk, ws⟩
theorem open_clock_arg {base : Nat} {v : Value} {d : DataW H} {ps : List MemPlace} (hv : Value.okWide Tryd.prog w .any base 37 v) (h : DataW.Trod enc Tryd.prog w 0 spare held 37 v d ps) :
    ∃ (k : Int) (s : ByteArray), v = .agg #[.int .i64 k, .string s] ∧ I64 k ∧ s.size ≤ maxLen := by
  obtain ⟨cs, rfl, hsz⟩ := okWide_struct Tryd.underlying37 hv
  obtain ⟨fuel, hf⟩ := h
  obtain ⟨cs⟩ := cs
  obtain ⟨k, s, he, h1, h2⟩ := clock_cells hf
  simp only [Value.cells] at he
  subst he
  exact ⟨k, s, rfl, h1, h2⟩
end
theorem recExpr : Tryd.prog.readableRec 32 = true := by kernel_rfl
theorem rowExpr : 32 < Tryd.prog.types.size := of_decide_eq_true (by kernel_rfl)
theorem recClock : Tryd.prog.readableRec 37 = true := by kernel_rfl
theorem rowClock : 37 < Tryd.prog.types.size := of_decide_eq_true (by kernel_rfl)
theorem recVars : Tryd.prog.readableRec 22 = true := by kernel_rfl
theorem rowVars : 22 < Tryd.prog.types.size := of_decide_eq_true (by kernel_rfl)

end Go.Proofs.YtikmbkojnfmiaaaDoorRRRR
