/- Arguments that are arrays of two: two lists of variables, two clocks. -/
import Derived.Test.YtlfklfjnkpjooaaDoorLaid
set_option linter.unusedVariables false
set_option linter.unusedSimpArgs false
set_option maxRecDepth 100000
namespace Go.Proofs.YtlfklfjnkpjooaaDoor
open Go.ChangeShapes Go.WideShapes Go.ChangeAt Go.WideMaps Go.WideElems Go.RowKit

theorem okWide_arr {P : Program} {w : World} {r : Reach} {base n : Nat} {t e : TypeId} {v : Value} (ht : P.underlying t = some (.array n e)) (h : Value.okWide P w r base t v) : ∃ cs, v = .agg cs ∧ cs.size = P.cellsOf t := by
  simp only [Value.okWide, ht] at h
  obtain ⟨cs, h1, h2, _⟩ := h
  exact ⟨cs, h1, h2⟩
theorem cellsTwoVars : Tryd.prog.cellsOf 46 = 2 := by kernel_rfl
theorem cellsTwoClocks : Tryd.prog.cellsOf 39 = 4 := by kernel_rfl

section
variable {H : Type} {enc : TypeId × Value → H} {w : World} {spare : Nat → Bool} {held : Bool}
theorem open_two_vars {base : Nat} {v : Value} {d : DataW H} {ps : List MemPlace} (hv : Value.okWide Tryd.prog w .any base 46 v) (h : DataW.Trod enc Tryd.prog w 0 spare held 46 v d ps) :
    ∃ (l : List Va) (A : Option Addr) (cap : Nat) (m : List Va) (B : Option Addr) (capm : Nat), v = .agg #[.slice A l.length cap, .slice B m.length capm] ∧ VarsAt w l A cap ∧ VarsAt w m B capm := by
  obtain ⟨cs, rfl, hsz⟩ := okWide_arr Tryd.underlying46 hv
  obtain ⟨fuel, hf⟩ := h
  obtain ⟨cs⟩ := cs
  obtain ⟨xs, n, rfl, hx, hlen, hxl, hg⟩ := DataW.trod_array Tryd.underlying46 hf
  simp only [Value.cells] at hlen hg
  rw [cellsTwoVars] at hlen
  match cs, hlen, xs, hxl with
  | [c0, c1], _, [y0, y1], _ =>
    have k0 := hg 0 (by omega)
    have k1 := hg 1 (by omega)
    rw [cellsVars] at k0 k1
    have k0' : DataW.trod enc Tryd.prog w 0 spare held n 22 [c0] = some y0 := k0
    have k1' : DataW.trod enc Tryd.prog w 0 spare held n 22 [c1] = some y1 := k1
    obtain ⟨l, A, cap, h1, h2, _⟩ := open_vars k0'
    obtain ⟨m, B, capm, h3, h4, _⟩ := open_vars k1'
    simp at h1 h3
    subst h1 h3
    exact ⟨l, A, cap, m, B, capm, rfl, h2, h4⟩
theorem open_two_clocks {base : Nat} {v : Value} {d : DataW H} {ps : List MemPlace} (hv : Value.okWide Tryd.prog w .any base 39 v) (h : DataW.Trod enc Tryd.prog w 0 spare held 39 v d ps) :
    ∃ (k : Int) (s : ByteArray) (k2 : Int) (s2 : ByteArray), v = .agg #[.int .i64 k, .string s, .int .i64 k2, .string s2] := by
  obtain ⟨cs, rfl, hsz⟩ := okWide_arr Tryd.underlying39 hv
  obtain ⟨fuel, hf⟩ := h
  obtain ⟨cs⟩ := cs
  obtain ⟨xs, n, rfl, hx, hlen, hxl, hg⟩ := DataW.trod_array Tryd.underlying39 hf
  simp only [Value.cells] at hlen hg
  rw [cellsTwoClocks] at hlen
  match cs, hlen, xs, hxl with
  | [c0, c1, c2, c3], _, [y0, y1], _ =>
    have k0 := hg 0 (by omega)
    have k1 := hg 1 (by omega)
    rw [cellsClock] at k0 k1
    have k0' : DataW.trod enc Tryd.prog w 0 spare held n 38 [c0, c1] = some y0 := k0
    have k1' : DataW.trod enc Tryd.prog w 0 spare held n 38 [c2, c3] = some y1 := k1
    obtain ⟨k, s, h1, _, _⟩ := clock_cells k0'
    obtain ⟨k2, s2, h2, _, _⟩ := clock_cells k1'
    simp at h1 h2
    obtain ⟨rfl, rfl⟩ := h1
    obtain ⟨rfl, rfl⟩ := h2
    exact ⟨k, s, k2, s2, rfl⟩
end
theorem recTwoVars : Tryd.prog.readableRec 46 = true := by kernel_rfl
theorem rowTwoVars : 46 < Tryd.prog.types.size := of_decide_eq_true (by kernel_rfl)
theorem recTwoClocks : Tryd.prog.readableRec 39 = true := by kernel_rfl
theorem rowTwoClocks : 39 < Tryd.prog.types.size := of_decide_eq_true (by kernel_rfl)

end Go.Proofs.YtlfklfjnkpjooaaDoor
