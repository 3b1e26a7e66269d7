/- The variables that have other names. No program of Go in sight. -/
import Derived.Test.YtlfklfjnkpjooaaDoorBG
import Derived.Test.YtlfklfjnkpjooaaDoorBB
set_option linter.unusedVariables false
set_option linter.unusedSimpArgs false
set_option maxRecDepth 100000
namespace Go.Proofs.YtlfklfjnkpjooaaDoor
open Go.RowKit

theorem findC_of_I : ∀ (l : List Va) (s : ByteArray) (i : Int), findI l s i = none → findC l s = none
  | [], _, _, _ => rfl
  | v :: l, s, i, h => by
    unfold findI at h
    split at h
    · cases h
    · rename_i hn
      rw [findC, if_neg, findC_of_I l s (i + 1) h]
      rw [eqS_iff]
      intro he
      exact hn (by rw [he])
/-- Those of some variables whose names are not among others. -/
def keepF (l : List Va) : List Va → List Va
  | [] => []
  | v :: m => if findV l v.name = none then v :: keepF l m else keepF l m
theorem keepF_mem {l : List Va} : ∀ {m : List Va} {v : Va}, v ∈ keepF l m → findV l v.name = none
  | [], v, h => by cases h
  | u :: m, v, h => by
    unfold keepF at h
    split at h
    · rename_i hu
      rcases List.mem_cons.1 h with rfl | h
      · exact hu
      · exact keepF_mem h
    · exact keepF_mem h
theorem keepF_len (l : List Va) : ∀ m : List Va, (keepF l m).length ≤ m.length
  | [] => by simp [keepF]
  | u :: m => by
    have := keepF_len l m
    unfold keepF
    split
    · simp; omega
    · simp; omega
/-- ClocksMore, in plain Lean. -/
theorem more_law {l m : List Va} {e : Ex} {c : Int × ByteArray} (h : clkOf l e c = 0) : clkOf (keepF l m ++ l) e c = 0 := by
  unfold clkOf at h ⊢
  by_cases hr : e.right = 0
  · rw [if_neg (by omega)] at h ⊢
    exact clk_more l _ (fun v hv => findC_of_I l v.name 0 (keepF_mem hv)) e c h
  · rw [if_pos hr] at h; exact absurd h hr
/-- The reference's Find. -/
def refFind (l : List Va) (s : ByteArray) : Int := (findV l s).getD (-1)
theorem findI_hit {x : Va} {l : List Va} {s : ByteArray} {i : Int} (h : (x.name.toList == s.toList) = true) : findI (x :: l) s i = some i := by
  rw [eqS_iff] at h
  unfold findI
  rw [if_pos (by rw [h])]
theorem findI_miss {x : Va} {l : List Va} {s : ByteArray} {i : Int} (h : (x.name.toList == s.toList) = false) : findI (x :: l) s i = findI l s (i + 1) := by
  have hn : ¬ s.data = x.name.data := by
    intro he
    have : x.name = s := by ext1; exact he.symm
    rw [this] at h
    simp at h
  rw [findI, if_neg hn]
end Go.Proofs.YtlfklfjnkpjooaaDoor
