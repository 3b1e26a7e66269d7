/- Walk over the reference's Digits: it writes what wrap.Digits writes. -/
import Derived.Test.YtikmbkojnfmiaaaDoorRRRRBB
set_option linter.unusedVariables false
set_option linter.unusedSimpArgs false
set_option maxRecDepth 100000
namespace Go.Proofs.YtikmbkojnfmiaaaDoorRRRR
open Go.RowKit Go.Sort

theorem conv_one (W : World) (b : Nat) (d : UInt8) (c : Nat) (h : W.cell? ⟨b, 0, none⟩ = some (.int .u8 d.toNat)) :
    (convert 98 9 (.slice (some ⟨b, 0, none⟩) 1 c)).run Tryd.prog W = .ok (.string ⟨#[d]⟩) W := by
  rw [run_convert_bytes_string _ _ _ _ _ _ _ Tryd.underlying98 Tryd.underlying5 Tryd.underlying9]
  have hload : (loadCells ⟨b, 0, none⟩ 1).run Tryd.prog W = .ok (([d].map fun c : UInt8 => (c.toNat : Int)).map (Value.int .u8)).toArray W := by
    have := run_loadCells_list (P := Tryd.prog) W ⟨b, 0, none⟩ (([d].map fun c : UInt8 => (c.toNat : Int)).map (Value.int .u8)) (fun j v hj => by
      have hadd : (⟨b, 0, none⟩ : Addr).add j = ⟨b, 0 + j, none⟩ := by unfold Addr.add; split <;> simp_all
      rw [hadd]
      match j with
      | 0 => simp at hj; subst hj; exact h
      | j + 1 => simp at hj)
    simpa using this
  rw [run_bytesToString _ _ _ _ _ hload, foldl_push]
  simp
theorem app_one (d : UInt8) (ds : List UInt8) : (⟨#[d]⟩ ++ ⟨ds.toArray⟩ : ByteArray) = ⟨(d :: ds).toArray⟩ := by
  ext1; simp

end Go.Proofs.YtikmbkojnfmiaaaDoorRRRR
