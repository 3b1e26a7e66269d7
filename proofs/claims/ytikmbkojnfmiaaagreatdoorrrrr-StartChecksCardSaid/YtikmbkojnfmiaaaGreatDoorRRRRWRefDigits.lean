/- Walk over the reference's Digits: it writes what wrap.Digits writes. -/
import Derived.Test.YtikmbkojnfmiaaaGreatDoorRRRRBB
set_option linter.unusedVariables false
set_option linter.unusedSimpArgs false
set_option maxRecDepth 100000
namespace Go.Proofs.YtikmbkojnfmiaaaGreatDoorRRRR
open Go.RowKit Go.Sort

theorem conv_one (W : World) (b : Nat) (d : UInt8) (c : Nat) (h : W.cell? ⟨b, 0, none⟩ = some (.int .u8 d.toNat)) :
    (convert 113 9 (.slice (some ⟨b, 0, none⟩) 1 c)).run Tryz.prog W = .ok (.string ⟨#[d]⟩) W := by
  rw [run_convert_bytes_string _ _ _ _ _ _ _ Tryz.underlying113 Tryz.underlying5 Tryz.underlying9]
  have hload : (loadCells ⟨b, 0, none⟩ 1).run Tryz.prog W = .ok (([d].map fun c : UInt8 => (c.toNat : Int)).map (Value.int .u8)).toArray W := by
    have := run_loadCells_list (P := Tryz.prog) W ⟨b, 0, none⟩ (([d].map fun c : UInt8 => (c.toNat : Int)).map (Value.int .u8)) (fun j v hj => by
      have hadd : (⟨b, 0, none⟩ : Addr).add j = ⟨b, 0 + j, none⟩ := by unfold Addr.add; split <;> simp_all
      rw [hadd]
      match j with
      | 0 => simp at hj; subst hj; exact h
      | j + 1 => simp at hj)
    simpa using this
  rw [run_bytesToString _ _ _ _ _ hload, foldl_push]
  simp
theorem app_one (d : UInt8) (ds : List UInt8) : (⟨#[d]⟩ ++ ⟨ds.toArray⟩ : ByteArray) = ⟨(d :: ds).toArray⟩ := by
  ext1; simp

set_option maxHeartbeats 400000 in
theorem size01_any (a : Int) (w : World) (h1 : -2147483648 ≤ a) (h2 : a ≤ 2147483647) : Calls Tryz.prog 96 #[.int .i32 a] w fun r w' => r = .returned (.int .i64 (a.natAbs : Nat)) ∧ w = w' := by
  by_cases h : a < 0
  · go_enter Tryz.func96, Tryz.ntmps96
    go_wp2_with fail
    go_ret
    exact ⟨ret_int (by omega), rfl⟩
  · go_enter Tryz.func96, Tryz.ntmps96
    go_wp2_with fail
    go_ret
    exact ⟨ret_int (by omega), rfl⟩

set_option maxHeartbeats 1000000 in
theorem refDigits_any (a : Int) (w : World) (h1 : -2147483648 ≤ a) (h2 : a ≤ 2147483647) :
    Calls Tryz.prog 81 #[.int .i32 a] w fun r w' => r = .returned (.string (digitsB a)) ∧ Below w.heap.size w w' := by
  have hsz := fun W => size01_any a W h1 h2
  have hna : a.natAbs < 10 ^ 10 := by omega
  have hfin : a < 0 ∧ digitsB a = ⟨#[45]⟩ ++ ⟨(digs 10 a.natAbs []).toArray⟩ ∨ ¬ a < 0 ∧ digitsB a = ⟨(digs 10 a.natAbs []).toArray⟩ := by
    unfold digitsB digitsL
    by_cases h : a < 0
    · left; rw [if_pos h, app_one]; exact ⟨h, rfl⟩
    · right; rw [if_neg h]; exact ⟨h, rfl⟩
  have HF := Lib.hid hfin; clear hfin
  have HNA := Lib.hid hna; clear hna
  go_enter Tryz.func81, Tryz.ntmps81
  go_wp2_with (go_at_call 96; refine (hsz _).mono ?_; rintro r w1 ⟨rfl, rfl⟩)
  go_loopw [3, 4] (fun n s wr => ∃ (m f : Nat) (ds : List UInt8), n = .int .i64 m ∧ s = .string ⟨ds.toArray⟩ ∧ f + 1 + ds.length = 10 ∧ m < 10 ^ (f + 1) ∧ digs (f + 1) m ds = digs 10 a.natAbs [] ∧ Below w.heap.size w wr) (fun n _ _ => (intOf n).toNat)
  case atStart => exact ⟨a.natAbs, 9, [], rfl, rfl, by simp, HNA.out, rfl, belA⟩
  case round =>
    obtain ⟨m, f, ds, rfl, rfl, hf, hm, hrem, hbel⟩ := hrel
    have hm64 : m ≤ 10000000000 := by
      have := Nat.pow_le_pow_right (n := 10) (by omega) (show f + 1 ≤ 10 by omega)
      omega
    have hdl : ds.length ≤ 10 := by omega
    rw [digs] at hrem
    by_cases hgt : 9 < m
    · have hd0 : ¬ m / 10 = 0 := by omega
      rw [if_neg hd0] at hrem
      obtain ⟨g, rfl⟩ : ∃ g, f = g + 1 := ⟨f - 1, by
        rcases Nat.eq_zero_or_pos f with h0 | h0
        · subst h0; simp at hm; omega
        · omega⟩
      have hm2 : m / 10 < 10 ^ (g + 1) := by rw [Nat.pow_succ] at hm; omega
      have hcv := conv_one (wr.alloc (.cells #[.int .u8 (48 + (m : Int) % 10)] 5)) wr.heap.size (UInt8.ofNat (48 + m % 10)) 1 (by
        rw [cell_of_row _ _ _ _ _ _ (heap_alloc_new wr _)]
        have : ((UInt8.ofNat (48 + m % 10)).toNat : Int) = 48 + (m : Int) % 10 := by
          have h : (UInt8.ofNat (48 + m % 10)).toNat = 48 + m % 10 := u8nat _ (by omega)
          omega
        rw [this]; rfl)
      have hap := app_one (UInt8.ofNat (48 + m % 10)) ds
      generalize UInt8.ofNat (48 + m % 10) = d at hcv hap hrem
      have HAP := Lib.hid hap; clear hap
      have HR := Lib.hid hrem; clear hrem
      have HM := Lib.hid hm2; clear hm2 hm hd0
      go_wp2_with fail
      go_roundw
      case rel => exact ⟨m / 10, g, d :: ds, by go_num, by rw [← HAP.out], by simp; omega, HM.out, HR.out, belA⟩
      case measure => simp [intOf]; omega
    · have hd0 : m / 10 = 0 := by omega
      rw [if_pos hd0, show m % 10 = m from by omega] at hrem
      have hcv := conv_one (wr.alloc (.cells #[.int .u8 (48 + (m : Int))] 5)) wr.heap.size (UInt8.ofNat (48 + m)) 1 (by
        rw [cell_of_row _ _ _ _ _ _ (heap_alloc_new wr _)]
        have : ((UInt8.ofNat (48 + m)).toNat : Int) = 48 + (m : Int) := by
          have h : (UInt8.ofNat (48 + m)).toNat = 48 + m := u8nat _ (by omega)
          omega
        rw [this]; rfl)
      have hap := app_one (UInt8.ofNat (48 + m)) ds
      generalize UInt8.ofNat (48 + m) = d at hcv hap hrem
      have HAP := Lib.hid hap; clear hap
      have HR := Lib.hid hrem; clear hrem hd0 hm
      rcases HF.out with ⟨hneg, hv⟩ | ⟨hneg, hv⟩
      · rw [← HR.out, ← HAP.out] at hv
        have HV := Lib.hid hv; clear hv
        go_wp2_with fail
        go_ret
        exact ⟨ret_str HV.out.symm, belA⟩
      · rw [← HR.out, ← HAP.out] at hv
        have HV := Lib.hid hv; clear hv
        go_wp2_with fail
        go_ret
        exact ⟨ret_str HV.out.symm, belA⟩

end Go.Proofs.YtikmbkojnfmiaaaGreatDoorRRRR
