/- Walk over wrap.Digits. -/
import Derived.Test.YtlfklfjnkpjooaaRep
import Derived.Test.YtlfklfjnkpjooaaRows
import Derived.WalkKit
import Derived.WalkSpells
import Derived.WalkLawsBesides
import Derived.Deep.QuietTactic
import Derived.BigQuiet
import Derived.Deep.Draws
import Derived.Lib.Hide
import Derived.Deep.LoopGhost
import Derived.StillTailTactics
import Derived.Deep.RegionHeld3
import Derived.Deep.RegionWith
import Derived.Lib.QuietBelow
set_option linter.unusedVariables false
set_option linter.unusedSimpArgs false
namespace Go.Proofs.Ytlfklfjnkpjooaa
open Go.RowKit Go.Sort

/-- The decimal digits of a number, ahead of some bytes: at most f of them. -/
def digs : Nat → Nat → List UInt8 → List UInt8
  | 0, _, acc => acc
  | f + 1, n, acc => if n / 10 = 0 then UInt8.ofNat (48 + n % 10) :: acc else digs f (n / 10) (UInt8.ofNat (48 + n % 10) :: acc)
/-- wrap.Digits. -/
def digitsL (a : Int) : List UInt8 := if a < 0 then 45 :: digs 10 a.natAbs [] else digs 10 a.natAbs []
def digitsB (a : Int) : ByteArray := ⟨(digitsL a).toArray⟩

def padded (l : List UInt8) : List Value := List.replicate (11 - l.length) (.int .u8 0) ++ l.map (fun c => .int .u8 c.toNat)

theorem u8nat (n : Nat) (h : n < 256) : (UInt8.ofNat n).toNat = n := by simp; omega
theorem padded_len {l : List UInt8} (h : l.length ≤ 11) : (padded l).length = 11 := by simp [padded]; omega
theorem padded_get {l : List UInt8} (h : l.length ≤ 11) {j : Nat} {c : UInt8} (hc : l[j]? = some c) : (padded l)[11 - l.length + j]? = some (.int .u8 c.toNat) := by
  unfold padded
  rw [List.getElem?_append_right (by simp)]
  simp [hc]
theorem padded_zero {l : List UInt8} {x : Nat} (h : x + l.length < 11) : (padded l)[x]? = some (.int .u8 0) := by
  unfold padded
  rw [List.getElem?_append_left (by simp; omega)]
  simp [List.getElem?_replicate]; omega
theorem padded_set {l : List UInt8} {x : Nat} {c : UInt8} {v : Int} (h : x + l.length = 10) (hv : v = (c.toNat : Int)) : (padded l).set x (.int .u8 v) = padded (c :: l) := by
  subst hv
  unfold padded
  have e1 : 11 - l.length = x + 1 := by omega
  have e2 : 11 - (c :: l).length = x := by simp; omega
  rw [e1, e2, List.set_append_left _ _ (by simp)]
  rw [List.replicate_succ', List.set_append_right _ _ (by simp)]
  simp
theorem foldl_push (l : List UInt8) : ∀ (r : ByteArray), (l.map fun c : UInt8 => (c.toNat : Int)).foldl (fun r n => r.push (UInt8.ofNat n.toNat)) r = ⟨(r.data.toList ++ l).toArray⟩ := by
  induction l with
  | nil => intro r; cases r; simp
  | cons c l ih =>
    intro r
    rw [List.map_cons, List.foldl_cons, ih]
    congr 1
    simp
theorem conv_padded (w : World) (l : List UInt8) (hl : l.length ≤ 11) (n c : Nat) (hn : n = l.length) :
    (convert 83 9 (.slice (some ⟨w.heap.size, 11 - l.length, none⟩) n c)).run Try.prog (w.alloc (.cells (padded l).toArray 82)) = .ok (.string ⟨l.toArray⟩) (w.alloc (.cells (padded l).toArray 82)) := by
  subst hn
  rw [run_convert_bytes_string _ _ _ _ _ _ _ Try.underlying83 Try.underlying5 Try.underlying9]
  have hload : (loadCells ⟨w.heap.size, 11 - l.length, none⟩ l.length).run Try.prog (w.alloc (.cells (padded l).toArray 82)) = .ok ((l.map fun c : UInt8 => (c.toNat : Int)).map (Value.int .u8)).toArray (w.alloc (.cells (padded l).toArray 82)) := by
    have := run_loadCells_list (P := Try.prog) (w.alloc (.cells (padded l).toArray 82)) ⟨w.heap.size, 11 - l.length, none⟩ ((l.map fun c : UInt8 => (c.toNat : Int)).map (Value.int .u8)) (fun j v hj => by
      have hadd : (⟨w.heap.size, 11 - l.length, none⟩ : Addr).add j = ⟨w.heap.size, 11 - l.length + j, none⟩ := by unfold Addr.add; split <;> simp_all
      rw [hadd, cell_of_row _ _ _ _ _ _ (heap_alloc_new w _)]
      simp only [List.map_map, List.getElem?_map, Option.map_eq_some_iff] at hj
      obtain ⟨c, hc, rfl⟩ := hj
      simpa using padded_get hl hc)
    simpa using this
  rw [run_bytesToString _ _ _ _ _ hload, foldl_push]
  simp

theorem digs_len : ∀ f m l, (digs f m l).length ≤ f + l.length
  | 0, _, _ => by simp [digs]
  | f + 1, m, l => by
    unfold digs
    split
    · simp; omega
    · have := digs_len f (m / 10) (UInt8.ofNat (48 + m % 10) :: l)
      simp only [List.length_cons] at this; omega

theorem slice_padded (w : World) (y : Nat) (hy : y < 11) (W : World) : (Instr.sliceAt 82 (.pointer (some ⟨w.heap.size, 0, none⟩)) (some (.int .i64 (y : Int))) none none).run Try.prog W = .ok (.slice (some ⟨w.heap.size, y, none⟩) (11 - y) (11 - y)) W := by
  have hn : Try.prog.arrayLen 82 = 11 := by kernel_rfl
  have hs : (sizeOf (Try.prog.elem 82)).run Try.prog W = .ok 1 W := by kernel_rfl
  rw [run_sliceAt_array_l W 82 ⟨w.heap.size, 0, none⟩ (by kernel_rfl) .i64 y (by omega) (by rw [hn]; omega), hs]
  simp only [Result.andThen, slicedAt, hn, Int.toNat_natCast, Nat.mul_one]
  rw [if_neg (by omega)]
  congr 4
  unfold Addr.add
  split
  · simp_all
  · simp

set_option maxHeartbeats 1000000 in
theorem digits_any (a : Int) (w : World) (h1 : -2147483648 ≤ a) (h2 : a ≤ 2147483647) :
    Calls Try.prog 46 #[.int .i32 a] w fun r w' => r = .returned (.string (digitsB a)) ∧ Below w.heap.size w w' := by
  by_cases h : a < 0
  · go_enter Try.func46, Try.ntmps46
    go_wp2_with fail
    go_loopg [4, 5] 10 (fun f i n wr => ∃ (m x : Nat) (ds : List UInt8), x = f ∧ 1 ≤ x ∧ x + ds.length = 10 ∧ m < 10 ^ f ∧ i = .int .i64 ((x : Int) + 1) ∧ n = .int .i64 m ∧ digs f m ds = digs 10 a.natAbs [] ∧ wr = w.alloc (.cells (padded ds).toArray 82))
    case atStart => exact ⟨a.natAbs, 10, [], rfl, by omega, rfl, by omega, rfl, by congr 1; omega, rfl, rfl⟩
    case round =>
      obtain ⟨m, x, ds, rfl, hx0, hx, hm, rfl, rfl, hrem, rfl⟩ := hrel
      have hcell : (padded ds).toArray[x]? = some (.int .u8 0) := by simpa using padded_zero (by omega)
      have hset : (padded ds).set x (.int .u8 (48 + (m : Int) % 10)) = padded (UInt8.ofNat (48 + m % 10) :: ds) := padded_set hx (by rw [u8nat _ (by omega)]; omega)
      have hx11 : (x : Int) < 11 := by omega
      have hx11' : x < 11 := by omega
      have hm64 : m ≤ 10000000000 := by
        have := Nat.pow_le_pow_right (n := 10) (by omega) (show x ≤ 10 by omega)
        omega
      obtain ⟨y, rfl⟩ : ∃ y, x = y + 1 := ⟨x - 1, by omega⟩
      have hm2 : m / 10 < 10 ^ y := by rw [Nat.pow_succ] at hm; omega
      rw [digs] at hrem
      by_cases hd : m / 10 = 0
      · rw [if_pos hd] at hrem
        generalize UInt8.ofNat (48 + m % 10) = d at hrem hset
        have hcell2 : (padded (d :: ds)).toArray[y]? = some (.int .u8 0) := by simpa using padded_zero (by simp; omega)
        have hset2 : (padded (d :: ds)).set y (.int .u8 45) = padded (45 :: d :: ds) := padded_set (by simp; omega) (by rfl)
        have hy11 : (y : Int) < 11 := by omega
        have hy11' : y < 11 := by omega
        have hsl := slice_padded w y hy11'
        have hcv := conv_padded w (45 :: d :: ds) (by simp; omega) (11 - y) (11 - y) (by simp; omega)
        have e11 : 11 - (45 :: d :: ds).length = y := by simp; omega
        rw [e11] at hcv
        clear e11
        have hv : digitsB a = ⟨(45 :: d :: ds).toArray⟩ := by unfold digitsB digitsL; rw [if_pos (by omega), ← hrem]
        clear hrem
        have HV := Lib.hid hv; clear hv
        go_wp2_with fail
        go_ret
        exact ⟨ret_str HV.out.symm, bel_alloc (Below.refl _ _) _⟩
      · rw [if_neg hd] at hrem
        have hy1 : 1 ≤ y := by
          rcases Nat.eq_zero_or_pos y with h0 | h0
          · subst h0; simp at hm2; omega
          · exact h0
        generalize UInt8.ofNat (48 + m % 10) = d at hrem hset
        have HR := Lib.hid hrem; clear hrem
        go_wp2_with fail
        go_roundg y
        case measure => omega
        case rel => exact ⟨m / 10, y, d :: ds, rfl, hy1, by simp; omega, hm2, by go_num, by go_num, HR.out, by first | rfl | simp⟩
  · go_enter Try.func46, Try.ntmps46
    go_wp2_with fail
    go_loopg [4, 5] 10 (fun f i n wr => ∃ (m x : Nat) (ds : List UInt8), x = f ∧ 1 ≤ x ∧ x + ds.length = 10 ∧ m < 10 ^ f ∧ i = .int .i64 ((x : Int) + 1) ∧ n = .int .i64 m ∧ digs f m ds = digs 10 a.natAbs [] ∧ wr = w.alloc (.cells (padded ds).toArray 82))
    case atStart => exact ⟨a.natAbs, 10, [], rfl, by omega, rfl, by omega, rfl, by congr 1; omega, rfl, rfl⟩
    case round =>
      obtain ⟨m, x, ds, rfl, hx0, hx, hm, rfl, rfl, hrem, rfl⟩ := hrel
      have hcell : (padded ds).toArray[x]? = some (.int .u8 0) := by simpa using padded_zero (by omega)
      have hset : (padded ds).set x (.int .u8 (48 + (m : Int) % 10)) = padded (UInt8.ofNat (48 + m % 10) :: ds) := padded_set hx (by rw [u8nat _ (by omega)]; omega)
      have hx11 : (x : Int) < 11 := by omega
      have hx11' : x < 11 := by omega
      have hm64 : m ≤ 10000000000 := by
        have := Nat.pow_le_pow_right (n := 10) (by omega) (show x ≤ 10 by omega)
        omega
      obtain ⟨y, rfl⟩ : ∃ y, x = y + 1 := ⟨x - 1, by omega⟩
      have hm2 : m / 10 < 10 ^ y := by rw [Nat.pow_succ] at hm; omega
      rw [digs] at hrem
      by_cases hd : m / 10 = 0
      · rw [if_pos hd] at hrem
        generalize UInt8.ofNat (48 + m % 10) = d at hrem hset
        have hy11 : (y : Int) + 1 < 11 := by omega
        have hy11' : y + 1 < 11 := by omega
        have hsl := slice_padded w (y + 1) hy11'
        rw [show ((y + 1 : Nat) : Int) = (y : Int) + 1 from by omega] at hsl
        have hcv := conv_padded w (d :: ds) (by simp; omega) (10 - y) (10 - y) (by simp; omega)
        have e11 : 11 - (d :: ds).length = y + 1 := by simp; omega
        rw [e11] at hcv
        clear e11
        have hv : digitsB a = ⟨(d :: ds).toArray⟩ := by unfold digitsB digitsL; rw [if_neg (by omega), ← hrem]
        clear hrem
        have HV := Lib.hid hv; clear hv
        go_wp2_with fail
        go_ret
        exact ⟨ret_str HV.out.symm, bel_alloc (Below.refl _ _) _⟩
      · rw [if_neg hd] at hrem
        have hy1 : 1 ≤ y := by
          rcases Nat.eq_zero_or_pos y with h0 | h0
          · subst h0; simp at hm2; omega
          · exact h0
        generalize UInt8.ofNat (48 + m % 10) = d at hrem hset
        have HR := Lib.hid hrem; clear hrem
        go_wp2_with fail
        go_roundg y
        case measure => omega
        case rel => exact ⟨m / 10, y, d :: ds, rfl, hy1, by simp; omega, hm2, by go_num, by go_num, HR.out, by first | rfl | simp⟩

end Go.Proofs.Ytlfklfjnkpjooaa
