/- Walks over the reference's lex: letter, digit, run, among, Word, Name: they say what lex.Name says. -/
import Derived.Test.YtknfcamdfdfoeaaDoorZ01
import Derived.Laws.RangeString
import Derived.Laws.RangeAny
import Derived.Test.YtknfcamdfdfoeaaDoorZ00
import Derived.Test.YtknfcamdfdfoeaaDoorRows
set_option linter.unusedVariables false
set_option linter.unusedSimpArgs false
set_option maxRecDepth 100000
namespace Go.Proofs.YtknfcamdfdfoeaaDoor
open Go.RowKit Go.Sort

/-- A slice of texts. -/
def StrsAt (w : World) (l : List ByteArray) (A : Option Addr) (cap : Nat) : Prop :=
  l.length ≤ cap ∧ cap ≤ maxLen ∧ (0 < l.length → ∃ b off, A = some ⟨b, off, none⟩ ∧ ∀ (k : Nat) (s : ByteArray), l[k]? = some s → w.cell? ⟨b, off + k, none⟩ = some (.string s))
theorem StrsAt.later {w w' : World} {l : List ByteArray} {A : Option Addr} {cap : Nat} (h : StrsAt w l A cap) (hb : Below w.heap.size w w') : StrsAt w' l A cap :=
  ⟨h.1, h.2.1, fun hl => by
    obtain ⟨b, off, hA, hr⟩ := h.2.2 hl
    exact ⟨b, off, hA, fun k s hk => bel_cell hb (hr k s hk)⟩⟩
theorem StrsAt.get {w : World} {l : List ByteArray} {A : Option Addr} {cap k : Nat} {s : ByteArray} (h : StrsAt w l A cap) (hk : l[k]? = some s) : ∃ b off, A = some ⟨b, off, none⟩ ∧ b < w.heap.size ∧ w.cell? ⟨b, off + k, none⟩ = some (.string s) := by
  have hlt : k < l.length := (List.getElem?_eq_some_iff.1 hk).1
  obtain ⟨b, off, hA, hr⟩ := h.2.2 (by omega)
  exact ⟨b, off, hA, block_lt_of_cell (hr k s hk), hr k s hk⟩
theorem StrsAt.len {w : World} {l : List ByteArray} {A : Option Addr} {cap : Nat} (h : StrsAt w l A cap) : l.length ≤ cap ∧ cap ≤ maxLen := ⟨h.1, h.2.1⟩
theorem StrsAt.made (w : World) (l : List ByteArray) (t : TypeId) (c : Array Value) (hc : c = (l.map Value.string).toArray) (hl : l.length ≤ maxLen) : StrsAt (w.alloc (.cells c t)) l (some ⟨w.heap.size, 0, none⟩) l.length := by
  refine ⟨Nat.le_refl _, hl, fun _ => ⟨_, _, rfl, fun k s hk => ?_⟩⟩
  rw [Nat.zero_add, cell_new, hc]
  simp [hk]

end Go.Proofs.YtknfcamdfdfoeaaDoor

/- Walk over wrap.Digits. -/
namespace Go.Proofs.YtknfcamdfdfoeaaDoor
open Go.RowKit Go.Sort

/-- The decimal digits of a number, ahead of some bytes: at most f of them. -/
def digs : Nat → Nat → List UInt8 → List UInt8
  | 0, _, acc => acc
  | f + 1, n, acc => if n / 10 = 0 then UInt8.ofNat (48 + n % 10) :: acc else digs f (n / 10) (UInt8.ofNat (48 + n % 10) :: acc)
/-- wrap.Digits. -/
def digitsL (a : Int) : List UInt8 := if a < 0 then 45 :: digs 10 a.natAbs [] else digs 10 a.natAbs []
def digitsB (a : Int) : ByteArray := ⟨(digitsL a).toArray⟩

def padded (l : List UInt8) : List Value := List.replicate (11 - l.length) (.int .u8 0) ++ l.map (fun c => .int .u8 c.toNat)

theorem u8nat (n : Nat) (h : n < 256) : (UInt8.ofNat n).toNat = n := by simp; omega
theorem padded_get {l : List UInt8} (h : l.length ≤ 11) {j : Nat} {c : UInt8} (hc : l[j]? = some c) : (padded l)[11 - l.length + j]? = some (.int .u8 c.toNat) := by
  unfold padded
  rw [List.getElem?_append_right (by simp)]
  simp [hc]
theorem padded_zero {l : List UInt8} {x : Nat} (h : x + l.length < 11) : (padded l)[x]? = some (.int .u8 0) := by
  unfold padded
  rw [List.getElem?_append_left (by simp; omega)]
  simp [List.getElem?_replicate]; omega
theorem padded_set {l : List UInt8} {x : Nat} {c : UInt8} {v : Int} (h : x + l.length = 10) (hv : v = (c.toNat : Int)) : (padded l).set x (.int .u8 v) = padded (c :: l) := by
  subst hv
  unfold padded
  have e1 : 11 - l.length = x + 1 := by omega
  have e2 : 11 - (c :: l).length = x := by simp; omega
  rw [e1, e2, List.set_append_left _ _ (by simp)]
  rw [List.replicate_succ', List.set_append_right _ _ (by simp)]
  simp
theorem foldl_push (l : List UInt8) : ∀ (r : ByteArray), (l.map fun c : UInt8 => (c.toNat : Int)).foldl (fun r n => r.push (UInt8.ofNat n.toNat)) r = ⟨(r.data.toList ++ l).toArray⟩ := by
  induction l with
  | nil => intro r; cases r; simp
  | cons c l ih =>
    intro r
    rw [List.map_cons, List.foldl_cons, ih]
    congr 1
    simp
theorem conv_padded (w : World) (l : List UInt8) (hl : l.length ≤ 11) (n c : Nat) (hn : n = l.length) :
    (convert 46 9 (.slice (some ⟨w.heap.size, 11 - l.length, none⟩) n c)).run Tryd.prog (w.alloc (.cells (padded l).toArray 172)) = .ok (.string ⟨l.toArray⟩) (w.alloc (.cells (padded l).toArray 172)) := by
  subst hn
  rw [run_convert_bytes_string _ _ _ _ _ _ _ Tryd.underlying46 Tryd.underlying5 Tryd.underlying9]
  have hload : (loadCells ⟨w.heap.size, 11 - l.length, none⟩ l.length).run Tryd.prog (w.alloc (.cells (padded l).toArray 172)) = .ok ((l.map fun c : UInt8 => (c.toNat : Int)).map (Value.int .u8)).toArray (w.alloc (.cells (padded l).toArray 172)) := by
    have := run_loadCells_list (P := Tryd.prog) (w.alloc (.cells (padded l).toArray 172)) ⟨w.heap.size, 11 - l.length, none⟩ ((l.map fun c : UInt8 => (c.toNat : Int)).map (Value.int .u8)) (fun j v hj => by
      have hadd : (⟨w.heap.size, 11 - l.length, none⟩ : Addr).add j = ⟨w.heap.size, 11 - l.length + j, none⟩ := by unfold Addr.add; split <;> simp_all
      rw [hadd, cell_of_row _ _ _ _ _ _ (heap_alloc_new w _)]
      simp only [List.map_map, List.getElem?_map, Option.map_eq_some_iff] at hj
      obtain ⟨c, hc, rfl⟩ := hj
      simpa using padded_get hl hc)
    simpa using this
  rw [run_bytesToString _ _ _ _ _ hload, foldl_push]
  simp

theorem digs_len : ∀ f m l, (digs f m l).length ≤ f + l.length
  | 0, _, _ => by simp [digs]
  | f + 1, m, l => by
    unfold digs
    split
    · simp; omega
    · have := digs_len f (m / 10) (UInt8.ofNat (48 + m % 10) :: l)
      simp only [List.length_cons] at this; omega

theorem slice_padded (w : World) (y : Nat) (hy : y < 11) (W : World) : (Instr.sliceAt 172 (.pointer (some ⟨w.heap.size, 0, none⟩)) (some (.int .i64 (y : Int))) none none).run Tryd.prog W = .ok (.slice (some ⟨w.heap.size, y, none⟩) (11 - y) (11 - y)) W := by
  have hn : Tryd.prog.arrayLen 172 = 11 := by kernel_rfl
  have hs : (sizeOf (Tryd.prog.elem 172)).run Tryd.prog W = .ok 1 W := by kernel_rfl
  rw [run_sliceAt_array_l W 172 ⟨w.heap.size, 0, none⟩ (by kernel_rfl) .i64 y (by omega) (by rw [hn]; omega), hs]
  simp only [Result.andThen, slicedAt, hn, Int.toNat_natCast, Nat.mul_one]
  rw [if_neg (by omega)]
  congr 4
  unfold Addr.add
  split
  · simp_all
  · simp

set_option maxHeartbeats 1000000 in
theorem digits_any (a : Int) (w : World) (h1 : -2147483648 ≤ a) (h2 : a ≤ 2147483647) :
    Calls Tryd.prog 76 #[.int .i32 a] w fun r w' => r = .returned (.string (digitsB a)) ∧ Below w.heap.size w w' := by
  by_cases h : a < 0
  · go_enter Tryd.func76, Tryd.ntmps76
    go_wp2_with fail
    go_loopg [4, 5] 10 (fun f i n wr => ∃ (m x : Nat) (ds : List UInt8), x = f ∧ 1 ≤ x ∧ x + ds.length = 10 ∧ m < 10 ^ f ∧ i = .int .i64 ((x : Int) + 1) ∧ n = .int .i64 m ∧ digs f m ds = digs 10 a.natAbs [] ∧ wr = w.alloc (.cells (padded ds).toArray 172))
    case atStart => exact ⟨a.natAbs, 10, [], rfl, by omega, rfl, by omega, rfl, by congr 1; omega, rfl, rfl⟩
    case round =>
      obtain ⟨m, x, ds, rfl, hx0, hx, hm, rfl, rfl, hrem, rfl⟩ := hrel
      have hcell : (padded ds).toArray[x]? = some (.int .u8 0) := by simpa using padded_zero (by omega)
      have hset : (padded ds).set x (.int .u8 (48 + (m : Int) % 10)) = padded (UInt8.ofNat (48 + m % 10) :: ds) := padded_set hx (by rw [u8nat _ (by omega)]; omega)
      have hx11 : (x : Int) < 11 := by omega
      have hx11' : x < 11 := by omega
      have hm64 : m ≤ 10000000000 := by
        have := Nat.pow_le_pow_right (n := 10) (by omega) (show x ≤ 10 by omega)
        omega
      obtain ⟨y, rfl⟩ : ∃ y, x = y + 1 := ⟨x - 1, by omega⟩
      have hm2 : m / 10 < 10 ^ y := by rw [Nat.pow_succ] at hm; omega
      rw [digs] at hrem
      by_cases hd : m / 10 = 0
      · rw [if_pos hd] at hrem
        generalize UInt8.ofNat (48 + m % 10) = d at hrem hset
        have hcell2 : (padded (d :: ds)).toArray[y]? = some (.int .u8 0) := by simpa using padded_zero (by simp; omega)
        have hset2 : (padded (d :: ds)).set y (.int .u8 45) = padded (45 :: d :: ds) := padded_set (by simp; omega) (by rfl)
        have hy11 : (y : Int) < 11 := by omega
        have hy11' : y < 11 := by omega
        have hsl := slice_padded w y hy11'
        have hcv := conv_padded w (45 :: d :: ds) (by simp; omega) (11 - y) (11 - y) (by simp; omega)
        have e11 : 11 - (45 :: d :: ds).length = y := by simp; omega
        rw [e11] at hcv
        clear e11
        have hv : digitsB a = ⟨(45 :: d :: ds).toArray⟩ := by unfold digitsB digitsL; rw [if_pos (by omega), ← hrem]
        clear hrem
        have HV := Lib.hid hv; clear hv
        go_wp2_with fail
        go_ret
        exact ⟨ret_str HV.out.symm, bel_alloc (Below.refl _ _) _⟩
      · rw [if_neg hd] at hrem
        have hy1 : 1 ≤ y := by
          rcases Nat.eq_zero_or_pos y with h0 | h0
          · subst h0; simp at hm2; omega
          · exact h0
        generalize UInt8.ofNat (48 + m % 10) = d at hrem hset
        have HR := Lib.hid hrem; clear hrem
        go_wp2_with fail
        go_roundg y
        case measure => omega
        case rel => exact ⟨m / 10, y, d :: ds, rfl, hy1, by simp; omega, hm2, by go_num, by go_num, HR.out, by first | rfl | simp⟩
  · go_enter Tryd.func76, Tryd.ntmps76
    go_wp2_with fail
    go_loopg [4, 5] 10 (fun f i n wr => ∃ (m x : Nat) (ds : List UInt8), x = f ∧ 1 ≤ x ∧ x + ds.length = 10 ∧ m < 10 ^ f ∧ i = .int .i64 ((x : Int) + 1) ∧ n = .int .i64 m ∧ digs f m ds = digs 10 a.natAbs [] ∧ wr = w.alloc (.cells (padded ds).toArray 172))
    case atStart => exact ⟨a.natAbs, 10, [], rfl, by omega, rfl, by omega, rfl, by congr 1; omega, rfl, rfl⟩
    case round =>
      obtain ⟨m, x, ds, rfl, hx0, hx, hm, rfl, rfl, hrem, rfl⟩ := hrel
      have hcell : (padded ds).toArray[x]? = some (.int .u8 0) := by simpa using padded_zero (by omega)
      have hset : (padded ds).set x (.int .u8 (48 + (m : Int) % 10)) = padded (UInt8.ofNat (48 + m % 10) :: ds) := padded_set hx (by rw [u8nat _ (by omega)]; omega)
      have hx11 : (x : Int) < 11 := by omega
      have hx11' : x < 11 := by omega
      have hm64 : m ≤ 10000000000 := by
        have := Nat.pow_le_pow_right (n := 10) (by omega) (show x ≤ 10 by omega)
        omega
      obtain ⟨y, rfl⟩ : ∃ y, x = y + 1 := ⟨x - 1, by omega⟩
      have hm2 : m / 10 < 10 ^ y := by rw [Nat.pow_succ] at hm; omega
      rw [digs] at hrem
      by_cases hd : m / 10 = 0
      · rw [if_pos hd] at hrem
        generalize UInt8.ofNat (48 + m % 10) = d at hrem hset
        have hy11 : (y : Int) + 1 < 11 := by omega
        have hy11' : y + 1 < 11 := by omega
        have hsl := slice_padded w (y + 1) hy11'
        rw [show ((y + 1 : Nat) : Int) = (y : Int) + 1 from by omega] at hsl
        have hcv := conv_padded w (d :: ds) (by simp; omega) (10 - y) (10 - y) (by simp; omega)
        have e11 : 11 - (d :: ds).length = y + 1 := by simp; omega
        rw [e11] at hcv
        clear e11
        have hv : digitsB a = ⟨(d :: ds).toArray⟩ := by unfold digitsB digitsL; rw [if_neg (by omega), ← hrem]
        clear hrem
        have HV := Lib.hid hv; clear hv
        go_wp2_with fail
        go_ret
        exact ⟨ret_str HV.out.symm, bel_alloc (Below.refl _ _) _⟩
      · rw [if_neg hd] at hrem
        have hy1 : 1 ≤ y := by
          rcases Nat.eq_zero_or_pos y with h0 | h0
          · subst h0; simp at hm2; omega
          · exact h0
        generalize UInt8.ofNat (48 + m % 10) = d at hrem hset
        have HR := Lib.hid hrem; clear hrem
        go_wp2_with fail
        go_roundg y
        case measure => omega
        case rel => exact ⟨m / 10, y, d :: ds, rfl, hy1, by simp; omega, hm2, by go_num, by go_num, HR.out, by first | rfl | simp⟩

end Go.Proofs.YtknfcamdfdfoeaaDoor

/- What the package tree writes: expressions, declarations, programs as bytes. -/
namespace Go.Proofs.YtknfcamdfdfoeaaDoor
open Go.RowKit

/-- tree.markOf. -/
def markB (n : Int) : ByteArray :=
  if n = 1 then ⟨#[43]⟩
  else if n = 2 then ⟨#[45]⟩
  else if n = 3 then ⟨#[42]⟩
  else if n = 4 then ⟨#[47]⟩
  else if n = 5 then ⟨#[37]⟩
  else if n = 6 then ⟨#[60, 60]⟩
  else if n = 7 then ⟨#[62, 62]⟩
  else if n = 8 then ⟨#[38]⟩
  else if n = 9 then ⟨#[124]⟩
  else if n = 10 then ⟨#[94]⟩
  else if n = 11 then ⟨#[61]⟩
  else if n = 12 then ⟨#[60, 62]⟩
  else if n = 13 then ⟨#[60]⟩
  else if n = 14 then ⟨#[60, 61]⟩
  else if n = 15 then ⟨#[62]⟩
  else if n = 16 then ⟨#[62, 61]⟩
  else ⟨#[]⟩

/-- tree.part of a text: in brackets where they must be. -/
def brk (k : Int) (t : ByteArray) : ByteArray := if k = 1 ∨ k = 2 ∨ k = 3 ∨ k = 8 ∨ k = 9 then t else ⟨#[40]⟩ ++ t ++ ⟨#[41]⟩

/-- tree.show, of an expression whose parts' texts are given. -/
def showK (k n : Int) (s : ByteArray) (ts : List ByteArray) : ByteArray :=
  if k = 1 then digitsB n
  else if k = 2 then (if n = 0 then ⟨#[102, 97, 108, 115, 101]⟩ else ⟨#[116, 114, 117, 101]⟩)
  else if k = 4 then (if n = 2 then ⟨#[110, 111, 116, 32]⟩ ++ ts.getD 0 ⟨#[]⟩ else ⟨#[45]⟩ ++ ts.getD 0 ⟨#[]⟩)
  else if k = 5 then ts.getD 0 ⟨#[]⟩ ++ ⟨#[32]⟩ ++ markB n ++ ⟨#[32]⟩ ++ ts.getD 1 ⟨#[]⟩
  else if k = 6 then ⟨#[105, 102, 32]⟩ ++ ts.getD 0 ⟨#[]⟩ ++ ⟨#[32, 116, 104, 101, 110, 32]⟩ ++ ts.getD 1 ⟨#[]⟩ ++ ⟨#[32, 101, 108, 115, 101, 32]⟩ ++ ts.getD 2 ⟨#[]⟩
  else if k = 7 then ts.getD 0 ⟨#[]⟩ ++ ⟨#[32, 45, 62, 32]⟩ ++ ts.getD 1 ⟨#[]⟩
  else if k = 8 then ts.getD 0 ⟨#[]⟩ ++ ⟨#[32, 119, 104, 101, 110, 32]⟩ ++ s
  else if k = 9 then ts.getD 0 ⟨#[]⟩ ++ ⟨#[32, 117, 110, 108, 101, 115, 115, 32]⟩ ++ s
  else if k = 10 then ⟨#[109, 101, 114, 103, 101, 32]⟩ ++ s ++ ⟨#[32]⟩ ++ ts.getD 0 ⟨#[]⟩ ++ ⟨#[32]⟩ ++ ts.getD 1 ⟨#[]⟩
  else s

namespace Ex
mutual
def showB : Ex → ByteArray
  | mk k n s l => showK k n s (showL (k == 6) l)
def showL (f : Bool) : List Ex → List ByteArray
  | [] => []
  | x :: l => (if f then showB x else brk x.kind (showB x)) :: showL f l
end
theorem showB_eq (e : Ex) : e.showB = showK e.kind e.n e.name (showL (e.kind == 6) e.sub) := by cases e; simp [showB, kind, n, name, sub]
/-- tree.part. -/
def partB (x : Ex) : ByteArray := brk x.kind x.showB
theorem showL_map (f : Bool) (l : List Ex) : showL f l = l.map fun x => if f then x.showB else x.partB := by
  induction l with
  | nil => simp [showL]
  | cons x l ih => simp [showL, ih, partB]
theorem showL_len (f : Bool) (l : List Ex) : (showL f l).length = l.length := by simp [showL_map]
end Ex

theorem size_app (a b : ByteArray) : (a ++ b).size = a.size + b.size := by simp [ByteArray.size_append]
theorem size_lit (l : Array UInt8) : (ByteArray.mk l).size = l.size := rfl
theorem brk_size (k : Int) (t : ByteArray) : (brk k t).size ≤ t.size + 2 := by
  unfold brk; split
  · omega
  · simp only [size_app, size_lit, List.size_toArray, List.length_cons, List.length_nil]; omega
theorem mark_size (n : Int) : (markB n).size ≤ 2 := by
  unfold markB
  by_cases h1 : n = 1
  · rw [if_pos h1]; decide
  rw [if_neg h1]
  by_cases h2 : n = 2
  · rw [if_pos h2]; decide
  rw [if_neg h2]
  by_cases h3 : n = 3
  · rw [if_pos h3]; decide
  rw [if_neg h3]
  by_cases h4 : n = 4
  · rw [if_pos h4]; decide
  rw [if_neg h4]
  by_cases h5 : n = 5
  · rw [if_pos h5]; decide
  rw [if_neg h5]
  by_cases h6 : n = 6
  · rw [if_pos h6]; decide
  rw [if_neg h6]
  by_cases h7 : n = 7
  · rw [if_pos h7]; decide
  rw [if_neg h7]
  by_cases h8 : n = 8
  · rw [if_pos h8]; decide
  rw [if_neg h8]
  by_cases h9 : n = 9
  · rw [if_pos h9]; decide
  rw [if_neg h9]
  by_cases h10 : n = 10
  · rw [if_pos h10]; decide
  rw [if_neg h10]
  by_cases h11 : n = 11
  · rw [if_pos h11]; decide
  rw [if_neg h11]
  by_cases h12 : n = 12
  · rw [if_pos h12]; decide
  rw [if_neg h12]
  by_cases h13 : n = 13
  · rw [if_pos h13]; decide
  rw [if_neg h13]
  by_cases h14 : n = 14
  · rw [if_pos h14]; decide
  rw [if_neg h14]
  by_cases h15 : n = 15
  · rw [if_pos h15]; decide
  rw [if_neg h15]
  by_cases h16 : n = 16
  · rw [if_pos h16]; decide
  rw [if_neg h16]
  decide
theorem digits_size (a : Int) : (digitsB a).size ≤ 11 := by
  unfold digitsB digitsL
  rw [size_lit]
  have := digs_len 10 a.natAbs []
  split <;> simp at this ⊢ <;> omega

theorem beqI_true' {a b : Int} (h : (a == b) = true) : a = b := by simpa using h
theorem name_small {s : ByteArray} (h : nameB s = true ∨ s.toList.isEmpty = true) : s.size ≤ 16 := by
  rcases h with h | h
  · exact nameB_le h
  · rw [ByteArray.toList_eq] at h
    have : s.data.size = 0 := by
      rw [← Array.length_toList, List.isEmpty_iff.1 h]; rfl
    rw [← ByteArray.size_data, this]; omega

namespace Ex
theorem formed_sub {e x : Ex} (h : e.formed = true) (hx : x ∈ e.sub) : x.formed = true := by
  rw [formed_eq, Bool.and_eq_true] at h
  have : ∀ l : List Ex, formedL l = true → ∀ x ∈ l, x.formed = true := by
    intro l
    induction l with
    | nil => intro _ x hx; cases hx
    | cons y l ih =>
      intro h x hx
      simp only [formedL, Bool.and_eq_true] at h
      rcases List.mem_cons.1 hx with rfl | hx
      · exact h.1
      · exact ih h.2 x hx
  exact this _ h.2 x hx
theorem formedH_kind {k n : Int} {s : ByteArray} {len : Nat} (h : formedH k n s len = true) : (len : Int) = (formK k).1 ∧ (nameB s = true ∨ s.toList.isEmpty = true) := by
  simp only [formedH, Bool.and_eq_true, Bool.or_eq_true] at h
  refine ⟨beqI_true' h.1.1.1.1.2, ?_⟩
  rcases h.2 with h2 | h2
  · have := h.1.2
    rw [h2] at this
    exact .inl (by simpa using this.symm)
  · exact .inr h2
theorem formed_kind {e : Ex} (h : e.formed = true) : (e.sub.length : Int) = (formK e.kind).1 ∧ e.name.size ≤ 16 := by
  rw [formed_eq, Bool.and_eq_true] at h
  obtain ⟨h1, h2⟩ := formedH_kind h.1
  exact ⟨h1, name_small h2⟩
theorem showK_size (k n : Int) (s : ByteArray) (ts : List ByteArray) (hs : s.size ≤ 16) : (showK k n s ts).size ≤ (ts.getD 0 ⟨#[]⟩).size + (ts.getD 1 ⟨#[]⟩).size + (ts.getD 2 ⟨#[]⟩).size + 30 := by
  have h1 := digits_size n
  have h2 := mark_size n
  unfold showK
  repeat' split
  all_goals try simp only [size_app, size_lit, List.size_toArray, List.length_cons, List.length_nil]
  all_goals omega
theorem showB_size (e : Ex) : e.formed = true → e.showB.size + 2 ≤ 40 * e.size := by
  induction e using ind with
  | h e ih =>
    intro hf
    have hk := (formed_kind hf)
    have hs := showK_size e.kind e.n e.name (showL (e.kind == 6) e.sub) hk.2
    rw [← showB_eq] at hs
    rw [size_eq]
    have hl : e.sub.length ≤ 3 := by
      have := hk.1
      unfold formK at this
      repeat' split at this
      all_goals first | omega | (simp at this; omega)
    have hp : ∀ x ∈ e.sub, (if (e.kind == 6) = true then x.showB else x.partB).size ≤ 40 * x.size := by
      intro x hx
      have := ih x hx (formed_sub hf hx)
      have hb := brk_size x.kind x.showB
      split
      · omega
      · unfold partB; omega
    rw [showL_map] at hs
    generalize hsub : e.sub = l at hs hl hp
    match l, hl, hp with
    | [], _, _ => simp only [List.map_nil, List.getD_nil, size_lit, List.size_toArray, List.length_nil] at hs; simp only [sizeL]; omega
    | [a], _, hp =>
      have ha := hp a (by simp)
      simp only [List.map_cons, List.map_nil, List.getD_cons_zero, List.getD_cons_succ, List.getD_nil, size_lit, List.size_toArray, List.length_nil] at hs
      simp only [sizeL]; omega
    | [a, b], _, hp =>
      have ha := hp a (by simp)
      have hb := hp b (by simp)
      simp only [List.map_cons, List.map_nil, List.getD_cons_zero, List.getD_cons_succ, List.getD_nil, size_lit, List.size_toArray, List.length_nil] at hs
      simp only [sizeL]; omega
    | [a, b, c], _, hp =>
      have ha := hp a (by simp)
      have hb := hp b (by simp)
      have hc := hp c (by simp)
      simp only [List.map_cons, List.map_nil, List.getD_cons_zero, List.getD_cons_succ, List.getD_nil, size_lit, List.size_toArray, List.length_nil] at hs
      simp only [sizeL]; omega
end Ex
end Go.Proofs.YtknfcamdfdfoeaaDoor

/- Walks over the package tree: count, depth. -/
namespace Go.Proofs.YtknfcamdfdfoeaaDoor
open Go.RowKit

set_option maxHeartbeats 400000 in
theorem count_any (e : Ex) : ∀ (A : Option Addr) (cap : Nat) (most : Int) (w : World), SubsAt w e A cap → -1000000 ≤ most → most ≤ 1000000 →
    Calls Tryd.prog 85 #[exV e A cap, .int .i64 most] w fun r w' => r = .returned (.int .i64 (e.count most)) ∧ Below w.heap.size w w' := by
  induction e using Ex.ind with
  | h e ih =>
  intro A cap most w he hm hm2
  have hl := he.len
  unfold maxLen at hl
  obtain ⟨hl1, hl2⟩ := hl
  unfold exV
  go_enter Tryd.func85, Tryd.ntmps85
  go_wp2_with fail
  go_loopw [5, 11] (fun m i wr => ∃ (k : Nat) (m' : Int), k ≤ e.sub.length ∧ i = .int .i64 k ∧ m = .int .i64 m' ∧ 1 ≤ m' ∧ m' ≤ max 1 most ∧ Ex.countL (e.sub.drop k) m' most = e.count most ∧ Below w.heap.size w wr) (fun _ i _ => e.sub.length - (intOf i).toNat)
  case atStart => exact ⟨0, 1, Nat.zero_le _, rfl, rfl, by omega, by omega, by simp [Ex.count_eq], belA⟩
  case round =>
    obtain ⟨k, m', hk, rfl, rfl, h0, h1, hrem, hbel⟩ := hrel
    by_cases hlt : k < e.sub.length
    · have hx : e.sub[k]? = some e.sub[k] := List.getElem?_eq_getElem hlt
      have hmem : e.sub[k] ∈ e.sub := List.getElem_mem hlt
      have hd : e.sub.drop k = e.sub[k] :: e.sub.drop (k + 1) := List.drop_eq_getElem_cons hlt
      generalize e.sub[k] = x at hx hmem hd
      obtain ⟨b, off, A', cap', rfl, c0, c1, c2, c3, hs⟩ := (he.later hbel).get hx
      rw [hd, Ex.countL] at hrem
      have hbd := Ex.count_bd x (most - m')
      have ihx := ih x hmem
      by_cases hge : m' ≥ most
      · rw [if_pos hge] at hrem
        have HR := Lib.hid hrem; clear hrem hd hx
        go_wp2_with fail
        go_ret
        exact ⟨ret_int HR.out, belA⟩
      · rw [if_neg hge] at hrem
        have HR := Lib.hid hrem; clear hrem hd hx
        go_wp2_with (go_at_call 85; refine (ihx A' cap' (most - m') _ (hs.later belA) (by omega) (by omega)).mono ?_; rintro r w1 ⟨rfl, hb1⟩)
        go_roundw
        case rel => exact ⟨k + 1, m' + x.count (most - m'), by omega, by go_num, by go_num, by omega, by omega, HR.out, belA⟩
        case measure => simp [intOf]; omega
    · have hke : k = e.sub.length := by omega
      rw [hke, List.drop_length, Ex.countL] at hrem
      have HR := Lib.hid hrem; clear hrem hke
      go_wp2_with fail
      go_ret
      exact ⟨ret_int HR.out, belA⟩

end Go.Proofs.YtknfcamdfdfoeaaDoor
