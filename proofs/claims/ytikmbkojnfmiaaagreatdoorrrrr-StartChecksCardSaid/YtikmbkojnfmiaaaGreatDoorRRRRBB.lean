/- Walk over wrap.Digits. -/
import Derived.Test.YtikmbkojnfmiaaaGreatDoorRRRRBA
import Derived.Test.YtikmbkojnfmiaaaGreatDoorRRRRRows
import Derived.Maps.Own
import Derived.Maps.OwnOps
import Derived.Maps.OwnSet
import Derived.Maps.Views
import Derived.StringKeys
import Derived.WalkArith
import Derived.Laws.OwnMore
import Derived.Deep.RegionLaw
set_option linter.unusedVariables false
set_option linter.unusedSimpArgs false
set_option maxRecDepth 100000
namespace Go.Proofs.YtikmbkojnfmiaaaGreatDoorRRRR
open Go.RowKit Go.Sort

/-- The decimal digits of a number, ahead of some bytes: at most f of them. -/
def digs : Nat → Nat → List UInt8 → List UInt8
  | 0, _, acc => acc
  | f + 1, n, acc => if n / 10 = 0 then UInt8.ofNat (48 + n % 10) :: acc else digs f (n / 10) (UInt8.ofNat (48 + n % 10) :: acc)
/-- wrap.Digits. -/
def digitsL (a : Int) : List UInt8 := if a < 0 then 45 :: digs 10 a.natAbs [] else digs 10 a.natAbs []
def digitsB (a : Int) : ByteArray := ⟨(digitsL a).toArray⟩

def padded (l : List UInt8) : List Value := List.replicate (11 - l.length) (.int .u8 0) ++ l.map (fun c => .int .u8 c.toNat)

theorem u8nat (n : Nat) (h : n < 256) : (UInt8.ofNat n).toNat = n := by simp; omega
theorem padded_len {l : List UInt8} (h : l.length ≤ 11) : (padded l).length = 11 := by simp [padded]; omega
theorem padded_get {l : List UInt8} (h : l.length ≤ 11) {j : Nat} {c : UInt8} (hc : l[j]? = some c) : (padded l)[11 - l.length + j]? = some (.int .u8 c.toNat) := by
  unfold padded
  rw [List.getElem?_append_right (by simp)]
  simp [hc]
theorem padded_zero {l : List UInt8} {x : Nat} (h : x + l.length < 11) : (padded l)[x]? = some (.int .u8 0) := by
  unfold padded
  rw [List.getElem?_append_left (by simp; omega)]
  simp [List.getElem?_replicate]; omega
theorem padded_set {l : List UInt8} {x : Nat} {c : UInt8} {v : Int} (h : x + l.length = 10) (hv : v = (c.toNat : Int)) : (padded l).set x (.int .u8 v) = padded (c :: l) := by
  subst hv
  unfold padded
  have e1 : 11 - l.length = x + 1 := by omega
  have e2 : 11 - (c :: l).length = x := by simp; omega
  rw [e1, e2, List.set_append_left _ _ (by simp)]
  rw [List.replicate_succ', List.set_append_right _ _ (by simp)]
  simp
theorem foldl_push (l : List UInt8) : ∀ (r : ByteArray), (l.map fun c : UInt8 => (c.toNat : Int)).foldl (fun r n => r.push (UInt8.ofNat n.toNat)) r = ⟨(r.data.toList ++ l).toArray⟩ := by
  induction l with
  | nil => intro r; cases r; simp
  | cons c l ih =>
    intro r
    rw [List.map_cons, List.foldl_cons, ih]
    congr 1
    simp
theorem conv_padded (w : World) (l : List UInt8) (hl : l.length ≤ 11) (n c : Nat) (hn : n = l.length) :
    (convert 113 9 (.slice (some ⟨w.heap.size, 11 - l.length, none⟩) n c)).run Tryz.prog (w.alloc (.cells (padded l).toArray 112)) = .ok (.string ⟨l.toArray⟩) (w.alloc (.cells (padded l).toArray 112)) := by
  subst hn
  rw [run_convert_bytes_string _ _ _ _ _ _ _ Tryz.underlying113 Tryz.underlying5 Tryz.underlying9]
  have hload : (loadCells ⟨w.heap.size, 11 - l.length, none⟩ l.length).run Tryz.prog (w.alloc (.cells (padded l).toArray 112)) = .ok ((l.map fun c : UInt8 => (c.toNat : Int)).map (Value.int .u8)).toArray (w.alloc (.cells (padded l).toArray 112)) := by
    have := run_loadCells_list (P := Tryz.prog) (w.alloc (.cells (padded l).toArray 112)) ⟨w.heap.size, 11 - l.length, none⟩ ((l.map fun c : UInt8 => (c.toNat : Int)).map (Value.int .u8)) (fun j v hj => by
      have hadd : (⟨w.heap.size, 11 - l.length, none⟩ : Addr).add j = ⟨w.heap.size, 11 - l.length + j, none⟩ := by unfold Addr.add; split <;> simp_all
      rw [hadd, cell_of_row _ _ _ _ _ _ (heap_alloc_new w _)]
      simp only [List.map_map, List.getElem?_map, Option.map_eq_some_iff] at hj
      obtain ⟨c, hc, rfl⟩ := hj
      simpa using padded_get hl hc)
    simpa using this
  rw [run_bytesToString _ _ _ _ _ hload, foldl_push]
  simp

theorem digs_len : ∀ f m l, (digs f m l).length ≤ f + l.length
  | 0, _, _ => by simp [digs]
  | f + 1, m, l => by
    unfold digs
    split
    · simp; omega
    · have := digs_len f (m / 10) (UInt8.ofNat (48 + m % 10) :: l)
      simp only [List.length_cons] at this; omega

theorem slice_padded (w : World) (y : Nat) (hy : y < 11) (W : World) : (Instr.sliceAt 112 (.pointer (some ⟨w.heap.size, 0, none⟩)) (some (.int .i64 (y : Int))) none none).run Tryz.prog W = .ok (.slice (some ⟨w.heap.size, y, none⟩) (11 - y) (11 - y)) W := by
  have hn : Tryz.prog.arrayLen 112 = 11 := by kernel_rfl
  have hs : (sizeOf (Tryz.prog.elem 112)).run Tryz.prog W = .ok 1 W := by kernel_rfl
  rw [run_sliceAt_array_l W 112 ⟨w.heap.size, 0, none⟩ (by kernel_rfl) .i64 y (by omega) (by rw [hn]; omega), hs]
  simp only [Result.andThen, slicedAt, hn, Int.toNat_natCast, Nat.mul_one]
  rw [if_neg (by omega)]
  congr 4
  unfold Addr.add
  split
  · simp_all
  · simp

set_option maxHeartbeats 1000000 in
theorem digits_any (a : Int) (w : World) (h1 : -2147483648 ≤ a) (h2 : a ≤ 2147483647) :
    Calls Tryz.prog 73 #[.int .i32 a] w fun r w' => r = .returned (.string (digitsB a)) ∧ Below w.heap.size w w' := by
  by_cases h : a < 0
  · go_enter Tryz.func73, Tryz.ntmps73
    go_wp2_with fail
    go_loopg [4, 5] 10 (fun f i n wr => ∃ (m x : Nat) (ds : List UInt8), x = f ∧ 1 ≤ x ∧ x + ds.length = 10 ∧ m < 10 ^ f ∧ i = .int .i64 ((x : Int) + 1) ∧ n = .int .i64 m ∧ digs f m ds = digs 10 a.natAbs [] ∧ wr = w.alloc (.cells (padded ds).toArray 112))
    case atStart => exact ⟨a.natAbs, 10, [], rfl, by omega, rfl, by omega, rfl, by congr 1; omega, rfl, rfl⟩
    case round =>
      obtain ⟨m, x, ds, rfl, hx0, hx, hm, rfl, rfl, hrem, rfl⟩ := hrel
      have hcell : (padded ds).toArray[x]? = some (.int .u8 0) := by simpa using padded_zero (by omega)
      have hset : (padded ds).set x (.int .u8 (48 + (m : Int) % 10)) = padded (UInt8.ofNat (48 + m % 10) :: ds) := padded_set hx (by rw [u8nat _ (by omega)]; omega)
      have hx11 : (x : Int) < 11 := by omega
      have hx11' : x < 11 := by omega
      have hm64 : m ≤ 10000000000 := by
        have := Nat.pow_le_pow_right (n := 10) (by omega) (show x ≤ 10 by omega)
        omega
      obtain ⟨y, rfl⟩ : ∃ y, x = y + 1 := ⟨x - 1, by omega⟩
      have hm2 : m / 10 < 10 ^ y := by rw [Nat.pow_succ] at hm; omega
      rw [digs] at hrem
      by_cases hd : m / 10 = 0
      · rw [if_pos hd] at hrem
        generalize UInt8.ofNat (48 + m % 10) = d at hrem hset
        have hcell2 : (padded (d :: ds)).toArray[y]? = some (.int .u8 0) := by simpa using padded_zero (by simp; omega)
        have hset2 : (padded (d :: ds)).set y (.int .u8 45) = padded (45 :: d :: ds) := padded_set (by simp; omega) (by rfl)
        have hy11 : (y : Int) < 11 := by omega
        have hy11' : y < 11 := by omega
        have hsl := slice_padded w y hy11'
        have hcv := conv_padded w (45 :: d :: ds) (by simp; omega) (11 - y) (11 - y) (by simp; omega)
        have e11 : 11 - (45 :: d :: ds).length = y := by simp; omega
        rw [e11] at hcv
        clear e11
        have hv : digitsB a = ⟨(45 :: d :: ds).toArray⟩ := by unfold digitsB digitsL; rw [if_pos (by omega), ← hrem]
        clear hrem
        have HV := Lib.hid hv; clear hv
        go_wp2_with fail
        go_ret
        exact ⟨ret_str HV.out.symm, bel_alloc (Below.refl _ _) _⟩
      · rw [if_neg hd] at hrem
        have hy1 : 1 ≤ y := by
          rcases Nat.eq_zero_or_pos y with h0 | h0
          · subst h0; simp at hm2; omega
          · exact h0
        generalize UInt8.ofNat (48 + m % 10) = d at hrem hset
        have HR := Lib.hid hrem; clear hrem
        go_wp2_with fail
        go_roundg y
        case measure => omega
        case rel => exact ⟨m / 10, y, d :: ds, rfl, hy1, by simp; omega, hm2, by go_num, by go_num, HR.out, by first | rfl | simp⟩
  · go_enter Tryz.func73, Tryz.ntmps73
    go_wp2_with fail
    go_loopg [4, 5] 10 (fun f i n wr => ∃ (m x : Nat) (ds : List UInt8), x = f ∧ 1 ≤ x ∧ x + ds.length = 10 ∧ m < 10 ^ f ∧ i = .int .i64 ((x : Int) + 1) ∧ n = .int .i64 m ∧ digs f m ds = digs 10 a.natAbs [] ∧ wr = w.alloc (.cells (padded ds).toArray 112))
    case atStart => exact ⟨a.natAbs, 10, [], rfl, by omega, rfl, by omega, rfl, by congr 1; omega, rfl, rfl⟩
    case round =>
      obtain ⟨m, x, ds, rfl, hx0, hx, hm, rfl, rfl, hrem, rfl⟩ := hrel
      have hcell : (padded ds).toArray[x]? = some (.int .u8 0) := by simpa using padded_zero (by omega)
      have hset : (padded ds).set x (.int .u8 (48 + (m : Int) % 10)) = padded (UInt8.ofNat (48 + m % 10) :: ds) := padded_set hx (by rw [u8nat _ (by omega)]; omega)
      have hx11 : (x : Int) < 11 := by omega
      have hx11' : x < 11 := by omega
      have hm64 : m ≤ 10000000000 := by
        have := Nat.pow_le_pow_right (n := 10) (by omega) (show x ≤ 10 by omega)
        omega
      obtain ⟨y, rfl⟩ : ∃ y, x = y + 1 := ⟨x - 1, by omega⟩
      have hm2 : m / 10 < 10 ^ y := by rw [Nat.pow_succ] at hm; omega
      rw [digs] at hrem
      by_cases hd : m / 10 = 0
      · rw [if_pos hd] at hrem
        generalize UInt8.ofNat (48 + m % 10) = d at hrem hset
        have hy11 : (y : Int) + 1 < 11 := by omega
        have hy11' : y + 1 < 11 := by omega
        have hsl := slice_padded w (y + 1) hy11'
        rw [show ((y + 1 : Nat) : Int) = (y : Int) + 1 from by omega] at hsl
        have hcv := conv_padded w (d :: ds) (by simp; omega) (10 - y) (10 - y) (by simp; omega)
        have e11 : 11 - (d :: ds).length = y + 1 := by simp; omega
        rw [e11] at hcv
        clear e11
        have hv : digitsB a = ⟨(d :: ds).toArray⟩ := by unfold digitsB digitsL; rw [if_neg (by omega), ← hrem]
        clear hrem
        have HV := Lib.hid hv; clear hv
        go_wp2_with fail
        go_ret
        exact ⟨ret_str HV.out.symm, bel_alloc (Below.refl _ _) _⟩
      · rw [if_neg hd] at hrem
        have hy1 : 1 ≤ y := by
          rcases Nat.eq_zero_or_pos y with h0 | h0
          · subst h0; simp at hm2; omega
          · exact h0
        generalize UInt8.ofNat (48 + m % 10) = d at hrem hset
        have HR := Lib.hid hrem; clear hrem
        go_wp2_with fail
        go_roundg y
        case measure => omega
        case rel => exact ⟨m / 10, y, d :: ds, rfl, hy1, by simp; omega, hm2, by go_num, by go_num, HR.out, by first | rfl | simp⟩

end Go.Proofs.YtikmbkojnfmiaaaGreatDoorRRRR

/- Slices that a call makes for itself: append of one element; what stays as it is. -/
namespace Go.Proofs.YtikmbkojnfmiaaaGreatDoorRRRR
open Go.RowKit Go.Sort

section
variable {P : Program} {w w' : World} {base : Nat} {e : TypeId} {size n : Nat} {v : Value} {xs : List Value}

theorem own_keep (h : w.ownsRow base e size v n xs) (hb : ∀ k, k < w.heap.size → w'.heap[k]? = w.heap[k]?) : w'.ownsRow base e size v n xs := by
  obtain ⟨h1, h2⟩ := h
  refine ⟨h1, ?_⟩
  rcases h2 with h2 | ⟨g, cap, cur, hv, hg, hh, r⟩
  · exact .inl h2
  · refine .inr ⟨g, cap, cur, hv, hg, ?_, r⟩
    have hlt : g < w.heap.size := by
      rcases Nat.lt_or_ge g w.heap.size with h | h
      · exact h
      · rw [Array.getElem?_eq_none h] at hh; cases hh
    rw [hb g hlt]; exact hh
theorem own_bel (h : w.ownsRow base e size v n xs) (hb : Below w.heap.size w w') : w'.ownsRow base e size v n xs := own_keep h hb.block
theorem own_alloc (h : w.ownsRow base e size v n xs) {o : Obj} : (w.alloc o).ownsRow base e size v n xs := h.alloc o
theorem own_drew (h : w.ownsRow base e size v n xs) : w.drew.ownsRow base e size v n xs := h
/-- An owned slice that is not empty: where it lies. -/
theorem own_get (h : w.ownsRow base e size v n xs) (hn : 0 < n) : ∃ g cap, v = .slice (some ⟨g, 0, none⟩) n cap ∧ base ≤ g ∧ g < w.heap.size ∧ n ≤ cap ∧ cap ≤ maxLen ∧ ∀ j u, xs[j]? = some u → w.cell? ⟨g, j, none⟩ = some u := by
  have hlt := h.lt
  obtain ⟨hx, h'⟩ := h
  have h : w.ownsRow base e size v n xs := ⟨hx, h'⟩
  rcases h' with ⟨rfl, h0⟩ | ⟨g, cap, cur, rfl, hg, hh, h1, h2, _⟩
  · omega
  · refine ⟨g, cap, rfl, hg, (hlt g rfl).2, h1, h2, fun j u hj => ?_⟩
    have := h.cells rfl j u hj
    have hadd : (⟨g, 0, none⟩ : Addr).add j = ⟨g, j, none⟩ := by unfold Addr.add; split <;> simp_all
    rwa [hadd] at this
theorem own_slice (h : w.ownsRow base e size v n xs) : ∃ A cap, v = .slice A n cap ∧ n ≤ cap ∧ cap ≤ maxLen := by
  rcases h.2 with ⟨rfl, rfl⟩ | ⟨g, cap, cur, rfl, hg, hh, h1, h2, _⟩
  · exact ⟨none, 0, rfl, Nat.le_refl _, by simp [maxLen]⟩
  · exact ⟨_, cap, rfl, h1, h2⟩
theorem bel_grow {a b c : World} {B : Nat} (h : Below a.heap.size a b) (k : Below B b c) (hB : a.heap.size ≤ B) : Below a.heap.size a c := h.trans (k.mono hB)
theorem cell_new (w : World) (c : Array Value) (t : TypeId) (j : Nat) : (w.alloc (.cells c t)).cell? ⟨w.heap.size, j, none⟩ = c[j]? := cell_of_row _ _ _ _ _ _ (heap_alloc_new w _)
theorem bel_of_le {B : Nat} {a b : World} (h : Below B a b) {B' : Nat} (hB : B' ≤ B) : Below B' a b := h.mono hB

/-- append of one element to a slice of the call's own. -/
theorem wpList_app {ops : Array Oper} {rest : List Oper} {o : Oper} {a : Act} {Q : Exit → Act → World → Prop} (hgd : o.guard = none) (s x : Operand) (t : TypeId)
    (ho : o.op = .call { callee := .builtin .append, args := #[s, x], argTypes := #[t, t] })
    (base : Nat) (e : TypeId) (z : Value) (size bytes : Nat) (ht : P.underlying t = some (.slice e)) (hi : (P.info? e).map (fun i => (i.zero, i.size, i.bytes)) = some (some z, size, bytes))
    (hzs : z.cells.size = size) (hsz : 0 < size) (v : Value) (n : Nat) (xs : List Value) (g c : Nat) (news : List Value)
    (hs : a.eval s = v) (hown : w.ownsRow base e size v n xs)
    (hx : a.eval x = .slice (some ⟨g, 0, none⟩) 1 c) (hl : news.length = size) (hnews : ∀ j u, news[j]? = some u → w.cell? ⟨g, j, none⟩ = some u) (h1 : ∀ u ∈ news, u.oneCell' = true)
    (hn : n < 100000000) (hb : bytes ≤ 1000) (hbase : base ≤ w.heap.size)
    (h : ∀ v' w', w'.ownsRow base e size v' (n + 1) (xs ++ news) → Below base w w' → wpList P ops Q rest (a.put o.dst v') w') : wpList P ops Q (o :: rest) a w := by
  obtain ⟨i, hi0, hz0, hz1, hz2⟩ := info_parts hi
  refine wpList_append_own w hgd s x t ho base e i z size bytes ht hi0 hz0 hz1 hz2 hzs hsz v n xs hs hown ⟨g, 0, none⟩ 1 c news hx (by simp [hl]) (fun j u hj => ?_) h1 (by unfold maxLen; omega) ?_ hbase fun v' w' h2 h3 _ => ?_
  · have hadd : (⟨g, 0, none⟩ : Addr).add j = ⟨g, j, none⟩ := by unfold Addr.add; split <;> simp_all
    rw [hadd]; exact hnews j u hj
  · exact Nat.le_trans (Nat.mul_le_mul (Nat.le_of_lt_succ (by omega : n + 1 < 100000002)) hb) (by omega)
  · refine h v' w' h2 ⟨h3.os, h3.tape, h3.output, h3.size, fun k hk => h3.block k (by omega) fun hk2 => ?_⟩
    have := (hown.lt k hk2.symm).1
    omega
end
end Go.Proofs.YtikmbkojnfmiaaaGreatDoorRRRR

/- What the package tree writes: expressions, declarations, programs as bytes. -/
namespace Go.Proofs.YtikmbkojnfmiaaaGreatDoorRRRR
open Go.RowKit

/-- tree.markOf. -/
def markB (n : Int) : ByteArray :=
  if n = 1 then ⟨#[43]⟩
  else if n = 2 then ⟨#[45]⟩
  else if n = 3 then ⟨#[42]⟩
  else if n = 4 then ⟨#[47]⟩
  else if n = 5 then ⟨#[37]⟩
  else if n = 6 then ⟨#[60, 60]⟩
  else if n = 7 then ⟨#[62, 62]⟩
  else if n = 8 then ⟨#[38]⟩
  else if n = 9 then ⟨#[124]⟩
  else if n = 10 then ⟨#[94]⟩
  else if n = 11 then ⟨#[61]⟩
  else if n = 12 then ⟨#[60, 62]⟩
  else if n = 13 then ⟨#[60]⟩
  else if n = 14 then ⟨#[60, 61]⟩
  else if n = 15 then ⟨#[62]⟩
  else if n = 16 then ⟨#[62, 61]⟩
  else ⟨#[]⟩

/-- tree.part of a text: in brackets where they must be. -/
def brk (k : Int) (t : ByteArray) : ByteArray := if k = 1 ∨ k = 2 ∨ k = 3 ∨ k = 8 ∨ k = 9 then t else ⟨#[40]⟩ ++ t ++ ⟨#[41]⟩

/-- tree.show, of an expression whose parts' texts are given. -/
def showK (k n : Int) (s : ByteArray) (ts : List ByteArray) : ByteArray :=
  if k = 1 then digitsB n
  else if k = 2 then (if n = 0 then ⟨#[102, 97, 108, 115, 101]⟩ else ⟨#[116, 114, 117, 101]⟩)
  else if k = 4 then (if n = 2 then ⟨#[110, 111, 116, 32]⟩ ++ ts.getD 0 ⟨#[]⟩ else ⟨#[45]⟩ ++ ts.getD 0 ⟨#[]⟩)
  else if k = 5 then ts.getD 0 ⟨#[]⟩ ++ ⟨#[32]⟩ ++ markB n ++ ⟨#[32]⟩ ++ ts.getD 1 ⟨#[]⟩
  else if k = 6 then ⟨#[105, 102, 32]⟩ ++ ts.getD 0 ⟨#[]⟩ ++ ⟨#[32, 116, 104, 101, 110, 32]⟩ ++ ts.getD 1 ⟨#[]⟩ ++ ⟨#[32, 101, 108, 115, 101, 32]⟩ ++ ts.getD 2 ⟨#[]⟩
  else if k = 7 then ts.getD 0 ⟨#[]⟩ ++ ⟨#[32, 45, 62, 32]⟩ ++ ts.getD 1 ⟨#[]⟩
  else if k = 8 then ts.getD 0 ⟨#[]⟩ ++ ⟨#[32, 119, 104, 101, 110, 32]⟩ ++ s
  else if k = 9 then ts.getD 0 ⟨#[]⟩ ++ ⟨#[32, 117, 110, 108, 101, 115, 115, 32]⟩ ++ s
  else if k = 10 then ⟨#[109, 101, 114, 103, 101, 32]⟩ ++ s ++ ⟨#[32]⟩ ++ ts.getD 0 ⟨#[]⟩ ++ ⟨#[32]⟩ ++ ts.getD 1 ⟨#[]⟩
  else s

namespace Ex
mutual
def showB : Ex → ByteArray
  | mk k n s l => showK k n s (showL (k == 6) l)
def showL (f : Bool) : List Ex → List ByteArray
  | [] => []
  | x :: l => (if f then showB x else brk x.kind (showB x)) :: showL f l
end
theorem showB_eq (e : Ex) : e.showB = showK e.kind e.n e.name (showL (e.kind == 6) e.sub) := by cases e; simp [showB, kind, n, name, sub]
/-- tree.part. -/
def partB (x : Ex) : ByteArray := brk x.kind x.showB
theorem showL_map (f : Bool) (l : List Ex) : showL f l = l.map fun x => if f then x.showB else x.partB := by
  induction l with
  | nil => simp [showL]
  | cons x l ih => simp [showL, ih, partB]
theorem showL_len (f : Bool) (l : List Ex) : (showL f l).length = l.length := by simp [showL_map]
end Ex

theorem size_app (a b : ByteArray) : (a ++ b).size = a.size + b.size := by simp [ByteArray.size_append]
theorem size_lit (l : Array UInt8) : (ByteArray.mk l).size = l.size := rfl
theorem brk_size (k : Int) (t : ByteArray) : (brk k t).size ≤ t.size + 2 := by
  unfold brk; split
  · omega
  · simp only [size_app, size_lit, List.size_toArray, List.length_cons, List.length_nil]; omega
theorem mark_size (n : Int) : (markB n).size ≤ 2 := by
  unfold markB
  by_cases h1 : n = 1
  · rw [if_pos h1]; decide
  rw [if_neg h1]
  by_cases h2 : n = 2
  · rw [if_pos h2]; decide
  rw [if_neg h2]
  by_cases h3 : n = 3
  · rw [if_pos h3]; decide
  rw [if_neg h3]
  by_cases h4 : n = 4
  · rw [if_pos h4]; decide
  rw [if_neg h4]
  by_cases h5 : n = 5
  · rw [if_pos h5]; decide
  rw [if_neg h5]
  by_cases h6 : n = 6
  · rw [if_pos h6]; decide
  rw [if_neg h6]
  by_cases h7 : n = 7
  · rw [if_pos h7]; decide
  rw [if_neg h7]
  by_cases h8 : n = 8
  · rw [if_pos h8]; decide
  rw [if_neg h8]
  by_cases h9 : n = 9
  · rw [if_pos h9]; decide
  rw [if_neg h9]
  by_cases h10 : n = 10
  · rw [if_pos h10]; decide
  rw [if_neg h10]
  by_cases h11 : n = 11
  · rw [if_pos h11]; decide
  rw [if_neg h11]
  by_cases h12 : n = 12
  · rw [if_pos h12]; decide
  rw [if_neg h12]
  by_cases h13 : n = 13
  · rw [if_pos h13]; decide
  rw [if_neg h13]
  by_cases h14 : n = 14
  · rw [if_pos h14]; decide
  rw [if_neg h14]
  by_cases h15 : n = 15
  · rw [if_pos h15]; decide
  rw [if_neg h15]
  by_cases h16 : n = 16
  · rw [if_pos h16]; decide
  rw [if_neg h16]
  decide
theorem digits_size (a : Int) : (digitsB a).size ≤ 11 := by
  unfold digitsB digitsL
  rw [size_lit]
  have := digs_len 10 a.natAbs []
  split <;> simp at this ⊢ <;> omega

theorem beqI_true' {a b : Int} (h : (a == b) = true) : a = b := by simpa using h
theorem name_small {s : ByteArray} (h : nameB s = true ∨ s.toList.isEmpty = true) : s.size ≤ 16 := by
  rcases h with h | h
  · exact nameB_le h
  · rw [ByteArray.toList_eq] at h
    have : s.data.size = 0 := by
      rw [← Array.length_toList, List.isEmpty_iff.1 h]; rfl
    rw [← ByteArray.size_data, this]; omega

namespace Ex
theorem formed_sub {e x : Ex} (h : e.formed = true) (hx : x ∈ e.sub) : x.formed = true := by
  rw [formed_eq, Bool.and_eq_true] at h
  have : ∀ l : List Ex, formedL l = true → ∀ x ∈ l, x.formed = true := by
    intro l
    induction l with
    | nil => intro _ x hx; cases hx
    | cons y l ih =>
      intro h x hx
      simp only [formedL, Bool.and_eq_true] at h
      rcases List.mem_cons.1 hx with rfl | hx
      · exact h.1
      · exact ih h.2 x hx
  exact this _ h.2 x hx
theorem formedH_kind {k n : Int} {s : ByteArray} {len : Nat} (h : formedH k n s len = true) : (len : Int) = (formK k).1 ∧ (nameB s = true ∨ s.toList.isEmpty = true) := by
  simp only [formedH, Bool.and_eq_true, Bool.or_eq_true] at h
  refine ⟨beqI_true' h.1.1.1.1.2, ?_⟩
  rcases h.2 with h2 | h2
  · have := h.1.2
    rw [h2] at this
    exact .inl (by simpa using this.symm)
  · exact .inr h2
theorem formed_kind {e : Ex} (h : e.formed = true) : (e.sub.length : Int) = (formK e.kind).1 ∧ e.name.size ≤ 16 := by
  rw [formed_eq, Bool.and_eq_true] at h
  obtain ⟨h1, h2⟩ := formedH_kind h.1
  exact ⟨h1, name_small h2⟩
theorem showK_size (k n : Int) (s : ByteArray) (ts : List ByteArray) (hs : s.size ≤ 16) : (showK k n s ts).size ≤ (ts.getD 0 ⟨#[]⟩).size + (ts.getD 1 ⟨#[]⟩).size + (ts.getD 2 ⟨#[]⟩).size + 30 := by
  have h1 := digits_size n
  have h2 := mark_size n
  unfold showK
  repeat' split
  all_goals try simp only [size_app, size_lit, List.size_toArray, List.length_cons, List.length_nil]
  all_goals omega
theorem showB_size (e : Ex) : e.formed = true → e.showB.size + 2 ≤ 40 * e.size := by
  induction e using ind with
  | h e ih =>
    intro hf
    have hk := (formed_kind hf)
    have hs := showK_size e.kind e.n e.name (showL (e.kind == 6) e.sub) hk.2
    rw [← showB_eq] at hs
    rw [size_eq]
    have hl : e.sub.length ≤ 3 := by
      have := hk.1
      unfold formK at this
      repeat' split at this
      all_goals first | omega | (simp at this; omega)
    have hp : ∀ x ∈ e.sub, (if (e.kind == 6) = true then x.showB else x.partB).size ≤ 40 * x.size := by
      intro x hx
      have := ih x hx (formed_sub hf hx)
      have hb := brk_size x.kind x.showB
      split
      · omega
      · unfold partB; omega
    rw [showL_map] at hs
    generalize hsub : e.sub = l at hs hl hp
    match l, hl, hp with
    | [], _, _ => simp only [List.map_nil, List.getD_nil, size_lit, List.size_toArray, List.length_nil] at hs; simp only [sizeL]; omega
    | [a], _, hp =>
      have ha := hp a (by simp)
      simp only [List.map_cons, List.map_nil, List.getD_cons_zero, List.getD_cons_succ, List.getD_nil, size_lit, List.size_toArray, List.length_nil] at hs
      simp only [sizeL]; omega
    | [a, b], _, hp =>
      have ha := hp a (by simp)
      have hb := hp b (by simp)
      simp only [List.map_cons, List.map_nil, List.getD_cons_zero, List.getD_cons_succ, List.getD_nil, size_lit, List.size_toArray, List.length_nil] at hs
      simp only [sizeL]; omega
    | [a, b, c], _, hp =>
      have ha := hp a (by simp)
      have hb := hp b (by simp)
      have hc := hp c (by simp)
      simp only [List.map_cons, List.map_nil, List.getD_cons_zero, List.getD_cons_succ, List.getD_nil, size_lit, List.size_toArray, List.length_nil] at hs
      simp only [sizeL]; omega
end Ex
end Go.Proofs.YtikmbkojnfmiaaaGreatDoorRRRR

/- Walks over the package tree: markOf, part, show. -/
namespace Go.Proofs.YtikmbkojnfmiaaaGreatDoorRRRR
open Go.RowKit Go.Sort

theorem strinfo : (Tryz.prog.info? 9).map (fun i => (i.zero, i.size, i.bytes)) = some (some (.string ⟨#[]⟩), 1, 16) := by kernel_rfl

set_option maxHeartbeats 1000000 in
theorem mark_any (n : Int) (w : World) : Calls Tryz.prog 74 #[.int .i32 n] w fun r w' => r = .returned (.string (markB n)) ∧ w = w' := by
  go_enter Tryz.func74, Tryz.ntmps74
  go_wp2_with fail
  all_goals (go_ret; exact ⟨ret_str (by simp_all [markB]), rfl⟩)

set_option maxHeartbeats 1000000 in
theorem part_of {e : Ex} (hs : e.showB.size ≤ 100000000) {A : Option Addr} {cap : Nat} {w : World} (he : SubsAt w e A cap)
    (hshow : ∀ W, SubsAt W e A cap → Calls Tryz.prog 56 #[exV e A cap] W fun r w' => r = .returned (.string e.showB) ∧ Below W.heap.size W w') :
    Calls Tryz.prog 72 #[exV e A cap] w fun r w' => r = .returned (.string e.partB) ∧ Below w.heap.size w w' := by
  have hl := he.len
  unfold maxLen at hl
  have hv : e.partB = brk e.kind e.showB := rfl
  unfold brk at hv
  have hcall := fun W h => hshow W (he.later h)
  unfold exV at hcall ⊢
  by_cases hk : e.kind = 1 ∨ e.kind = 2 ∨ e.kind = 3 ∨ e.kind = 8 ∨ e.kind = 9
  · rw [if_pos hk] at hv
    have HV := Lib.hid hv; clear hv
    rcases hk with hk | hk | hk | hk | hk
    · have k1 : (e.kind == 1) = true := by rw [hk]; rfl
      clear hk
      go_enter Tryz.func72, Tryz.ntmps72
      go_wp2_with (first | (go_at_call 56; refine (hcall _ belA).mono ?_; rintro r w1 ⟨rfl, hb1⟩; have hc1 := bcell hb1; have hz1 := hb1.size; (try simp at hz1); (try have hy1 := lt0 w w1); (try have hy2 := ltA w 1 w1); (try have hy3 := ltA w 2 w1); (try have hy4 := lt0 wr w1); (try have hy5 := ltA wr 1 w1)))
      go_ret
      exact ⟨ret_str HV.out.symm, belA⟩
    · have k1 : (e.kind == 1) = false := by rw [hk]; rfl
      have k2 : (e.kind == 2) = true := by rw [hk]; rfl
      clear hk
      go_enter Tryz.func72, Tryz.ntmps72
      go_wp2_with (first | (go_at_call 56; refine (hcall _ belA).mono ?_; rintro r w1 ⟨rfl, hb1⟩; have hc1 := bcell hb1; have hz1 := hb1.size; (try simp at hz1); (try have hy1 := lt0 w w1); (try have hy2 := ltA w 1 w1); (try have hy3 := ltA w 2 w1); (try have hy4 := lt0 wr w1); (try have hy5 := ltA wr 1 w1)))
      go_ret
      exact ⟨ret_str HV.out.symm, belA⟩
    · have k1 : (e.kind == 1) = false := by rw [hk]; rfl
      have k2 : (e.kind == 2) = false := by rw [hk]; rfl
      have k3 : (e.kind == 3) = true := by rw [hk]; rfl
      clear hk
      go_enter Tryz.func72, Tryz.ntmps72
      go_wp2_with (first | (go_at_call 56; refine (hcall _ belA).mono ?_; rintro r w1 ⟨rfl, hb1⟩; have hc1 := bcell hb1; have hz1 := hb1.size; (try simp at hz1); (try have hy1 := lt0 w w1); (try have hy2 := ltA w 1 w1); (try have hy3 := ltA w 2 w1); (try have hy4 := lt0 wr w1); (try have hy5 := ltA wr 1 w1)))
      go_ret
      exact ⟨ret_str HV.out.symm, belA⟩
    · have k1 : (e.kind == 1) = false := by rw [hk]; rfl
      have k2 : (e.kind == 2) = false := by rw [hk]; rfl
      have k3 : (e.kind == 3) = false := by rw [hk]; rfl
      have k8 : (e.kind == 8) = true := by rw [hk]; rfl
      clear hk
      go_enter Tryz.func72, Tryz.ntmps72
      go_wp2_with (first | (go_at_call 56; refine (hcall _ belA).mono ?_; rintro r w1 ⟨rfl, hb1⟩; have hc1 := bcell hb1; have hz1 := hb1.size; (try simp at hz1); (try have hy1 := lt0 w w1); (try have hy2 := ltA w 1 w1); (try have hy3 := ltA w 2 w1); (try have hy4 := lt0 wr w1); (try have hy5 := ltA wr 1 w1)))
      go_ret
      exact ⟨ret_str HV.out.symm, belA⟩
    · have k1 : (e.kind == 1) = false := by rw [hk]; rfl
      have k2 : (e.kind == 2) = false := by rw [hk]; rfl
      have k3 : (e.kind == 3) = false := by rw [hk]; rfl
      have k8 : (e.kind == 8) = false := by rw [hk]; rfl
      have k9 : (e.kind == 9) = true := by rw [hk]; rfl
      clear hk
      go_enter Tryz.func72, Tryz.ntmps72
      go_wp2_with (first | (go_at_call 56; refine (hcall _ belA).mono ?_; rintro r w1 ⟨rfl, hb1⟩; have hc1 := bcell hb1; have hz1 := hb1.size; (try simp at hz1); (try have hy1 := lt0 w w1); (try have hy2 := ltA w 1 w1); (try have hy3 := ltA w 2 w1); (try have hy4 := lt0 wr w1); (try have hy5 := ltA wr 1 w1)))
      go_ret
      exact ⟨ret_str HV.out.symm, belA⟩
  · rw [if_neg hk] at hv
    have HV := Lib.hid hv; clear hv
    have k1 : (e.kind == 1) = false := by simp; omega
    have k2 : (e.kind == 2) = false := by simp; omega
    have k3 : (e.kind == 3) = false := by simp; omega
    have k8 : (e.kind == 8) = false := by simp; omega
    have k9 : (e.kind == 9) = false := by simp; omega
    go_enter Tryz.func72, Tryz.ntmps72
    go_wp2_with (first | (go_at_call 56; refine (hcall _ belA).mono ?_; rintro r w1 ⟨rfl, hb1⟩; have hc1 := bcell hb1; have hz1 := hb1.size; (try simp at hz1); (try have hy1 := lt0 w w1); (try have hy2 := ltA w 1 w1); (try have hy3 := ltA w 2 w1); (try have hy4 := lt0 wr w1); (try have hy5 := ltA wr 1 w1)))
    go_ret
    exact ⟨ret_str HV.out.symm, belA⟩

end Go.Proofs.YtikmbkojnfmiaaaGreatDoorRRRR

/- The text of a program, as the package tree writes it. -/
namespace Go.Proofs.YtikmbkojnfmiaaaGreatDoorRRRR
open Go.RowKit

/-- tree.declared. -/
def declB (v : Va) : ByteArray :=
  if v.ck = 1 then (if v.type = 2 then v.name ++ ⟨#[32, 58, 32, 98, 111, 111, 108]⟩ else v.name ++ ⟨#[32, 58, 32, 105, 110, 116]⟩) ++ (⟨#[32, 119, 104, 101, 110, 32]⟩ ++ v.cn)
  else if v.ck = 2 then (if v.type = 2 then v.name ++ ⟨#[32, 58, 32, 98, 111, 111, 108]⟩ else v.name ++ ⟨#[32, 58, 32, 105, 110, 116]⟩) ++ (⟨#[32, 117, 110, 108, 101, 115, 115, 32]⟩ ++ v.cn)
  else (if v.type = 2 then v.name ++ ⟨#[32, 58, 32, 98, 111, 111, 108]⟩ else v.name ++ ⟨#[32, 58, 32, 105, 110, 116]⟩)
def listGo : Nat → ByteArray → List Va → ByteArray
  | _, s, [] => s
  | k, s, v :: l => listGo (k + 1) ((if 0 < k then s ++ ⟨#[59, 32]⟩ else s) ++ declB v) l
/-- tree.list. -/
def listVB (l : List Va) : ByteArray := listGo 0 ⟨#[40]⟩ l ++ ⟨#[41]⟩
def headB (p : Pr) : ByteArray := ⟨#[110, 111, 100, 101, 32]⟩ ++ p.name ++ ⟨#[32]⟩ ++ listVB p.ins ++ ⟨#[32, 114, 101, 116, 117, 114, 110, 115, 32]⟩ ++ listVB p.outs ++ ⟨#[59, 10]⟩
def localsGo : ByteArray → List Va → ByteArray
  | s, [] => s
  | s, v :: l => localsGo (s ++ (⟨#[32, 32]⟩ ++ declB v ++ ⟨#[59, 10]⟩)) l
def eqText (s : ByteArray) (q : Qe) : ByteArray :=
  (if q.delay = 1 then (s ++ (⟨#[32, 32]⟩ ++ q.name ++ ⟨#[32, 61, 32]⟩)) ++ (q.first.showB ++ ⟨#[32, 102, 98, 121, 32]⟩) else if q.delay = 2 then (s ++ (⟨#[32, 32]⟩ ++ q.name ++ ⟨#[32, 61, 32]⟩)) ++ ⟨#[112, 114, 101, 32]⟩ else s ++ (⟨#[32, 32]⟩ ++ q.name ++ ⟨#[32, 61, 32]⟩)) ++ (q.e.showB ++ ⟨#[59, 10]⟩)
def eqsGo : ByteArray → List Qe → ByteArray
  | s, [] => s
  | s, q :: l => eqsGo (eqText s q) l
/-- tree.Print's text. -/
def printB (p : Pr) : ByteArray := eqsGo (localsGo (if 0 < p.locals.length then headB p ++ ⟨#[118, 97, 114, 10]⟩ else headB p) p.locals ++ ⟨#[108, 101, 116, 10]⟩) p.eqs ++ ⟨#[116, 101, 108, 10]⟩
/-- tree.Print's error. -/
def printE (p : Pr) : Int := if wholeB p = false then 4 else if 4096 < (printB p).size then 3 else 0

/-- Names of a declaration are short. -/
def Short (v : Va) : Prop := v.name.size ≤ 16 ∧ v.cn.size ≤ 16
theorem declB_size {v : Va} (h : Short v) : (declB v).size ≤ 60 := by
  obtain ⟨h1, h2⟩ := h
  unfold declB
  repeat' split
  all_goals simp only [size_app, size_lit, List.size_toArray, List.length_cons, List.length_nil]
  all_goals omega
theorem listGo_size : ∀ (l : List Va), (∀ v ∈ l, Short v) → ∀ (k : Nat) (s : ByteArray), (listGo k s l).size ≤ s.size + 62 * l.length
  | [], _, k, s => by simp [listGo]
  | v :: l, h, k, s => by
    have h1 := declB_size (h v (by simp))
    have := listGo_size l (fun x hx => h x (by simp [hx])) (k + 1) ((if 0 < k then s ++ ⟨#[59, 32]⟩ else s) ++ declB v)
    rw [listGo]
    refine Nat.le_trans this ?_
    rw [size_app, List.length_cons]
    split
    · simp only [size_app, size_lit, List.size_toArray, List.length_cons, List.length_nil]; omega
    · omega
theorem listVB_size {l : List Va} (h : ∀ v ∈ l, Short v) : (listVB l).size ≤ 2 + 62 * l.length := by
  have := listGo_size l h 0 ⟨#[40]⟩
  unfold listVB
  simp only [size_app, size_lit, List.size_toArray, List.length_cons, List.length_nil] at this ⊢
  omega
theorem short_of {v : Va} {own : Bool} (h : variableB v own = true) : Short v := by
  unfold variableB at h
  simp only [Bool.and_eq_true] at h
  refine ⟨nameB_le h.1.1, ?_⟩
  have h2 := h.2
  split at h2
  · exact name_small (.inr h2)
  · split at h2
    · simp only [Bool.and_eq_true] at h2
      exact nameB_le h2.2
    · simp at h2
theorem whole_parts {p : Pr} (h : wholeB p = true) : p.name.size ≤ 16 ∧ (∀ v ∈ p.ins, Short v) ∧ (∀ v ∈ p.outs, Short v) ∧ (∀ v ∈ p.locals, Short v) ∧ ∀ q ∈ p.eqs, eqB q = true := by
  simp only [wholeB, Bool.and_eq_true, List.all_eq_true] at h
  exact ⟨nameB_le h.1.1.1.1, fun v hv => short_of (h.1.1.1.2 v hv), fun v hv => short_of (h.1.1.2 v hv), fun v hv => short_of (h.1.2 v hv), h.2⟩
theorem eqB_parts {q : Qe} (h : eqB q = true) : q.name.size ≤ 16 ∧ q.e.formed = true ∧ q.e.size ≤ 120 ∧ (q.delay = 1 → q.first.formed = true ∧ q.first.size ≤ 120) ∧ (q.delay = 0 ∨ q.delay = 1 ∨ q.delay = 2) := by
  simp only [eqB, Bool.and_eq_true] at h
  obtain ⟨⟨h1, h2⟩, h3⟩ := h
  have small : ∀ e : Ex, e.right = 0 → e.formed = true ∧ e.size ≤ 120 := by
    intro e he
    have := Ex.right_zero.1 he
    have hs := Ex.count_size e 121 (by omega)
    exact ⟨this.2.2, by omega⟩
  have h2' := small q.e (by simpa using h2)
  refine ⟨nameB_le h1, h2'.1, h2'.2, fun hd => ?_, ?_⟩
  · rw [if_pos hd] at h3
    unfold Ex.literal at h3
    split at h3
    · rename_i hr
      exact small _ hr
    · simp at h3
  · split at h3
    · omega
    · split at h3
      · omega
      · simp at h3
end Go.Proofs.YtikmbkojnfmiaaaGreatDoorRRRR

/- A map from texts to ints that a call makes for itself. -/
namespace Go.Proofs.YtikmbkojnfmiaaaGreatDoorRRRR
open Go.RowKit Go.Sort Go.Maps Go.ChangeMaps Go.WideMaps

/-- A map's content with one entry anew. -/
def upd (f : ByteArray → Option Int) (s : ByteArray) (v : Int) : ByteArray → Option Int := fun t => if t.data = s.data then some v else f t

/-- Block b is a map of at most n entries from texts to ints: f. -/
def MapI (P : Program) (k e : TypeId) (w : World) (b n : Nat) (f : ByteArray → Option Int) : Prop :=
  ∃ D : DataW Unit, w.ownsMap P k (plainElem P e) b n D ∧ Maps.IsMap D ∧
    ∀ s : ByteArray, Maps.has D (.string s.data.toList) = (f s).isSome ∧ D.atKey (.string s.data.toList) (.lit (.int .i64 0)) = .lit (.int .i64 ((f s).getD 0))

section
variable {P : Program} {k e : TypeId} {w w' : World} {b n : Nat} {f : ByteArray → Option Int}

theorem MapI.made (w : World) : MapI P k e (w.alloc (.map #[] 0)) w.heap.size 0 (fun _ => none) :=
  ⟨.map [], World.ownsMap_made w P k _, isMap_empty, fun s => ⟨rfl, rfl⟩⟩
theorem MapI.keep (h : MapI P k e w b n f) (hb : ∀ k, k < w.heap.size → w'.heap[k]? = w.heap[k]?) : MapI P k e w' b n f := by
  obtain ⟨D, h1, h2, h3⟩ := h
  have hlt := h1.lt
  obtain ⟨es, clock, hh, F, hs, hD⟩ := h1
  exact ⟨D, ⟨es, clock, (hb b hlt).trans hh, F, hs, hD⟩, h2, h3⟩
theorem MapI.lt (h : MapI P k e w b n f) : b < w.heap.size := by
  obtain ⟨D, h1, _⟩ := h
  exact h1.lt
theorem MapI.bel (h : MapI P k e w b n f) (hb : Below w.heap.size w w') : MapI P k e w' b n f := h.keep hb.block
theorem MapI.alloc (h : MapI P k e w b n f) {o : Obj} : MapI P k e (w.alloc o) b n f := h.bel (bel_alloc (Below.refl _ _) o)
theorem MapI.drew (h : MapI P k e w b n f) : MapI P k e w.drew b n f := h

theorem wpList_lkI {ops : Array Oper} {rest : List Oper} {o : Oper} {a : Act} {Q : Exit → Act → World → Prop} (hg : o.guard = none) (m x : Operand) (t : TypeId) (hop : o.op = Op.lookup t m x false)
    (hk : P.underlying k = some .string) (ht : P.underlying t = some (.map k e)) (he : P.underlying e = some (.int .i64)) (hz : (zeroValue e).run P w = .ok (.int .i64 0) w)
    (b n : Nat) (f : ByteArray → Option Int) (s : ByteArray) (hm : a.eval m = .map (some b)) (hown : MapI P k e w b n f) (hx : a.eval x = .string s) (hs : s.size ≤ maxLen)
    (hK : wpList P ops Q rest (a.put o.dst (.int .i64 ((f s).getD 0))) w) : wpList P ops Q (o :: rest) a w := by
  obtain ⟨D, h1, h2, h3⟩ := hown
  refine wpList_lookup_own_int w hg m x t hop k e .i64 (string_keyed hk) ht he hz b n D hm h1 _ _ hx (keyOf_string_mk hk hs) fun c hc _ => ?_
  rw [(h3 s).2] at hc
  have : (f s).getD 0 = c := by injection hc with hc; injection hc
  rw [← this]; exact hK
theorem wpList_lkokI {ops : Array Oper} {rest : List Oper} {o : Oper} {a : Act} {Q : Exit → Act → World → Prop} (hg : o.guard = none) (m x : Operand) (t : TypeId) (hop : o.op = Op.lookup t m x true)
    (hk : P.underlying k = some .string) (ht : P.underlying t = some (.map k e)) (he : P.underlying e = some (.int .i64)) (hz : (zeroValue e).run P w = .ok (.int .i64 0) w)
    (b n : Nat) (f : ByteArray → Option Int) (s : ByteArray) (hm : a.eval m = .map (some b)) (hown : MapI P k e w b n f) (hx : a.eval x = .string s) (hs : s.size ≤ maxLen)
    (hK : wpList P ops Q rest (a.put o.dst (.tuple #[.int .i64 ((f s).getD 0), .bool (f s).isSome])) w) : wpList P ops Q (o :: rest) a w := by
  obtain ⟨D, h1, h2, h3⟩ := hown
  refine wpList_lookup_own_ok_int w hg m x t hop k e .i64 (string_keyed hk) ht he hz b n D hm h1 _ _ hx (keyOf_string_mk hk hs) fun c hc _ => ?_
  rw [(h3 s).2] at hc
  have : (f s).getD 0 = c := by injection hc with hc; injection hc
  rw [← this, (h3 s).1]; exact hK
theorem wpList_stI {ops : Array Oper} {rest : List Oper} {o : Oper} {a : Act} {Q : Exit → Act → World → Prop} (hg : o.guard = none) (m x v : Operand) (t : TypeId) (hop : o.op = Op.mapUpdate t m x v)
    (hk : P.underlying k = some .string) (ht : P.underlying t = some (.map k e)) (he : P.underlying e = some (.int .i64))
    (b n : Nat) (f : ByteArray → Option Int) (s : ByteArray) (i : Int) (hm : a.eval m = .map (some b)) (hown : MapI P k e w b n f) (hn : n < 1000000000) (hx : a.eval x = .string s) (hv : a.eval v = .int .i64 i)
    (hs : s.size ≤ maxLen) (hi : -9223372036854775808 ≤ i ∧ i ≤ 9223372036854775807)
    (hK : ∀ w', MapI P k e w' b (n + 1) (upd f s i) → w.grownBy w' (some b) → wpList P ops Q rest (a.put o.dst undef) w') : wpList P ops Q (o :: rest) a w := by
  obtain ⟨D, h1, h2, h3⟩ := hown
  refine wpList_mapUpdate_own w hg m x v t hop k e (string_keyed hk) ht _ b n D hm h1 (by unfold maxLen; omega) _ _ _ hx hv (keyOf_string_mk hk hs) _ [] (plainElem_int he (WalkArith.wf_i64 hi)) fun w' h4 h5 => hK w' ⟨_, h4, ?_, fun t => ?_⟩ h5
  · exact h2.put _ _
  · by_cases hts : t.data = s.data
    · have hk2 : WideAt.IsKeyLit (.string s.data.toList) := by trivial
      rw [hts, has_put_same h2 hk2, atKey_put_same h2 hk2]
      simp [upd, hts]
    · have hne : (Lit.string t.data.toList) ≠ .string s.data.toList := by
        intro h
        injection h with h
        exact hts (by have := congrArg List.toArray h; simpa using this)
      rw [has_put_other hne, atKey_put_other hne, (h3 t).1, (h3 t).2]
      simp [upd, hts]
end
end Go.Proofs.YtikmbkojnfmiaaaGreatDoorRRRR

/- What the package kinds computes. -/
namespace Go.Proofs.YtikmbkojnfmiaaaGreatDoorRRRR
open Go.RowKit

/-- The place of the first variable of a name, counted from i on. -/
def findI : List Va → ByteArray → Int → Option Int
  | [], _, _ => none
  | v :: l, s, i => if s.data = v.name.data then some i else findI l s (i + 1)
theorem findI_some : ∀ {l : List Va} {s : ByteArray} {i j : Int}, findI l s i = some j → ∃ k v, j = i + (k : Nat) ∧ l[k]? = some v ∧ v.name = s
  | [], _, _, _, h => by simp [findI] at h
  | v :: l, s, i, j, h => by
    unfold findI at h
    split at h
    · rename_i hs
      simp at h
      exact ⟨0, v, by simp [h], rfl, by ext1; exact hs.symm⟩
    · obtain ⟨k, u, h1, h2, h3⟩ := findI_some h
      exact ⟨k + 1, u, by omega, by simpa using h2, h3⟩
def findV (l : List Va) (s : ByteArray) : Option Int := findI l s 0
theorem findV_some {l : List Va} {s : ByteArray} {j : Int} (h : findV l s = some j) : ∃ (k : Nat) (v : Va), j = k ∧ l[k]? = some v ∧ v.name = s := by
  obtain ⟨k, v, h1, h2, h3⟩ := findI_some h
  exact ⟨k, v, by omega, h2, h3⟩

/-- kinds.look.typeOf. -/
def typeOfP (l : List Va) (s : ByteArray) : Int × Bool :=
  match findV l s with
  | none => (0, false)
  | some j => (match l[j.toNat]? with | some v => v.type | none => 0, true)

/-- kinds.two. -/
def twoK (op t : Int) : Int × Bool :=
  if op = 8 ∨ op = 9 ∨ op = 10 then (t, true)
  else if op = 11 ∨ op = 12 then (2, true)
  else if op = 13 ∨ op = 14 ∨ op = 15 ∨ op = 16 then (2, t == 1)
  else (1, t == 1)

def outK (k n named : Int) (ts : List Int) : Int × Bool :=
  if k = 1 then (1, true)
  else if k = 2 then (2, true)
  else if k = 3 then (named, true)
  else if k = 4 then (ts.getD 0 0, (ts.getD 0 0 == 1 && n == 1) || (ts.getD 0 0 == 2 && n == 2))
  else if k = 5 then ((twoK n (ts.getD 0 0)).1, (twoK n (ts.getD 0 0)).2 && ts.getD 0 0 == ts.getD 1 0)
  else if k = 6 then (ts.getD 1 0, ts.getD 0 0 == 2 && ts.getD 1 0 == ts.getD 2 0)
  else if k = 7 then (ts.getD 0 0, ts.getD 0 0 == ts.getD 1 0)
  else if k = 8 ∨ k = 9 then (ts.getD 0 0, named == 2)
  else if k = 10 then (ts.getD 0 0, named == 2 && ts.getD 0 0 == ts.getD 1 0)
  else (0, true)
def endK (out : Int) (ok : Bool) : Int × Int := if ok = true ∧ (out = 1 ∨ out = 2) then (out, 0) else (0, 20)
def typK (l : List Va) (k n : Int) (s : ByteArray) (ts : List Int) : Int × Int :=
  if s.toList.isEmpty = false ∧ (typeOfP l s).2 = false then (0, 19) else endK (outK k n (typeOfP l s).1 ts).1 (outK k n (typeOfP l s).1 ts).2

/-- The types of the parts behind those that are there already. -/
def joinT (acc : List Int) (r : List Int × Int) : List Int × Int := if r.2 = 0 then (acc ++ r.1, 0) else ([], r.2)
namespace Ex
mutual
/-- kinds.look.of: the type, and the error. -/
def typ (l : List Va) : Ex → Int × Int
  | mk k n s sub => if (typL l sub).2 = 0 then typK l k n s (typL l sub).1 else (0, (typL l sub).2)
/-- kinds.look.parts. -/
def typL (l : List Va) : List Ex → List Int × Int
  | [] => ([], 0)
  | x :: r => if (typ l x).2 = 0 then joinT [(typ l x).1] (typL l r) else ([], (typ l x).2)
end
theorem typ_eq (l : List Va) (e : Ex) : e.typ l = if (typL l e.sub).2 = 0 then typK l e.kind e.n e.name (typL l e.sub).1 else (0, (typL l e.sub).2) := by cases e; rw [typ]; rfl
end Ex
theorem joinT_nil (r : List Int × Int) (h : r.2 ≠ 0 → r.1 = []) : joinT [] r = r := by
  unfold joinT
  split
  · simp; ext1 <;> simp [*]
  · rename_i h2; ext1 <;> simp [h h2]
theorem typL_err (l : List Va) (sub : List Ex) : (Ex.typL l sub).2 ≠ 0 → (Ex.typL l sub).1 = [] := by
  cases sub with
  | nil => simp [Ex.typL]
  | cons x r =>
    simp only [Ex.typL, joinT]
    repeat' split
    all_goals simp_all
theorem joinT_step (l : List Va) (acc : List Int) (x : Ex) (r : List Ex) (h : (x.typ l).2 = 0) : joinT acc (Ex.typL l (x :: r)) = joinT (acc ++ [(x.typ l).1]) (Ex.typL l r) := by
  simp only [Ex.typL, if_pos h, joinT]
  repeat' split
  all_goals simp_all
theorem joinT_stop (l : List Va) (acc : List Int) (x : Ex) (r : List Ex) (h : (x.typ l).2 ≠ 0) : joinT acc (Ex.typL l (x :: r)) = ([], (x.typ l).2) := by
  simp only [Ex.typL, if_neg h, joinT]
theorem typL_len (l : List Va) : ∀ sub : List Ex, (Ex.typL l sub).2 = 0 → (Ex.typL l sub).1.length = sub.length
  | [], _ => by simp [Ex.typL]
  | x :: r, h => by
    have ih := typL_len l r
    simp only [Ex.typL, joinT] at h ⊢
    repeat' split at h
    all_goals simp_all

/-- A program's variables: kinds.Vars. -/
def varsOf (p : Pr) : List Va := p.ins ++ p.outs ++ p.locals
end Go.Proofs.YtikmbkojnfmiaaaGreatDoorRRRR

/- append of a whole slice to a slice of the call's own; a slice of variables as cells. -/
namespace Go.Proofs.YtikmbkojnfmiaaaGreatDoorRRRR
open Go.RowKit Go.Sort

/-- A slice value's m elements are the cells news. -/
def CellsAt (w : World) (A : Option Addr) (m size : Nat) (news : List Value) : Prop :=
  news.length = m * size ∧ (0 < m → ∃ b off, A = some ⟨b, off, none⟩ ∧ ∀ j u, news[j]? = some u → w.cell? ⟨b, off + j, none⟩ = some u)

section
variable {P : Program} {w : World}
theorem run_cat_nil (base : Nat) (t ty e : TypeId) (i : TypeInfo) (size : Nat) (ht : P.underlying t = some (.slice e)) (hi : P.info? e = some i) (v : Value) (n : Nat) (xs : List Value) (hown : w.ownsRow base e size v n xs) (c : Nat) :
    (Builtin.append_ #[t, t] ty #[v, .slice none 0 c]).run P w = .ok v w := by
  rcases hown.2 with ⟨rfl, rfl⟩ | ⟨g, cap, cur, rfl, _, _, hnc, _⟩
  · simp [Builtin.append_, run_underlying ht, sizeOf, typeInfo, hi, Builtin.lenOf, Builtin.firstCells]
  · simp [Builtin.append_, run_underlying ht, sizeOf, typeInfo, hi, Builtin.lenOf, Builtin.firstCells, hnc, storeCells]
theorem run_cat (base : Nat) (t ty e : TypeId) (z : Value) (size bytes : Nat) (ht : P.underlying t = some (.slice e)) (hi : (P.info? e).map (fun i => (i.zero, i.size, i.bytes)) = some (some z, size, bytes))
    (hzs : z.cells.size = size) (hsz : 0 < size) (v : Value) (n : Nat) (xs : List Value) (hown : w.ownsRow base e size v n xs) (A : Option Addr) (m c : Nat) (news : List Value)
    (hc : CellsAt w A m size news) (h1 : ∀ u ∈ news, u.oneCell' = true) (hn : n + m ≤ 100000000) (hb : bytes ≤ 1000) (hbase : base ≤ w.heap.size) :
    ∃ v' w', (Builtin.append_ #[t, t] ty #[v, .slice A m c]).run P w = .ok v' w' ∧ w'.ownsRow base e size v' (n + m) (xs ++ news) ∧ Below base w w' := by
  obtain ⟨i, hi0, hz0, hz1, hz2⟩ := info_parts hi
  obtain ⟨hl, hcells⟩ := hc
  have main : ∀ ad, A = some ad → (∀ j u, news[j]? = some u → w.cell? (ad.add j) = some u) → ∃ v' w', (Builtin.append_ #[t, t] ty #[v, .slice A m c]).run P w = .ok v' w' ∧ w'.ownsRow base e size v' (n + m) (xs ++ news) ∧ Below base w w' := by
    rintro ad rfl hj
    obtain ⟨v', w', hr, h2, h3, _⟩ := run_append_own w base t ty e i z size bytes ht hi0 hz0 hz1 hz2 hzs hsz v n xs hown ad m c news hl hj h1 (by unfold maxLen; omega) (Nat.le_trans (Nat.mul_le_mul hn hb) (by omega)) hbase
    refine ⟨v', w', hr, h2, ⟨h3.os, h3.tape, h3.output, h3.size, fun k hk => h3.block k (by omega) fun hk2 => ?_⟩⟩
    have := (hown.lt k hk2.symm).1
    omega
  rcases Nat.eq_zero_or_pos m with rfl | hm
  · have : news = [] := List.eq_nil_of_length_eq_zero (by simpa using hl)
    subst this
    cases A with
    | none => exact ⟨v, w, run_cat_nil base t ty e i size ht hi0 v n xs hown c, by simpa using hown, Below.refl _ _⟩
    | some ad => exact main ad rfl (fun j u hj => by simp at hj)
  · obtain ⟨b, off, rfl, hj⟩ := hcells hm
    refine main _ rfl fun j u hu => ?_
    have hadd : (⟨b, off, none⟩ : Addr).add j = ⟨b, off + j, none⟩ := by unfold Addr.add; split <;> simp_all
    rw [hadd]; exact hj j u hu

theorem wp_cat {o : Oper} {a : Act} {K : Act → World → Prop} {Q : Exit → Act → World → Prop} (s x : Operand) (t : TypeId)
    (ho : o.op = .call { callee := .builtin .append, args := #[s, x], argTypes := #[t, t] })
    (base : Nat) (e : TypeId) (z : Value) (size bytes : Nat) (ht : P.underlying t = some (.slice e)) (hi : (P.info? e).map (fun i => (i.zero, i.size, i.bytes)) = some (some z, size, bytes))
    (hzs : z.cells.size = size) (hsz : 0 < size) (v : Value) (n : Nat) (xs : List Value) (A : Option Addr) (m c : Nat) (news : List Value) (hs : a.eval s = v) (hown : w.ownsRow base e size v n xs)
    (hx : a.eval x = .slice A m c) (hc : CellsAt w A m size news) (h1 : ∀ u ∈ news, u.oneCell' = true) (hn : n + m ≤ 100000000) (hb : bytes ≤ 1000) (hbase : base ≤ w.heap.size)
    (h : ∀ v' w', w'.ownsRow base e size v' (n + m) (xs ++ news) → Below base w w' → K (a.put o.dst v') w') : o.wp P a w K Q := by
  obtain ⟨v', w', hr, h2, h3⟩ := run_cat (P := P) base t o.type e z size bytes ht hi hzs hsz v n xs hown A m c news hc h1 hn hb hbase
  unfold Oper.wp execOp
  simp only [ho, resolve, invoke, builtin, Sem.run_bind, Sem.run_pure, Result.andThen_ok, List.map_toArray, List.map_cons, List.map_nil, hs, hx, hr]
  exact h v' w' h2 h3

theorem wpList_cat {ops : Array Oper} {rest : List Oper} {o : Oper} {a : Act} {Q : Exit → Act → World → Prop} (hgd : o.guard = none) (s x : Operand) (t : TypeId)
    (ho : o.op = .call { callee := .builtin .append, args := #[s, x], argTypes := #[t, t] })
    (base : Nat) (e : TypeId) (z : Value) (size bytes : Nat) (ht : P.underlying t = some (.slice e)) (hi : (P.info? e).map (fun i => (i.zero, i.size, i.bytes)) = some (some z, size, bytes))
    (hzs : z.cells.size = size) (hsz : 0 < size) (v : Value) (n : Nat) (xs : List Value) (A : Option Addr) (m c : Nat) (news : List Value) (hs : a.eval s = v) (hown : w.ownsRow base e size v n xs)
    (hx : a.eval x = .slice A m c) (hc : CellsAt w A m size news) (h1 : ∀ u ∈ news, u.oneCell' = true) (hn : n + m ≤ 100000000) (hb : bytes ≤ 1000) (hbase : base ≤ w.heap.size)
    (h : ∀ v' w', w'.ownsRow base e size v' (n + m) (xs ++ news) → Below base w w' → wpList P ops Q rest (a.put o.dst v') w') : wpList P ops Q (o :: rest) a w :=
  wpList_plain hgd fun _ hK => wp_cat s x t ho base e z size bytes ht hi hzs hsz v n xs A m c news hs hown hx hc h1 hn hb hbase fun v' w' h2 h3 => hK _ _ (h v' w' h2 h3)

theorem step_cat {ops : Array Oper} {o : Oper} {a : Act} {K : Act → World → Prop} {Q : Exit → Act → World → Prop} {E : Prop} (hgd : o.guard = none) (s x : Operand) (t : TypeId)
    (ho : o.op = .call { callee := .builtin .append, args := #[s, x], argTypes := #[t, t] })
    (base : Nat) (e : TypeId) (z : Value) (size bytes : Nat) (ht : P.underlying t = some (.slice e)) (hi : (P.info? e).map (fun i => (i.zero, i.size, i.bytes)) = some (some z, size, bytes))
    (hzs : z.cells.size = size) (hsz : 0 < size) (v : Value) (n : Nat) (xs : List Value) (A : Option Addr) (m c : Nat) (news : List Value) (hs : a.eval s = v) (hown : w.ownsRow base e size v n xs)
    (hx : a.eval x = .slice A m c) (hc : CellsAt w A m size news) (h1 : ∀ u ∈ news, u.oneCell' = true) (hn : n + m ≤ 100000000) (hb : bytes ≤ 1000) (hbase : base ≤ w.heap.size)
    (h : ∀ v' w', w'.ownsRow base e size v' (n + m) (xs ++ news) → Below base w w' → K (a.put o.dst v') w') : if Region.wanted o (yielded ops a.tmps) = true then Oper.wp P o a w K Q else E := by
  have hw : Region.wanted o (yielded ops a.tmps) = true := by simp [Region.wanted, hgd]
  rw [if_pos hw]
  exact wp_cat s x t ho base e z size bytes ht hi hzs hsz v n xs A m c news hs hown hx hc h1 hn hb hbase h
end

/-- A variable's cells. -/
def vaC (v : Va) : List Value := [.string v.name, .int .i64 v.type, .int .i64 v.ck, .string v.cn]
def vasC (l : List Va) : List Value := l.flatMap vaC
theorem vasC_len (l : List Va) : (vasC l).length = l.length * 4 := by
  induction l with
  | nil => rfl
  | cons v l ih => rw [vasC, List.flatMap_cons, List.length_append, ← vasC, ih]; simp [vaC]; omega
theorem vasC_get : ∀ (l : List Va) (j : Nat) (u : Value), (vasC l)[j]? = some u → ∃ v, l[j / 4]? = some v ∧ (vaC v)[j % 4]? = some u
  | [], j, u, h => by simp [vasC] at h
  | v :: l, j, u, h => by
    rw [vasC, List.flatMap_cons, ← vasC] at h
    rcases Nat.lt_or_ge j 4 with hj | hj
    · rw [List.getElem?_append_left (by simpa [vaC] using hj)] at h
      refine ⟨v, ?_, ?_⟩
      · rw [Nat.div_eq_of_lt hj]; rfl
      · rw [Nat.mod_eq_of_lt hj]; exact h
    · rw [List.getElem?_append_right (by simpa [vaC] using hj)] at h
      have hlen : (vaC v).length = 4 := rfl
      rw [hlen] at h
      obtain ⟨x, h1, h2⟩ := vasC_get l (j - 4) u h
      refine ⟨x, ?_, ?_⟩
      · rw [show j / 4 = (j - 4) / 4 + 1 from by omega]; simpa using h1
      · rw [show j % 4 = (j - 4) % 4 from by omega]; exact h2
theorem vasC_at (l : List Va) (k : Nat) (v : Va) (h : l[k]? = some v) (i : Nat) (u : Value) (hu : (vaC v)[i]? = some u) : (vasC l)[k * 4 + i]? = some u := by
  induction l generalizing k with
  | nil => simp at h
  | cons x l ih =>
    rw [vasC, List.flatMap_cons, ← vasC]
    have hi : i < 4 := by
      have := (List.getElem?_eq_some_iff.1 hu).1
      simpa [vaC] using this
    cases k with
    | zero =>
      simp at h
      subst h
      rw [List.getElem?_append_left (by simp [vaC]; omega)]
      simpa using hu
    | succ k =>
      rw [List.getElem?_append_right (by simp [vaC]; omega)]
      have hlen : (vaC x).length = 4 := rfl
      rw [hlen, show (k + 1) * 4 + i - 4 = k * 4 + i from by omega]
      exact ih k (by simpa using h)
theorem vasC_one (l : List Va) : ∀ u ∈ vasC l, u.oneCell' = true := by
  intro u hu
  obtain ⟨v, _, hv⟩ := List.mem_flatMap.1 hu
  simp [vaC] at hv
  rcases hv with rfl | rfl | rfl | rfl <;> rfl
theorem VarsAt.cells {w : World} {l : List Va} {A : Option Addr} {cap : Nat} (h : VarsAt w l A cap) : CellsAt w A l.length 4 (vasC l) := by
  refine ⟨vasC_len l, fun hl => ?_⟩
  obtain ⟨b, off, hA, hr⟩ := h.2.2 hl
  refine ⟨b, off, hA, fun j u hj => ?_⟩
  obtain ⟨v, h1, h2⟩ := vasC_get l j u hj
  obtain ⟨d0, d1, d2, d3⟩ := hr _ _ h1
  have hoff : off + j = off + j / 4 * 4 + j % 4 := by omega
  rw [hoff]
  have hm : j % 4 < 4 := Nat.mod_lt _ (by omega)
  generalize j % 4 = i at h2 hm
  match i, hm, h2 with
  | 0, _, h2 => simp [vaC] at h2; subst h2; exact d0
  | 1, _, h2 => simp [vaC] at h2; subst h2; exact d1
  | 2, _, h2 => simp [vaC] at h2; subst h2; exact d2
  | 3, _, h2 => simp [vaC] at h2; subst h2; exact d3
theorem VarsAt.of_own {w : World} {base : Nat} {e : TypeId} {l : List Va} {A : Option Addr} {cap : Nat} (h : w.ownsRow base e 4 (.slice A l.length cap) l.length (vasC l)) : VarsAt w l A cap := by
  rcases Nat.eq_zero_or_pos l.length with h0 | h0
  · obtain ⟨A', c', hv, h1, h2⟩ := own_slice h
    injection hv with e1 e2 e3
    subst e3
    exact ⟨h1, h2, fun hl => absurd hl (by omega)⟩
  · obtain ⟨g, c', hv, _, _, h1, h2, hc⟩ := own_get h h0
    injection hv with e1 e2 e3
    subst e1 e3
    refine ⟨h1, h2, fun _ => ⟨g, 0, rfl, fun k v hk => ?_⟩⟩
    have ha := fun i u hu => hc _ _ (vasC_at l k v hk i u hu)
    rw [Nat.zero_add]
    exact ⟨ha 0 _ rfl, ha 1 _ rfl, ha 2 _ rfl, ha 3 _ rfl⟩
end Go.Proofs.YtikmbkojnfmiaaaGreatDoorRRRR

/- What kinds.equation and kinds.Check say. -/
namespace Go.Proofs.YtikmbkojnfmiaaaGreatDoorRRRR
open Go.RowKit

def typeAt (l : List Va) (j : Int) : Int := match l[j.toNat]? with | some v => v.type | none => 0
/-- kinds.look.equation. -/
def eqE (l : List Va) (ins : Int) (done : ByteArray → Option Int) (q : Qe) : Int :=
  match findV l q.name with
  | none => 19
  | some j =>
    if j < ins then 19
    else if 0 < (done q.name).getD 0 then 18
    else if (q.e.typ l).2 ≠ 0 then (q.e.typ l).2
    else if q.delay = 1 ∧ (q.first.typ l).1 ≠ typeAt l j then 20
    else if (q.e.typ l).1 ≠ typeAt l j then 20
    else 0
/-- The first variable whose name stands before. -/
def dupGo (l : List Va) : Nat → List Va → Option Nat
  | _, [] => none
  | k, v :: r => if (findV l v.name).getD 0 ≠ (k : Int) then some k else dupGo l (k + 1) r
/-- The first equation that has a fault; how often each name has stood. -/
def eqGo (l : List Va) (ins : Int) : Nat → (ByteArray → Option Int) → List Qe → Option (Nat × Int) × (ByteArray → Option Int)
  | _, d, [] => (none, d)
  | k, d, q :: r => if eqE l ins d q ≠ 0 then (some (k, eqE l ins d q), d) else eqGo l ins (k + 1) (upd d q.name ((d q.name).getD 0 + 1)) r
/-- The first variable that has no equation. -/
def missGo (d : ByteArray → Option Int) : Nat → List Va → Option Nat
  | _, [] => none
  | k, v :: r => if (d v.name).getD 0 = 0 then some k else missGo d (k + 1) r
def endF (d : ByteArray → Option Int) (l : List Va) (ins : Nat) : Int × Int × Int :=
  match missGo d ins (l.drop ins) with
  | some k => (2, (k : Int), 8)
  | none => (0, 0, 0)
def eqsF (l : List Va) (ins : Nat) (r : Option (Nat × Int) × (ByteArray → Option Int)) : Int × Int × Int :=
  match r.1 with
  | some (k, e) => (3, (k : Int), e)
  | none => endF r.2 l ins
def dupF (p : Pr) (r : Option Nat) : Int × Int × Int :=
  match r with
  | some k => (2, (k : Int), 18)
  | none => eqsF (varsOf p) p.ins.length (eqGo (varsOf p) p.ins.length 0 (fun _ => none) p.eqs)
/-- kinds.Check: a Fault's three numbers. -/
def checkF (p : Pr) : Int × Int × Int :=
  if printE p ≠ 0 then (4, 0, printE p)
  else if 8 < p.ins.length ∨ 8 < p.outs.length ∨ 24 < (varsOf p).length then (4, 0, 3)
  else dupF p (dupGo (varsOf p) 0 (varsOf p))
end Go.Proofs.YtikmbkojnfmiaaaGreatDoorRRRR

/- Walks over the package kinds: two, names, typeOf. -/
namespace Go.Proofs.YtikmbkojnfmiaaaGreatDoorRRRR
open Go.RowKit Go.Sort

theorem zeroInt (w : World) : (zeroValue 3).run Tryz.prog w = .ok (.int .i64 0) w := by kernel_rfl

set_option maxHeartbeats 1000000 in
theorem two_any (a b : Int) (w : World) :
    Calls Tryz.prog 77 #[.int .i32 a, .int .i64 b] w fun e w' => e = .returned (.tuple #[.int .i64 (twoK a b).1, .bool (twoK a b).2]) ∧ w = w' := by
  go_enter Tryz.func77, Tryz.ntmps77
  go_wp2_with fail
  all_goals (go_ret2; exact ⟨by simp_all [twoK], rfl⟩)

/-- What the loop in kinds.names has laid. -/
def fromK (l : List Va) (k : Nat) : ByteArray → Option Int := fun s => findI (l.drop k) s k
theorem fromK_step {l : List Va} {k : Nat} {v : Va} (h : l[k]? = some v) : upd (fromK l (k + 1)) v.name k = fromK l k := by
  funext s
  unfold upd fromK
  have hlt : k < l.length := (List.getElem?_eq_some_iff.1 h).1
  have hd : l.drop k = v :: l.drop (k + 1) := by
    rw [List.drop_eq_getElem_cons hlt]
    have : l[k] = v := (List.getElem?_eq_some_iff.1 h).2
    rw [this]
  rw [hd, findI]
  rfl

theorem makeHint (n : Int) (w : World) : (Instr.makeMap 48 (some (.int .i64 n))).run Tryz.prog w = .ok (.map (some w.heap.size)) (w.alloc (.map #[] 0)) := by
  have hu : Tryz.prog.underlying 48 = some (.map 9 3) := Tryz.underlying48
  simp only [Instr.makeMap, Sem.run_bind, run_underlying hu, Result.andThen]
  rfl
theorem bel_store {w a b : World} {g : Nat} (h : Below w.heap.size w a) (hg : a.grownBy b (some g)) (hw : w.heap.size ≤ g) : Below w.heap.size w b :=
  h.grown hg h.size (fun k hk => by injection hk with hk; omega)

set_option maxHeartbeats 1000000 in
theorem names_any (l : List Va) (A : Option Addr) (cap : Nat) (hs : ∀ v ∈ l, v.name.size ≤ maxLen) (hn : l.length ≤ 1000000) (w : World) (hl : VarsAt w l A cap) :
    Calls Tryz.prog 42 #[.slice A l.length cap] w fun r w' => (∃ B, r = .returned (.map (some B)) ∧ w.heap.size ≤ B ∧ MapI Tryz.prog 9 3 w' B l.length (findV l)) ∧ Below w.heap.size w w' := by
  have hl2 := hl.len
  unfold maxLen at hl2
  obtain ⟨hl3, hl4⟩ := hl2
  have hmk := makeHint (l.length : Int)
  have hst : fromK l l.length = fun _ => none := by funext s; simp [fromK, findI]
  have HST := Lib.hid hst; clear hst
  go_enter Tryz.func42, Tryz.ntmps42
  go_wp2_with fail
  go_loopw [4] (fun i wr => ∃ k : Nat, k ≤ l.length ∧ i = .int .i64 ((k : Int) - 1) ∧ MapI Tryz.prog 9 3 wr w.heap.size (l.length - k) (fromK l k) ∧ Below w.heap.size w wr) (fun i _ => (intOf i + 1).toNat)
  case atStart => exact ⟨l.length, Nat.le_refl _, rfl, by rw [HST.out, Nat.sub_self]; exact MapI.made w, belA⟩
  case round =>
    obtain ⟨k, hk, rfl, hm, hbel⟩ := hrel
    by_cases hlt : 0 < k
    · obtain ⟨j, rfl⟩ : ∃ j, k = j + 1 := ⟨k - 1, by omega⟩
      have hjl : j < l.length := by omega
      have hx : l[j]? = some l[j] := List.getElem?_eq_getElem hjl
      generalize l[j] = x at hx
      obtain ⟨b, off, rfl, hbb, ⟨d0, d1, d2, d3⟩⟩ := (hl.later hbel).get hx
      have hsz := hs x (List.mem_of_getElem? hx)
      have hstep := fromK_step hx
      have HSTEP := Lib.hid hstep; clear hstep hx
      have hj0 : ((j + 1 : Nat) : Int) - 1 = j := by omega
      rw [hj0]
      have hle : (0 : Int) ≤ j := by omega
      go_wp2_with (at_mapUpdate; refine wpList_stI rfl (.tmp 15) (.tmp 20) (.tmp 21) 48 rfl Tryz.underlying9 Tryz.underlying48 Tryz.underlying3 w.heap.size _ _ x.name j rfl hm (by omega) rfl rfl hsz (by omega) ?_; intro w2 hm2 hg2)
      rw [HSTEP.out] at hm2
      go_wp2_with fail
      go_roundw
      case rel => exact ⟨j, by omega, by first | rfl | go_num, by rw [show l.length - j = l.length - (j + 1) + 1 from by omega]; exact hm2, bel_store hbel hg2 (Nat.le_refl _)⟩
      case measure => first | (simp [intOf]; done) | (simp [intOf]; omega)
    · obtain rfl : k = 0 := by omega
      have hf : fromK l 0 = findV l := by funext s; simp [fromK, findV]
      rw [hf, Nat.sub_zero] at hm
      go_wp2_with fail
      go_ret
      exact ⟨⟨w.heap.size, rfl, Nat.le_refl _, hm⟩, hbel⟩

end Go.Proofs.YtikmbkojnfmiaaaGreatDoorRRRR

/- Walk over kinds.Vars. -/
namespace Go.Proofs.YtikmbkojnfmiaaaGreatDoorRRRR
open Go.RowKit Go.Sort

theorem vainfo : (Tryz.prog.info? 43).map (fun i => (i.zero, i.size, i.bytes)) = some (some (.agg #[.string ⟨#[]⟩, .int .i64 0, .int .i64 0, .string ⟨#[]⟩]), 4, 48) := by kernel_rfl

theorem vars_end {p : Pr} {w w3 : World} {v3 : Value} (h : w3.ownsRow (w.heap.size + 1) 43 4 v3 (0 + p.ins.length + p.outs.length + p.locals.length) ([] ++ vasC p.ins ++ vasC p.outs ++ vasC p.locals)) :
    ∃ A cap, Ending.returned v3 = .returned (.slice A (varsOf p).length cap) ∧ w3.ownsRow w.heap.size 43 4 (.slice A (varsOf p).length cap) (varsOf p).length (vasC (varsOf p)) := by
  have e1 : 0 + p.ins.length + p.outs.length + p.locals.length = (varsOf p).length := by simp [varsOf]; omega
  have e2 : [] ++ vasC p.ins ++ vasC p.outs ++ vasC p.locals = vasC (varsOf p) := by simp [varsOf, vasC]
  rw [e1, e2] at h
  obtain ⟨A, cap, rfl, _, _⟩ := own_slice h
  refine ⟨A, cap, rfl, h.1, ?_⟩
  rcases h.2 with h2 | ⟨g, cap', cur, hv, hg, r⟩
  · exact .inl h2
  · exact .inr ⟨g, cap', cur, hv, by omega, r⟩

set_option maxHeartbeats 2000000 in
theorem vars_any (p : Pr) (a : PrA) (w : World) (hp : PrAt w p a) (n1 : p.ins.length ≤ 1000000) (n2 : p.outs.length ≤ 1000000) (n3 : p.locals.length ≤ 1000000) :
    Calls Tryz.prog 14 #[prV p a] w fun r w' =>
      (∃ A cap, r = .returned (.slice A (varsOf p).length cap) ∧ w'.ownsRow w.heap.size 43 4 (.slice A (varsOf p).length cap) (varsOf p).length (vasC (varsOf p))) ∧ Below w.heap.size w w' := by
  have hc1 := hp.ins
  have hc2 := hp.outs
  have hc3 := hp.locals
  obtain ⟨A1, c1, A2, c2, A3, c3, A4, c4⟩ := a
  dsimp only at hc1 hc2 hc3
  unfold prV
  dsimp only
  go_enter Tryz.func14, Tryz.ntmps14
  go_wp2_with (at_builtin; refine wpList_cat rfl _ _ 22 rfl (w.heap.size + 1) 43 _ 4 48 Tryz.underlying22 vainfo rfl (by omega) (.slice none 0 0) 0 [] A1 p.ins.length c1 (vasC p.ins) rfl (World.ownsRow_nil _ _ _ _) rfl (hc1.later belA).cells (vasC_one _) (by omega) (by omega) (by simp) ?_; intro v1 w1 hown1 hb1)
  have hbw : Below w.heap.size w w1 := (bel_alloc (Below.refl _ _) _).trans (hb1.mono (by omega))
  have hz1 : w.heap.size + 1 ≤ w1.heap.size := by have := hb1.size; simpa using this
  have k2 : w1.cell? ⟨w.heap.size, 2, none⟩ = some (.slice A2 p.outs.length c2) := by rw [hb1.cell (by simp)]; go_simp
  have k3 : w1.cell? ⟨w.heap.size, 3, none⟩ = some (.slice A3 p.locals.length c3) := by rw [hb1.cell (by simp)]; go_simp
  go_region_law (first
    | (refine step_cat rfl (.tmp 7) (.tmp 9) 22 rfl (w.heap.size + 1) 43 _ 4 48 Tryz.underlying22 vainfo rfl (by omega) v1 (0 + p.ins.length) ([] ++ vasC p.ins) A2 p.outs.length c2 (vasC p.outs) rfl (own_drew hown1) rfl (hc2.later (bel_drew hbw)).cells (vasC_one _) (by omega) (by omega) hz1 ?_; intro v2 w2 hown2 hb2; have hbw2 : Below w.heap.size w w2 := (bel_drew hbw).trans (hb2.mono (by omega)); have hz2 : w.heap.size + 1 ≤ w2.heap.size := Nat.le_trans hz1 hb2.size; have k3' : w2.cell? ⟨w.heap.size, 3, none⟩ = some (.slice A3 p.locals.length c3) := (hb2.cell (p := ⟨w.heap.size, 3, none⟩) (by simp)).trans k3)
    | (refine step_cat rfl (.tmp 10) (.tmp 12) 22 rfl (w.heap.size + 1) 43 _ 4 48 Tryz.underlying22 vainfo rfl (by omega) v2 (0 + p.ins.length + p.outs.length) ([] ++ vasC p.ins ++ vasC p.outs) A3 p.locals.length c3 (vasC p.locals) rfl hown2 rfl (hc3.later hbw2).cells (vasC_one _) (by omega) (by omega) hz2 ?_; intro v3 w3 hown3 hb3))
  all_goals
    go_wp2_with fail
    go_ret
    refine ⟨?_, hbw2.trans (hb3.mono (by omega))⟩
    exact vars_end hown3

end Go.Proofs.YtikmbkojnfmiaaaGreatDoorRRRR
