/- append of a whole slice to a slice of the call's own; a slice of variables as cells. -/
import Derived.Test.YtknfcamdfdfoeaaDoorZ00
import Derived.Laws.OwnMore
import Derived.Deep.RegionLaw
import Derived.Test.YtknfcamdfdfoeaaDoorRows
import Derived.Laws.RangeAny
import Derived.WideShapes
set_option linter.unusedVariables false
set_option linter.unusedSimpArgs false
set_option maxRecDepth 100000
namespace Go.Proofs.YtknfcamdfdfoeaaDoor
open Go.RowKit Go.Sort

/-- A slice value's m elements are the cells news. -/
def CellsAt (w : World) (A : Option Addr) (m size : Nat) (news : List Value) : Prop :=
  news.length = m * size ∧ (0 < m → ∃ b off, A = some ⟨b, off, none⟩ ∧ ∀ j u, news[j]? = some u → w.cell? ⟨b, off + j, none⟩ = some u)

section
variable {P : Program} {w : World}
theorem run_cat_nil (base : Nat) (t ty e : TypeId) (i : TypeInfo) (size : Nat) (ht : P.underlying t = some (.slice e)) (hi : P.info? e = some i) (v : Value) (n : Nat) (xs : List Value) (hown : w.ownsRow base e size v n xs) (c : Nat) :
    (Builtin.append_ #[t, t] ty #[v, .slice none 0 c]).run P w = .ok v w := by
  rcases hown.2 with ⟨rfl, rfl⟩ | ⟨g, cap, cur, rfl, _, _, hnc, _⟩
  · simp [Builtin.append_, run_underlying ht, sizeOf, typeInfo, hi, Builtin.lenOf, Builtin.firstCells]
  · simp [Builtin.append_, run_underlying ht, sizeOf, typeInfo, hi, Builtin.lenOf, Builtin.firstCells, hnc, storeCells]
theorem run_cat (base : Nat) (t ty e : TypeId) (z : Value) (size bytes : Nat) (ht : P.underlying t = some (.slice e)) (hi : (P.info? e).map (fun i => (i.zero, i.size, i.bytes)) = some (some z, size, bytes))
    (hzs : z.cells.size = size) (hsz : 0 < size) (v : Value) (n : Nat) (xs : List Value) (hown : w.ownsRow base e size v n xs) (A : Option Addr) (m c : Nat) (news : List Value)
    (hc : CellsAt w A m size news) (h1 : ∀ u ∈ news, u.oneCell' = true) (hn : n + m ≤ 100000000) (hb : bytes ≤ 1000) (hbase : base ≤ w.heap.size) :
    ∃ v' w', (Builtin.append_ #[t, t] ty #[v, .slice A m c]).run P w = .ok v' w' ∧ w'.ownsRow base e size v' (n + m) (xs ++ news) ∧ Below base w w' := by
  obtain ⟨i, hi0, hz0, hz1, hz2⟩ := info_parts hi
  obtain ⟨hl, hcells⟩ := hc
  have main : ∀ ad, A = some ad → (∀ j u, news[j]? = some u → w.cell? (ad.add j) = some u) → ∃ v' w', (Builtin.append_ #[t, t] ty #[v, .slice A m c]).run P w = .ok v' w' ∧ w'.ownsRow base e size v' (n + m) (xs ++ news) ∧ Below base w w' := by
    rintro ad rfl hj
    obtain ⟨v', w', hr, h2, h3, _⟩ := run_append_own w base t ty e i z size bytes ht hi0 hz0 hz1 hz2 hzs hsz v n xs hown ad m c news hl hj h1 (by unfold maxLen; omega) (Nat.le_trans (Nat.mul_le_mul hn hb) (by omega)) hbase
    refine ⟨v', w', hr, h2, ⟨h3.os, h3.tape, h3.output, h3.size, fun k hk => h3.block k (by omega) fun hk2 => ?_⟩⟩
    have := (hown.lt k hk2.symm).1
    omega
  rcases Nat.eq_zero_or_pos m with rfl | hm
  · have : news = [] := List.eq_nil_of_length_eq_zero (by simpa using hl)
    subst this
    cases A with
    | none => exact ⟨v, w, run_cat_nil base t ty e i size ht hi0 v n xs hown c, by simpa using hown, Below.refl _ _⟩
    | some ad => exact main ad rfl (fun j u hj => by simp at hj)
  · obtain ⟨b, off, rfl, hj⟩ := hcells hm
    refine main _ rfl fun j u hu => ?_
    have hadd : (⟨b, off, none⟩ : Addr).add j = ⟨b, off + j, none⟩ := by unfold Addr.add; split <;> simp_all
    rw [hadd]; exact hj j u hu

theorem wp_cat {o : Oper} {a : Act} {K : Act → World → Prop} {Q : Exit → Act → World → Prop} (s x : Operand) (t : TypeId)
    (ho : o.op = .call { callee := .builtin .append, args := #[s, x], argTypes := #[t, t] })
    (base : Nat) (e : TypeId) (z : Value) (size bytes : Nat) (ht : P.underlying t = some (.slice e)) (hi : (P.info? e).map (fun i => (i.zero, i.size, i.bytes)) = some (some z, size, bytes))
    (hzs : z.cells.size = size) (hsz : 0 < size) (v : Value) (n : Nat) (xs : List Value) (A : Option Addr) (m c : Nat) (news : List Value) (hs : a.eval s = v) (hown : w.ownsRow base e size v n xs)
    (hx : a.eval x = .slice A m c) (hc : CellsAt w A m size news) (h1 : ∀ u ∈ news, u.oneCell' = true) (hn : n + m ≤ 100000000) (hb : bytes ≤ 1000) (hbase : base ≤ w.heap.size)
    (h : ∀ v' w', w'.ownsRow base e size v' (n + m) (xs ++ news) → Below base w w' → K (a.put o.dst v') w') : o.wp P a w K Q := by
  obtain ⟨v', w', hr, h2, h3⟩ := run_cat (P := P) base t o.type e z size bytes ht hi hzs hsz v n xs hown A m c news hc h1 hn hb hbase
  unfold Oper.wp execOp
  simp only [ho, resolve, invoke, builtin, Sem.run_bind, Sem.run_pure, Result.andThen_ok, List.map_toArray, List.map_cons, List.map_nil, hs, hx, hr]
  exact h v' w' h2 h3

theorem wpList_cat {ops : Array Oper} {rest : List Oper} {o : Oper} {a : Act} {Q : Exit → Act → World → Prop} (hgd : o.guard = none) (s x : Operand) (t : TypeId)
    (ho : o.op = .call { callee := .builtin .append, args := #[s, x], argTypes := #[t, t] })
    (base : Nat) (e : TypeId) (z : Value) (size bytes : Nat) (ht : P.underlying t = some (.slice e)) (hi : (P.info? e).map (fun i => (i.zero, i.size, i.bytes)) = some (some z, size, bytes))
    (hzs : z.cells.size = size) (hsz : 0 < size) (v : Value) (n : Nat) (xs : List Value) (A : Option Addr) (m c : Nat) (news : List Value) (hs : a.eval s = v) (hown : w.ownsRow base e size v n xs)
    (hx : a.eval x = .slice A m c) (hc : CellsAt w A m size news) (h1 : ∀ u ∈ news, u.oneCell' = true) (hn : n + m ≤ 100000000) (hb : bytes ≤ 1000) (hbase : base ≤ w.heap.size)
    (h : ∀ v' w', w'.ownsRow base e size v' (n + m) (xs ++ news) → Below base w w' → wpList P ops Q rest (a.put o.dst v') w') : wpList P ops Q (o :: rest) a w :=
  wpList_plain hgd fun _ hK => wp_cat s x t ho base e z size bytes ht hi hzs hsz v n xs A m c news hs hown hx hc h1 hn hb hbase fun v' w' h2 h3 => hK _ _ (h v' w' h2 h3)

theorem step_cat {ops : Array Oper} {o : Oper} {a : Act} {K : Act → World → Prop} {Q : Exit → Act → World → Prop} {E : Prop} (hgd : o.guard = none) (s x : Operand) (t : TypeId)
    (ho : o.op = .call { callee := .builtin .append, args := #[s, x], argTypes := #[t, t] })
    (base : Nat) (e : TypeId) (z : Value) (size bytes : Nat) (ht : P.underlying t = some (.slice e)) (hi : (P.info? e).map (fun i => (i.zero, i.size, i.bytes)) = some (some z, size, bytes))
    (hzs : z.cells.size = size) (hsz : 0 < size) (v : Value) (n : Nat) (xs : List Value) (A : Option Addr) (m c : Nat) (news : List Value) (hs : a.eval s = v) (hown : w.ownsRow base e size v n xs)
    (hx : a.eval x = .slice A m c) (hc : CellsAt w A m size news) (h1 : ∀ u ∈ news, u.oneCell' = true) (hn : n + m ≤ 100000000) (hb : bytes ≤ 1000) (hbase : base ≤ w.heap.size)
    (h : ∀ v' w', w'.ownsRow base e size v' (n + m) (xs ++ news) → Below base w w' → K (a.put o.dst v') w') : if Region.wanted o (yielded ops a.tmps) = true then Oper.wp P o a w K Q else E := by
  have hw : Region.wanted o (yielded ops a.tmps) = true := by simp [Region.wanted, hgd]
  rw [if_pos hw]
  exact wp_cat s x t ho base e z size bytes ht hi hzs hsz v n xs A m c news hs hown hx hc h1 hn hb hbase h
end

/-- A variable's cells. -/
def vaC (v : Va) : List Value := [.string v.name, .int .i64 v.type, .int .i64 v.ck, .string v.cn]
def vasC (l : List Va) : List Value := l.flatMap vaC
theorem vasC_len (l : List Va) : (vasC l).length = l.length * 4 := by
  induction l with
  | nil => rfl
  | cons v l ih => rw [vasC, List.flatMap_cons, List.length_append, ← vasC, ih]; simp [vaC]; omega
theorem vasC_get : ∀ (l : List Va) (j : Nat) (u : Value), (vasC l)[j]? = some u → ∃ v, l[j / 4]? = some v ∧ (vaC v)[j % 4]? = some u
  | [], j, u, h => by simp [vasC] at h
  | v :: l, j, u, h => by
    rw [vasC, List.flatMap_cons, ← vasC] at h
    rcases Nat.lt_or_ge j 4 with hj | hj
    · rw [List.getElem?_append_left (by simpa [vaC] using hj)] at h
      refine ⟨v, ?_, ?_⟩
      · rw [Nat.div_eq_of_lt hj]; rfl
      · rw [Nat.mod_eq_of_lt hj]; exact h
    · rw [List.getElem?_append_right (by simpa [vaC] using hj)] at h
      have hlen : (vaC v).length = 4 := rfl
      rw [hlen] at h
      obtain ⟨x, h1, h2⟩ := vasC_get l (j - 4) u h
      refine ⟨x, ?_, ?_⟩
      · rw [show j / 4 = (j - 4) / 4 + 1 from by omega]; simpa using h1
      · rw [show j % 4 = (j - 4) % 4 from by omega]; exact h2
theorem vasC_at (l : List Va) (k : Nat) (v : Va) (h : l[k]? = some v) (i : Nat) (u : Value) (hu : (vaC v)[i]? = some u) : (vasC l)[k * 4 + i]? = some u := by
  induction l generalizing k with
  | nil => simp at h
  | cons x l ih =>
    rw [vasC, List.flatMap_cons, ← vasC]
    have hi : i < 4 := by
      have := (List.getElem?_eq_some_iff.1 hu).1
      simpa [vaC] using this
    cases k with
    | zero =>
      simp at h
      subst h
      rw [List.getElem?_append_left (by simp [vaC]; omega)]
      simpa using hu
    | succ k =>
      rw [List.getElem?_append_right (by simp [vaC]; omega)]
      have hlen : (vaC x).length = 4 := rfl
      rw [hlen, show (k + 1) * 4 + i - 4 = k * 4 + i from by omega]
      exact ih k (by simpa using h)
theorem vasC_one (l : List Va) : ∀ u ∈ vasC l, u.oneCell' = true := by
  intro u hu
  obtain ⟨v, _, hv⟩ := List.mem_flatMap.1 hu
  simp [vaC] at hv
  rcases hv with rfl | rfl | rfl | rfl <;> rfl
theorem VarsAt.cells {w : World} {l : List Va} {A : Option Addr} {cap : Nat} (h : VarsAt w l A cap) : CellsAt w A l.length 4 (vasC l) := by
  refine ⟨vasC_len l, fun hl => ?_⟩
  obtain ⟨b, off, hA, hr⟩ := h.2.2 hl
  refine ⟨b, off, hA, fun j u hj => ?_⟩
  obtain ⟨v, h1, h2⟩ := vasC_get l j u hj
  obtain ⟨d0, d1, d2, d3⟩ := hr _ _ h1
  have hoff : off + j = off + j / 4 * 4 + j % 4 := by omega
  rw [hoff]
  have hm : j % 4 < 4 := Nat.mod_lt _ (by omega)
  generalize j % 4 = i at h2 hm
  match i, hm, h2 with
  | 0, _, h2 => simp [vaC] at h2; subst h2; exact d0
  | 1, _, h2 => simp [vaC] at h2; subst h2; exact d1
  | 2, _, h2 => simp [vaC] at h2; subst h2; exact d2
  | 3, _, h2 => simp [vaC] at h2; subst h2; exact d3
theorem VarsAt.of_own {w : World} {base : Nat} {e : TypeId} {l : List Va} {A : Option Addr} {cap : Nat} (h : w.ownsRow base e 4 (.slice A l.length cap) l.length (vasC l)) : VarsAt w l A cap := by
  rcases Nat.eq_zero_or_pos l.length with h0 | h0
  · obtain ⟨A', c', hv, h1, h2⟩ := own_slice h
    injection hv with e1 e2 e3
    subst e3
    exact ⟨h1, h2, fun hl => absurd hl (by omega)⟩
  · obtain ⟨g, c', hv, _, _, h1, h2, hc⟩ := own_get h h0
    injection hv with e1 e2 e3
    subst e1 e3
    refine ⟨h1, h2, fun _ => ⟨g, 0, rfl, fun k v hk => ?_⟩⟩
    have ha := fun i u hu => hc _ _ (vasC_at l k v hk i u hu)
    rw [Nat.zero_add]
    exact ⟨ha 0 _ rfl, ha 1 _ rfl, ha 2 _ rfl, ha 3 _ rfl⟩

theorem zeroInt (w : World) : (zeroValue 3).run Tryd.prog w = .ok (.int .i64 0) w := by kernel_rfl
end Go.Proofs.YtknfcamdfdfoeaaDoor

/- Walks over the package lex: letter, digit, inner, head, Word, Name. -/
namespace Go.Proofs.YtknfcamdfdfoeaaDoor
open Go.RowKit

def letterB (c : Int) : Bool := decide (97 ≤ c ∧ c ≤ 122)
def digitB (c : Int) : Bool := decide (48 ≤ c ∧ c ≤ 57)
def innerB (c : Int) : Bool := letterB c || digitB c || decide (c = 95)

set_option maxHeartbeats 400000 in
theorem letter_any (c : Int) (w : World) : Calls Tryd.prog 81 #[.int .i32 c] w fun r w' => r = .returned (.bool (letterB c)) ∧ w = w' := by
  unfold letterB
  by_cases h : 97 ≤ c
  · go_enter Tryd.func81, Tryd.ntmps81
    go_wp2_with fail
    go_ret
    exact ⟨ret_bool (by simp [h]), rfl⟩
  · go_enter Tryd.func81, Tryd.ntmps81
    go_wp2_with fail
    go_ret
    exact ⟨ret_bool (by simp; omega), rfl⟩
set_option maxHeartbeats 400000 in
theorem digit_any (c : Int) (w : World) : Calls Tryd.prog 88 #[.int .i32 c] w fun r w' => r = .returned (.bool (digitB c)) ∧ w = w' := by
  unfold digitB
  by_cases h : 48 ≤ c
  · go_enter Tryd.func88, Tryd.ntmps88
    go_wp2_with fail
    go_ret
    exact ⟨ret_bool (by simp [h]), rfl⟩
  · go_enter Tryd.func88, Tryd.ntmps88
    go_wp2_with fail
    go_ret
    exact ⟨ret_bool (by simp; omega), rfl⟩
set_option maxHeartbeats 400000 in
theorem inner_any (c : Int) (w : World) : Calls Tryd.prog 83 #[.int .i32 c] w fun r w' => r = .returned (.bool (innerB c)) ∧ w = w' := by
  unfold innerB
  cases h : letterB c <;> cases h2 : digitB c <;>
  · go_enter Tryd.func83, Tryd.ntmps83
    go_wp2_with (first | (go_at_call 81; refine (letter_any _ _).mono ?_; rintro r w1 ⟨rfl, rfl⟩) | (go_at_call 88; refine (digit_any _ _).mono ?_; rintro r w1 ⟨rfl, rfl⟩))
    go_ret
    exact ⟨ret_bool (by first | rfl | (rw [Bool.eq_iff_iff]; simp)), rfl⟩

/-- lex.Word. -/
def wordB (s : ByteArray) : Bool := s.toList == [110, 111, 100, 101] || s.toList == [114, 101, 116, 117, 114, 110, 115] || s.toList == [118, 97, 114] || s.toList == [108, 101, 116] || s.toList == [116, 101, 108] || s.toList == [105, 102] || s.toList == [116, 104, 101, 110] || s.toList == [101, 108, 115, 101] || s.toList == [102, 98, 121] || s.toList == [112, 114, 101] || s.toList == [119, 104, 101, 110] || s.toList == [117, 110, 108, 101, 115, 115] || s.toList == [109, 101, 114, 103, 101] || s.toList == [110, 111, 116] || s.toList == [116, 114, 117, 101] || s.toList == [102, 97, 108, 115, 101] || s.toList == [105, 110, 116] || s.toList == [98, 111, 111, 108]

set_option maxHeartbeats 1000000 in
theorem word_any (s : ByteArray) (w : World) : Calls Tryd.prog 84 #[.string s] w fun r w' => r = .returned (.bool (wordB s)) ∧ w = w' := by
  go_enter Tryd.func84, Tryd.ntmps84
  go_wp2_with fail
  all_goals first
    | (exfalso; simp_all; done)
    | (go_ret; exact ⟨ret_bool (by simp [wordB, *]), rfl⟩)

/-- How many bytes of s, from the place pos on, are of runes of a kind. -/
def headAt (p : Int → Bool) (s : ByteArray) : Nat → Nat → Nat
  | 0, _ => s.size
  | fuel + 1, pos => if pos < s.size then (if p ((Utf8.decode s pos).1 : Int) then headAt p s fuel (pos + (Utf8.decode s pos).2) else pos) else s.size
theorem decode_step (s : ByteArray) (pos : Nat) : 1 ≤ (Utf8.decode s pos).2 := by
  simp only [Utf8.decode]
  repeat' split
  all_goals simp
theorem extract_whole (s : ByteArray) : s.extract 0 s.size = s := by
  ext1; simp

set_option maxHeartbeats 400000 in
theorem head_inner (s : ByteArray) (w : World) (hs : s.size ≤ maxLen) : Calls Tryd.prog 82 #[.string s, .func (.func 83) #[] #[]] w fun r w' => r = .returned (.string (s.extract 0 (headAt innerB s (s.size + 1) 0))) ∧ Below w.heap.size w w' := by
  unfold maxLen at hs
  go_enter Tryd.func82, Tryd.ntmps82
  go_wp2_with fail
  go_loopg [] (s.size + 1) (fun k wr => ∃ pos, s.size < k + pos ∧ headAt innerB s k pos = headAt innerB s (s.size + 1) 0 ∧ wr = w.iter s pos)
  case atStart => exact ⟨0, by omega, rfl, rfl⟩
  case round =>
    obtain ⟨pos, hk, hrem, rfl⟩ := hrel
    by_cases hlt : pos < s.size
    · have hnx := fun ty => run_next_any (P := Tryd.prog) w s pos ty hlt
      obtain ⟨k, rfl⟩ : ∃ k, gk = k + 1 := ⟨gk - 1, by omega⟩
      have hst := decode_step s pos
      rw [headAt, if_pos hlt] at hrem
      generalize (Utf8.decode s pos).1 = rn at hnx hrem
      generalize (Utf8.decode s pos).2 = sz at hnx hrem hst
      cases hp : innerB (rn : Int)
      · rw [hp, if_neg (by simp)] at hrem
        have HR := Lib.hid hrem; clear hrem
        go_wp2_with (go_at_call 83; refine (inner_any _ _).mono ?_; rintro r w1 ⟨rfl, rfl⟩)
        go_ret
        exact ⟨by rw [← HR.out]; rfl, bel_alloc (Below.refl _ _) _⟩
      · rw [hp, if_pos rfl] at hrem
        have HR := Lib.hid hrem; clear hrem
        go_wp2_with (go_at_call 83; refine (inner_any _ _).mono ?_; rintro r w1 ⟨rfl, rfl⟩)
        go_roundg k
        case measure => omega
        case rel => exact ⟨_, by omega, HR.out, rfl⟩
    · have hnx := fun ty => run_next_end (P := Tryd.prog) w s pos ty hlt
      have hr2 : headAt innerB s gk pos = s.size := by cases gk <;> simp [headAt, hlt]
      have HR := Lib.hid (hr2.symm.trans hrem); clear hrem hr2
      go_wp2_with fail
      go_ret
      exact ⟨ret_str (by rw [← HR.out, extract_whole]), bel_alloc (Below.refl _ _) _⟩

end Go.Proofs.YtknfcamdfdfoeaaDoor

/- Walk over lex.Name. -/
namespace Go.Proofs.YtknfcamdfdfoeaaDoor
open Go.RowKit

/-- lex.Name. -/
def nameB (s : ByteArray) : Bool := if h : 0 < s.size then decide (s.size ≤ 16) && letterB ((s[0]'h).toNat : Int) && decide (headAt innerB s (s.size + 1) 0 = s.size) && !wordB s else false

theorem eqS_iff {a b : ByteArray} : (a.toList == b.toList) = true ↔ a = b := by
  rw [beq_iff_eq, ByteArray.toList_eq, ByteArray.toList_eq]
  exact ⟨fun h => WideShapes.bytes_inj h, fun h => by rw [h]⟩
theorem eqS_false {a b : ByteArray} (h : a ≠ b) : (a.toList == b.toList) = false := by
  rw [← Bool.not_eq_true, eqS_iff]; exact h
theorem headAt_le (p : Int → Bool) (s : ByteArray) : ∀ f pos, headAt p s f pos ≤ s.size
  | 0, _ => Nat.le_refl _
  | f + 1, pos => by
    unfold headAt
    split
    · split
      · exact headAt_le p s f _
      · omega
    · exact Nat.le_refl _
theorem size_pos_toList {s : ByteArray} (h : 0 < s.size) : s.toList.isEmpty = false := by
  rw [ByteArray.toList_eq]
  cases h2 : s.data.toList with
  | nil => exfalso; rw [← ByteArray.size_data, ← Array.length_toList, h2] at h; simp at h
  | cons => rfl
theorem size_zero_toList {s : ByteArray} (h : ¬ 0 < s.size) : s = ⟨#[]⟩ := by
  ext1; apply Array.eq_empty_of_size_eq_zero; rw [ByteArray.size_data]; omega

theorem nameB_le {s : ByteArray} (h : nameB s = true) : s.size ≤ 16 := by
  unfold nameB at h
  split at h
  · simp at h; exact h.1.1.1
  · simp at h

set_option maxHeartbeats 1000000 in
theorem name_any (s : ByteArray) (w : World) : Calls Tryd.prog 70 #[.string s] w fun r w' => r = .returned (.bool (nameB s)) ∧ Below w.heap.size w w' := by
  by_cases h0 : 0 < s.size
  · have he := size_pos_toList h0
    by_cases h1 : s.size ≤ 16
    · have hb : s[0].toNat < 256 := UInt8.toNat_lt _
      have hv : nameB s = (letterB (s[0].toNat : Int) && decide (headAt innerB s (s.size + 1) 0 = s.size) && !wordB s) := by unfold nameB; rw [dif_pos h0]; simp [h1]
      have HV := Lib.hid hv; clear hv
      have hx : ((s.extract 0 (headAt innerB s (s.size + 1) 0)).toList == s.toList) = decide (headAt innerB s (s.size + 1) 0 = s.size) := by
        by_cases h : headAt innerB s (s.size + 1) 0 = s.size
        · rw [h, extract_whole]; simp
        · rw [decide_eq_false h]
          refine eqS_false fun e => ?_
          have := congrArg ByteArray.size e
          rw [ByteArray.size_extract] at this
          have := headAt_le innerB s (s.size + 1) 0
          omega
      cases h2 : letterB (s[0].toNat : Int) <;> cases h3 : decide (headAt innerB s (s.size + 1) 0 = s.size) <;> rw [h3] at hx <;> cases h4 : wordB s <;>
      · rw [h2, h3, h4] at HV
        go_enter Tryd.func70, Tryd.ntmps70
        go_wp2_with (first | (go_at_call 81; refine (letter_any _ _).mono ?_; rintro r w1 ⟨rfl, rfl⟩) | (go_at_call 82; refine (head_inner _ _ (by unfold maxLen; omega)).mono ?_; rintro r w1 ⟨rfl, hb1⟩) | (go_at_call 84; refine (word_any _ _).mono ?_; rintro r w1 ⟨rfl, rfl⟩))
        go_ret
        exact ⟨ret_bool (by rw [HV.out]; rfl), belA⟩
    · have hv : nameB s = false := by unfold nameB; rw [dif_pos h0]; simp [h1]
      have HV := Lib.hid hv; clear hv
      go_enter Tryd.func70, Tryd.ntmps70
      go_wp2_with fail
      go_ret
      exact ⟨ret_bool (by rw [HV.out]), belA⟩
  · have hv : nameB s = false := by unfold nameB; rw [dif_neg h0]
    have HV := Lib.hid hv; clear hv
    obtain rfl := size_zero_toList h0
    go_enter Tryd.func70, Tryd.ntmps70
    go_wp2_with fail
    go_ret
    exact ⟨ret_bool (by rw [HV.out]), belA⟩

end Go.Proofs.YtknfcamdfdfoeaaDoor

/- What the package tree says of an expression: is it formed, right, a literal; are two alike? -/
namespace Go.Proofs.YtknfcamdfdfoeaaDoor
open Go.RowKit

/-- tree.form: how many parts, the least and the greatest number, a name?, is there such a kind? -/
def formK (k : Int) : Int × Int × Int × Bool × Bool :=
  if k = 1 then (0, 0, 2147483647, false, true)
  else if k = 2 then (0, 0, 1, false, true)
  else if k = 3 then (0, 0, 0, true, true)
  else if k = 4 then (1, 1, 2, false, true)
  else if k = 5 then (2, 1, 16, false, true)
  else if k = 6 then (3, 0, 0, false, true)
  else if k = 7 then (2, 0, 0, false, true)
  else if k = 8 then (1, 0, 0, true, true)
  else if k = 9 then (1, 0, 0, true, true)
  else if k = 10 then (2, 0, 0, true, true)
  else (0, 0, 0, false, false)

def formedH (k n : Int) (s : ByteArray) (len : Nat) : Bool :=
  (formK k).2.2.2.2 && ((len : Int) == (formK k).1) && !decide (n < (formK k).2.1) && !decide ((formK k).2.2.1 < n) && ((formK k).2.2.2.1 == nameB s) && ((formK k).2.2.2.1 || s.toList.isEmpty)

namespace Ex
mutual
def formed : Ex → Bool
  | mk k n s l => formedH k n s l.length && formedL l
def formedL : List Ex → Bool
  | [] => true
  | x :: l => formed x && formedL l
end
theorem formed_eq (e : Ex) : e.formed = (formedH e.kind e.n e.name e.sub.length && formedL e.sub) := by cases e; simp [formed, kind, n, name, sub]

/-- tree.Right. -/
def right (e : Ex) : Int :=
  if 120 < e.count 121 then 3 else if 12 < e.depth then 17 else if e.formed then 0 else 4

theorem right_zero {e : Ex} : e.right = 0 ↔ e.count 121 ≤ 120 ∧ e.depth ≤ 12 ∧ e.formed = true := by
  unfold right
  split
  · omega
  · split
    · omega
    · split
      · rename_i h; simp [h]; omega
      · rename_i h; simp [h]
/-- tree.literal. -/
def literal (e : Ex) : Bool :=
  if e.right = 0 then
    if e.kind = 4 ∧ e.n = 1 then (match e.sub with | x :: _ => x.kind == 1 | [] => false) else (e.kind == 1 || e.kind == 2)
  else false

mutual
def same : Ex → Ex → Bool
  | mk k n s l, y => k == y.kind && n == y.n && s.toList == y.name.toList && l.length == y.sub.length && sameL l y.sub
def sameL : List Ex → List Ex → Bool
  | [], _ => true
  | _ :: _, [] => true
  | x :: l, y :: m => same x y && sameL l m
end
theorem same_eq (a b : Ex) : same a b = (a.kind == b.kind && a.n == b.n && a.name.toList == b.name.toList && a.sub.length == b.sub.length && sameL a.sub b.sub) := by
  cases a; simp [same, kind, n, name, sub]
end Ex

/-- tree.variable. -/
def variableB (v : Va) (own : Bool) : Bool :=
  nameB v.name && (v.type == 1 || v.type == 2) && (if v.ck = 0 then v.cn.toList.isEmpty else if v.ck = 1 ∨ v.ck = 2 then own && nameB v.cn else false)


/-- What tree.whole asks of an equation. -/
def eqB (q : Qe) : Bool :=
  nameB q.name && q.e.right == 0 && (if q.delay = 1 then q.first.literal else if q.delay = 0 ∨ q.delay = 2 then q.first.same Ex.zero else false)
/-- tree.whole. -/
def wholeB (p : Pr) : Bool :=
  nameB p.name && p.ins.all (variableB · false) && p.outs.all (variableB · false) && p.locals.all (variableB · true) && p.eqs.all eqB

end Go.Proofs.YtknfcamdfdfoeaaDoor
