/- What the package tree writes: expressions, declarations, programs as bytes. -/
import Derived.Test.YtlfklfjnkpjooaaPlain2
import Derived.Test.YtlfklfjnkpjooaaWDigits
set_option linter.unusedVariables false
set_option linter.unusedSimpArgs false
namespace Go.Proofs.Ytlfklfjnkpjooaa
open Go.RowKit

/-- tree.markOf. -/
def markB (n : Int) : ByteArray :=
  if n = 1 then ⟨#[43]⟩
  else if n = 2 then ⟨#[45]⟩
  else if n = 3 then ⟨#[42]⟩
  else if n = 4 then ⟨#[47]⟩
  else if n = 5 then ⟨#[37]⟩
  else if n = 6 then ⟨#[60, 60]⟩
  else if n = 7 then ⟨#[62, 62]⟩
  else if n = 8 then ⟨#[38]⟩
  else if n = 9 then ⟨#[124]⟩
  else if n = 10 then ⟨#[94]⟩
  else if n = 11 then ⟨#[61]⟩
  else if n = 12 then ⟨#[60, 62]⟩
  else if n = 13 then ⟨#[60]⟩
  else if n = 14 then ⟨#[60, 61]⟩
  else if n = 15 then ⟨#[62]⟩
  else if n = 16 then ⟨#[62, 61]⟩
  else ⟨#[]⟩

/-- tree.part of a text: in brackets where they must be. -/
def brk (k : Int) (t : ByteArray) : ByteArray := if k = 1 ∨ k = 2 ∨ k = 3 ∨ k = 8 ∨ k = 9 then t else ⟨#[40]⟩ ++ t ++ ⟨#[41]⟩

/-- tree.show, of an expression whose parts' texts are given. -/
def showK (k n : Int) (s : ByteArray) (ts : List ByteArray) : ByteArray :=
  if k = 1 then digitsB n
  else if k = 2 then (if n = 0 then ⟨#[102, 97, 108, 115, 101]⟩ else ⟨#[116, 114, 117, 101]⟩)
  else if k = 4 then (if n = 2 then ⟨#[110, 111, 116, 32]⟩ ++ ts.getD 0 ⟨#[]⟩ else ⟨#[45]⟩ ++ ts.getD 0 ⟨#[]⟩)
  else if k = 5 then ts.getD 0 ⟨#[]⟩ ++ ⟨#[32]⟩ ++ markB n ++ ⟨#[32]⟩ ++ ts.getD 1 ⟨#[]⟩
  else if k = 6 then ⟨#[105, 102, 32]⟩ ++ ts.getD 0 ⟨#[]⟩ ++ ⟨#[32, 116, 104, 101, 110, 32]⟩ ++ ts.getD 1 ⟨#[]⟩ ++ ⟨#[32, 101, 108, 115, 101, 32]⟩ ++ ts.getD 2 ⟨#[]⟩
  else if k = 7 then ts.getD 0 ⟨#[]⟩ ++ ⟨#[32, 45, 62, 32]⟩ ++ ts.getD 1 ⟨#[]⟩
  else if k = 8 then ts.getD 0 ⟨#[]⟩ ++ ⟨#[32, 119, 104, 101, 110, 32]⟩ ++ s
  else if k = 9 then ts.getD 0 ⟨#[]⟩ ++ ⟨#[32, 117, 110, 108, 101, 115, 115, 32]⟩ ++ s
  else if k = 10 then ⟨#[109, 101, 114, 103, 101, 32]⟩ ++ s ++ ⟨#[32]⟩ ++ ts.getD 0 ⟨#[]⟩ ++ ⟨#[32]⟩ ++ ts.getD 1 ⟨#[]⟩
  else s

namespace Ex
mutual
def showB : Ex → ByteArray
  | mk k n s l => showK k n s (showL (k == 6) l)
def showL (f : Bool) : List Ex → List ByteArray
  | [] => []
  | x :: l => (if f then showB x else brk x.kind (showB x)) :: showL f l
end
theorem showB_eq (e : Ex) : e.showB = showK e.kind e.n e.name (showL (e.kind == 6) e.sub) := by cases e; simp [showB, kind, n, name, sub]
/-- tree.part. -/
def partB (x : Ex) : ByteArray := brk x.kind x.showB
theorem showL_map (f : Bool) (l : List Ex) : showL f l = l.map fun x => if f then x.showB else x.partB := by
  induction l with
  | nil => simp [showL]
  | cons x l ih => simp [showL, ih, partB]
theorem showL_len (f : Bool) (l : List Ex) : (showL f l).length = l.length := by simp [showL_map]
end Ex

theorem size_app (a b : ByteArray) : (a ++ b).size = a.size + b.size := by simp [ByteArray.size_append]
theorem size_lit (l : Array UInt8) : (ByteArray.mk l).size = l.size := rfl
theorem brk_size (k : Int) (t : ByteArray) : (brk k t).size ≤ t.size + 2 := by
  unfold brk; split
  · omega
  · simp only [size_app, size_lit, List.size_toArray, List.length_cons, List.length_nil]; omega
theorem mark_size (n : Int) : (markB n).size ≤ 2 := by
  unfold markB
  by_cases h1 : n = 1
  · rw [if_pos h1]; decide
  rw [if_neg h1]
  by_cases h2 : n = 2
  · rw [if_pos h2]; decide
  rw [if_neg h2]
  by_cases h3 : n = 3
  · rw [if_pos h3]; decide
  rw [if_neg h3]
  by_cases h4 : n = 4
  · rw [if_pos h4]; decide
  rw [if_neg h4]
  by_cases h5 : n = 5
  · rw [if_pos h5]; decide
  rw [if_neg h5]
  by_cases h6 : n = 6
  · rw [if_pos h6]; decide
  rw [if_neg h6]
  by_cases h7 : n = 7
  · rw [if_pos h7]; decide
  rw [if_neg h7]
  by_cases h8 : n = 8
  · rw [if_pos h8]; decide
  rw [if_neg h8]
  by_cases h9 : n = 9
  · rw [if_pos h9]; decide
  rw [if_neg h9]
  by_cases h10 : n = 10
  · rw [if_pos h10]; decide
  rw [if_neg h10]
  by_cases h11 : n = 11
  · rw [if_pos h11]; decide
  rw [if_neg h11]
  by_cases h12 : n = 12
  · rw [if_pos h12]; decide
  rw [if_neg h12]
  by_cases h13 : n = 13
  · rw [if_pos h13]; decide
  rw [if_neg h13]
  by_cases h14 : n = 14
  · rw [if_pos h14]; decide
  rw [if_neg h14]
  by_cases h15 : n = 15
  · rw [if_pos h15]; decide
  rw [if_neg h15]
  by_cases h16 : n = 16
  · rw [if_pos h16]; decide
  rw [if_neg h16]
  decide
theorem digits_size (a : Int) : (digitsB a).size ≤ 11 := by
  unfold digitsB digitsL
  rw [size_lit]
  have := digs_len 10 a.natAbs []
  split <;> simp at this ⊢ <;> omega

theorem beqI_true' {a b : Int} (h : (a == b) = true) : a = b := by simpa using h
theorem name_small {s : ByteArray} (h : nameB s = true ∨ s.toList.isEmpty = true) : s.size ≤ 16 := by
  rcases h with h | h
  · exact nameB_le h
  · rw [ByteArray.toList_eq] at h
    have : s.data.size = 0 := by
      rw [← Array.length_toList, List.isEmpty_iff.1 h]; rfl
    rw [← ByteArray.size_data, this]; omega

namespace Ex
theorem formed_sub {e x : Ex} (h : e.formed = true) (hx : x ∈ e.sub) : x.formed = true := by
  rw [formed_eq, Bool.and_eq_true] at h
  have : ∀ l : List Ex, formedL l = true → ∀ x ∈ l, x.formed = true := by
    intro l
    induction l with
    | nil => intro _ x hx; cases hx
    | cons y l ih =>
      intro h x hx
      simp only [formedL, Bool.and_eq_true] at h
      rcases List.mem_cons.1 hx with rfl | hx
      · exact h.1
      · exact ih h.2 x hx
  exact this _ h.2 x hx
theorem formedH_kind {k n : Int} {s : ByteArray} {len : Nat} (h : formedH k n s len = true) : (len : Int) = (formK k).1 ∧ (nameB s = true ∨ s.toList.isEmpty = true) := by
  simp only [formedH, Bool.and_eq_true, Bool.or_eq_true] at h
  refine ⟨beqI_true' h.1.1.1.1.2, ?_⟩
  rcases h.2 with h2 | h2
  · have := h.1.2
    rw [h2] at this
    exact .inl (by simpa using this.symm)
  · exact .inr h2
theorem formed_kind {e : Ex} (h : e.formed = true) : (e.sub.length : Int) = (formK e.kind).1 ∧ e.name.size ≤ 16 := by
  rw [formed_eq, Bool.and_eq_true] at h
  obtain ⟨h1, h2⟩ := formedH_kind h.1
  exact ⟨h1, name_small h2⟩
theorem showK_size (k n : Int) (s : ByteArray) (ts : List ByteArray) (hs : s.size ≤ 16) : (showK k n s ts).size ≤ (ts.getD 0 ⟨#[]⟩).size + (ts.getD 1 ⟨#[]⟩).size + (ts.getD 2 ⟨#[]⟩).size + 30 := by
  have h1 := digits_size n
  have h2 := mark_size n
  unfold showK
  repeat' split
  all_goals try simp only [size_app, size_lit, List.size_toArray, List.length_cons, List.length_nil]
  all_goals omega
theorem showB_size (e : Ex) : e.formed = true → e.showB.size + 2 ≤ 40 * e.size := by
  induction e using ind with
  | h e ih =>
    intro hf
    have hk := (formed_kind hf)
    have hs := showK_size e.kind e.n e.name (showL (e.kind == 6) e.sub) hk.2
    rw [← showB_eq] at hs
    rw [size_eq]
    have hl : e.sub.length ≤ 3 := by
      have := hk.1
      unfold formK at this
      repeat' split at this
      all_goals first | omega | (simp at this; omega)
    have hp : ∀ x ∈ e.sub, (if (e.kind == 6) = true then x.showB else x.partB).size ≤ 40 * x.size := by
      intro x hx
      have := ih x hx (formed_sub hf hx)
      have hb := brk_size x.kind x.showB
      split
      · omega
      · unfold partB; omega
    rw [showL_map] at hs
    generalize hsub : e.sub = l at hs hl hp
    match l, hl, hp with
    | [], _, _ => simp only [List.map_nil, List.getD_nil, size_lit, List.size_toArray, List.length_nil] at hs; simp only [sizeL]; omega
    | [a], _, hp =>
      have ha := hp a (by simp)
      simp only [List.map_cons, List.map_nil, List.getD_cons_zero, List.getD_cons_succ, List.getD_nil, size_lit, List.size_toArray, List.length_nil] at hs
      simp only [sizeL]; omega
    | [a, b], _, hp =>
      have ha := hp a (by simp)
      have hb := hp b (by simp)
      simp only [List.map_cons, List.map_nil, List.getD_cons_zero, List.getD_cons_succ, List.getD_nil, size_lit, List.size_toArray, List.length_nil] at hs
      simp only [sizeL]; omega
    | [a, b, c], _, hp =>
      have ha := hp a (by simp)
      have hb := hp b (by simp)
      have hc := hp c (by simp)
      simp only [List.map_cons, List.map_nil, List.getD_cons_zero, List.getD_cons_succ, List.getD_nil, size_lit, List.size_toArray, List.length_nil] at hs
      simp only [sizeL]; omega
end Ex
end Go.Proofs.Ytlfklfjnkpjooaa
