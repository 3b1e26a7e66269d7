/- Plain data of a program: expressions, variables, equations; and what the functions of the packages tree and kinds compute over them. No program of Go in sight. -/
import Derived.WalkKit
set_option linter.unusedVariables false
set_option linter.unusedSimpArgs false
namespace Go.Proofs.Ytlfklfjnkpjooaa
open Go.RowKit

/-- An expression. -/
inductive Ex where
  | mk (kind n : Int) (name : ByteArray) (sub : List Ex)

structure Va where
  name : ByteArray
  type : Int
  ck : Int
  cn : ByteArray

structure Qe where
  name : ByteArray
  delay : Int
  first : Ex
  e : Ex

structure Pr where
  name : ByteArray
  ins : List Va
  outs : List Va
  locals : List Va
  eqs : List Qe

def I64 (x : Int) : Prop := -9223372036854775808 ≤ x ∧ x ≤ 9223372036854775807
def I32 (x : Int) : Prop := -2147483648 ≤ x ∧ x ≤ 2147483647

namespace Ex
def kind : Ex → Int | mk k _ _ _ => k
def n : Ex → Int | mk _ n _ _ => n
def name : Ex → ByteArray | mk _ _ s _ => s
def sub : Ex → List Ex | mk _ _ _ l => l
def zero : Ex := mk 0 0 ⟨#[]⟩ []
mutual
def size : Ex → Nat
  | mk _ _ _ l => sizeL l + 1
def sizeL : List Ex → Nat
  | [] => 0
  | x :: l => size x + sizeL l
end
theorem size_eq (e : Ex) : e.size = sizeL e.sub + 1 := by cases e; simp [size, sub]
theorem size_mem : ∀ (l : List Ex) (k : Nat) (x : Ex), l[k]? = some x → x.size ≤ sizeL l
  | [], k, x, h => by simp at h
  | y :: l, 0, x, h => by simp at h; subst h; simp [sizeL]
  | y :: l, k + 1, x, h => by
    have := size_mem l k x (by simpa using h)
    simp [sizeL]; omega
theorem size_sub {e x : Ex} {k : Nat} (h : e.sub[k]? = some x) : x.size < e.size := by
  have := size_mem _ _ _ h
  rw [size_eq e]; omega
/-- The induction that all walks over expressions go by. -/
theorem ind {p : Ex → Prop} (h : ∀ e, (∀ x ∈ e.sub, p x) → p e) (e : Ex) : p e := by
  have : ∀ n (e : Ex), e.size ≤ n → p e := by
    intro n
    induction n with
    | zero => intro e he; rw [size_eq] at he; omega
    | succ n ih =>
      intro e he
      refine h e fun x hx => ih x ?_
      obtain ⟨k, hk⟩ := List.mem_iff_getElem?.1 hx
      have := size_sub hk
      omega
  exact this _ e (Nat.le_refl _)

-- The numbers of an expression are numbers of their kinds.
mutual
def OK : Ex → Prop
  | mk k n s l => I64 k ∧ I32 n ∧ s.size ≤ maxLen ∧ OKL l
def OKL : List Ex → Prop
  | [] => True
  | x :: l => OK x ∧ OKL l
end
theorem OKL_mem : ∀ {l : List Ex}, OKL l → ∀ x ∈ l, OK x
  | [], _, x, hx => by cases hx
  | y :: l, h, x, hx => by
    simp only [OKL] at h
    rcases List.mem_cons.1 hx with rfl | hx
    · exact h.1
    · exact OKL_mem h.2 x hx
theorem OK_sub {e x : Ex} (h : OK e) (hx : x ∈ e.sub) : OK x := by
  cases e; simp only [OK, sub] at *; exact OKL_mem h.2.2.2 x hx

-- tree.count.
mutual
def count : Ex → Int → Int
  | mk _ _ _ l, most => countL l 1 most
def countL : List Ex → Int → Int → Int
  | [], n, _ => n
  | x :: l, n, most => if n ≥ most then n else countL l (n + count x (most - n)) most
end
theorem count_eq (e : Ex) (most : Int) : e.count most = countL e.sub 1 most := by cases e; simp [count, sub]
theorem countL_bd : ∀ (l : List Ex), (∀ x ∈ l, ∀ m, 1 ≤ count x m ∧ count x m ≤ max 1 m) → ∀ n m, 1 ≤ n → n ≤ max 1 m → n ≤ countL l n m ∧ countL l n m ≤ max 1 m
  | [], _, n, m, h1, h2 => by simp [countL]; omega
  | x :: l, hx, n, m, h1, h2 => by
    simp only [countL]
    split
    · exact ⟨by omega, by omega⟩
    · have := hx x (by simp) (m - n)
      have := countL_bd l (fun y hy => hx y (by simp [hy])) (n + count x (m - n)) m (by omega) (by omega)
      exact ⟨by omega, by omega⟩
theorem count_bd (e : Ex) : ∀ m, 1 ≤ count e m ∧ count e m ≤ max 1 m := by
  induction e using ind with
  | h e ih =>
    intro m
    rw [count_eq]
    have := countL_bd e.sub ih 1 m (by omega) (by omega)
    exact ⟨by omega, by omega⟩

theorem countL_size : ∀ (l : List Ex), (∀ x ∈ l, ∀ m, count x m < m → count x m = x.size) → ∀ n m, 1 ≤ n → countL l n m < m → countL l n m = n + sizeL l
  | [], _, n, m, _, h => by simp [countL, sizeL]
  | x :: l, hx, n, m, h1, h => by
    simp only [countL, sizeL] at h ⊢
    split at h
    · omega
    · rename_i hge
      rw [if_neg hge]
      have hb := count_bd x (m - n)
      have hl := countL_bd l (fun y _ => count_bd y) (n + count x (m - n)) m (by omega) (by omega)
      have := hx x (by simp) (m - n) (by omega)
      have := countL_size l (fun y hy => hx y (by simp [hy])) (n + count x (m - n)) m (by omega) h
      omega
theorem count_size (e : Ex) : ∀ m, count e m < m → count e m = e.size := by
  induction e using ind with
  | h e ih =>
    intro m h
    rw [count_eq] at h ⊢
    rw [countL_size e.sub ih 1 m (by omega) h, size_eq]
    omega

-- tree.depth.
mutual
def depth : Ex → Int
  | mk _ _ _ l => depthL l 0 + 1
def depthL : List Ex → Int → Int
  | [], n => n
  | x :: l, n => depthL l (max n (depth x))
end
theorem depth_eq (e : Ex) : e.depth = depthL e.sub 0 + 1 := by cases e; simp [depth, sub]
theorem depthL_bd : ∀ (l : List Ex), (∀ x ∈ l, 1 ≤ depth x ∧ depth x ≤ x.size) → ∀ n, n ≤ depthL l n ∧ depthL l n ≤ max n (sizeL l)
  | [], _, n => by simp [depthL]; omega
  | x :: l, hx, n => by
    have := hx x (by simp)
    have := depthL_bd l (fun y hy => hx y (by simp [hy])) (max n (depth x))
    simp only [depthL, sizeL]
    omega
theorem depth_bd (e : Ex) : 1 ≤ depth e ∧ depth e ≤ e.size := by
  induction e using ind with
  | h e ih =>
    rw [depth_eq, size_eq]
    have := depthL_bd e.sub ih 0
    omega
end Ex

end Go.Proofs.Ytlfklfjnkpjooaa
