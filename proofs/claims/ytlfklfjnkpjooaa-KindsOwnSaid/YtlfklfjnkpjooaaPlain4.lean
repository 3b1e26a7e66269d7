/- The text of a program, as the package tree writes it. -/
import Derived.Test.YtlfklfjnkpjooaaPlain3
set_option linter.unusedVariables false
set_option linter.unusedSimpArgs false
namespace Go.Proofs.Ytlfklfjnkpjooaa
open Go.RowKit

/-- tree.declared. -/
def declB (v : Va) : ByteArray :=
  if v.ck = 1 then (if v.type = 2 then v.name ++ ⟨#[32, 58, 32, 98, 111, 111, 108]⟩ else v.name ++ ⟨#[32, 58, 32, 105, 110, 116]⟩) ++ (⟨#[32, 119, 104, 101, 110, 32]⟩ ++ v.cn)
  else if v.ck = 2 then (if v.type = 2 then v.name ++ ⟨#[32, 58, 32, 98, 111, 111, 108]⟩ else v.name ++ ⟨#[32, 58, 32, 105, 110, 116]⟩) ++ (⟨#[32, 117, 110, 108, 101, 115, 115, 32]⟩ ++ v.cn)
  else (if v.type = 2 then v.name ++ ⟨#[32, 58, 32, 98, 111, 111, 108]⟩ else v.name ++ ⟨#[32, 58, 32, 105, 110, 116]⟩)
def listGo : Nat → ByteArray → List Va → ByteArray
  | _, s, [] => s
  | k, s, v :: l => listGo (k + 1) ((if 0 < k then s ++ ⟨#[59, 32]⟩ else s) ++ declB v) l
/-- tree.list. -/
def listVB (l : List Va) : ByteArray := listGo 0 ⟨#[40]⟩ l ++ ⟨#[41]⟩
def headB (p : Pr) : ByteArray := ⟨#[110, 111, 100, 101, 32]⟩ ++ p.name ++ ⟨#[32]⟩ ++ listVB p.ins ++ ⟨#[32, 114, 101, 116, 117, 114, 110, 115, 32]⟩ ++ listVB p.outs ++ ⟨#[59, 10]⟩
def localsGo : ByteArray → List Va → ByteArray
  | s, [] => s
  | s, v :: l => localsGo (s ++ (⟨#[32, 32]⟩ ++ declB v ++ ⟨#[59, 10]⟩)) l
def eqText (s : ByteArray) (q : Qe) : ByteArray :=
  (if q.delay = 1 then (s ++ (⟨#[32, 32]⟩ ++ q.name ++ ⟨#[32, 61, 32]⟩)) ++ (q.first.showB ++ ⟨#[32, 102, 98, 121, 32]⟩) else if q.delay = 2 then (s ++ (⟨#[32, 32]⟩ ++ q.name ++ ⟨#[32, 61, 32]⟩)) ++ ⟨#[112, 114, 101, 32]⟩ else s ++ (⟨#[32, 32]⟩ ++ q.name ++ ⟨#[32, 61, 32]⟩)) ++ (q.e.showB ++ ⟨#[59, 10]⟩)
def eqsGo : ByteArray → List Qe → ByteArray
  | s, [] => s
  | s, q :: l => eqsGo (eqText s q) l
/-- tree.Print's text. -/
def printB (p : Pr) : ByteArray := eqsGo (localsGo (if 0 < p.locals.length then headB p ++ ⟨#[118, 97, 114, 10]⟩ else headB p) p.locals ++ ⟨#[108, 101, 116, 10]⟩) p.eqs ++ ⟨#[116, 101, 108, 10]⟩
/-- tree.Print's error. -/
def printE (p : Pr) : Int := if wholeB p = false then 4 else if 4096 < (printB p).size then 3 else 0

/-- Names of a declaration are short. -/
def Short (v : Va) : Prop := v.name.size ≤ 16 ∧ v.cn.size ≤ 16
theorem declB_size {v : Va} (h : Short v) : (declB v).size ≤ 60 := by
  obtain ⟨h1, h2⟩ := h
  unfold declB
  repeat' split
  all_goals simp only [size_app, size_lit, List.size_toArray, List.length_cons, List.length_nil]
  all_goals omega
theorem listGo_size : ∀ (l : List Va), (∀ v ∈ l, Short v) → ∀ (k : Nat) (s : ByteArray), (listGo k s l).size ≤ s.size + 62 * l.length
  | [], _, k, s => by simp [listGo]
  | v :: l, h, k, s => by
    have h1 := declB_size (h v (by simp))
    have := listGo_size l (fun x hx => h x (by simp [hx])) (k + 1) ((if 0 < k then s ++ ⟨#[59, 32]⟩ else s) ++ declB v)
    rw [listGo]
    refine Nat.le_trans this ?_
    rw [size_app, List.length_cons]
    split
    · simp only [size_app, size_lit, List.size_toArray, List.length_cons, List.length_nil]; omega
    · omega
theorem listVB_size {l : List Va} (h : ∀ v ∈ l, Short v) : (listVB l).size ≤ 2 + 62 * l.length := by
  have := listGo_size l h 0 ⟨#[40]⟩
  unfold listVB
  simp only [size_app, size_lit, List.size_toArray, List.length_cons, List.length_nil] at this ⊢
  omega
theorem short_of {v : Va} {own : Bool} (h : variableB v own = true) : Short v := by
  unfold variableB at h
  simp only [Bool.and_eq_true] at h
  refine ⟨nameB_le h.1.1, ?_⟩
  have h2 := h.2
  split at h2
  · exact name_small (.inr h2)
  · split at h2
    · simp only [Bool.and_eq_true] at h2
      exact nameB_le h2.2
    · simp at h2
theorem whole_parts {p : Pr} (h : wholeB p = true) : p.name.size ≤ 16 ∧ (∀ v ∈ p.ins, Short v) ∧ (∀ v ∈ p.outs, Short v) ∧ (∀ v ∈ p.locals, Short v) ∧ ∀ q ∈ p.eqs, eqB q = true := by
  simp only [wholeB, Bool.and_eq_true, List.all_eq_true] at h
  exact ⟨nameB_le h.1.1.1.1, fun v hv => short_of (h.1.1.1.2 v hv), fun v hv => short_of (h.1.1.2 v hv), fun v hv => short_of (h.1.2 v hv), h.2⟩
theorem eqB_parts {q : Qe} (h : eqB q = true) : q.name.size ≤ 16 ∧ q.e.formed = true ∧ q.e.size ≤ 120 ∧ (q.delay = 1 → q.first.formed = true ∧ q.first.size ≤ 120) ∧ (q.delay = 0 ∨ q.delay = 1 ∨ q.delay = 2) := by
  simp only [eqB, Bool.and_eq_true] at h
  obtain ⟨⟨h1, h2⟩, h3⟩ := h
  have small : ∀ e : Ex, e.right = 0 → e.formed = true ∧ e.size ≤ 120 := by
    intro e he
    have := Ex.right_zero.1 he
    have hs := Ex.count_size e 121 (by omega)
    exact ⟨this.2.2, by omega⟩
  have h2' := small q.e (by simpa using h2)
  refine ⟨nameB_le h1, h2'.1, h2'.2, fun hd => ?_, ?_⟩
  · rw [if_pos hd] at h3
    unfold Ex.literal at h3
    split at h3
    · rename_i hr
      exact small _ hr
    · simp at h3
  · split at h3
    · omega
    · split at h3
      · omega
      · simp at h3
end Go.Proofs.Ytlfklfjnkpjooaa
