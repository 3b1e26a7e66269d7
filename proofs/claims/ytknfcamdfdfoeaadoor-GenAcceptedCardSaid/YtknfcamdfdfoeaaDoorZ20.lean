/- What the reference's Check of the start asks is what the program's does. No program of Go in sight. -/
import Derived.Test.YtknfcamdfdfoeaaDoorZ19
import Derived.Test.YtknfcamdfdfoeaaDoorZ00
import Derived.Laws.Entries
set_option linter.unusedVariables false
set_option linter.unusedSimpArgs false
set_option maxRecDepth 100000
namespace Go.Proofs.YtknfcamdfdfoeaaDoor
open Go.RowKit

theorem looseGo_named {eqs : List Qe} (he : ∀ q ∈ eqs, q.name.toList.isEmpty = false) : ∀ (l : List Int) (out : List ByteArray), (∀ s ∈ out, s.toList.isEmpty = false) → ∀ s ∈ looseGo eqs out l, s.toList.isEmpty = false
  | [], out, ho, s, hs => ho s hs
  | j :: r, out, ho, s, hs => by
    rw [looseGo] at hs
    refine looseGo_named he r _ ?_ s hs
    cases hq : eqs[j.toNat]? with
    | none => exact ho
    | some q =>
      dsimp only
      split
      · intro x hx
        rcases List.mem_append.1 hx with h1 | h1
        · exact ho x h1
        · obtain rfl : x = q.name := by simpa using h1
          exact he q (List.mem_of_getElem? hq)
      · exact ho
theorem eqs_named {p : Pr} (h : wholeB p = true) : ∀ q ∈ p.eqs, q.name.toList.isEmpty = false := fun q hq => by
  have hb := (whole_parts h).2.2.2.2 q hq
  simp only [eqB, Bool.and_eq_true] at hb
  exact nameB_ne hb.1.1
theorem loose_named {p : Pr} (hO : (orderE p).2 = (0, 0, 0)) : ∀ s ∈ (looseE p).1, s.toList.isEmpty = false := by
  have hwh := (clean_parts (clkF_parts (orderE_good hO).1).1).1
  unfold looseE
  rw [if_pos hO]
  refine looseGo_named (eqs_named hwh) _ _ fun s hs => ?_
  unfold presE at hs
  rw [List.mem_map] at hs
  obtain ⟨q, hq, rfl⟩ := hs
  exact eqs_named hwh q (List.mem_filter.1 hq).1
theorem inL_has {LF : List ByteArray} (h : ∀ s ∈ LF, s.toList.isEmpty = false) (s : ByteArray) : inL LF s = hasB LF s := by
  unfold inL
  cases hs : s.toList.isEmpty
  · simp
  · have : hasB LF s = false := hasB_not.2 fun hm => by rw [h s hm] at hs; cases hs
    rw [this]; rfl

end Go.Proofs.YtknfcamdfdfoeaaDoor

/- Which variables are loose, said without the document's answer. No program of Go in sight. -/
namespace Go.Proofs.YtknfcamdfdfoeaaDoor
open Go.RowKit

theorem looseGo_mono {eqs : List Qe} : ∀ (l : List Int) (out : List ByteArray), ∀ s ∈ out, s ∈ looseGo eqs out l
  | [], out, s, hs => hs
  | j :: r, out, s, hs => by
    rw [looseGo]
    refine looseGo_mono r _ s ?_
    cases eqs[j.toNat]? with
    | none => exact hs
    | some q =>
      dsimp only
      split
      · exact List.mem_append.2 (.inl hs)
      · exact hs
/-- Where a loose name comes from. -/
theorem looseGo_from {eqs : List Qe} : ∀ (l : List Int) (out : List ByteArray), ∀ s ∈ looseGo eqs out l, s ∈ out ∨ ∃ (j : Int) (q : Qe) (o : List ByteArray), j ∈ l ∧ eqs[j.toNat]? = some q ∧ q.name = s ∧ q.e.reach (inL o) = true ∧ ∀ x ∈ o, x ∈ looseGo eqs out l
  | [], out, s, hs => .inl hs
  | j :: r, out, s, hs => by
    rw [looseGo] at hs
    cases hq : eqs[j.toNat]? with
    | none =>
      rw [hq] at hs
      rcases looseGo_from r _ s hs with h | ⟨j', q, o, h1, h2, h3, h4, h5⟩
      · exact .inl h
      · refine .inr ⟨j', q, o, by simp [h1], h2, h3, h4, ?_⟩
        rw [looseGo, hq]
        exact h5
    | some q =>
      rw [hq] at hs
      dsimp only at hs
      by_cases hr : q.e.reach (inL out) = true
      · rw [if_pos hr] at hs
        rcases looseGo_from r _ s hs with h | ⟨j', q', o, h1, h2, h3, h4, h5⟩
        · rcases List.mem_append.1 h with h | h
          · exact .inl h
          · have hsq : s = q.name := by simpa using h
            refine .inr ⟨j, q, out, by simp, hq, hsq.symm, hr, fun x hx => ?_⟩
            exact looseGo_mono (j :: r) out x hx
        · refine .inr ⟨j', q', o, by simp [h1], h2, h3, h4, ?_⟩
          rw [looseGo, hq]
          dsimp only
          rw [if_pos hr]
          exact h5
      · rw [if_neg hr] at hs
        rcases looseGo_from r _ s hs with h | ⟨j', q', o, h1, h2, h3, h4, h5⟩
        · exact .inl h
        · refine .inr ⟨j', q', o, by simp [h1], h2, h3, h4, ?_⟩
          rw [looseGo, hq]
          dsimp only
          rw [if_neg hr]
          exact h5

namespace Ex
end Ex

/-- No input is loose. -/
theorem loose_ins {p : Pr} (hO : (orderE p).2 = (0, 0, 0)) {v : Va} (hv : v ∈ p.ins) : inL (looseE p).1 v.name = false := by
  have hc := (clkF_parts (orderE_good hO).1).1
  have hLF := loose_named hO
  obtain ⟨_, hin, _⟩ := eqs_parts hc
  rw [inL_has hLF]
  refine hasB_not.2 fun hm => ?_
  have hE : (looseE p).1 = looseGo p.eqs (presE p.eqs) (orderE p).1 := by unfold looseE; rw [if_pos hO]
  rw [hE] at hm
  rcases looseGo_from _ _ _ hm with h1 | ⟨j, x, o, h1, h2, h3, _⟩
  · unfold presE at h1
    rw [List.mem_map] at h1
    obtain ⟨x, hx, hn⟩ := h1
    exact hin x (List.mem_filter.1 hx).1 (List.mem_map.2 ⟨v, hv, hn.symm⟩)
  · exact hin x (List.mem_of_getElem? h2) (List.mem_map.2 ⟨v, hv, h3.symm⟩)
end Go.Proofs.YtknfcamdfdfoeaaDoor

/- What a program is in which nothing hangs on what has no value at first. No program of Go in sight. -/
namespace Go.Proofs.YtknfcamdfdfoeaaDoor
open Go.RowKit

theorem startGo_zero {h : Qe → Bool} : ∀ (l : List Qe) (k : Nat), startGo h k l = (0, 0, 0) → ∀ q ∈ l, h q = false
  | [], _, _, q, hq => by simp at hq
  | x :: r, k, hs, q, hq => by
    rw [startGo] at hs
    by_cases hx : h x = true
    · rw [if_pos hx] at hs
      simp at hs
    · rw [if_neg hx] at hs
      rcases List.mem_cons.1 hq with rfl | hq
      · simpa using hx
      · exact startGo_zero r (k + 1) hs q hq
theorem variable_plain {v : Va} (h : variableB v false = true) : v.cn.toList.isEmpty = true := by
  simp only [variableB, Bool.and_eq_true] at h
  have h3 := h.2
  by_cases h0 : v.ck = 0
  · rw [if_pos h0] at h3; exact h3
  · rw [if_neg h0] at h3
    by_cases h1 : v.ck = 1 ∨ v.ck = 2
    · rw [if_pos h1] at h3; simp at h3
    · rw [if_neg h1] at h3; simp at h3
theorem vars_same {p : Pr} (hc : checkF p = (0, 0, 0)) {u v : Va} (hu : u ∈ varsOf p) (hv : v ∈ varsOf p) (hn : u.name = v.name) : u = v := by
  obtain ⟨i, hi⟩ := List.getElem?_of_mem hu
  obtain ⟨j, hj⟩ := List.getElem?_of_mem hv
  have := (clean_parts hc).2.1 i j u v hi hj hn
  subst this
  rw [hi] at hj
  injection hj
/-- No output is loose, and no truth by which a clock goes. -/
theorem outs_clean {p : Pr} (h : startF p = (0, 0, 0)) : (orderE p).2 = (0, 0, 0) ∧ (∀ v ∈ p.ins ++ p.outs, inL (looseE p).1 v.name = false) ∧ ∀ v ∈ varsOf p, v.cn.toList.isEmpty = false → inL (looseE p).1 v.cn = false := by
  unfold startF at h
  by_cases hO : (orderE p).2 = (0, 0, 0)
  · rw [if_pos hO] at h
    have hck := (orderE_good hO).1
    have hc := (clkF_parts hck).1
    have hwh := (clean_parts hc).1
    have hwh2 := hwh
    simp only [wholeB, Bool.and_eq_true, List.all_eq_true] at hwh2
    have hz := startGo_zero _ _ h
    obtain ⟨_, hin, hvar⟩ := eqs_parts hc
    refine ⟨hO, fun v hv => ?_, fun v hv hne => ?_⟩
    · rcases List.mem_append.1 hv with h1 | h1
      · exact loose_ins hO h1
      · have hvm : v ∈ varsOf p := by simp [varsOf, h1]
        rcases hvar v hvm with h2 | ⟨q, hq, hqn⟩
        · obtain ⟨u, hu, hun⟩ := List.mem_map.1 h2
          have := vars_same hc (by simp [varsOf, hu]) hvm hun
          subst this
          exact loose_ins hO hu
        · have hh := hz q hq
          unfold hangQ hangB at hh
          simp only [Bool.or_eq_false_iff, Bool.and_eq_false_iff] at hh
          rw [← hqn]
          rcases hh.2 with h3 | h3
          · exact absurd (hasB_iff.2 (List.mem_map.2 ⟨v, h1, hqn.symm⟩)) (by rw [h3]; simp)
          · exact h3
    · have hnin : v ∉ p.ins := fun hi => by rw [variable_plain (hwh2.1.1.1.2 v hi)] at hne; cases hne
      rcases hvar v hv with h2 | ⟨q, hq, hqn⟩
      · obtain ⟨u, hu, hun⟩ := List.mem_map.1 h2
        have := vars_same hc (by simp [varsOf, hu]) hv hun
        subst this
        exact absurd hu hnin
      · obtain ⟨v', hm, _, hn', hcl, hor⟩ := needs_clock hck hq
        have := vars_same hc hm hv (hn'.trans hqn)
        subst this
        have hh := hz q hq
        unfold hangQ hangB at hh
        rw [hcl] at hh
        simp only [Bool.or_eq_false_iff, Bool.and_eq_false_iff] at hh
        rcases hor with ⟨_, h4⟩ | ⟨h4, _, _⟩
        · rw [h4] at hne; cases hne
        · rcases hh.1.1.2 with h5 | h5
          · exact absurd h5 (by simpa using h4)
          · exact h5
  · rw [if_neg hO] at h
    exact absurd h hO
end Go.Proofs.YtknfcamdfdfoeaaDoor

/- What the operations of whole numbers of 32 bits come to. No program of Go in sight. -/
namespace Go.Proofs.YtknfcamdfdfoeaaDoor
open Go.RowKit

/-- A number by its lowest 32 bits. -/
def W32 (n : Int) : Int := IntKind.i32.wrap n
theorem w32_eq (n : Int) : W32 n = if 2147483648 ≤ n % 4294967296 then n % 4294967296 - 4294967296 else n % 4294967296 := by
  unfold W32 IntKind.wrap
  simp [IntKind.bits, IntKind.signed]
theorem w32_range (n : Int) : I32 (W32 n) := by
  rw [w32_eq]; unfold I32; split <;> omega
theorem w32_same {n : Int} (h : I32 n) : W32 n = n := by
  unfold I32 at h
  rw [w32_eq]; split <;> omega
def truF (b : Bool) : Int := if b = true then 1 else 0
def unF (op a : Int) : Int := if op = 1 then W32 (-a) else if op = 2 then truF (a == 0) else 0
def quoF (a b : Int) : Int := if b = 0 then 0 else W32 (a.tdiv b)
/-- An operation of two values. -/
def binF (op a b : Int) : Int :=
  if op = 1 then W32 (a + b)
  else if op = 2 then W32 (a - b)
  else if op = 3 then W32 (a * b)
  else if op = 4 then quoF a b
  else if op = 5 then W32 (a - W32 (quoF a b * b))
  else if op = 6 then W32 (a * 2 ^ (b % 32).toNat)
  else if op = 7 then a / 2 ^ (b % 32).toNat
  else if op = 8 then bits .and .i32 a b
  else if op = 9 then bits .or .i32 a b
  else if op = 10 then bits .xor .i32 a b
  else if op = 11 then truF (a == b)
  else if op = 12 then truF (a != b)
  else if op = 13 then truF (decide (a < b))
  else if op = 14 then truF (decide (a ≤ b))
  else if op = 15 then truF (decide (b < a))
  else if op = 16 then truF (decide (b ≤ a))
  else 0
end Go.Proofs.YtknfcamdfdfoeaaDoor
