/- A program in which kinds.Check finds no fault: each output and own variable has just one equation, of its type; no input has one. No program of Go in sight. -/
import Derived.Test.YtikmbkojnfmiaaaDoorRRRRBB
import Derived.Test.YtikmbkojnfmiaaaDoorRRRRBI
import Derived.Test.YtikmbkojnfmiaaaDoorRRRRBE
import Derived.Test.YtikmbkojnfmiaaaDoorRRRRBM
import Derived.Test.YtikmbkojnfmiaaaDoorRRRRWRefVars
set_option linter.unusedVariables false
set_option linter.unusedSimpArgs false
set_option maxRecDepth 100000
namespace Go.Proofs.YtikmbkojnfmiaaaDoorRRRR
open Go.RowKit

/-- How many equations of a name. -/
def cnt (s : ByteArray) : List Qe → Nat
  | [] => 0
  | q :: r => (if q.name = s then 1 else 0) + cnt s r
/-- How many variables of a name. -/
def occ (s : ByteArray) : List Va → Nat
  | [] => 0
  | v :: r => (if s = v.name then 1 else 0) + occ s r
def sumC (qs : List Qe) : List Va → Nat
  | [] => 0
  | v :: r => cnt v.name qs + sumC qs r

theorem dupGo_none {L : List Va} : ∀ (r : List Va) (k : Nat), dupGo L k r = none → ∀ (i : Nat) (v : Va), r[i]? = some v → (findV L v.name).getD 0 = ((k + i : Nat) : Int)
  | [], _, _, i, v, hi => by simp at hi
  | u :: r, k, h, i, v, hi => by
    rw [dupGo] at h
    by_cases hc : (findV L u.name).getD 0 ≠ (k : Int)
    · rw [if_pos hc] at h; cases h
    · rw [if_neg hc] at h
      cases i with
      | zero =>
        obtain rfl : u = v := by simpa using hi
        have : (findV L u.name).getD 0 = (k : Int) := Decidable.not_not.1 hc
        simpa using this
      | succ i =>
        have := dupGo_none r (k + 1) h i v (by simpa using hi)
        rw [this]; congr 1; omega

theorem eqE_zero {L : List Va} {ins : Int} {d : ByteArray → Option Int} {q : Qe} (h : eqE L ins d q = 0) : ∃ j, findV L q.name = some j ∧ ¬ j < ins ∧ ¬ 0 < (d q.name).getD 0 ∧ (q.e.typ L).2 = 0 ∧ (q.e.typ L).1 = typeAt L j := by
  unfold eqE at h
  cases hf : findV L q.name with
  | none => rw [hf] at h; simp at h
  | some j =>
    rw [hf] at h
    simp only at h
    by_cases h1 : j < ins
    · rw [if_pos h1] at h; omega
    rw [if_neg h1] at h
    by_cases h2 : 0 < (d q.name).getD 0
    · rw [if_pos h2] at h; omega
    rw [if_neg h2] at h
    by_cases h3 : (q.e.typ L).2 ≠ 0
    · rw [if_pos h3] at h; exact absurd h h3
    rw [if_neg h3] at h
    by_cases h4 : q.delay = 1 ∧ (q.first.typ L).1 ≠ typeAt L j
    · rw [if_pos h4] at h; omega
    rw [if_neg h4] at h
    by_cases h5 : (q.e.typ L).1 ≠ typeAt L j
    · rw [if_pos h5] at h; omega
    exact ⟨j, rfl, h1, h2, Decidable.not_not.1 h3, Decidable.not_not.1 h5⟩

theorem upd_val (d : ByteArray → Option Int) (n s : ByteArray) : ((upd d n ((d n).getD 0 + 1)) s).getD 0 = (d s).getD 0 + ((if n = s then 1 else 0 : Nat) : Int) := by
  unfold upd
  by_cases h : n = s
  · subst h; simp
  · have : ¬ s.data = n.data := fun hd => h (by ext1; exact hd.symm)
    rw [if_neg this, if_neg h]; simp

theorem eqGo_none {L : List Va} {ins : Int} : ∀ (r : List Qe) (k : Nat) (d : ByteArray → Option Int), (eqGo L ins k d r).1 = none →
    (∀ s, ((eqGo L ins k d r).2 s).getD 0 = (d s).getD 0 + (cnt s r : Int)) ∧ (∀ q ∈ r, ∃ d', eqE L ins d' q = 0) ∧ ((∀ s, 0 ≤ (d s).getD 0) → (∀ s, (d s).getD 0 ≤ 1) → ∀ s, (d s).getD 0 + (cnt s r : Int) ≤ 1)
  | [], k, d, h => ⟨fun s => by simp [eqGo, cnt], by simp, fun _ h2 s => by simpa [cnt] using h2 s⟩
  | q :: r, k, d, h => by
    rw [eqGo] at h ⊢
    by_cases hc : eqE L ins d q ≠ 0
    · rw [if_pos hc] at h; cases h
    · rw [if_neg hc] at h ⊢
      obtain ⟨h1, h2, h3⟩ := eqGo_none r (k + 1) _ h
      have he : eqE L ins d q = 0 := Decidable.not_not.1 hc
      refine ⟨fun s => ?_, fun x hx => ?_, fun p1 p2 s => ?_⟩
      · rw [h1 s, upd_val, cnt]; push_cast; omega
      · rcases List.mem_cons.1 hx with rfl | hx
        · exact ⟨d, he⟩
        · exact h2 x hx
      · obtain ⟨j, _, _, hd, _⟩ := eqE_zero he
        have hz : (d q.name).getD 0 = 0 := by have := p1 q.name; omega
        have := h3 (fun t => by rw [upd_val]; have := p1 t; split <;> omega) (fun t => by
          rw [upd_val]
          split
          · rename_i ht; subst ht; rw [hz]; decide
          · have := p2 t; simpa using this) s
        rw [upd_val] at this
        rw [cnt]; push_cast; omega

theorem missGo_none {d : ByteArray → Option Int} : ∀ (r : List Va) (k : Nat), missGo d k r = none → ∀ v ∈ r, (d v.name).getD 0 ≠ 0
  | [], _, _, v, hv => by simp at hv
  | u :: r, k, h, v, hv => by
    rw [missGo] at h
    by_cases hc : (d u.name).getD 0 = 0
    · rw [if_pos hc] at h; cases h
    · rw [if_neg hc] at h
      rcases List.mem_cons.1 hv with rfl | hv
      · exact hc
      · exact missGo_none r (k + 1) h v hv

theorem sumC_cons (q : Qe) (qs : List Qe) : ∀ r, sumC (q :: qs) r = occ q.name r + sumC qs r
  | [] => rfl
  | v :: r => by simp only [sumC, cnt, occ, sumC_cons q qs r]; omega
theorem sumC_nil : ∀ r, sumC [] r = 0
  | [] => rfl
  | v :: r => by simp only [sumC, cnt, sumC_nil r]
theorem sumC_one (qs : List Qe) : ∀ r : List Va, (∀ v ∈ r, cnt v.name qs = 1) → sumC qs r = r.length
  | [], _ => rfl
  | v :: r, h => by rw [sumC, h v (by simp), sumC_one qs r (fun u hu => h u (by simp [hu]))]; simp; omega
theorem sumC_len (r : List Va) : ∀ qs : List Qe, (∀ q ∈ qs, occ q.name r = 1) → sumC qs r = qs.length
  | [], _ => sumC_nil r
  | q :: qs, h => by rw [sumC_cons, h q (by simp), sumC_len r qs (fun u hu => h u (by simp [hu]))]; simp; omega
theorem occ_zero (s : ByteArray) : ∀ r : List Va, (∀ u ∈ r, u.name ≠ s) → occ s r = 0
  | [], _ => rfl
  | v :: r, h => by rw [occ, if_neg (fun e => h v (by simp) e.symm), occ_zero s r (fun u hu => h u (by simp [hu]))]
theorem occ_one (s : ByteArray) : ∀ (r : List Va) (i : Nat) (v : Va), r[i]? = some v → v.name = s → (∀ (j : Nat) (u : Va), r[j]? = some u → u.name = s → j = i) → occ s r = 1
  | [], i, v, h, _, _ => by simp at h
  | u :: r, 0, v, h, hs, hu => by
    obtain rfl : u = v := by simpa using h
    rw [occ, if_pos hs.symm, occ_zero s r]
    intro x hx hxs
    obtain ⟨j, hj⟩ := List.getElem?_of_mem hx
    have := hu (j + 1) x (by simpa using hj) hxs
    omega
  | u :: r, i + 1, v, h, hs, hu => by
    have hne : ¬ s = u.name := fun e => by have := hu 0 u rfl e.symm; omega
    rw [occ, if_neg hne, occ_one s r i v (by simpa using h) hs (fun j x hj hx => by have := hu (j + 1) x (by simpa using hj) hx; omega)]

theorem cnt_zero {s : ByteArray} : ∀ {r : List Qe}, (∀ q ∈ r, q.name ≠ s) → cnt s r = 0
  | [], _ => rfl
  | q :: r, h => by rw [cnt, if_neg (h q (by simp)), cnt_zero (fun u hu => h u (by simp [hu]))]

theorem own_law {p : Pr} (h : checkF p = (0, 0, 0)) :
    (∀ (i : Nat) (v : Va) (q : Qe), (varsOf p)[i]? = some v → q ∈ p.eqs → q.name = v.name → ofF q.e (varsOf p) = (v.type, 0)) ∧
    (∀ (i : Nat) (v : Va), (varsOf p)[i]? = some v → cnt v.name p.eqs = if i < p.ins.length then 0 else 1) ∧ p.eqs.length = p.outs.length + p.locals.length := by
  unfold checkF at h
  by_cases he : printE p ≠ 0
  · rw [if_pos he] at h; simp at h
  rw [if_neg he] at h
  by_cases hb : 8 < p.ins.length ∨ 8 < p.outs.length ∨ 24 < (varsOf p).length
  · rw [if_pos hb] at h; simp at h
  rw [if_neg hb] at h
  have hwh := whole_of_print (Decidable.not_not.1 he)
  have hqs := (whole_parts hwh).2.2.2.2
  have hlen : (varsOf p).length = p.ins.length + p.outs.length + p.locals.length := by simp [varsOf]; try omega
  unfold dupF at h
  cases hd : dupGo (varsOf p) 0 (varsOf p) with
  | some k => rw [hd] at h; simp at h
  | none =>
  rw [hd] at h
  simp only at h
  unfold eqsF at h
  cases hq : (eqGo (varsOf p) p.ins.length 0 (fun _ => none) p.eqs).1 with
  | some k => rw [hq] at h; simp at h
  | none =>
  rw [hq] at h
  simp only at h
  unfold endF at h
  cases hm : missGo (eqGo (varsOf p) p.ins.length 0 (fun _ => none) p.eqs).2 p.ins.length ((varsOf p).drop p.ins.length) with
  | some k => rw [hm] at h; simp at h
  | none =>
  have hdup := dupGo_none _ _ hd
  obtain ⟨hc1, hc2, hc3⟩ := eqGo_none _ _ _ hq
  have hc4 := hc3 (fun s => by simp) (fun s => by simp)
  have hmiss := missGo_none _ _ hm
  generalize (varsOf p) = L at *
  have hidx : ∀ (q : Qe), q ∈ p.eqs → ∃ (j : Nat) (v : Va), findV L q.name = some (j : Int) ∧ p.ins.length ≤ j ∧ L[j]? = some v ∧ v.name = q.name ∧ ofF q.e L = (v.type, 0) := by
    intro q hqm
    obtain ⟨d', hd'⟩ := hc2 q hqm
    obtain ⟨j, h1, h2, h3, h4, h5⟩ := eqE_zero hd'
    obtain ⟨k, v, rfl, hk, hn⟩ := findV_some h1
    refine ⟨k, v, h1, by omega, hk, hn, ?_⟩
    have hr : q.e.right = 0 := by
      have := hqs q hqm
      simp only [eqB, Bool.and_eq_true] at this
      simpa using this.1.2
    unfold ofF
    rw [if_neg (by omega)]
    have ht : typeAt L (k : Int) = v.type := by unfold typeAt; simp [hk]
    rw [ht] at h5
    exact Prod.ext h5 h4
  have huniq : ∀ (i : Nat) (v : Va) (q : Qe) , L[i]? = some v → q ∈ p.eqs → q.name = v.name → findV L q.name = some (i : Int) := by
    intro i v q hi hqm hn
    obtain ⟨j, u, h1, _⟩ := hidx q hqm
    have := hdup i v hi
    rw [← hn, h1] at this
    simp only [Option.getD_some] at this
    rw [h1]; congr 1; omega
  refine ⟨fun i v q hi hqm hn => ?_, fun i v hi => ?_, ?_⟩
  · obtain ⟨j, u, h1, h2, h3, h4, h5⟩ := hidx q hqm
    have := huniq i v q hi hqm hn
    rw [h1] at this
    have hji : j = i := by injection this with this; omega
    subst hji
    rw [h3] at hi
    obtain rfl : u = v := by injection hi
    exact h5
  · by_cases hlt : i < p.ins.length
    · rw [if_pos hlt]
      refine cnt_zero fun q hqm hn => ?_
      obtain ⟨j, u, h1, h2, _⟩ := hidx q hqm
      have := huniq i v q hi hqm hn
      rw [h1] at this
      injection this with this
      omega
    · rw [if_neg hlt]
      have hmem : v ∈ L.drop p.ins.length := by
        refine List.mem_of_getElem? (i := i - p.ins.length) ?_
        rw [List.getElem?_drop]
        rw [show p.ins.length + (i - p.ins.length) = i from by omega]; exact hi
      have h1 := hmiss v hmem
      rw [hc1] at h1
      have h2 := hc4 v.name
      simp at h1 h2
      omega
  · have hL : (L.drop p.ins.length).length = p.outs.length + p.locals.length := by rw [List.length_drop]; omega
    rw [← hL, ← sumC_one p.eqs (L.drop p.ins.length), sumC_len]
    · intro q hqm
      obtain ⟨j, v, h1, h2, h3, h4, _⟩ := hidx q hqm
      refine occ_one q.name _ (j - p.ins.length) v ?_ h4 fun j' u hu hun => ?_
      · rw [List.getElem?_drop, show p.ins.length + (j - p.ins.length) = j from by omega]; exact h3
      · rw [List.getElem?_drop] at hu
        have := huniq _ u q hu hqm hun.symm
        rw [h1] at this
        injection this with this
        omega
    · intro v hv
      obtain ⟨i, hi⟩ := List.getElem?_of_mem hv
      rw [List.getElem?_drop] at hi
      have hmem := hmiss v hv
      rw [hc1] at hmem
      have h2 := hc4 v.name
      simp at hmem h2
      omega

end Go.Proofs.YtikmbkojnfmiaaaDoorRRRR

/- What a program that has no fault of names and types is. No program of Go in sight. -/
namespace Go.Proofs.YtikmbkojnfmiaaaDoorRRRR
open Go.RowKit

/-- Each equation's variable is there. -/
theorem check_found {p : Pr} (h : checkF p = (0, 0, 0)) : ∀ q ∈ p.eqs, ∃ j, findV (varsOf p) q.name = some j := by
  unfold checkF at h
  by_cases he : printE p ≠ 0
  · rw [if_pos he] at h; simp at h
  rw [if_neg he] at h
  by_cases hb : 8 < p.ins.length ∨ 8 < p.outs.length ∨ 24 < (varsOf p).length
  · rw [if_pos hb] at h; simp at h
  rw [if_neg hb] at h
  unfold dupF at h
  cases hd : dupGo (varsOf p) 0 (varsOf p) with
  | some k => rw [hd] at h; simp at h
  | none =>
  rw [hd] at h
  simp only at h
  unfold eqsF at h
  cases hq : (eqGo (varsOf p) p.ins.length 0 (fun _ => none) p.eqs).1 with
  | some k => rw [hq] at h; simp at h
  | none =>
  intro q hqm
  obtain ⟨d', hz⟩ := (eqGo_none p.eqs 0 _ hq).2.1 q hqm
  obtain ⟨j, hj, _⟩ := eqE_zero hz
  exact ⟨j, hj⟩
theorem eqGo_some {L : List Va} {ins : Int} : ∀ (r : List Qe) (k : Nat) (d : ByteArray → Option Int) (j : Nat) (e : Int), (eqGo L ins k d r).1 = some (j, e) → e ≠ 0
  | [], k, d, j, e, h => by simp [eqGo] at h
  | q :: r, k, d, j, e, h => by
    rw [eqGo] at h
    by_cases hc : eqE L ins d q ≠ 0
    · rw [if_pos hc] at h
      simp only [Option.some.injEq, Prod.mk.injEq] at h
      rw [← h.2]; exact hc
    · rw [if_neg hc] at h
      exact eqGo_some r _ _ j e h
/-- A fault has a number. -/
theorem check_E {p : Pr} (h : checkF p ≠ (0, 0, 0)) : (checkF p).2.2 ≠ 0 := by
  unfold checkF at h ⊢
  by_cases he : printE p ≠ 0
  · rw [if_pos he]; exact he
  rw [if_neg he] at h ⊢
  by_cases hb : 8 < p.ins.length ∨ 8 < p.outs.length ∨ 24 < (varsOf p).length
  · rw [if_pos hb]; decide
  rw [if_neg hb] at h ⊢
  unfold dupF at h ⊢
  cases hd : dupGo (varsOf p) 0 (varsOf p) with
  | some k => simp
  | none =>
  rw [hd] at h
  simp only at h ⊢
  unfold eqsF at h ⊢
  cases hq : (eqGo (varsOf p) p.ins.length 0 (fun _ => none) p.eqs).1 with
  | some k => exact eqGo_some _ _ _ _ _ hq
  | none =>
  rw [hq] at h
  simp only at h ⊢
  unfold endF at h ⊢
  cases hm : missGo (eqGo (varsOf p) p.ins.length 0 (fun _ => none) p.eqs).2 p.ins.length ((varsOf p).drop p.ins.length) with
  | some k => simp
  | none => rw [hm] at h; simp at h
end Go.Proofs.YtikmbkojnfmiaaaDoorRRRR

/- Walk over the reference's equation. -/
namespace Go.Proofs.YtikmbkojnfmiaaaDoorRRRR
open Go.RowKit Go.Sort

theorem stands_cons (x : Qe) (l : List Qe) (s : ByteArray) : standsB (x :: l) s = (x.name.toList == s.toList || standsB l s) := rfl
theorem literal_right {e : Ex} (h : e.literal = true) : e.right = 0 := by
  unfold Ex.literal at h
  split at h
  · assumption
  · simp at h
theorem eqB_right {q : Qe} (h : eqB q = true) : q.e.right = 0 ∧ (q.delay = 1 → q.first.right = 0) := by
  unfold eqB at h
  simp only [Bool.and_eq_true] at h
  refine ⟨by simpa using h.1.2, fun hd => ?_⟩
  have h2 := h.2
  rw [if_pos hd] at h2
  exact literal_right h2
theorem ofF_right {e : Ex} {l : List Va} (h : e.right = 0) : ofF e l = e.typ l := by unfold ofF; rw [if_neg (by omega)]

end Go.Proofs.YtikmbkojnfmiaaaDoorRRRR
