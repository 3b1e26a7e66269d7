/- A program in which kinds.Check finds no fault: each output and own variable has just one equation, of its type; no input has one. No program of Go in sight. -/
import Derived.Test.YtikmbkojnfmiaaaGreatDoorRRRRBB
import Derived.Test.YtikmbkojnfmiaaaGreatDoorRRRRBI
import Derived.Test.YtikmbkojnfmiaaaGreatDoorRRRRBE
import Derived.Test.YtikmbkojnfmiaaaGreatDoorRRRRBM
import Derived.Test.YtikmbkojnfmiaaaGreatDoorRRRRWRefVars
import Derived.Test.YtikmbkojnfmiaaaGreatDoorRRRRWRefPrint
set_option linter.unusedVariables false
set_option linter.unusedSimpArgs false
set_option maxRecDepth 100000
namespace Go.Proofs.YtikmbkojnfmiaaaGreatDoorRRRR
open Go.RowKit

/-- How many equations of a name. -/
def cnt (s : ByteArray) : List Qe → Nat
  | [] => 0
  | q :: r => (if q.name = s then 1 else 0) + cnt s r
/-- How many variables of a name. -/
def occ (s : ByteArray) : List Va → Nat
  | [] => 0
  | v :: r => (if s = v.name then 1 else 0) + occ s r
def sumC (qs : List Qe) : List Va → Nat
  | [] => 0
  | v :: r => cnt v.name qs + sumC qs r

theorem dupGo_none {L : List Va} : ∀ (r : List Va) (k : Nat), dupGo L k r = none → ∀ (i : Nat) (v : Va), r[i]? = some v → (findV L v.name).getD 0 = ((k + i : Nat) : Int)
  | [], _, _, i, v, hi => by simp at hi
  | u :: r, k, h, i, v, hi => by
    rw [dupGo] at h
    by_cases hc : (findV L u.name).getD 0 ≠ (k : Int)
    · rw [if_pos hc] at h; cases h
    · rw [if_neg hc] at h
      cases i with
      | zero =>
        obtain rfl : u = v := by simpa using hi
        have : (findV L u.name).getD 0 = (k : Int) := Decidable.not_not.1 hc
        simpa using this
      | succ i =>
        have := dupGo_none r (k + 1) h i v (by simpa using hi)
        rw [this]; congr 1; omega

theorem eqE_zero {L : List Va} {ins : Int} {d : ByteArray → Option Int} {q : Qe} (h : eqE L ins d q = 0) : ∃ j, findV L q.name = some j ∧ ¬ j < ins ∧ ¬ 0 < (d q.name).getD 0 ∧ (q.e.typ L).2 = 0 ∧ (q.e.typ L).1 = typeAt L j := by
  unfold eqE at h
  cases hf : findV L q.name with
  | none => rw [hf] at h; simp at h
  | some j =>
    rw [hf] at h
    simp only at h
    by_cases h1 : j < ins
    · rw [if_pos h1] at h; omega
    rw [if_neg h1] at h
    by_cases h2 : 0 < (d q.name).getD 0
    · rw [if_pos h2] at h; omega
    rw [if_neg h2] at h
    by_cases h3 : (q.e.typ L).2 ≠ 0
    · rw [if_pos h3] at h; exact absurd h h3
    rw [if_neg h3] at h
    by_cases h4 : q.delay = 1 ∧ (q.first.typ L).1 ≠ typeAt L j
    · rw [if_pos h4] at h; omega
    rw [if_neg h4] at h
    by_cases h5 : (q.e.typ L).1 ≠ typeAt L j
    · rw [if_pos h5] at h; omega
    exact ⟨j, rfl, h1, h2, Decidable.not_not.1 h3, Decidable.not_not.1 h5⟩

theorem upd_val (d : ByteArray → Option Int) (n s : ByteArray) : ((upd d n ((d n).getD 0 + 1)) s).getD 0 = (d s).getD 0 + ((if n = s then 1 else 0 : Nat) : Int) := by
  unfold upd
  by_cases h : n = s
  · subst h; simp
  · have : ¬ s.data = n.data := fun hd => h (by ext1; exact hd.symm)
    rw [if_neg this, if_neg h]; simp

theorem eqGo_none {L : List Va} {ins : Int} : ∀ (r : List Qe) (k : Nat) (d : ByteArray → Option Int), (eqGo L ins k d r).1 = none →
    (∀ s, ((eqGo L ins k d r).2 s).getD 0 = (d s).getD 0 + (cnt s r : Int)) ∧ (∀ q ∈ r, ∃ d', eqE L ins d' q = 0) ∧ ((∀ s, 0 ≤ (d s).getD 0) → (∀ s, (d s).getD 0 ≤ 1) → ∀ s, (d s).getD 0 + (cnt s r : Int) ≤ 1)
  | [], k, d, h => ⟨fun s => by simp [eqGo, cnt], by simp, fun _ h2 s => by simpa [cnt] using h2 s⟩
  | q :: r, k, d, h => by
    rw [eqGo] at h ⊢
    by_cases hc : eqE L ins d q ≠ 0
    · rw [if_pos hc] at h; cases h
    · rw [if_neg hc] at h ⊢
      obtain ⟨h1, h2, h3⟩ := eqGo_none r (k + 1) _ h
      have he : eqE L ins d q = 0 := Decidable.not_not.1 hc
      refine ⟨fun s => ?_, fun x hx => ?_, fun p1 p2 s => ?_⟩
      · rw [h1 s, upd_val, cnt]; push_cast; omega
      · rcases List.mem_cons.1 hx with rfl | hx
        · exact ⟨d, he⟩
        · exact h2 x hx
      · obtain ⟨j, _, _, hd, _⟩ := eqE_zero he
        have hz : (d q.name).getD 0 = 0 := by have := p1 q.name; omega
        have := h3 (fun t => by rw [upd_val]; have := p1 t; split <;> omega) (fun t => by
          rw [upd_val]
          split
          · rename_i ht; subst ht; rw [hz]; decide
          · have := p2 t; simpa using this) s
        rw [upd_val] at this
        rw [cnt]; push_cast; omega

theorem missGo_none {d : ByteArray → Option Int} : ∀ (r : List Va) (k : Nat), missGo d k r = none → ∀ v ∈ r, (d v.name).getD 0 ≠ 0
  | [], _, _, v, hv => by simp at hv
  | u :: r, k, h, v, hv => by
    rw [missGo] at h
    by_cases hc : (d u.name).getD 0 = 0
    · rw [if_pos hc] at h; cases h
    · rw [if_neg hc] at h
      rcases List.mem_cons.1 hv with rfl | hv
      · exact hc
      · exact missGo_none r (k + 1) h v hv

theorem sumC_cons (q : Qe) (qs : List Qe) : ∀ r, sumC (q :: qs) r = occ q.name r + sumC qs r
  | [] => rfl
  | v :: r => by simp only [sumC, cnt, occ, sumC_cons q qs r]; omega
theorem sumC_nil : ∀ r, sumC [] r = 0
  | [] => rfl
  | v :: r => by simp only [sumC, cnt, sumC_nil r]
theorem sumC_one (qs : List Qe) : ∀ r : List Va, (∀ v ∈ r, cnt v.name qs = 1) → sumC qs r = r.length
  | [], _ => rfl
  | v :: r, h => by rw [sumC, h v (by simp), sumC_one qs r (fun u hu => h u (by simp [hu]))]; simp; omega
theorem sumC_len (r : List Va) : ∀ qs : List Qe, (∀ q ∈ qs, occ q.name r = 1) → sumC qs r = qs.length
  | [], _ => sumC_nil r
  | q :: qs, h => by rw [sumC_cons, h q (by simp), sumC_len r qs (fun u hu => h u (by simp [hu]))]; simp; omega
theorem occ_zero (s : ByteArray) : ∀ r : List Va, (∀ u ∈ r, u.name ≠ s) → occ s r = 0
  | [], _ => rfl
  | v :: r, h => by rw [occ, if_neg (fun e => h v (by simp) e.symm), occ_zero s r (fun u hu => h u (by simp [hu]))]
theorem occ_one (s : ByteArray) : ∀ (r : List Va) (i : Nat) (v : Va), r[i]? = some v → v.name = s → (∀ (j : Nat) (u : Va), r[j]? = some u → u.name = s → j = i) → occ s r = 1
  | [], i, v, h, _, _ => by simp at h
  | u :: r, 0, v, h, hs, hu => by
    obtain rfl : u = v := by simpa using h
    rw [occ, if_pos hs.symm, occ_zero s r]
    intro x hx hxs
    obtain ⟨j, hj⟩ := List.getElem?_of_mem hx
    have := hu (j + 1) x (by simpa using hj) hxs
    omega
  | u :: r, i + 1, v, h, hs, hu => by
    have hne : ¬ s = u.name := fun e => by have := hu 0 u rfl e.symm; omega
    rw [occ, if_neg hne, occ_one s r i v (by simpa using h) hs (fun j x hj hx => by have := hu (j + 1) x (by simpa using hj) hx; omega)]

theorem cnt_zero {s : ByteArray} : ∀ {r : List Qe}, (∀ q ∈ r, q.name ≠ s) → cnt s r = 0
  | [], _ => rfl
  | q :: r, h => by rw [cnt, if_neg (h q (by simp)), cnt_zero (fun u hu => h u (by simp [hu]))]

theorem own_law {p : Pr} (h : checkF p = (0, 0, 0)) :
    (∀ (i : Nat) (v : Va) (q : Qe), (varsOf p)[i]? = some v → q ∈ p.eqs → q.name = v.name → ofF q.e (varsOf p) = (v.type, 0)) ∧
    (∀ (i : Nat) (v : Va), (varsOf p)[i]? = some v → cnt v.name p.eqs = if i < p.ins.length then 0 else 1) ∧ p.eqs.length = p.outs.length + p.locals.length := by
  unfold checkF at h
  by_cases he : printE p ≠ 0
  · rw [if_pos he] at h; simp at h
  rw [if_neg he] at h
  by_cases hb : 8 < p.ins.length ∨ 8 < p.outs.length ∨ 24 < (varsOf p).length
  · rw [if_pos hb] at h; simp at h
  rw [if_neg hb] at h
  have hwh := whole_of_print (Decidable.not_not.1 he)
  have hqs := (whole_parts hwh).2.2.2.2
  have hlen : (varsOf p).length = p.ins.length + p.outs.length + p.locals.length := by simp [varsOf]; try omega
  unfold dupF at h
  cases hd : dupGo (varsOf p) 0 (varsOf p) with
  | some k => rw [hd] at h; simp at h
  | none =>
  rw [hd] at h
  simp only at h
  unfold eqsF at h
  cases hq : (eqGo (varsOf p) p.ins.length 0 (fun _ => none) p.eqs).1 with
  | some k => rw [hq] at h; simp at h
  | none =>
  rw [hq] at h
  simp only at h
  unfold endF at h
  cases hm : missGo (eqGo (varsOf p) p.ins.length 0 (fun _ => none) p.eqs).2 p.ins.length ((varsOf p).drop p.ins.length) with
  | some k => rw [hm] at h; simp at h
  | none =>
  have hdup := dupGo_none _ _ hd
  obtain ⟨hc1, hc2, hc3⟩ := eqGo_none _ _ _ hq
  have hc4 := hc3 (fun s => by simp) (fun s => by simp)
  have hmiss := missGo_none _ _ hm
  generalize (varsOf p) = L at *
  have hidx : ∀ (q : Qe), q ∈ p.eqs → ∃ (j : Nat) (v : Va), findV L q.name = some (j : Int) ∧ p.ins.length ≤ j ∧ L[j]? = some v ∧ v.name = q.name ∧ ofF q.e L = (v.type, 0) := by
    intro q hqm
    obtain ⟨d', hd'⟩ := hc2 q hqm
    obtain ⟨j, h1, h2, h3, h4, h5⟩ := eqE_zero hd'
    obtain ⟨k, v, rfl, hk, hn⟩ := findV_some h1
    refine ⟨k, v, h1, by omega, hk, hn, ?_⟩
    have hr : q.e.right = 0 := by
      have := hqs q hqm
      simp only [eqB, Bool.and_eq_true] at this
      simpa using this.1.2
    unfold ofF
    rw [if_neg (by omega)]
    have ht : typeAt L (k : Int) = v.type := by unfold typeAt; simp [hk]
    rw [ht] at h5
    exact Prod.ext h5 h4
  have huniq : ∀ (i : Nat) (v : Va) (q : Qe) , L[i]? = some v → q ∈ p.eqs → q.name = v.name → findV L q.name = some (i : Int) := by
    intro i v q hi hqm hn
    obtain ⟨j, u, h1, _⟩ := hidx q hqm
    have := hdup i v hi
    rw [← hn, h1] at this
    simp only [Option.getD_some] at this
    rw [h1]; congr 1; omega
  refine ⟨fun i v q hi hqm hn => ?_, fun i v hi => ?_, ?_⟩
  · obtain ⟨j, u, h1, h2, h3, h4, h5⟩ := hidx q hqm
    have := huniq i v q hi hqm hn
    rw [h1] at this
    have hji : j = i := by injection this with this; omega
    subst hji
    rw [h3] at hi
    obtain rfl : u = v := by injection hi
    exact h5
  · by_cases hlt : i < p.ins.length
    · rw [if_pos hlt]
      refine cnt_zero fun q hqm hn => ?_
      obtain ⟨j, u, h1, h2, _⟩ := hidx q hqm
      have := huniq i v q hi hqm hn
      rw [h1] at this
      injection this with this
      omega
    · rw [if_neg hlt]
      have hmem : v ∈ L.drop p.ins.length := by
        refine List.mem_of_getElem? (i := i - p.ins.length) ?_
        rw [List.getElem?_drop]
        rw [show p.ins.length + (i - p.ins.length) = i from by omega]; exact hi
      have h1 := hmiss v hmem
      rw [hc1] at h1
      have h2 := hc4 v.name
      simp at h1 h2
      omega
  · have hL : (L.drop p.ins.length).length = p.outs.length + p.locals.length := by rw [List.length_drop]; omega
    rw [← hL, ← sumC_one p.eqs (L.drop p.ins.length), sumC_len]
    · intro q hqm
      obtain ⟨j, v, h1, h2, h3, h4, _⟩ := hidx q hqm
      refine occ_one q.name _ (j - p.ins.length) v ?_ h4 fun j' u hu hun => ?_
      · rw [List.getElem?_drop, show p.ins.length + (j - p.ins.length) = j from by omega]; exact h3
      · rw [List.getElem?_drop] at hu
        have := huniq _ u q hu hqm hun.symm
        rw [h1] at this
        injection this with this
        omega
    · intro v hv
      obtain ⟨i, hi⟩ := List.getElem?_of_mem hv
      rw [List.getElem?_drop] at hi
      have hmem := hmiss v hv
      rw [hc1] at hmem
      have h2 := hc4 v.name
      simp at hmem h2
      omega

end Go.Proofs.YtikmbkojnfmiaaaGreatDoorRRRR

/- What a program that has no fault of names and types is. No program of Go in sight. -/
namespace Go.Proofs.YtikmbkojnfmiaaaGreatDoorRRRR
open Go.RowKit

/-- Each equation's variable is there. -/
theorem check_found {p : Pr} (h : checkF p = (0, 0, 0)) : ∀ q ∈ p.eqs, ∃ j, findV (varsOf p) q.name = some j := by
  unfold checkF at h
  by_cases he : printE p ≠ 0
  · rw [if_pos he] at h; simp at h
  rw [if_neg he] at h
  by_cases hb : 8 < p.ins.length ∨ 8 < p.outs.length ∨ 24 < (varsOf p).length
  · rw [if_pos hb] at h; simp at h
  rw [if_neg hb] at h
  unfold dupF at h
  cases hd : dupGo (varsOf p) 0 (varsOf p) with
  | some k => rw [hd] at h; simp at h
  | none =>
  rw [hd] at h
  simp only at h
  unfold eqsF at h
  cases hq : (eqGo (varsOf p) p.ins.length 0 (fun _ => none) p.eqs).1 with
  | some k => rw [hq] at h; simp at h
  | none =>
  intro q hqm
  obtain ⟨d', hz⟩ := (eqGo_none p.eqs 0 _ hq).2.1 q hqm
  obtain ⟨j, hj, _⟩ := eqE_zero hz
  exact ⟨j, hj⟩
theorem eqGo_some {L : List Va} {ins : Int} : ∀ (r : List Qe) (k : Nat) (d : ByteArray → Option Int) (j : Nat) (e : Int), (eqGo L ins k d r).1 = some (j, e) → e ≠ 0
  | [], k, d, j, e, h => by simp [eqGo] at h
  | q :: r, k, d, j, e, h => by
    rw [eqGo] at h
    by_cases hc : eqE L ins d q ≠ 0
    · rw [if_pos hc] at h
      simp only [Option.some.injEq, Prod.mk.injEq] at h
      rw [← h.2]; exact hc
    · rw [if_neg hc] at h
      exact eqGo_some r _ _ j e h
/-- A fault has a number. -/
theorem check_E {p : Pr} (h : checkF p ≠ (0, 0, 0)) : (checkF p).2.2 ≠ 0 := by
  unfold checkF at h ⊢
  by_cases he : printE p ≠ 0
  · rw [if_pos he]; exact he
  rw [if_neg he] at h ⊢
  by_cases hb : 8 < p.ins.length ∨ 8 < p.outs.length ∨ 24 < (varsOf p).length
  · rw [if_pos hb]; decide
  rw [if_neg hb] at h ⊢
  unfold dupF at h ⊢
  cases hd : dupGo (varsOf p) 0 (varsOf p) with
  | some k => simp
  | none =>
  rw [hd] at h
  simp only at h ⊢
  unfold eqsF at h ⊢
  cases hq : (eqGo (varsOf p) p.ins.length 0 (fun _ => none) p.eqs).1 with
  | some k => exact eqGo_some _ _ _ _ _ hq
  | none =>
  rw [hq] at h
  simp only at h ⊢
  unfold endF at h ⊢
  cases hm : missGo (eqGo (varsOf p) p.ins.length 0 (fun _ => none) p.eqs).2 p.ins.length ((varsOf p).drop p.ins.length) with
  | some k => simp
  | none => rw [hm] at h; simp at h
end Go.Proofs.YtikmbkojnfmiaaaGreatDoorRRRR

/- Walk over the reference's equation. -/
namespace Go.Proofs.YtikmbkojnfmiaaaGreatDoorRRRR
open Go.RowKit Go.Sort

theorem stands_cons (x : Qe) (l : List Qe) (s : ByteArray) : standsB (x :: l) s = (x.name.toList == s.toList || standsB l s) := rfl
theorem literal_right {e : Ex} (h : e.literal = true) : e.right = 0 := by
  unfold Ex.literal at h
  split at h
  · assumption
  · simp at h
theorem eqB_right {q : Qe} (h : eqB q = true) : q.e.right = 0 ∧ (q.delay = 1 → q.first.right = 0) := by
  unfold eqB at h
  simp only [Bool.and_eq_true] at h
  refine ⟨by simpa using h.1.2, fun hd => ?_⟩
  have h2 := h.2
  rw [if_pos hd] at h2
  exact literal_right h2
theorem ofF_right {e : Ex} {l : List Va} (h : e.right = 0) : ofF e l = e.typ l := by unfold ofF; rw [if_neg (by omega)]

set_option maxHeartbeats 4000000 in
set_option maxRecDepth 100000 in
theorem refEq_any (p : Pr) (a : PrA) (i : Nat) (q : Qe) (w : World) (hp : PrAt w p a) (hqi : p.eqs[i]? = some q) (hb : eqB q = true) (ho1 : q.first.OK) (ho2 : q.e.OK)
    (n1 : p.ins.length ≤ 1000000) (n2 : p.outs.length ≤ 1000000) (n3 : p.locals.length ≤ 1000000) (n4 : p.eqs.length ≤ 1000000) :
    Calls Tryz.prog 49 #[prV p a, .int .i64 i] w fun r w' => r = .returned (.int .i64 (refEqE (varsOf p) p.ins.length (p.eqs.take i) q)) ∧ Below w.heap.size w w' := by
  obtain ⟨hr2, hr1⟩ := eqB_right hb
  have hvars := fun W h => refVars_any p a W (hp.later h) n1 n2 n3
  have hfind := fun A cap W h => refFind_any (varsOf p) A cap q.name W h
  have hil : i < p.eqs.length := (List.getElem?_eq_some_iff.1 hqi).1
  have hp4 := hp.eqs
  have hv : refEqE (varsOf p) p.ins.length (p.eqs.take i) q = refEqE (varsOf p) p.ins.length (p.eqs.take i) q := rfl
  rw (occs := .pos [2]) [refEqE] at hv
  obtain ⟨A1, c1, A2, c2, A3, c3, A4, c4⟩ := a
  unfold prV at *
  dsimp only at *
  obtain ⟨b, off, E1, k1, E2, k2, rfl, hbb, ⟨g0, g1, g2, g3, g4, g5, g6, g7, g8, g9, s1, s2⟩⟩ := hp4.get hqi
  have hl4 := hp4.len
  unfold maxLen at hl4
  obtain ⟨hl41, hl42⟩ := hl4
  have hli := hp.ins.len
  unfold maxLen at hli
  dsimp only at hli
  obtain ⟨hli1, hli2⟩ := hli
  have hof2 := fun A cap W h1 h2 => refOf_any q.e ho2 E2 k2 (varsOf p) A cap W (s2.later h1) h2
  have hof1 := fun A cap W h1 h2 => refOf_any q.first ho1 E1 k1 (varsOf p) A cap W (s1.later h1) h2
  rw [ofF_right hr2] at hof2
  clear hb hp ho1 ho2 hr2 hqi
  have hbb1 : b < w.heap.size + 1 := by omega
  generalize hL : varsOf p = L at *
  have HL := Lib.hid hL; clear hL
  unfold exV at *
  have main : ∀ j : Int, refFind L q.name = j → j < p.ins.length → Calls Tryz.prog 49 #[.agg #[.string p.name, .slice A1 p.ins.length c1, .slice A2 p.outs.length c2, .slice A3 p.locals.length c3, .slice (some ⟨b, off, none⟩) p.eqs.length c4], .int .i64 i] w fun r w' => r = .returned (.int .i64 (refEqE L p.ins.length (p.eqs.take i) q)) ∧ Below w.heap.size w w' := by
    intro j hj hji
    rw [hj] at hfind hv
    rw [if_pos hji] at hv
    clear hj hof1 hof2 hp4 hr1
    have HV := Lib.hid hv; clear hv
    go_enter Tryz.func49, Tryz.ntmps49
    go_wp2_with (first | (go_at_call 18; refine (hvars _ belA).mono ?_; rintro r wb ⟨⟨A, cap, rfl, hown⟩, hbb2⟩; have hcb := bcell hbb2; have hzb := hbb2.size; (try simp at hzb); have hyb : w.heap.size < wb.heap.size := (by omega); have hyb2 : b < wb.heap.size := (by omega); have hva := VarsAt.of_own hown) | (go_at_call 19; refine (hfind _ _ _ (hva.later belA)).mono ?_; rintro r wc ⟨rfl, hbc⟩; have hcc := bcell hbc; have hzc := hbc.size; (try simp at hzc); have hyc : w.heap.size < wc.heap.size := (by omega); have hyc1 : wb.heap.size < wc.heap.size := (by omega); have hyc2 : b < wc.heap.size := (by omega)))
    go_ret
    exact ⟨ret_int HV.out.symm, belA⟩
  cases hf : findV L q.name with
  | none => exact main (-1) (by unfold refFind; rw [hf]; rfl) (by omega)
  | some j =>
    obtain ⟨kk, v, rfl, hx, _⟩ := findV_some hf
    have hrf : refFind L q.name = (kk : Int) := by unfold refFind; rw [hf]; rfl
    by_cases c1' : (kk : Int) < p.ins.length
    · exact main kk hrf c1'
    clear main
    have hkl : kk < L.length := (List.getElem?_eq_some_iff.1 hx).1
    have hty : typeAt L kk = v.type := by unfold typeAt; rw [Int.toNat_natCast, hx]
    rw [hrf, hty, if_neg c1'] at hv
    rw [hrf] at hfind
    clear hf hrf hty
    have HT := Lib.hid hv; clear hv
    have c1n : decide (kk < p.ins.length) = false := by simp; omega
    go_enter Tryz.func49, Tryz.ntmps49
    go_wp2_with (first | (go_at_call 18; refine (hvars _ belA).mono ?_; rintro r wb ⟨⟨A, cap, rfl, hown⟩, hbb2⟩; have hcb := bcell hbb2; have hzb := hbb2.size; (try simp at hzb); have hyb : w.heap.size < wb.heap.size := (by omega); have hyb2 : b < wb.heap.size := (by omega); have hva := VarsAt.of_own hown) | (go_at_call 19; refine (hfind _ _ _ (hva.later belA)).mono ?_; rintro r wc ⟨rfl, hbc⟩; have hcc := bcell hbc; have hzc := hbc.size; (try simp at hzc); have hyc : w.heap.size < wc.heap.size := (by omega); have hyc1 : wb.heap.size < wc.heap.size := (by omega); have hyc2 : b < wc.heap.size := (by omega)))
    refine wp_name fun W0 hW0 => ?_
    have hb0 : Below w.heap.size w W0 := by rw [hW0]; exact belA
    have hz0 : w.heap.size < W0.heap.size := by rw [hW0]; omega
    have hzb0 : wb.heap.size < W0.heap.size := by rw [hW0]; omega
    have hva0 : VarsAt W0 L A cap := by rw [hW0]; exact hva.later belA
    have p4 : W0.cell? ⟨w.heap.size, 4, none⟩ = some (.slice (some ⟨b, off, none⟩) p.eqs.length c4) := by rw [hW0]; go_simp
    have t0 : W0.cell? ⟨wb.heap.size, 0, none⟩ = some (.string q.name) := by rw [hW0]; go_simp
    have t1 : W0.cell? ⟨wb.heap.size, 1, none⟩ = some (.int .i64 q.delay) := by rw [hW0]; go_simp
    have t2 : W0.cell? ⟨wb.heap.size, 2, none⟩ = some (.int .i64 q.first.kind) := by rw [hW0]; go_simp
    have t3 : W0.cell? ⟨wb.heap.size, 3, none⟩ = some (.int .i32 q.first.n) := by rw [hW0]; go_simp
    have t4 : W0.cell? ⟨wb.heap.size, 4, none⟩ = some (.string q.first.name) := by rw [hW0]; go_simp
    have t5 : W0.cell? ⟨wb.heap.size, 5, none⟩ = some (.slice E1 q.first.sub.length k1) := by rw [hW0]; go_simp
    have t6 : W0.cell? ⟨wb.heap.size, 6, none⟩ = some (.int .i64 q.e.kind) := by rw [hW0]; go_simp
    have t7 : W0.cell? ⟨wb.heap.size, 7, none⟩ = some (.int .i32 q.e.n) := by rw [hW0]; go_simp
    have t8 : W0.cell? ⟨wb.heap.size, 8, none⟩ = some (.string q.e.name) := by rw [hW0]; go_simp
    have t9 : W0.cell? ⟨wb.heap.size, 9, none⟩ = some (.slice E2 q.e.sub.length k2) := by rw [hW0]; go_simp
    have hp40 := hp4.later hb0
    obtain ⟨bv, ov, rfl, hbv, ⟨d0, d1, d2, d3⟩⟩ := hva0.get hx
    have hkl2 : (kk : Int) < (L.length : Int) := by omega
    have tkk : ¬ ((kk : Int) < 0) := by omega
    have hll := hva0.len
    unfold maxLen at hll
    obtain ⟨hll1, hll2⟩ := hll
    clear hW0 hown hva hcb hcc hfind hvars hx d0 d2 d3 g0 g1 g2 g3 g4 g5 g6 g7 g8 g9 hp4
    have hS := Lib.hid (show (q.delay = 1 → q.first.right = 0) from hr1); clear hr1
    go_loopw [4, 8] (fun o u wr => ∃ (j : Nat), j ≤ i ∧ u = .int .i64 j ∧ o = .int .i64 0 ∧ standsB ((p.eqs.take i).drop j) q.name = standsB (p.eqs.take i) q.name ∧ Below W0.heap.size W0 wr) (fun _ u _ => i - (intOf u).toNat)
    case atStart => exact ⟨0, Nat.zero_le _, rfl, rfl, rfl, Below.refl _ _⟩
    case round =>
      obtain ⟨j, hj, rfl, rfl, hrem, hbel⟩ := hrel
      have hc := bcell hbel
      have hzr := hbel.size
      have hr0 : w.heap.size < wr.heap.size := by omega
      have hr1 : wb.heap.size < wr.heap.size := by omega
      have hr2 : bv < wr.heap.size := by omega
      by_cases hlt : j < i
      · have hjl : j < p.eqs.length := by omega
        have hjt : j < (p.eqs.take i).length := by rw [List.length_take]; omega
        have hd : (p.eqs.take i).drop j = p.eqs[j] :: (p.eqs.take i).drop (j + 1) := by rw [List.drop_eq_getElem_cons hjt, List.getElem_take]
        have hx : p.eqs[j]? = some p.eqs[j] := List.getElem?_eq_getElem hjl
        generalize p.eqs[j] = x at hx hd
        obtain ⟨b', off', X1, y1, X2, y2, hA, hbb', hcells⟩ := (hp40.later hbel).get hx
        have hA' : b = b' ∧ off = off' := by simpa using hA
        obtain ⟨rfl, rfl⟩ := hA'
        have e0 := hcells.g0
        clear hcells hA hx hjt
        rw [hd, stands_cons] at hrem
        clear hd
        cases hcs : (x.name.toList == q.name.toList)
        · rw [hcs, Bool.false_or] at hrem
          have HR := Lib.hid hrem; clear hrem
          go_wp2_with fail
          go_quiet (fail)
          go_wp2_with fail
          go_roundw
          case rel => exact ⟨j + 1, by omega, by go_num, rfl, HR.out, belA⟩
          case measure => simp [intOf]; omega
        · rw [hcs, Bool.true_or] at hrem
          have hv := HT.out
          rw [← hrem, if_pos rfl] at hv
          clear hrem
          have HV := Lib.hid hv; clear hv
          go_wp2_with fail
          go_quiet (fail)
          go_wp2_with fail
          go_ret
          exact ⟨ret_int HV.out.symm, belA⟩
      · obtain rfl : j = i := by omega
        rw [List.drop_eq_nil_of_le (by rw [List.length_take]; omega)] at hrem
        have hst : standsB (p.eqs.take j) q.name = false := hrem.symm
        have hv := HT.out
        rw [hst, if_neg (by simp)] at hv
        have hvar : VarsAt wr L (some ⟨bv, ov, none⟩) cap := hva0.later hbel
        have hof2' := fun W h1 h2 => hof2 (some ⟨bv, ov, none⟩) cap W h1 h2
        have hof1' := fun W h1 h2 => hof1 (some ⟨bv, ov, none⟩) cap W h1 h2
        have hbw : Below w.heap.size w wr := bel_trans hb0 hbel
        clear hrem hst hof1 hof2 hp40
        cases c3 : ((q.e.typ L).2 != 0)
        case true =>
          rw [if_pos (by simpa using c3)] at hv
          clear hof1'
          have HV := Lib.hid hv; clear hv
          go_wp2_with (first | (go_at_call_of 62 E2; refine (hof2' _ belA (hvar.later belA)).mono ?_; rintro r wd ⟨rfl, hbd⟩; have hcd := bcell hbd; have hzd := hbd.size; have hyd0 : w.heap.size < wd.heap.size := (by omega); have hyd1 : wb.heap.size < wd.heap.size := (by omega); have hyd2 : bv < wd.heap.size := (by omega)) | (go_at_call_of 62 E1; refine (hof1' _ belA (hvar.later belA)).mono ?_; rintro r we ⟨rfl, hbe⟩; have hce := bcell hbe; have hze := hbe.size; have hye0 : w.heap.size < we.heap.size := (by omega); have hye1 : wb.heap.size < we.heap.size := (by omega); have hye2 : bv < we.heap.size := (by omega)))
          go_ret
          exact ⟨ret_int HV.out.symm, belA⟩
        rw [if_neg (by simpa using c3)] at hv
        cases c4' : ((q.e.typ L).1 != v.type)
        case true =>
          rw [if_pos (by simpa using c4')] at hv
          by_cases qd : q.delay = 1
          · have q1 : (q.delay == 1) = true := by rw [qd]; rfl
            rw [ofF_right (hS.out qd)] at hof1'
            clear qd
            have HV := Lib.hid hv; clear hv
            go_wp2_with (first | (go_at_call_of 62 E2; refine (hof2' _ belA (hvar.later belA)).mono ?_; rintro r wd ⟨rfl, hbd⟩; have hcd := bcell hbd; have hzd := hbd.size; have hyd0 : w.heap.size < wd.heap.size := (by omega); have hyd1 : wb.heap.size < wd.heap.size := (by omega); have hyd2 : bv < wd.heap.size := (by omega)) | (go_at_call_of 62 E1; refine (hof1' _ belA (hvar.later belA)).mono ?_; rintro r we ⟨rfl, hbe⟩; have hce := bcell hbe; have hze := hbe.size; have hye0 : w.heap.size < we.heap.size := (by omega); have hye1 : wb.heap.size < we.heap.size := (by omega); have hye2 : bv < we.heap.size := (by omega)))
            go_ret
            exact ⟨ret_int HV.out.symm, belA⟩
          · have q1 : (q.delay == 1) = false := by simpa using qd
            clear qd hof1'
            have HV := Lib.hid hv; clear hv
            go_wp2_with (first | (go_at_call_of 62 E2; refine (hof2' _ belA (hvar.later belA)).mono ?_; rintro r wd ⟨rfl, hbd⟩; have hcd := bcell hbd; have hzd := hbd.size; have hyd0 : w.heap.size < wd.heap.size := (by omega); have hyd1 : wb.heap.size < wd.heap.size := (by omega); have hyd2 : bv < wd.heap.size := (by omega)) | (go_at_call_of 62 E1; refine (hof1' _ belA (hvar.later belA)).mono ?_; rintro r we ⟨rfl, hbe⟩; have hce := bcell hbe; have hze := hbe.size; have hye0 : w.heap.size < we.heap.size := (by omega); have hye1 : wb.heap.size < we.heap.size := (by omega); have hye2 : bv < we.heap.size := (by omega)))
            go_ret
            exact ⟨ret_int HV.out.symm, belA⟩
        rw [if_neg (by simpa using c4')] at hv
        by_cases qd : q.delay = 1
        · have q1 : (q.delay == 1) = true := by rw [qd]; rfl
          rw [ofF_right (hS.out qd)] at hof1'
          cases c5 : ((q.first.typ L).1 != v.type)
          case true =>
            rw [if_pos ⟨qd, by simpa using c5⟩] at hv
            clear qd
            have HV := Lib.hid hv; clear hv
            go_wp2_with (first | (go_at_call_of 62 E2; refine (hof2' _ belA (hvar.later belA)).mono ?_; rintro r wd ⟨rfl, hbd⟩; have hcd := bcell hbd; have hzd := hbd.size; have hyd0 : w.heap.size < wd.heap.size := (by omega); have hyd1 : wb.heap.size < wd.heap.size := (by omega); have hyd2 : bv < wd.heap.size := (by omega)) | (go_at_call_of 62 E1; refine (hof1' _ belA (hvar.later belA)).mono ?_; rintro r we ⟨rfl, hbe⟩; have hce := bcell hbe; have hze := hbe.size; have hye0 : w.heap.size < we.heap.size := (by omega); have hye1 : wb.heap.size < we.heap.size := (by omega); have hye2 : bv < we.heap.size := (by omega)))
            go_ret
            exact ⟨ret_int HV.out.symm, belA⟩
          rw [if_neg (by rintro ⟨_, h⟩; exact h (by simpa using c5))] at hv
          clear qd
          have HV := Lib.hid hv; clear hv
          go_wp2_with (first | (go_at_call_of 62 E2; refine (hof2' _ belA (hvar.later belA)).mono ?_; rintro r wd ⟨rfl, hbd⟩; have hcd := bcell hbd; have hzd := hbd.size; have hyd0 : w.heap.size < wd.heap.size := (by omega); have hyd1 : wb.heap.size < wd.heap.size := (by omega); have hyd2 : bv < wd.heap.size := (by omega)) | (go_at_call_of 62 E1; refine (hof1' _ belA (hvar.later belA)).mono ?_; rintro r we ⟨rfl, hbe⟩; have hce := bcell hbe; have hze := hbe.size; have hye0 : w.heap.size < we.heap.size := (by omega); have hye1 : wb.heap.size < we.heap.size := (by omega); have hye2 : bv < we.heap.size := (by omega)))
          go_ret
          exact ⟨ret_int HV.out.symm, belA⟩
        · have q1 : (q.delay == 1) = false := by simpa using qd
          rw [if_neg (by rintro ⟨h, _⟩; exact qd h)] at hv
          clear qd hof1'
          have HV := Lib.hid hv; clear hv
          go_wp2_with (first | (go_at_call_of 62 E2; refine (hof2' _ belA (hvar.later belA)).mono ?_; rintro r wd ⟨rfl, hbd⟩; have hcd := bcell hbd; have hzd := hbd.size; have hyd0 : w.heap.size < wd.heap.size := (by omega); have hyd1 : wb.heap.size < wd.heap.size := (by omega); have hyd2 : bv < wd.heap.size := (by omega)) | (go_at_call_of 62 E1; refine (hof1' _ belA (hvar.later belA)).mono ?_; rintro r we ⟨rfl, hbe⟩; have hce := bcell hbe; have hze := hbe.size; have hye0 : w.heap.size < we.heap.size := (by omega); have hye1 : wb.heap.size < we.heap.size := (by omega); have hye2 : bv < we.heap.size := (by omega)))
          go_ret
          exact ⟨ret_int HV.out.symm, belA⟩

end Go.Proofs.YtikmbkojnfmiaaaGreatDoorRRRR

/- Walk over the reference's Check of kinds. -/
namespace Go.Proofs.YtikmbkojnfmiaaaGreatDoorRRRR
open Go.RowKit Go.Sort

set_option maxHeartbeats 4000000 in
set_option maxRecDepth 100000 in
theorem rcheck_form (p : Pr) (a : PrA) (w : World) (hp : PrAt w p a) (hok : PrOK p) (n1 : p.ins.length ≤ 1000000) (n2 : p.outs.length ≤ 1000000) (n3 : p.locals.length ≤ 1000000) (n4 : p.eqs.length ≤ 1000000) (he : printE p ≠ 0) :
    Calls Tryz.prog 37 #[prV p a] w fun r w' => r = .returned (fV (checkF p)) ∧ Below w.heap.size w w' := by
  have hv : checkF p = (4, 0, printE p) := by unfold checkF; rw [if_pos he]
  have hprint := fun W h => refPrint_any p a W (hp.later h) hok n1 n2 n3 n4
  have he' : (printE p != 0) = true := by simpa using he
  clear he hok
  obtain ⟨A1, c1, A2, c2, A3, c3, A4, c4⟩ := a
  unfold prV at *
  unfold fV
  dsimp only at *
  have HV := Lib.hid hv; clear hv
  go_enter Tryz.func37, Tryz.ntmps37
  go_wp2_with (go_at_call 48; refine (hprint _ belA).mono ?_; rintro r w1 ⟨rfl, hb1⟩; have hc1 := bcell hb1; have hfz1 := bfrozen hb1; have hz1 := hb1.size; (try simp at hz1); (try have hy1 := lt0 w w1); (try have hy2 := ltA w 1 w1); (try have hy3 := ltA w 2 w1); (try have hy4 := lt0 wr w1); (try have hy5 := ltA wr 1 w1))
  refine bodyPost_ret (v := .agg #[.int .i64 (4), .int .i64 (0), .int .i64 (printE p)]) (by simp [results, Tryz.results37, go_sem, *]) rfl ⟨by rw [HV.out], ?_⟩
  exact belS

set_option maxHeartbeats 4000000 in
set_option maxRecDepth 100000 in
theorem rcheck_big (p : Pr) (a : PrA) (w : World) (hp : PrAt w p a) (hok : PrOK p) (n1 : p.ins.length ≤ 1000000) (n2 : p.outs.length ≤ 1000000) (n3 : p.locals.length ≤ 1000000) (n4 : p.eqs.length ≤ 1000000) (he : printE p = 0)
    (hbig : 8 < p.ins.length ∨ 8 < p.outs.length ∨ 24 < (varsOf p).length) :
    Calls Tryz.prog 37 #[prV p a] w fun r w' => r = .returned (fV (checkF p)) ∧ Below w.heap.size w w' := by
  have hv : checkF p = (4, 0, 3) := by unfold checkF; rw [if_neg (by omega), if_pos hbig]
  have hprint := fun W h => refPrint_any p a W (hp.later h) hok n1 n2 n3 n4
  have hvars := fun W h => refVars_any p a W (hp.later h) n1 n2 n3
  rw [he] at hprint
  clear he hok
  obtain ⟨A1, c1, A2, c2, A3, c3, A4, c4⟩ := a
  unfold prV at *
  unfold fV
  dsimp only at *
  by_cases g1 : 8 < p.ins.length
  · have HV := Lib.hid hv; clear hv
    go_enter Tryz.func37, Tryz.ntmps37
    go_wp2_with (first | (go_at_call 48; refine (hprint _ belA).mono ?_; rintro r wa ⟨rfl, hba⟩; have hca := bcell hba; have hfa := bfrozen hba; have hza : w.heap.size + 2 ≤ wa.heap.size := (by have := hba.size; simpa using this); have hya : w.heap.size < wa.heap.size := (by omega); have hya' : w.heap.size + 1 < wa.heap.size := (by omega)) | (go_at_call 18; refine (hvars _ belA).mono ?_; rintro r wb ⟨⟨A, cap, rfl, hown⟩, hbb⟩; have hcb := bcell hbb; have hfb := bfrozen hbb; have hzb := hbb.size; have hyb : w.heap.size < wb.heap.size := (by omega); have hyb' : w.heap.size + 1 < wb.heap.size := (by omega); have hva := VarsAt.of_own hown))
    refine bodyPost_ret (v := .agg #[.int .i64 (4), .int .i64 (0), .int .i64 (3)]) (by simp [results, Tryz.results37, go_sem, *]) rfl ⟨by rw [HV.out], ?_⟩
    exact belS
  by_cases g2 : 8 < p.outs.length
  · have HV := Lib.hid hv; clear hv
    go_enter Tryz.func37, Tryz.ntmps37
    go_wp2_with (first | (go_at_call 48; refine (hprint _ belA).mono ?_; rintro r wa ⟨rfl, hba⟩; have hca := bcell hba; have hfa := bfrozen hba; have hza : w.heap.size + 2 ≤ wa.heap.size := (by have := hba.size; simpa using this); have hya : w.heap.size < wa.heap.size := (by omega); have hya' : w.heap.size + 1 < wa.heap.size := (by omega)) | (go_at_call 18; refine (hvars _ belA).mono ?_; rintro r wb ⟨⟨A, cap, rfl, hown⟩, hbb⟩; have hcb := bcell hbb; have hfb := bfrozen hbb; have hzb := hbb.size; have hyb : w.heap.size < wb.heap.size := (by omega); have hyb' : w.heap.size + 1 < wb.heap.size := (by omega); have hva := VarsAt.of_own hown))
    refine bodyPost_ret (v := .agg #[.int .i64 (4), .int .i64 (0), .int .i64 (3)]) (by simp [results, Tryz.results37, go_sem, *]) rfl ⟨by rw [HV.out], ?_⟩
    exact belS
  have g3 : 24 < (varsOf p).length := by omega
  clear hbig
  have HV := Lib.hid hv; clear hv
  go_enter Tryz.func37, Tryz.ntmps37
  go_wp2_with (first | (go_at_call 48; refine (hprint _ belA).mono ?_; rintro r wa ⟨rfl, hba⟩; have hca := bcell hba; have hfa := bfrozen hba; have hza : w.heap.size + 2 ≤ wa.heap.size := (by have := hba.size; simpa using this); have hya : w.heap.size < wa.heap.size := (by omega); have hya' : w.heap.size + 1 < wa.heap.size := (by omega)) | (go_at_call 18; refine (hvars _ belA).mono ?_; rintro r wb ⟨⟨A, cap, rfl, hown⟩, hbb⟩; have hcb := bcell hbb; have hfb := bfrozen hbb; have hzb := hbb.size; have hyb : w.heap.size < wb.heap.size := (by omega); have hyb' : w.heap.size + 1 < wb.heap.size := (by omega); have hva := VarsAt.of_own hown))
  refine bodyPost_ret (v := .agg #[.int .i64 (4), .int .i64 (0), .int .i64 (3)]) (by simp [results, Tryz.results37, go_sem, *]) rfl ⟨by rw [HV.out], ?_⟩
  exact belS

end Go.Proofs.YtikmbkojnfmiaaaGreatDoorRRRR

/- Walk over the reference's Check of kinds: the loops. -/
namespace Go.Proofs.YtikmbkojnfmiaaaGreatDoorRRRR
open Go.RowKit Go.Sort

set_option maxHeartbeats 8000000 in
set_option maxRecDepth 100000 in
theorem rcheck_small (p : Pr) (a : PrA) (w : World) (hp : PrAt w p a) (hok : PrOK p) (n1 : p.ins.length ≤ 1000000) (n2 : p.outs.length ≤ 1000000) (n3 : p.locals.length ≤ 1000000) (n4 : p.eqs.length ≤ 1000000) (he : printE p = 0)
    (g1 : p.ins.length ≤ 8) (g2 : p.outs.length ≤ 8) (g3 : (varsOf p).length ≤ 24) :
    Calls Tryz.prog 37 #[prV p a] w fun r w' => r = .returned (fV (checkF p)) ∧ Below w.heap.size w w' := by
  have hv0 : checkF p = dupF p (dupGo (varsOf p) 0 (varsOf p)) := by unfold checkF; rw [if_neg (by omega), if_neg (by omega)]
  have hqs := (whole_parts (whole_of_print he)).2.2.2.2
  have hprint := fun W h => refPrint_any p a W (hp.later h) hok n1 n2 n3 n4
  have hvars := fun W h => refVars_any p a W (hp.later h) n1 n2 n3
  have hreq := Lib.hid (fun (k : Nat) (q : Qe) (hq : p.eqs[k]? = some q) (W : World) (h : Below w.heap.size w W) => refEq_any p a k q W (hp.later h) hq (hqs q (List.mem_of_getElem? hq)) (hok.eqs q (List.mem_of_getElem? hq)).2.2.1 (hok.eqs q (List.mem_of_getElem? hq)).2.2.2 n1 n2 n3 n4)
  rw [he] at hprint
  clear he hok
  have hil : p.ins.length ≤ (varsOf p).length := by simp [varsOf]
  have HV0 := Lib.hid hv0; clear hv0 hqs
  have hp4 := hp.eqs
  have hlq := hp.eqs.len
  obtain ⟨A1, c1, A2, c2, A3, c3, A4, c4⟩ := a
  unfold maxLen at hlq
  unfold prV at *
  unfold fV
  dsimp only at *
  obtain ⟨hlq1, hlq2⟩ := hlq
  have HIL := Lib.hid hil; clear hil
  generalize hL : varsOf p = L at *
  have HL := Lib.hid hL; clear hL
  go_enter Tryz.func37, Tryz.ntmps37
  go_wp2_with (first | (go_at_call 48; refine (hprint _ belA).mono ?_; rintro r wa ⟨rfl, hba⟩; have hca := bcell hba; have hfa := bfrozen hba; have hza : w.heap.size + 2 ≤ wa.heap.size := (by have := hba.size; simpa using this); have hya : w.heap.size < wa.heap.size := (by omega); have hya' : w.heap.size + 1 < wa.heap.size := (by omega)) | (go_at_call 18; refine (hvars _ belA).mono ?_; rintro r wb ⟨⟨A, cap, rfl, hown⟩, hbb⟩; have hcb := bcell hbb; have hfb := bfrozen hbb; have hzb := hbb.size; have hyb : w.heap.size < wb.heap.size := (by omega); have hyb' : w.heap.size + 1 < wb.heap.size := (by omega); have hva := VarsAt.of_own hown))
  refine wp_name fun W0 hW0 => ?_
  have hb0 : Below w.heap.size w W0 := by rw [hW0]; exact belA
  have hz0 : w.heap.size < W0.heap.size := by rw [hW0]; omega
  have hz0' : w.heap.size + 1 < W0.heap.size := by rw [hW0]; omega
  have hva0 : VarsAt W0 L A cap := by rw [hW0]; exact hva.later belA
  have p0 : W0.cell? ⟨w.heap.size, 0, none⟩ = some (.string p.name) := by rw [hW0]; go_simp
  have p1 : W0.cell? ⟨w.heap.size, 1, none⟩ = some (.slice A1 p.ins.length c1) := by rw [hW0]; go_simp
  have p2 : W0.cell? ⟨w.heap.size, 2, none⟩ = some (.slice A2 p.outs.length c2) := by rw [hW0]; go_simp
  have p3 : W0.cell? ⟨w.heap.size, 3, none⟩ = some (.slice A3 p.locals.length c3) := by rw [hW0]; go_simp
  have p4 : W0.cell? ⟨w.heap.size, 4, none⟩ = some (.slice A4 p.eqs.length c4) := by rw [hW0]; go_simp
  have f0 : W0.cell? ⟨w.heap.size + 1, 0, none⟩ = some (.int .i64 0) := by rw [hW0]; go_simp
  have f1 : W0.cell? ⟨w.heap.size + 1, 1, none⟩ = some (.int .i64 0) := by rw [hW0]; go_simp
  have f2 : W0.cell? ⟨w.heap.size + 1, 2, none⟩ = some (.int .i64 0) := by rw [hW0]; go_simp
  have z0 : W0.frozen? ⟨w.heap.size + 1, 0, none⟩ = false := by rw [hW0]; go_simp
  have z1 : W0.frozen? ⟨w.heap.size + 1, 1, none⟩ = false := by rw [hW0]; go_simp
  have z2 : W0.frozen? ⟨w.heap.size + 1, 2, none⟩ = false := by rw [hW0]; go_simp
  have hp40 := hp4.later hb0
  have hll := hva0.len
  unfold maxLen at hll
  obtain ⟨hll1, hll2⟩ := hll
  clear hW0 hprint hvars hown hva hca hcb hfa hfb hp hp4
  go_loopw [6] (fun i wr => ∃ k : Nat, k ≤ L.length ∧ i = .int .i64 k ∧ dupGo L k (L.drop k) = dupGo L 0 L ∧ Below W0.heap.size W0 wr) (fun i _ => L.length - (intOf i).toNat)
  case atStart => exact ⟨0, Nat.zero_le _, rfl, rfl, Below.refl _ _⟩
  case round =>
    obtain ⟨k, hk, rfl, hrem, hbel⟩ := hrel
    have hc := bcell hbel
    have hfz := bfrozen hbel
    have hzr := hbel.size
    have hr1 : w.heap.size < wr.heap.size := by omega
    have hr2 : w.heap.size + 1 < wr.heap.size := by omega
    by_cases hlt : k < L.length
    · have hfindx := fun s W (h : Below W0.heap.size W0 W) => refFind_any L A cap s W (hva0.later h)
      have hx : L[k]? = some L[k] := List.getElem?_eq_getElem hlt
      have hd : L.drop k = L[k] :: L.drop (k + 1) := List.drop_eq_getElem_cons hlt
      generalize L[k] = x at hx hd
      obtain ⟨b, off, rfl, hbb, ⟨d0, d1, d2, d3⟩⟩ := (hva0.later hbel).get hx
      rw [hd, dupGo] at hrem
      obtain ⟨hq0, hq1, hq2⟩ := refFind_le hx
      have hfind := hfindx x.name
      rw [← hq2] at hrem
      clear hd hx hq2 hfindx
      by_cases hcs : refFind L x.name ≠ (k : Int)
      · rw [if_pos hcs] at hrem
        have hv : checkF p = (2, (k : Int), 18) := by rw [HV0.out, ← hrem]; rfl
        have hcd : decide (refFind L x.name < (k : Int)) = true := by simp; omega
        clear hrem hcs
        have HV := Lib.hid hv; clear hv
        go_wp2_with (first | (go_at_call 19; refine (hfind _ belA).mono ?_; rintro r wd ⟨rfl, hbd⟩; have hcd := bcell hbd; have hfd := bfrozen hbd; have hzd := hbd.size; have hyd : w.heap.size < wd.heap.size := (by omega); have hyd' : w.heap.size + 1 < wd.heap.size := (by omega)))
        refine bodyPost_ret (v := .agg #[.int .i64 (2), .int .i64 ((k : Int)), .int .i64 (18)]) (by simp [results, Tryz.results37, go_sem, *]) rfl ⟨by rw [HV.out], ?_⟩
        exact belS
      · rw [if_neg hcs] at hrem
        have HR := Lib.hid hrem; clear hrem
        have hcd : decide (refFind L x.name < (k : Int)) = false := by simp; omega
        clear hcs
        go_wp2_with (first | (go_at_call 19; refine (hfind _ belA).mono ?_; rintro r wd ⟨rfl, hbd⟩; have hzd := hbd.size))
        go_roundw
        case rel => exact ⟨k + 1, by omega, by go_num, HR.out, belA⟩
        case measure => simp [intOf]; omega
    obtain rfl : k = L.length := by omega
    rw [List.drop_length, dupGo] at hrem
    have hv1 : checkF p = eqsF L p.ins.length (eqGo L p.ins.length 0 (fun _ => none) p.eqs) := by rw [HV0.out, ← hrem, dupF, HL.out]
    have HV1 := Lib.hid hv1; clear hv1 hrem
    clear hc hfz
    go_wp2_with fail
    go_loopw [7] (fun i wr => ∃ (k : Nat) (d : ByteArray → Option Int), k ≤ p.eqs.length ∧ i = .int .i64 k ∧ Hid (Counts d (p.eqs.take k)) ∧ eqGo L p.ins.length k d (p.eqs.drop k) = eqGo L p.ins.length 0 (fun _ => none) p.eqs ∧ Below W0.heap.size W0 wr) (fun i _ => p.eqs.length - (intOf i).toNat)
    case atStart => exact ⟨0, _, Nat.zero_le _, rfl, Lib.hid counts_nil, rfl, hbel⟩
    case round =>
      obtain ⟨k, d, hk, rfl, HD, hrem, hbel⟩ := hrel
      have hc := bcell hbel
      have hfz := bfrozen hbel
      have hzr := hbel.size
      have hr1 : w.heap.size < wr.heap.size := by omega
      have hr2 : w.heap.size + 1 < wr.heap.size := by omega
      by_cases hlt : k < p.eqs.length
      · have hx : p.eqs[k]? = some p.eqs[k] := List.getElem?_eq_getElem hlt
        have hd : p.eqs.drop k = p.eqs[k] :: p.eqs.drop (k + 1) := List.drop_eq_getElem_cons hlt
        have htk : p.eqs.take (k + 1) = p.eqs.take k ++ [p.eqs[k]] := by rw [List.take_succ_eq_append_getElem hlt]
        generalize p.eqs[k] = q at hx hd htk
        have heq := fun W h => hreq.out k q hx W h
        rw [refEq_eq (by omega) HD.out q] at heq
        have HD2 : Hid (Counts (upd d q.name ((d q.name).getD 0 + 1)) (p.eqs.take (k + 1))) := Lib.hid (by rw [htk]; exact counts_snoc HD.out q)
        rw [hd, eqGo] at hrem
        clear hd hx htk
        cases hcs : (eqE L p.ins.length d q != 0)
        case true =>
          rw [if_pos (by simpa using hcs)] at hrem
          have hv1 : checkF p = (3, (k : Int), eqE L p.ins.length d q) := by rw [HV1.out, ← hrem]; rfl
          clear hrem
          have HV := Lib.hid hv1; clear hv1
          go_wp2_with (first | (go_at_call 49; refine (heq _ belA).mono ?_; rintro r wd ⟨rfl, hbd⟩; have hcd := bcell hbd; have hfd := bfrozen hbd; have hzd := hbd.size; have hyd : w.heap.size < wd.heap.size := (by omega); have hyd' : w.heap.size + 1 < wd.heap.size := (by omega)))
          refine bodyPost_ret (v := .agg #[.int .i64 (3), .int .i64 ((k : Int)), .int .i64 ((eqE L p.ins.length d q))]) (by simp [results, Tryz.results37, go_sem, *]) rfl ⟨by rw [HV.out], ?_⟩
          exact belS
        rw [if_neg (by simpa using hcs)] at hrem
        have HR := Lib.hid hrem; clear hrem
        go_wp2_with (first | (go_at_call 49; refine (heq _ belA).mono ?_; rintro r wd ⟨rfl, hbd⟩; have hcd := bcell hbd; have hfd := bfrozen hbd; have hzd := hbd.size; have hyd : w.heap.size < wd.heap.size := (by omega); have hyd' : w.heap.size + 1 < wd.heap.size := (by omega)))
        go_roundw
        case rel => exact ⟨k + 1, _, by omega, by go_num, HD2, HR.out, belA⟩
        case measure => simp [intOf]; omega
      obtain rfl : k = p.eqs.length := by omega
      rw [List.drop_length, eqGo] at hrem
      have hv1 : checkF p = endF d L p.ins.length := by rw [HV1.out, ← hrem]; rfl
      have HV2 := Lib.hid hv1; clear hv1 hrem HV1
      have HD1 : Hid (Counts d p.eqs) := Lib.hid (by have := HD.out; rwa [List.take_length] at this)
      have hil := HIL.out
      clear HD
      go_wp2_with fail
      clear hc hfz
      go_loopw [9] (fun i wr => ∃ k : Nat, p.ins.length ≤ k ∧ k ≤ L.length ∧ i = .int .i64 k ∧ missGo d k (L.drop k) = missGo d p.ins.length (L.drop p.ins.length) ∧ Below W0.heap.size W0 wr) (fun i _ => L.length - (intOf i).toNat)
      case atStart => exact ⟨p.ins.length, Nat.le_refl _, hil, rfl, rfl, belA⟩
      case round =>
        obtain ⟨k, hkl, hk, rfl, hrem, hbel⟩ := hrel
        have hc := bcell hbel
        have hfz := bfrozen hbel
        have hzr := hbel.size
        have hr6 : w.heap.size < wr.heap.size := by omega
        have hr7 : w.heap.size + 1 < wr.heap.size := by omega
        by_cases hlt : k < L.length
        · have hx : L[k]? = some L[k] := List.getElem?_eq_getElem hlt
          have hd : L.drop k = L[k] :: L.drop (k + 1) := List.drop_eq_getElem_cons hlt
          generalize L[k] = x at hx hd
          obtain ⟨bv, ov, rfl, hbv, ⟨d0, d1, d2, d3⟩⟩ := hva0.get hx
          have hbvr : bv < wr.heap.size := by omega
          rw [hd, missGo] at hrem
          have hcnt := HD1.out x.name
          have HREM := Lib.hid hrem; clear hrem
          have HCNT := Lib.hid hcnt; clear hcnt
          clear hd hx d1 d2 d3
          go_wp2_with fail
          go_loopw [10, 11] (fun o i wr => ∃ (j : Nat) (bb : Bool), j ≤ p.eqs.length ∧ i = .int .i64 j ∧ o = .bool bb ∧ (bb || standsB (p.eqs.drop j) x.name) = standsB p.eqs x.name ∧ Below W0.heap.size W0 wr) (fun _ i _ => p.eqs.length - (intOf i).toNat)
          case atStart => exact ⟨0, false, Nat.zero_le _, rfl, rfl, rfl, belA⟩
          case round =>
            obtain ⟨j, bb, hj, rfl, rfl, hrem, hbel⟩ := hrel
            have hc := bcell hbel
            have hfz := bfrozen hbel
            have hzr := hbel.size
            have hr8 : w.heap.size < wr.heap.size := by omega
            have hr9 : w.heap.size + 1 < wr.heap.size := by omega
            have hr10 : bv < wr.heap.size := by omega
            by_cases hltj : j < p.eqs.length
            · have hxj : p.eqs[j]? = some p.eqs[j] := List.getElem?_eq_getElem hltj
              have hdj : p.eqs.drop j = p.eqs[j] :: p.eqs.drop (j + 1) := List.drop_eq_getElem_cons hltj
              generalize p.eqs[j] = q at hxj hdj
              obtain ⟨b, off, E1, k1, E2, k2, rfl, hbb, ⟨g0, g1, g2, g3, g4, g5, g6, g7, g8, g9, s1, s2⟩⟩ := hp40.get hxj
              have hbbr : b < wr.heap.size := by omega
              rw [hdj, stands_cons] at hrem
              clear hdj hxj g1 g2 g3 g4 g5 g6 g7 g8 g9 s1 s2
              cases bb
              · cases hcs : (q.name.toList == x.name.toList)
                · rw [hcs, Bool.false_or] at hrem
                  have HR := Lib.hid hrem; clear hrem
                  go_wp2_with fail
                  go_quiet (fail)
                  go_wp2_with fail
                  go_roundw
                  case rel => exact ⟨j + 1, _, by omega, by go_num, rfl, HR.out, belA⟩
                  case measure => simp [intOf]; omega
                · rw [hcs, Bool.true_or, Bool.false_or] at hrem
                  have HR := Lib.hid hrem; clear hrem
                  go_wp2_with fail
                  go_quiet (fail)
                  go_wp2_with fail
                  go_roundw
                  case rel => exact ⟨j + 1, true, by omega, by go_num, rfl, by rw [Bool.true_or]; exact HR.out, belA⟩
                  case measure => simp [intOf]; omega
              · rw [Bool.true_or] at hrem
                have HR := Lib.hid hrem; clear hrem
                go_wp2_with fail
                go_quiet (fail)
                go_wp2_with fail
                go_roundw
                case rel => exact ⟨j + 1, true, by omega, by go_num, rfl, by rw [Bool.true_or]; exact HR.out, belA⟩
                case measure => simp [intOf]; omega
            obtain rfl : j = p.eqs.length := by omega
            rw [List.drop_length] at hrem
            cases bb
            · have hz : (d x.name).getD 0 = 0 := HCNT.out.2 hrem.symm
              have hrem2 := HREM.out
              rw [if_pos hz] at hrem2
              have hv : checkF p = (2, (k : Int), 8) := by rw [HV2.out, endF, ← hrem2]
              clear hrem hrem2 hz
              have HV := Lib.hid hv; clear hv
              go_wp2_with fail
              refine bodyPost_ret (v := .agg #[.int .i64 (2), .int .i64 ((k : Int)), .int .i64 (8)]) (by simp [results, Tryz.results37, go_sem, *]) rfl ⟨by rw [HV.out], ?_⟩
              exact belS
            · have hz : 0 < (d x.name).getD 0 := HCNT.out.1 (by rw [← hrem]; rfl)
              have hrem2 := HREM.out
              rw [if_neg (by omega)] at hrem2
              have HR := Lib.hid hrem2; clear hrem2 hrem hz
              go_wp2_with fail
              go_roundw
              case rel => exact ⟨k + 1, by omega, by omega, by go_num, HR.out, belA⟩
              case measure => simp [intOf]; omega
        obtain rfl : k = L.length := by omega
        rw [List.drop_length, missGo] at hrem
        have hv : checkF p = (0, 0, 0) := by rw [HV2.out, endF, ← hrem]
        clear hrem
        have HV := Lib.hid hv; clear hv
        go_wp2_with fail
        refine bodyPost_ret (v := .agg #[.int .i64 (0), .int .i64 (0), .int .i64 (0)]) (by simp [results, Tryz.results37, go_sem, *]) rfl ⟨by rw [HV.out], ?_⟩
        exact belS

theorem rcheck_any (p : Pr) (a : PrA) (w : World) (hp : PrAt w p a) (hok : PrOK p) (n1 : p.ins.length ≤ 1000000) (n2 : p.outs.length ≤ 1000000) (n3 : p.locals.length ≤ 1000000) (n4 : p.eqs.length ≤ 1000000) :
    Calls Tryz.prog 37 #[prV p a] w fun r w' => r = .returned (fV (checkF p)) ∧ Below w.heap.size w w' := by
  by_cases he : printE p = 0
  · by_cases hb : 8 < p.ins.length ∨ 8 < p.outs.length ∨ 24 < (varsOf p).length
    · exact rcheck_big p a w hp hok n1 n2 n3 n4 he hb
    · exact rcheck_small p a w hp hok n1 n2 n3 n4 he (by omega) (by omega) (by omega)
  · exact rcheck_form p a w hp hok n1 n2 n3 n4 he

end Go.Proofs.YtikmbkojnfmiaaaGreatDoorRRRR
