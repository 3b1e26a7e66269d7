/- The order of equations: the reference's scan and the program's. No program of Go in sight. -/
import Derived.Test.YtikmbkojnfmiaaaGreatDoorRRRRBR
import Derived.Test.YtikmbkojnfmiaaaGreatDoorRRRRBN
import Derived.Test.YtikmbkojnfmiaaaGreatDoorRRRRWClk12
set_option linter.unusedVariables false
set_option linter.unusedSimpArgs false
set_option maxRecDepth 100000
namespace Go.Proofs.YtikmbkojnfmiaaaGreatDoorRRRR
open Go.RowKit

/-- The reference's scan of equations, from the k-th on: the least that waits, the least that can be taken (-1: none). -/
def scanR (R : List ByteArray) (nd : Qe → List ByteArray) : Nat → List Qe → Int × Int
  | _, [] => (-1, -1)
  | k, q :: r => if hasB R q.name = true then scanR R nd (k + 1) r else ((k : Int), if (nd q).all (hasB R) = true then (k : Int) else (scanR R nd (k + 1) r).2)
/-- The program's scan; m: the least that waits among those before. -/
def scanP (f : ByteArray → Option Int) (nd : Qe → List ByteArray) : Nat → List Qe → Int → Int × Int
  | _, [], m => (m, -1)
  | k, q :: r, m => if f q.name = some (k : Int) then (if readyB f (nd q) = true then (if m < 0 then (k : Int) else m, (k : Int)) else scanP f nd (k + 1) r (if m < 0 then (k : Int) else m)) else scanP f nd (k + 1) r m

theorem scan_eq {R : List ByteArray} {f : ByteArray → Option Int} {nr np : Qe → List ByteArray} : ∀ (l : List Qe) (k : Nat) (m : Int), (m = -1 ∨ 0 ≤ m) →
    (∀ (i : Nat) (q : Qe), l[i]? = some q → (f q.name = some ((k + i : Nat) : Int) ↔ hasB R q.name = false)) → (∀ q ∈ l, hasB R q.name = false → readyB f (np q) = (nr q).all (hasB R)) →
    (scanP f np k l m).2 = (scanR R nr k l).2 ∧ ((scanR R nr k l).2 < 0 → (scanP f np k l m).1 = if m < 0 then (scanR R nr k l).1 else m)
  | [], k, m, hm0, _, _ => by
    refine ⟨rfl, fun _ => ?_⟩
    simp only [scanP, scanR]
    by_cases hm : m < 0
    · rw [if_pos hm]; omega
    · rw [if_neg hm]
  | q :: r, k, m, hm0, h1, h2 => by
    have hq := h1 0 q rfl
    rw [Nat.add_zero] at hq
    have h1' : ∀ (i : Nat) (q : Qe), r[i]? = some q → (f q.name = some ((k + 1 + i : Nat) : Int) ↔ hasB R q.name = false) := fun i x hx => by
      have := h1 (i + 1) x (by simpa using hx)
      rwa [show k + (i + 1) = k + 1 + i from by omega] at this
    have h2' : ∀ x ∈ r, hasB R x.name = false → readyB f (np x) = (nr x).all (hasB R) := fun x hx => h2 x (by simp [hx])
    cases hb : hasB R q.name
    · have hf := hq.2 hb
      have hr := h2 q (by simp) hb
      rw [scanP, scanR, if_pos hf, hb, if_neg (show ¬ (false = true) by simp), hr]
      cases ha : (nr q).all (hasB R)
      · rw [if_neg (show ¬ (false = true) by simp), if_neg (show ¬ (false = true) by simp)]
        obtain ⟨e1, e2⟩ := scan_eq r (k + 1) (if m < 0 then (k : Int) else m) (by split <;> omega) h1' h2'
        refine ⟨e1, fun hlt => ?_⟩
        rw [e2 hlt]
        by_cases hm : m < 0
        · simp only [if_pos hm]
          rw [if_neg (by omega)]
        · simp only [if_neg hm]
      · rw [if_pos rfl, if_pos rfl]
        exact ⟨rfl, fun hlt => absurd hlt (by show ¬ ((k : Int) < 0); omega)⟩
    · have hf : ¬ f q.name = some (k : Int) := fun h => by have := hq.1 h; rw [hb] at this; simp at this
      rw [scanP, scanR, if_neg hf, hb, if_pos rfl]
      exact scan_eq r (k + 1) m hm0 h1' h2'

def nameAt (eqs : List Qe) (j : Int) : ByteArray := match eqs[j.toNat]? with | some q => q.name | none => ⟨#[]⟩
/-- The reference's order; at most t equations more. -/
def ordR (nd : Qe → List ByteArray) (eqs : List Qe) (left : Nat) : Nat → List ByteArray → List Int → List Int × (Int × Int × Int)
  | 0, _, out => (out, (0, 0, 0))
  | t + 1, R, out => if out.length < left then (if (scanR R nd 0 eqs).2 < 0 then ([], (3, (scanR R nd 0 eqs).1, 22)) else ordR nd eqs left t (R ++ [nameAt eqs (scanR R nd 0 eqs).2]) (out ++ [(scanR R nd 0 eqs).2])) else (out, (0, 0, 0))
/-- The program's. -/
def ordP (nd : Qe → List ByteArray) (eqs : List Qe) : Nat → (ByteArray → Option Int) → Nat → List Int → List Int × (Int × Int × Int)
  | 0, _, _, out => (out, (0, 0, 0))
  | t + 1, f, c, out => if 0 < c then (if (scanP f nd 0 eqs (-1)).2 < 0 then ([], (3, (scanP f nd 0 eqs (-1)).1, 22)) else ordP nd eqs t (strike f (nameAt eqs (scanP f nd 0 eqs (-1)).2)) (c - 1) (out ++ [(scanP f nd 0 eqs (-1)).2])) else (out, (0, 0, 0))

theorem data_beq {s t : ByteArray} : (s.toList == t.toList) = decide (s.data = t.data) := by
  rw [Bool.eq_iff_iff, eqS_iff]
  simp only [decide_eq_true_eq]
  exact ⟨fun h => by rw [h], fun h => by ext1; exact h⟩
theorem strike_wait {f : ByteArray → Option Int} {R : List ByteArray} {s s0 : ByteArray} {i : Int} (h : f s = some i ↔ hasB R s = false) : strike f s0 s = some i ↔ hasB (R ++ [s0]) s = false := by
  rw [hasB_snoc, data_beq]
  unfold strike
  by_cases hs : s.data = s0.data
  · rw [if_pos hs]; simp [hs]
  · rw [if_neg hs, h]
    have : decide (s0.data = s.data) = false := by simpa using fun h => hs h.symm
    rw [this, Bool.or_false]
theorem strike_some {f : ByteArray → Option Int} {R : List ByteArray} {s s0 : ByteArray} (h : (f s).isSome = !hasB R s) : (strike f s0 s).isSome = !hasB (R ++ [s0]) s := by
  rw [hasB_snoc, data_beq]
  unfold strike
  by_cases hs : s.data = s0.data
  · rw [if_pos hs]; simp [hs]
  · rw [if_neg hs, h]
    have : decide (s0.data = s.data) = false := by simpa using fun h => hs h.symm
    rw [this, Bool.or_false]
theorem ready_inv {f : ByteArray → Option Int} {R : List ByteArray} : ∀ {l : List ByteArray}, (∀ s ∈ l, (f s).isSome = !hasB R s) → readyB f l = l.all (hasB R)
  | [], _ => rfl
  | s :: l, h => by
    have h1 := h s (by simp)
    have h2 := ready_inv (l := l) fun x hx => h x (by simp [hx])
    unfold readyB at h2 ⊢
    rw [List.all_cons, List.all_cons, h2, h1, Bool.not_not]

/-- Both find the same order. -/
theorem ord_eq {nr np : Qe → List ByteArray} {eqs : List Qe} {left : Nat} (hset : ∀ q ∈ eqs, ∀ R, (np q).all (hasB R) = (nr q).all (hasB R)) : ∀ (t : Nat) (f : ByteArray → Option Int) (R : List ByteArray) (c : Nat) (out : List Int),
    out.length + c = left → (∀ (i : Nat) (q : Qe), eqs[i]? = some q → (f q.name = some (i : Int) ↔ hasB R q.name = false)) → (∀ q ∈ eqs, ∀ s ∈ np q, (f s).isSome = !hasB R s) →
    ordP np eqs t f c out = ordR nr eqs left t R out
  | 0, f, R, c, out, _, _, _ => rfl
  | t + 1, f, R, c, out, hc, hw, hi => by
    obtain ⟨e1, e2⟩ := scan_eq (R := R) (f := f) (nr := nr) (np := np) eqs 0 (-1) (.inl rfl) (fun i q hq => by rw [Nat.zero_add]; exact hw i q hq) (fun q hq _ => (ready_inv (hi q hq)).trans (hset q hq R))
    rw [ordP, ordR, e1]
    by_cases h0 : 0 < c
    · rw [if_pos h0, if_pos (show out.length < left by omega)]
      by_cases hn : (scanR R nr 0 eqs).2 < 0
      · rw [if_pos hn, if_pos hn, e2 hn, if_pos (by omega)]
      · rw [if_neg hn, if_neg hn]
        exact ord_eq hset t _ _ (c - 1) _ (by simp; omega) (fun i q hq => strike_wait (hw i q hq)) (fun q hq s hs => strike_some (hi q hq s hs))
    · rw [if_neg h0, if_neg (show ¬ out.length < left by omega)]
end Go.Proofs.YtikmbkojnfmiaaaGreatDoorRRRR

/- A program without fault: both Orders begin alike, and find the same. No program of Go in sight. -/
namespace Go.Proofs.YtikmbkojnfmiaaaGreatDoorRRRR
open Go.RowKit

theorem hasB_iff {l : List ByteArray} {s : ByteArray} : hasB l s = true ↔ s ∈ l := by
  unfold hasB
  rw [List.any_eq_true]
  constructor
  · rintro ⟨x, hx, h⟩
    rw [eqS_iff] at h
    rw [← h]; exact hx
  · intro h
    exact ⟨s, h, by rw [eqS_iff]⟩
theorem hasB_not {l : List ByteArray} {s : ByteArray} : hasB l s = false ↔ s ∉ l := by
  rw [← Bool.not_eq_true, hasB_iff]

/-- The names of delays, and how many equations are plain. -/
def delaysE (l : List Qe) : List ByteArray := (l.filter (fun q => q.delay != 0)).map (·.name)
def leftE (l : List Qe) : Nat := (l.filter (fun q => q.delay == 0)).length
theorem delaysE_snoc (l : List Qe) (q : Qe) : delaysE (l ++ [q]) = if (q.delay != 0) = true then delaysE l ++ [q.name] else delaysE l := by
  unfold delaysE
  rw [List.filter_append]
  cases h : q.delay != 0 <;> simp [h]
theorem leftE_snoc (l : List Qe) (q : Qe) : leftE (l ++ [q]) = if (q.delay != 0) = true then leftE l else leftE l + 1 := by
  unfold leftE
  rw [List.filter_append]
  by_cases h : q.delay = 0 <;> simp [h]
theorem leftE_le (l : List Qe) : leftE l ≤ l.length := List.length_filter_le _ _
theorem delaysE_le (l : List Qe) : (delaysE l).length ≤ l.length := by unfold delaysE; rw [List.length_map]; exact List.length_filter_le _ _
theorem delaysE_mem {l : List Qe} {s : ByteArray} : s ∈ delaysE l ↔ ∃ q ∈ l, q.delay ≠ 0 ∧ q.name = s := by
  unfold delaysE
  rw [List.mem_map]
  constructor
  · rintro ⟨q, hq, rfl⟩
    rw [List.mem_filter] at hq
    exact ⟨q, hq.1, by simpa using hq.2, rfl⟩
  · rintro ⟨q, hq, hd, rfl⟩
    exact ⟨q, by rw [List.mem_filter]; exact ⟨hq, by simpa using hd⟩, rfl⟩

/-- The names that are ready at first. -/
def readyE (p : Pr) : List ByteArray := p.ins.map (·.name) ++ delaysE p.eqs
/-- The order that the reference finds. -/
def orderR (p : Pr) : List Int × (Int × Int × Int) := ordR (ofR (varsOf p)) p.eqs (leftE p.eqs) (leftE p.eqs) (readyE p) []

/-- The equations that wait, and how many names they have. -/
def waitGo : Nat → (ByteArray → Option Int) → Nat → List Qe → (ByteArray → Option Int) × Nat
  | _, f, c, [] => (f, c)
  | k, f, c, q :: r => if (q.delay == 0) = true then waitGo (k + 1) (upd f q.name (k : Int)) (if (f q.name).isSome then c else c + 1) r else waitGo (k + 1) f c r

theorem wait_spec : ∀ (l : List Qe) (k : Nat) (f : ByteArray → Option Int) (c : Nat), l.Pairwise (fun a b => a.name ≠ b.name) → (∀ q ∈ l, f q.name = none) →
    (∀ s, (∀ q ∈ l, q.delay = 0 → q.name ≠ s) → (waitGo k f c l).1 s = f s) ∧ (∀ (i : Nat) (q : Qe), l[i]? = some q → q.delay = 0 → (waitGo k f c l).1 q.name = some ((k + i : Nat) : Int)) ∧ (waitGo k f c l).2 = c + leftE l
  | [], k, f, c, _, _ => ⟨fun s _ => rfl, by simp, by simp [waitGo, leftE]⟩
  | q :: r, k, f, c, hp, hf => by
    obtain ⟨hp1, hp2⟩ := List.pairwise_cons.1 hp
    have hother : ∀ s, s ≠ q.name → upd f q.name (k : Int) s = f s := by
      intro s hs
      unfold upd
      rw [if_neg]
      intro hd
      exact hs (by ext1; exact hd)
    have hself : upd f q.name (k : Int) q.name = some (k : Int) := by unfold upd; rw [if_pos rfl]
    rw [waitGo]
    by_cases hd : q.delay = 0
    · rw [if_pos (by simpa using hd), hf q (by simp)]
      obtain ⟨a1, a2, a3⟩ := wait_spec r (k + 1) (upd f q.name (k : Int)) (c + 1) hp2 (fun x hx => by rw [hother _ (fun e => hp1 x hx e.symm)]; exact hf x (by simp [hx]))
      refine ⟨fun s hs => ?_, fun i x hi hx => ?_, ?_⟩
      · rw [show (if (none : Option Int).isSome = true then c else c + 1) = c + 1 from rfl, a1 s fun x hx hxd => hs x (by simp [hx]) hxd]
        exact hother s fun e => hs q (by simp) hd e.symm
      · rw [show (if (none : Option Int).isSome = true then c else c + 1) = c + 1 from rfl]
        cases i with
        | zero =>
          obtain rfl : q = x := by simpa using hi
          rw [a1 q.name fun y hy _ e => hp1 y hy e.symm, hself]; rfl
        | succ i =>
          rw [a2 i x (by simpa using hi) hx]
          congr 2; omega
      · rw [show (if (none : Option Int).isSome = true then c else c + 1) = c + 1 from rfl, a3]
        have : leftE (q :: r) = leftE r + 1 := by unfold leftE; rw [List.filter_cons, if_pos (by simpa using hd)]; rfl
        omega
    · rw [if_neg (by simpa using hd)]
      obtain ⟨a1, a2, a3⟩ := wait_spec r (k + 1) f c hp2 (fun x hx => hf x (by simp [hx]))
      refine ⟨fun s hs => a1 s fun x hx hxd => hs x (by simp [hx]) hxd, fun i x hi hx => ?_, ?_⟩
      · cases i with
        | zero =>
          obtain rfl : q = x := by simpa using hi
          exact absurd hx hd
        | succ i =>
          rw [a2 i x (by simpa using hi) hx]
          congr 2; omega
      · rw [a3]
        have : leftE (q :: r) = leftE r := by unfold leftE; rw [List.filter_cons, if_neg (by simpa using hd)]
        omega

namespace Ex
theorem typL_cons {l : List Va} {x : Ex} {r : List Ex} (h : (typL l (x :: r)).2 = 0) : (typ l x).2 = 0 ∧ (typL l r).2 = 0 := by
  simp only [typL] at h
  by_cases hx : (typ l x).2 = 0
  · rw [if_pos hx] at h
    refine ⟨hx, ?_⟩
    unfold joinT at h
    by_cases hr : (typL l r).2 = 0
    · exact hr
    · rw [if_neg hr] at h; exact absurd h hr
  · rw [if_neg hx] at h; exact absurd h hx
theorem namedL_found {L : List Va} : ∀ (r : List Ex), (∀ x ∈ r, (typ L x).2 = 0 → ∀ l s, s ∈ named l x → s ∈ l ∨ (typeOfP L s).2 = true) → (typL L r).2 = 0 → ∀ l s, s ∈ namedL l r → s ∈ l ∨ (typeOfP L s).2 = true
  | [], _, _, l, s, hs => .inl (by simpa [namedL] using hs)
  | x :: r, h, ht, l, s, hs => by
    obtain ⟨h1, h2⟩ := typL_cons ht
    rw [namedL] at hs
    rcases namedL_found r (fun y hy => h y (by simp [hy])) h2 _ s hs with h3 | h3
    · exact h x (by simp) h1 l s h3
    · exact .inr h3
theorem named_found {L : List Va} (e : Ex) : (typ L e).2 = 0 → ∀ l s, s ∈ named l e → s ∈ l ∨ (typeOfP L s).2 = true := by
  induction e using ind with
  | h e ih =>
    intro ht l s hs
    rw [typ_eq] at ht
    by_cases hr : (typL L e.sub).2 = 0
    · rw [if_pos hr] at ht
      rw [named_eq] at hs
      rcases namedL_found e.sub ih hr _ s hs with h1 | h1
      · unfold addN at h1
        by_cases he : e.name.toList.isEmpty = true
        · rw [if_pos he] at h1; exact .inl h1
        · rw [if_neg he] at h1
          by_cases hh : hasB l e.name = true
          · rw [if_pos hh] at h1; exact .inl h1
          · rw [if_neg hh] at h1
            rcases List.mem_append.1 h1 with h2 | h2
            · exact .inl h2
            · obtain rfl : s = e.name := by simpa using h2
              right
              unfold typK at ht
              cases hf : (typeOfP L e.name).2
              · rw [if_pos ⟨by simpa using he, hf⟩] at ht
                exact absurd ht (by decide)
              · rfl
      · exact .inr h1
    · rw [if_neg hr] at ht; exact absurd ht hr
end Ex
theorem needsF_found {L : List Va} {e : Ex} (h : (e.typ L).2 = 0) {s : ByteArray} (hs : s ∈ needsF e) : ∃ v ∈ L, v.name = s := by
  have hf : (typeOfP L s).2 = true := by
    unfold needsF at hs
    split at hs
    · simp at hs
    · rcases Ex.named_found e h [] s hs with h1 | h1
      · simp at h1
      · exact h1
  unfold typeOfP at hf
  cases hv : findV L s with
  | none => rw [hv] at hf; simp at hf
  | some j =>
    obtain ⟨k, v, _, hk, hn⟩ := findV_some hv
    exact ⟨v, List.mem_of_getElem? hk, hn⟩

/-- What a program without fault is. -/
theorem clean_parts {p : Pr} (h : checkF p = (0, 0, 0)) : wholeB p = true ∧ (∀ (i j : Nat) (u v : Va), (varsOf p)[i]? = some u → (varsOf p)[j]? = some v → u.name = v.name → i = j) ∧ ∀ q ∈ p.eqs, (q.e.typ (varsOf p)).2 = 0 := by
  unfold checkF at h
  by_cases he : printE p ≠ 0
  · rw [if_pos he] at h; simp at h
  rw [if_neg he] at h
  by_cases hb : 8 < p.ins.length ∨ 8 < p.outs.length ∨ 24 < (varsOf p).length
  · rw [if_pos hb] at h; simp at h
  rw [if_neg hb] at h
  have hwh := whole_of_print (Decidable.not_not.1 he)
  unfold dupF at h
  cases hd : dupGo (varsOf p) 0 (varsOf p) with
  | some k => rw [hd] at h; simp at h
  | none =>
  rw [hd] at h
  simp only at h
  unfold eqsF at h
  cases hq : (eqGo (varsOf p) p.ins.length 0 (fun _ => none) p.eqs).1 with
  | some k => rw [hq] at h; simp at h
  | none =>
  have hdup := dupGo_none _ _ hd
  refine ⟨hwh, fun i j u v hi hj hn => ?_, fun q hqm => ?_⟩
  · have h1 := hdup i u hi
    have h2 := hdup j v hj
    rw [hn, h2] at h1
    omega
  · obtain ⟨d', hd'⟩ := (eqGo_none _ _ _ hq).2.1 q hqm
    obtain ⟨j, _, _, _, h4, _⟩ := eqE_zero hd'
    exact h4
theorem clkGoV_none {L : List Va} : ∀ (r : List Va) (k : Nat), clkGoV L k r = none → ∀ v ∈ r, declaredE L v = 0
  | [], _, _, v, hv => by simp at hv
  | u :: r, k, h, v, hv => by
    rw [clkGoV] at h
    by_cases hc : declaredE L u ≠ 0
    · rw [if_pos hc] at h; cases h
    · rw [if_neg hc] at h
      rcases List.mem_cons.1 hv with rfl | hv
      · exact Decidable.not_not.1 hc
      · exact clkGoV_none r (k + 1) h v hv
theorem clkF_parts {p : Pr} (h : clkF p = (0, 0, 0)) : checkF p = (0, 0, 0) ∧ ∀ v ∈ varsOf p, declaredE (varsOf p) v = 0 := by
  unfold clkF at h
  by_cases hc : checkF p ≠ (0, 0, 0)
  · rw [if_pos hc] at h; exact absurd h hc
  rw [if_neg hc] at h
  refine ⟨Decidable.not_not.1 hc, ?_⟩
  unfold clkVF at h
  cases hv : clkGoV (varsOf p) 0 (varsOf p) with
  | some k => rw [hv] at h; simp at h
  | none => exact clkGoV_none _ _ hv

theorem cnt_ge {s : ByteArray} : ∀ {r : List Qe} {q : Qe}, q ∈ r → q.name = s → 1 ≤ cnt s r
  | [], q, h, _ => by simp at h
  | x :: r, q, h, hn => by
    rw [cnt]
    rcases List.mem_cons.1 h with rfl | h
    · rw [if_pos hn]; omega
    · have := cnt_ge h hn; omega
theorem cnt_pairwise : ∀ (l : List Qe), (∀ q ∈ l, cnt q.name l ≤ 1) → l.Pairwise (fun a b => a.name ≠ b.name)
  | [], _ => List.Pairwise.nil
  | q :: r, h => by
    refine List.pairwise_cons.2 ⟨fun b hb hn => ?_, cnt_pairwise r fun x hx => ?_⟩
    · have h1 := h q (by simp)
      rw [cnt, if_pos rfl] at h1
      have := cnt_ge hb hn.symm
      omega
    · have h1 := h x (by simp [hx])
      rw [cnt] at h1
      omega
theorem pair_eq {l : List Qe} (h : l.Pairwise (fun a b => a.name ≠ b.name)) {i j : Nat} {a b : Qe} (hi : l[i]? = some a) (hj : l[j]? = some b) (hn : a.name = b.name) : i = j := by
  rw [List.pairwise_iff_getElem] at h
  obtain ⟨hi1, hi2⟩ := List.getElem?_eq_some_iff.1 hi
  obtain ⟨hj1, hj2⟩ := List.getElem?_eq_some_iff.1 hj
  rcases Nat.lt_trichotomy i j with hlt | he | hlt
  · exact absurd (by rw [hi2, hj2]; exact hn) (h i j hi1 hj1 hlt)
  · exact he
  · exact absurd (by rw [hi2, hj2]; exact hn.symm) (h j i hj1 hi1 hlt)

/-- What the equations of a program without fault are. -/
theorem eqs_parts {p : Pr} (h : checkF p = (0, 0, 0)) : p.eqs.Pairwise (fun a b => a.name ≠ b.name) ∧ (∀ q ∈ p.eqs, q.name ∉ p.ins.map (·.name)) ∧ ∀ v ∈ varsOf p, v.name ∈ p.ins.map (·.name) ∨ ∃ q ∈ p.eqs, q.name = v.name := by
  obtain ⟨_, hb, _⟩ := own_law h
  have hidx : ∀ q ∈ p.eqs, ∃ (j : Nat) (v : Va), (varsOf p)[j]? = some v ∧ v.name = q.name := by
    intro q hq
    obtain ⟨j, hj⟩ := check_found h q hq
    obtain ⟨k, v, _, hk, hn⟩ := findV_some hj
    exact ⟨k, v, hk, hn⟩
  refine ⟨cnt_pairwise _ fun q hq => ?_, fun q hq hm => ?_, fun v hv => ?_⟩
  · obtain ⟨j, v, hj, hn⟩ := hidx q hq
    rw [← hn, hb j v hj]
    split <;> omega
  · rw [List.mem_map] at hm
    obtain ⟨v, hv, hn⟩ := hm
    obtain ⟨i, hi⟩ := List.getElem?_of_mem hv
    have hlt : i < p.ins.length := (List.getElem?_eq_some_iff.1 hi).1
    have hi2 : (varsOf p)[i]? = some v := by
      unfold varsOf
      rw [List.append_assoc, List.getElem?_append_left hlt]; exact hi
    have := hb i v hi2
    rw [if_pos hlt] at this
    have h2 := cnt_ge hq hn.symm
    omega
  · obtain ⟨i, hi⟩ := List.getElem?_of_mem hv
    by_cases hlt : i < p.ins.length
    · left
      have : p.ins[i]? = some v := by
        unfold varsOf at hi
        rw [List.append_assoc, List.getElem?_append_left hlt] at hi; exact hi
      exact List.mem_map.2 ⟨v, List.mem_of_getElem? this, rfl⟩
    · right
      have h1 := hb i v hi
      rw [if_neg hlt] at h1
      refine Classical.byContradiction fun hno => ?_
      have := cnt_zero (s := v.name) (r := p.eqs) fun q hq hn => hno ⟨q, hq, hn⟩
      omega

theorem clockFold {s : ByteArray} : ∀ (L : List Va) (c : Int × ByteArray), (∀ v ∈ L, v.name ≠ s) → L.foldl (fun c v => if s.data = v.name.data then (v.ck, v.cn) else c) c = c
  | [], c, _ => rfl
  | v :: L, c, h => by
    rw [List.foldl_cons, if_neg, clockFold L c fun u hu => h u (by simp [hu])]
    intro hd
    exact h v (by simp) (by ext1; exact hd.symm)
theorem clockFind {s : ByteArray} : ∀ (L : List Va) (c : Int × ByteArray), (∀ (i j : Nat) (u v : Va), L[i]? = some u → L[j]? = some v → u.name = v.name → i = j) → L.foldl (fun c v => if s.data = v.name.data then (v.ck, v.cn) else c) c = match findC L s with | some v => (v.ck, v.cn) | none => c
  | [], c, _ => rfl
  | v :: L, c, h => by
    have h' : ∀ (i j : Nat) (u x : Va), L[i]? = some u → L[j]? = some x → u.name = x.name → i = j := fun i j u x hi hj hn => by
      have := h (i + 1) (j + 1) u x (by simpa using hi) (by simpa using hj) hn
      omega
    rw [List.foldl_cons, findC]
    by_cases hs : v.name = s
    · rw [if_pos (by rw [hs]), if_pos (by rw [eqS_iff]; exact hs), clockFold]
      intro u hu hn
      obtain ⟨i, hi⟩ := List.getElem?_of_mem hu
      have := h 0 (i + 1) v u rfl (by simpa using hi) (by rw [hs, hn])
      omega
    · rw [if_neg (fun hd => hs (by ext1; exact hd.symm)), if_neg (by rw [eqS_iff]; exact hs), clockFind L c h']

theorem variable_clock {v : Va} {b : Bool} (h : variableB v b = true) : (v.ck = 0 ∧ v.cn.toList.isEmpty = true) ∨ (v.ck ≠ 0 ∧ v.cn.toList.isEmpty = false) := by
  simp only [variableB, Bool.and_eq_true] at h
  have h3 := h.2
  by_cases h0 : v.ck = 0
  · rw [if_pos h0] at h3; exact .inl ⟨h0, h3⟩
  · rw [if_neg h0] at h3
    by_cases h1 : v.ck = 1 ∨ v.ck = 2
    · rw [if_pos h1, Bool.and_eq_true] at h3
      exact .inr ⟨h0, nameB_ne h3.2⟩
    · rw [if_neg h1] at h3; simp at h3
theorem vars_clock {p : Pr} (h : wholeB p = true) : ∀ v ∈ varsOf p, (v.ck = 0 ∧ v.cn.toList.isEmpty = true) ∨ (v.ck ≠ 0 ∧ v.cn.toList.isEmpty = false) := by
  simp only [wholeB, Bool.and_eq_true, List.all_eq_true] at h
  intro v hv
  simp only [varsOf, List.mem_append] at hv
  rcases hv with (hv | hv) | hv
  · exact variable_clock (h.1.1.1.2 v hv)
  · exact variable_clock (h.1.1.2 v hv)
  · exact variable_clock (h.1.2 v hv)

/-- The clock of an equation's variable, in both Orders. -/
theorem needs_clock {p : Pr} (h : clkF p = (0, 0, 0)) {q : Qe} (hq : q ∈ p.eqs) : ∃ v ∈ varsOf p, findC (varsOf p) q.name = some v ∧ v.name = q.name ∧ clockL (varsOf p) q.name = (v.ck, v.cn) ∧ ((v.ck = 0 ∧ v.cn.toList.isEmpty = true) ∨ (v.ck ≠ 0 ∧ v.cn.toList.isEmpty = false ∧ ∃ u ∈ varsOf p, u.name = v.cn)) := by
  obtain ⟨hc, hdec⟩ := clkF_parts h
  obtain ⟨hwh, hun, htyp⟩ := clean_parts hc
  obtain ⟨j, hj⟩ := check_found hc q hq
  obtain ⟨k, v, _, hk, hf⟩ := findC_some _ _ 0 j hj
  obtain ⟨hm, hn⟩ := findC_name hf
  have hn2 : v.name = q.name := by rw [← eqS_iff, beq_iff_eq]; exact hn
  refine ⟨v, hm, hf, hn2, ?_, ?_⟩
  · unfold clockL
    rw [clockFind _ _ hun, hf]
  · rcases vars_clock hwh v hm with h1 | ⟨h1, h2⟩
    · exact .inl h1
    · refine .inr ⟨h1, h2, ?_⟩
      have hd := hdec v hm
      unfold declaredE at hd
      have hck : ¬ ckEq v.ck v.cn 0 ⟨#[]⟩ = true := fun e => h1 (ckEq_iff.1 e).1
      rw [if_neg hck] at hd
      cases hu : findC (varsOf p) v.cn with
      | none => rw [hu] at hd; simp at hd
      | some u =>
        obtain ⟨hu1, hu2⟩ := findC_name hu
        exact ⟨u, hu1, by rw [← eqS_iff, beq_iff_eq]; exact hu2⟩
theorem needQ_ofR {p : Pr} (h : clkF p = (0, 0, 0)) {q : Qe} (hq : q ∈ p.eqs) (R : List ByteArray) : (needQ (varsOf p) q).all (hasB R) = (ofR (varsOf p) q).all (hasB R) := by
  obtain ⟨v, hm, hf, hn, hcl, hor⟩ := needs_clock h hq
  unfold needQ ofR
  rw [hcl, hf]
  dsimp only
  unfold addN
  rcases hor with ⟨h1, h2⟩ | ⟨h1, h2, _⟩
  · rw [if_pos h1, if_pos h2]
  · rw [if_neg h1, h2, if_neg (by simp)]
    by_cases hh : hasB (needsF q.e) v.cn = true
    · rw [if_pos hh, List.all_append, Bool.eq_iff_iff]
      simp only [Bool.and_eq_true, List.all_eq_true]
      refine ⟨fun a => a.1, fun a => ⟨a, fun s hs => ?_⟩⟩
      obtain rfl : s = v.cn := by simpa using hs
      exact a _ (hasB_iff.1 hh)
    · rw [if_neg hh]
theorem needQ_found {p : Pr} (h : clkF p = (0, 0, 0)) {q : Qe} (hq : q ∈ p.eqs) {s : ByteArray} (hs : s ∈ needQ (varsOf p) q) : ∃ v ∈ varsOf p, v.name = s := by
  obtain ⟨v, hm, hf, hn, hcl, hor⟩ := needs_clock h hq
  have ht := (clean_parts (clkF_parts h).1).2.2 q hq
  unfold needQ at hs
  rw [hcl] at hs
  dsimp only at hs
  rcases hor with ⟨h1, h2⟩ | ⟨h1, h2, u, hu, hun⟩
  · rw [if_pos h1] at hs
    exact needsF_found ht hs
  · rw [if_neg h1] at hs
    rcases List.mem_append.1 hs with h3 | h3
    · exact needsF_found ht h3
    · obtain rfl : s = v.cn := by simpa using h3
      exact ⟨u, hu, hun⟩

/-- The waiting equations are just those that are not ready. -/
theorem wait_ready {p : Pr} (h : checkF p = (0, 0, 0)) : (∀ (i : Nat) (q : Qe), p.eqs[i]? = some q → ((waitGo 0 (fun _ => none) 0 p.eqs).1 q.name = some (i : Int) ↔ hasB (readyE p) q.name = false)) ∧
    (∀ v ∈ varsOf p, ((waitGo 0 (fun _ => none) 0 p.eqs).1 v.name).isSome = !hasB (readyE p) v.name) ∧ (waitGo 0 (fun _ => none) 0 p.eqs).2 = leftE p.eqs := by
  obtain ⟨hpw, hin, hvar⟩ := eqs_parts h
  obtain ⟨a1, a2, a3⟩ := wait_spec p.eqs 0 (fun _ => none) 0 hpw (fun _ _ => rfl)
  generalize waitGo 0 (fun _ => none) 0 p.eqs = W at *
  have hpl : ∀ (i : Nat) (q : Qe), p.eqs[i]? = some q → q.delay = 0 → W.1 q.name = some (i : Int) ∧ hasB (readyE p) q.name = false := by
    intro i q hi hd
    refine ⟨by rw [a2 i q hi hd, Nat.zero_add], ?_⟩
    rw [hasB_not]
    unfold readyE
    rw [List.mem_append, not_or]
    refine ⟨hin q (List.mem_of_getElem? hi), fun hm => ?_⟩
    obtain ⟨x, hx, hxd, hxn⟩ := delaysE_mem.1 hm
    obtain ⟨j, hj⟩ := List.getElem?_of_mem hx
    obtain rfl := pair_eq hpw hj hi hxn
    rw [hi] at hj
    obtain rfl : q = x := by injection hj
    exact hxd hd
  have hdl : ∀ (i : Nat) (q : Qe), p.eqs[i]? = some q → q.delay ≠ 0 → W.1 q.name = none ∧ hasB (readyE p) q.name = true := by
    intro i q hi hd
    refine ⟨?_, ?_⟩
    · rw [a1 q.name fun x hx hxd hn => ?_]
      obtain ⟨j, hj⟩ := List.getElem?_of_mem hx
      obtain rfl := pair_eq hpw hj hi hn
      rw [hi] at hj
      obtain rfl : q = x := by injection hj
      exact hd hxd
    · rw [hasB_iff]
      unfold readyE
      rw [List.mem_append]
      exact .inr (delaysE_mem.2 ⟨q, List.mem_of_getElem? hi, hd, rfl⟩)
  refine ⟨fun i q hi => ?_, fun v hv => ?_, by rw [a3]; omega⟩
  · by_cases hd : q.delay = 0
    · obtain ⟨h1, h2⟩ := hpl i q hi hd
      rw [h1, h2]; simp
    · obtain ⟨h1, h2⟩ := hdl i q hi hd
      rw [h1, h2]; simp
  · rcases hvar v hv with hm | ⟨q, hq, hn⟩
    · rw [a1 v.name fun x hx _ hn => hin x hx (by rw [hn]; exact hm)]
      have : hasB (readyE p) v.name = true := by rw [hasB_iff]; unfold readyE; exact List.mem_append.2 (.inl hm)
      rw [this]; rfl
    · obtain ⟨i, hi⟩ := List.getElem?_of_mem hq
      rw [← hn]
      by_cases hd : q.delay = 0
      · obtain ⟨h1, h2⟩ := hpl i q hi hd
        rw [h1, h2]; rfl
      · obtain ⟨h1, h2⟩ := hdl i q hi hd
        rw [h1, h2]; rfl

/-- The order that the program finds. -/
def orderP (p : Pr) : List Int × (Int × Int × Int) := ordP (needQ (varsOf p)) p.eqs (waitGo 0 (fun _ => none) 0 p.eqs).2 (waitGo 0 (fun _ => none) 0 p.eqs).1 (waitGo 0 (fun _ => none) 0 p.eqs).2 []
theorem order_same {p : Pr} (h : clkF p = (0, 0, 0)) : orderP p = orderR p := by
  obtain ⟨h1, h2, h3⟩ := wait_ready (clkF_parts h).1
  unfold orderP orderR
  rw [h3]
  refine ord_eq (fun q hq R => needQ_ofR h hq R) (leftE p.eqs) _ _ _ _ (by simp) h1 fun q hq s hs => ?_
  obtain ⟨v, hv, rfl⟩ := needQ_found h hq hs
  exact h2 v hv
end Go.Proofs.YtikmbkojnfmiaaaGreatDoorRRRR

/- What an order is, and what stops one. No program of Go in sight. -/
namespace Go.Proofs.YtikmbkojnfmiaaaGreatDoorRRRR
open Go.RowKit

/-- A list without doubles, all of whose elements are of another, is no longer. -/
theorem nodup_len {α : Type} : ∀ (l m : List α), l.Nodup → (∀ x ∈ l, x ∈ m) → l.length ≤ m.length
  | [], m, _, _ => Nat.zero_le _
  | x :: l, m, hn, h => by
    obtain ⟨s, t, rfl⟩ := List.append_of_mem (h x (by simp))
    obtain ⟨h1, h2⟩ := List.nodup_cons.1 hn
    have := nodup_len l (s ++ t) h2 fun y hy => by
      have := h y (by simp [hy])
      simp only [List.mem_append, List.mem_cons] at this ⊢
      rcases this with h3 | h3 | h3
      · exact .inl h3
      · exact absurd (h3 ▸ hy) h1
      · exact .inr h3
    simp only [List.length_append, List.length_cons] at this ⊢
    omega

theorem scanR_hit {R : List ByteArray} {nd : Qe → List ByteArray} : ∀ (l : List Qe) (k : Nat), ¬ (scanR R nd k l).2 < 0 → ∃ (i : Nat) (q : Qe), (scanR R nd k l).2 = ((k + i : Nat) : Int) ∧ l[i]? = some q ∧ hasB R q.name = false ∧ (nd q).all (hasB R) = true
  | [], k, h => by simp [scanR] at h
  | q :: r, k, h => by
    rw [scanR] at h ⊢
    by_cases hb : hasB R q.name = true
    · rw [if_pos hb] at h ⊢
      obtain ⟨i, x, h1, h2, h3⟩ := scanR_hit r (k + 1) h
      exact ⟨i + 1, x, by rw [h1]; congr 1; omega, by simpa using h2, h3⟩
    · rw [if_neg hb] at h ⊢
      dsimp only at h ⊢
      by_cases ha : (nd q).all (hasB R) = true
      · rw [if_pos ha]
        exact ⟨0, q, rfl, rfl, by simpa using hb, ha⟩
      · rw [if_neg ha] at h ⊢
        obtain ⟨i, x, h1, h2, h3⟩ := scanR_hit r (k + 1) h
        exact ⟨i + 1, x, by rw [h1]; congr 1; omega, by simpa using h2, h3⟩
theorem scanR_stuck {R : List ByteArray} {nd : Qe → List ByteArray} : ∀ (l : List Qe) (k : Nat), (scanR R nd k l).2 < 0 → (∀ q ∈ l, hasB R q.name = false → (nd q).all (hasB R) = false) ∧ ((∃ q ∈ l, hasB R q.name = false) → ∃ (i : Nat) (q : Qe), (scanR R nd k l).1 = ((k + i : Nat) : Int) ∧ l[i]? = some q ∧ hasB R q.name = false)
  | [], k, h => ⟨by simp, by simp⟩
  | q :: r, k, h => by
    rw [scanR] at h ⊢
    by_cases hb : hasB R q.name = true
    · rw [if_pos hb] at h ⊢
      obtain ⟨h1, h2⟩ := scanR_stuck r (k + 1) h
      refine ⟨fun x hx hxb => ?_, fun hex => ?_⟩
      · rcases List.mem_cons.1 hx with rfl | hx
        · rw [hb] at hxb; cases hxb
        · exact h1 x hx hxb
      · obtain ⟨x, hx, hxb⟩ := hex
        rcases List.mem_cons.1 hx with rfl | hx
        · rw [hb] at hxb; cases hxb
        · obtain ⟨i, y, e1, e2, e3⟩ := h2 ⟨x, hx, hxb⟩
          exact ⟨i + 1, y, by rw [e1]; congr 1; omega, by simpa using e2, e3⟩
    · rw [if_neg hb] at h ⊢
      dsimp only at h ⊢
      by_cases ha : (nd q).all (hasB R) = true
      · rw [if_pos ha] at h; omega
      · rw [if_neg ha] at h
        obtain ⟨h1, h2⟩ := scanR_stuck r (k + 1) h
        refine ⟨fun x hx hxb => ?_, fun _ => ⟨0, q, rfl, rfl, by simpa using hb⟩⟩
        rcases List.mem_cons.1 hx with rfl | hx
        · simpa using ha
        · exact h1 x hx hxb

/-- The i-th number j of an order l tells an equation that is not ready yet, and all of whose needs are. -/
def Good (R0 : List ByteArray) (nd : Qe → List ByteArray) (eqs : List Qe) (i : Nat) (j : Int) (l : List Int) : Prop :=
  0 ≤ j ∧ ∃ q, eqs[j.toNat]? = some q ∧ q.name ∉ R0 ++ (l.take i).map (nameAt eqs) ∧ ∀ s ∈ nd q, s ∈ R0 ++ (l.take i).map (nameAt eqs)

theorem ordR_cases {nd : Qe → List ByteArray} {eqs : List Qe} {left : Nat} {R0 : List ByteArray} : ∀ (t : Nat) (R : List ByteArray) (out : List Int), out.length + t = left → R = R0 ++ out.map (nameAt eqs) → (∀ (i : Nat) (j : Int), out[i]? = some j → Good R0 nd eqs i j out) →
    (∃ res, ordR nd eqs left t R out = (res, (0, 0, 0)) ∧ res.length = left ∧ ∀ (i : Nat) (j : Int), res[i]? = some j → Good R0 nd eqs i j res) ∨
    (∃ out', ordR nd eqs left t R out = ([], (3, (scanR (R0 ++ out'.map (nameAt eqs)) nd 0 eqs).1, 22)) ∧ out'.length < left ∧ (scanR (R0 ++ out'.map (nameAt eqs)) nd 0 eqs).2 < 0 ∧ ∀ (i : Nat) (j : Int), out'[i]? = some j → Good R0 nd eqs i j out')
  | 0, R, out, ht, hR, hg => .inl ⟨out, rfl, by omega, hg⟩
  | t + 1, R, out, ht, hR, hg => by
    rw [ordR, if_pos (by omega)]
    by_cases hn : (scanR R nd 0 eqs).2 < 0
    · rw [if_pos hn]
      right
      subst hR
      exact ⟨out, rfl, by omega, hn, hg⟩
    · rw [if_neg hn]
      obtain ⟨j, q, h1, h2, h3, h4⟩ := scanR_hit eqs 0 hn
      rw [Nat.zero_add] at h1
      have hname : nameAt eqs (j : Int) = q.name := by unfold nameAt; rw [Int.toNat_natCast, h2]
      rw [h1]
      refine ordR_cases t _ _ (by simp; omega) (by rw [hR, List.map_append, List.append_assoc]; rfl) fun i x hi => ?_
      rcases Nat.lt_trichotomy i out.length with hlt | he | hlt
      · rw [List.getElem?_append_left hlt] at hi
        have := hg i x hi
        unfold Good at this ⊢
        rw [List.take_append_of_le_length (by omega)]
        exact this
      · subst he
        rw [List.getElem?_append_right (Nat.le_refl _), Nat.sub_self] at hi
        obtain rfl : (j : Int) = x := by simpa using hi
        refine ⟨by omega, q, by rw [Int.toNat_natCast]; exact h2, ?_, ?_⟩
        · rw [List.take_left' rfl, ← hR]; exact hasB_not.1 h3
        · rw [List.take_left' rfl, ← hR]
          intro s hs
          exact hasB_iff.1 (List.all_eq_true.1 h4 s hs)
      · rw [List.getElem?_eq_none (by simp; omega)] at hi
        cases hi

theorem nameAt_of {eqs : List Qe} {j : Int} {q : Qe} (h : eqs[j.toNat]? = some q) : nameAt eqs j = q.name := by unfold nameAt; rw [h]
theorem nodup_plain {p : Pr} (h : checkF p = (0, 0, 0)) : ((p.eqs.filter (fun q => q.delay == 0)).map (·.name)).Nodup := by
  unfold List.Nodup
  rw [List.pairwise_map]
  exact (eqs_parts h).1.filter _
/-- As long as there are fewer than all plain equations, one waits. -/
theorem some_waits {p : Pr} (h : checkF p = (0, 0, 0)) {nd : Qe → List ByteArray} {out : List Int} (hl : out.length < leftE p.eqs) : ∃ q ∈ p.eqs, hasB (readyE p ++ out.map (nameAt p.eqs)) q.name = false := by
  refine Classical.byContradiction fun hno => ?_
  have hall : ∀ q ∈ p.eqs, q.name ∈ readyE p ++ out.map (nameAt p.eqs) := fun q hq => by
    rw [← hasB_iff]
    cases hb : hasB (readyE p ++ out.map (nameAt p.eqs)) q.name
    · exact absurd ⟨q, hq, hb⟩ hno
    · rfl
  have h1 := nodup_len _ (out.map (nameAt p.eqs)) (nodup_plain h) fun s hs => by
    rw [List.mem_map] at hs
    obtain ⟨q, hq, rfl⟩ := hs
    rw [List.mem_filter] at hq
    obtain ⟨i, hi⟩ := List.getElem?_of_mem hq.1
    obtain ⟨hpw, hin, _⟩ := eqs_parts h
    rcases List.mem_append.1 (hall q hq.1) with h2 | h2
    · exfalso
      unfold readyE at h2
      rcases List.mem_append.1 h2 with h3 | h3
      · exact hin q hq.1 h3
      · obtain ⟨x, hx, hxd, hxn⟩ := delaysE_mem.1 h3
        obtain ⟨j, hj⟩ := List.getElem?_of_mem hx
        obtain rfl := pair_eq hpw hj hi hxn
        rw [hi] at hj
        obtain rfl : q = x := by injection hj
        exact hxd (by simpa using hq.2)
    · exact h2
  rw [List.length_map, List.length_map] at h1
  unfold leftE at hl
  omega
/-- What is not ready at first is plain. -/
theorem plain_of {p : Pr} {l : List ByteArray} {q : Qe} (hq : q ∈ p.eqs) (h : q.name ∉ readyE p ++ l) : q.delay = 0 := by
  refine Classical.byContradiction fun hd => h ?_
  refine List.mem_append.2 (.inl ?_)
  unfold readyE
  exact List.mem_append.2 (.inr (delaysE_mem.2 ⟨q, hq, hd, rfl⟩))

/-- What the reference's order is. -/
theorem orderR_cases {p : Pr} (h : checkF p = (0, 0, 0)) :
    (∃ res, orderR p = (res, (0, 0, 0)) ∧ res.length = leftE p.eqs ∧ ∀ (i : Nat) (j : Int), res[i]? = some j → Good (readyE p) (ofR (varsOf p)) p.eqs i j res) ∨
    (∃ (out : List Int) (at' : Nat) (q : Qe), orderR p = ([], (3, (at' : Int), 22)) ∧ p.eqs[at']? = some q ∧ q.name ∉ readyE p ++ out.map (nameAt p.eqs) ∧ q.delay = 0 ∧ ∀ x ∈ p.eqs, x.name ∉ readyE p ++ out.map (nameAt p.eqs) → ¬ ∀ s ∈ ofR (varsOf p) x, s ∈ readyE p ++ out.map (nameAt p.eqs)) := by
  rcases ordR_cases (nd := ofR (varsOf p)) (eqs := p.eqs) (left := leftE p.eqs) (R0 := readyE p) (leftE p.eqs) (readyE p) [] (by simp) (by simp) (by simp) with ⟨res, h1, h2, h3⟩ | ⟨out, h1, h2, h3, _⟩
  · exact .inl ⟨res, h1, h2, h3⟩
  · right
    obtain ⟨s1, s2⟩ := scanR_stuck p.eqs 0 h3
    obtain ⟨i, q, e1, e2, e3⟩ := s2 (some_waits (nd := ofR (varsOf p)) h h2)
    rw [Nat.zero_add] at e1
    refine ⟨out, i, q, by unfold orderR; rw [h1, e1], e2, hasB_not.1 e3, plain_of (List.mem_of_getElem? e2) (hasB_not.1 e3), fun x hx hn hall => ?_⟩
    have := s1 x hx (hasB_not.2 hn)
    rw [← Bool.not_eq_true] at this
    exact this (List.all_eq_true.2 fun s hs => hasB_iff.2 (hall s hs))

/-- No other fault is a cycle's. -/
theorem endK_code (o : Int) (b : Bool) : (endK o b).2 ≠ 22 := by unfold endK; split <;> simp
theorem typK_code (l : List Va) (k n : Int) (s : ByteArray) (ts : List Int) : (typK l k n s ts).2 ≠ 22 := by
  unfold typK
  split
  · simp
  · exact endK_code _ _
theorem typL_code {L : List Va} : ∀ (r : List Ex), (∀ x ∈ r, (x.typ L).2 ≠ 22) → (Ex.typL L r).2 ≠ 22
  | [], _ => by simp [Ex.typL]
  | x :: r, h => by
    have h1 := h x (by simp)
    have h2 := typL_code r fun y hy => h y (by simp [hy])
    rw [Ex.typL]
    split
    · unfold joinT
      split
      · simp
      · exact h2
    · exact h1
theorem typ_code (L : List Va) (e : Ex) : (e.typ L).2 ≠ 22 := by
  induction e using Ex.ind with
  | h e ih =>
    rw [Ex.typ_eq]
    split
    · exact typK_code _ _ _ _ _
    · exact typL_code _ ih
theorem eqE_code (L : List Va) (ins : Int) (d : ByteArray → Option Int) (q : Qe) : eqE L ins d q ≠ 22 := by
  have := typ_code L q.e
  unfold eqE
  split
  · simp
  · repeat' split
    all_goals first | exact this | simp
theorem eqGo_code {L : List Va} {ins : Int} : ∀ (r : List Qe) (k : Nat) (d : ByteArray → Option Int) (j : Nat) (e : Int), (eqGo L ins k d r).1 = some (j, e) → e ≠ 22
  | [], k, d, j, e, h => by simp [eqGo] at h
  | q :: r, k, d, j, e, h => by
    rw [eqGo] at h
    by_cases hc : eqE L ins d q ≠ 0
    · rw [if_pos hc] at h
      simp only [Option.some.injEq, Prod.mk.injEq] at h
      rw [← h.2]; exact eqE_code _ _ _ _
    · rw [if_neg hc] at h
      exact eqGo_code r _ _ j e h
theorem check_code (p : Pr) : (checkF p).2.2 ≠ 22 := by
  unfold checkF
  by_cases he : printE p ≠ 0
  · rw [if_pos he]
    show printE p ≠ 22
    unfold printE
    repeat' split
    all_goals simp
  rw [if_neg he]
  by_cases hb : 8 < p.ins.length ∨ 8 < p.outs.length ∨ 24 < (varsOf p).length
  · rw [if_pos hb]; decide
  rw [if_neg hb]
  unfold dupF
  cases hd : dupGo (varsOf p) 0 (varsOf p) with
  | some k => simp
  | none =>
  simp only
  unfold eqsF
  cases hq : (eqGo (varsOf p) p.ins.length 0 (fun _ => none) p.eqs).1 with
  | some k => exact eqGo_code _ _ _ _ _ hq
  | none =>
  simp only
  unfold endF
  cases hm : missGo (eqGo (varsOf p) p.ins.length 0 (fun _ => none) p.eqs).2 p.ins.length ((varsOf p).drop p.ins.length) with
  | some k => simp
  | none => simp
theorem truth_code (l : List Va) (s : ByteArray) (b : Bool) : truthE l s b ≠ 22 := by
  unfold truthE
  split
  · simp
  · split <;> simp
theorem ownC_code (l : List Va) (k : Int) (s : ByteArray) (ck : Int) (cn : ByteArray) : ownC l k s ck cn ≠ 22 := by
  unfold ownC
  split
  · split
    · simp
    · split <;> simp
  · repeat' split
    all_goals first | exact truth_code _ _ _ | simp
theorem clkL_code {L : List Va} : ∀ (r : List Ex) (c d : Int × ByteArray), (∀ x ∈ r, ∀ c, x.clk L c ≠ 22) → Ex.clkL L r c d ≠ 22
  | [], c, d, _ => by simp [Ex.clkL]
  | x :: r, c, d, h => by
    have h1 := h x (by simp) c
    have h2 := clkL_code r d c fun y hy => h y (by simp [hy])
    rw [Ex.clkL]
    split
    · exact h1
    · exact h2
theorem clk_code (L : List Va) (e : Ex) : ∀ c, e.clk L c ≠ 22 := by
  induction e using Ex.ind with
  | h e ih =>
    intro c
    rw [Ex.clk_eq]
    split
    · exact ownC_code _ _ _ _ _
    · exact clkL_code _ _ _ ih
theorem declared_code (l : List Va) (v : Va) : declaredE l v ≠ 22 := by
  unfold declaredE
  split
  · simp
  · split
    · simp
    · repeat' split
      all_goals simp
theorem clkGoV_code {L : List Va} : ∀ (r : List Va) (k j : Nat) (e : Int), clkGoV L k r = some (j, e) → e ≠ 22
  | [], k, j, e, h => by simp [clkGoV] at h
  | v :: r, k, j, e, h => by
    rw [clkGoV] at h
    by_cases hc : declaredE L v ≠ 0
    · rw [if_pos hc] at h
      simp only [Option.some.injEq, Prod.mk.injEq] at h
      rw [← h.2]; exact declared_code _ _
    · rw [if_neg hc] at h
      exact clkGoV_code r _ j e h
theorem clkGoQ_code {L : List Va} : ∀ (r : List Qe) (k j : Nat) (e : Int), clkGoQ L k r = some (j, e) → e ≠ 22
  | [], k, j, e, h => by simp [clkGoQ] at h
  | q :: r, k, j, e, h => by
    rw [clkGoQ] at h
    by_cases hc : q.e.clk L (clockOf L q.name) ≠ 0
    · rw [if_pos hc] at h
      simp only [Option.some.injEq, Prod.mk.injEq] at h
      rw [← h.2]; exact clk_code _ _ _
    · rw [if_neg hc] at h
      exact clkGoQ_code r _ j e h
theorem clkF_code (p : Pr) : (clkF p).2.2 ≠ 22 := by
  unfold clkF
  by_cases hc : checkF p ≠ (0, 0, 0)
  · rw [if_pos hc]; exact check_code p
  rw [if_neg hc]
  unfold clkVF
  cases hv : clkGoV (varsOf p) 0 (varsOf p) with
  | some k => exact clkGoV_code (e := k.2) (j := k.1) _ _ hv
  | none =>
  simp only
  unfold clkQF
  cases hq : clkGoQ (varsOf p) 0 p.eqs with
  | some k => exact clkGoQ_code (e := k.2) (j := k.1) _ _ hq
  | none => simp

/-- order.Order: the order, and the fault. -/
def orderE (p : Pr) : List Int × (Int × Int × Int) := if clkF p = (0, 0, 0) then orderR p else ([], clkF p)
/-- What the laws take an equation to need. -/
def needC (L : List Va) (q : Qe) : List ByteArray := match findC L q.name with | some v => if v.cn.toList.isEmpty = true then needsF q.e else needsF q.e ++ [v.cn] | none => needsF q.e
theorem needC_mem {L : List Va} {q : Qe} {R : List ByteArray} : (∀ s ∈ needC L q, s ∈ R) ↔ ∀ s ∈ ofR L q, s ∈ R := by
  unfold needC ofR
  cases findC L q.name with
  | none => rfl
  | some v =>
    dsimp only
    unfold addN
    by_cases he : v.cn.toList.isEmpty = true
    · rw [if_pos he, if_pos he]
    · rw [if_neg he, if_neg he]
      by_cases hh : hasB (needsF q.e) v.cn = true
      · rw [if_pos hh]
        refine ⟨fun h s hs => h s (by simp [hs]), fun h s hs => ?_⟩
        rcases List.mem_append.1 hs with h1 | h1
        · exact h s h1
        · obtain rfl : s = v.cn := by simpa using h1
          exact h _ (hasB_iff.1 hh)
      · rw [if_neg hh]
end Go.Proofs.YtikmbkojnfmiaaaGreatDoorRRRR
