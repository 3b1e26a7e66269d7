/- What an order is, and what stops one. No program of Go in sight. -/
import Derived.Test.YtknfcamdfdfoeaaDoorZ18
set_option linter.unusedVariables false
set_option linter.unusedSimpArgs false
set_option maxRecDepth 100000
namespace Go.Proofs.YtknfcamdfdfoeaaDoor
open Go.RowKit

/-- A list without doubles, all of whose elements are of another, is no longer. -/
theorem nodup_len {α : Type} : ∀ (l m : List α), l.Nodup → (∀ x ∈ l, x ∈ m) → l.length ≤ m.length
  | [], m, _, _ => Nat.zero_le _
  | x :: l, m, hn, h => by
    obtain ⟨s, t, rfl⟩ := List.append_of_mem (h x (by simp))
    obtain ⟨h1, h2⟩ := List.nodup_cons.1 hn
    have := nodup_len l (s ++ t) h2 fun y hy => by
      have := h y (by simp [hy])
      simp only [List.mem_append, List.mem_cons] at this ⊢
      rcases this with h3 | h3 | h3
      · exact .inl h3
      · exact absurd (h3 ▸ hy) h1
      · exact .inr h3
    simp only [List.length_append, List.length_cons] at this ⊢
    omega

theorem scanR_hit {R : List ByteArray} {nd : Qe → List ByteArray} : ∀ (l : List Qe) (k : Nat), ¬ (scanR R nd k l).2 < 0 → ∃ (i : Nat) (q : Qe), (scanR R nd k l).2 = ((k + i : Nat) : Int) ∧ l[i]? = some q ∧ hasB R q.name = false ∧ (nd q).all (hasB R) = true
  | [], k, h => by simp [scanR] at h
  | q :: r, k, h => by
    rw [scanR] at h ⊢
    by_cases hb : hasB R q.name = true
    · rw [if_pos hb] at h ⊢
      obtain ⟨i, x, h1, h2, h3⟩ := scanR_hit r (k + 1) h
      exact ⟨i + 1, x, by rw [h1]; congr 1; omega, by simpa using h2, h3⟩
    · rw [if_neg hb] at h ⊢
      dsimp only at h ⊢
      by_cases ha : (nd q).all (hasB R) = true
      · rw [if_pos ha]
        exact ⟨0, q, rfl, rfl, by simpa using hb, ha⟩
      · rw [if_neg ha] at h ⊢
        obtain ⟨i, x, h1, h2, h3⟩ := scanR_hit r (k + 1) h
        exact ⟨i + 1, x, by rw [h1]; congr 1; omega, by simpa using h2, h3⟩
theorem scanR_stuck {R : List ByteArray} {nd : Qe → List ByteArray} : ∀ (l : List Qe) (k : Nat), (scanR R nd k l).2 < 0 → (∀ q ∈ l, hasB R q.name = false → (nd q).all (hasB R) = false) ∧ ((∃ q ∈ l, hasB R q.name = false) → ∃ (i : Nat) (q : Qe), (scanR R nd k l).1 = ((k + i : Nat) : Int) ∧ l[i]? = some q ∧ hasB R q.name = false)
  | [], k, h => ⟨by simp, by simp⟩
  | q :: r, k, h => by
    rw [scanR] at h ⊢
    by_cases hb : hasB R q.name = true
    · rw [if_pos hb] at h ⊢
      obtain ⟨h1, h2⟩ := scanR_stuck r (k + 1) h
      refine ⟨fun x hx hxb => ?_, fun hex => ?_⟩
      · rcases List.mem_cons.1 hx with rfl | hx
        · rw [hb] at hxb; cases hxb
        · exact h1 x hx hxb
      · obtain ⟨x, hx, hxb⟩ := hex
        rcases List.mem_cons.1 hx with rfl | hx
        · rw [hb] at hxb; cases hxb
        · obtain ⟨i, y, e1, e2, e3⟩ := h2 ⟨x, hx, hxb⟩
          exact ⟨i + 1, y, by rw [e1]; congr 1; omega, by simpa using e2, e3⟩
    · rw [if_neg hb] at h ⊢
      dsimp only at h ⊢
      by_cases ha : (nd q).all (hasB R) = true
      · rw [if_pos ha] at h; omega
      · rw [if_neg ha] at h
        obtain ⟨h1, h2⟩ := scanR_stuck r (k + 1) h
        refine ⟨fun x hx hxb => ?_, fun _ => ⟨0, q, rfl, rfl, by simpa using hb⟩⟩
        rcases List.mem_cons.1 hx with rfl | hx
        · simpa using ha
        · exact h1 x hx hxb

/-- The i-th number j of an order l tells an equation that is not ready yet, and all of whose needs are. -/
def Good (R0 : List ByteArray) (nd : Qe → List ByteArray) (eqs : List Qe) (i : Nat) (j : Int) (l : List Int) : Prop :=
  0 ≤ j ∧ ∃ q, eqs[j.toNat]? = some q ∧ q.name ∉ R0 ++ (l.take i).map (nameAt eqs) ∧ ∀ s ∈ nd q, s ∈ R0 ++ (l.take i).map (nameAt eqs)

theorem ordR_cases {nd : Qe → List ByteArray} {eqs : List Qe} {left : Nat} {R0 : List ByteArray} : ∀ (t : Nat) (R : List ByteArray) (out : List Int), out.length + t = left → R = R0 ++ out.map (nameAt eqs) → (∀ (i : Nat) (j : Int), out[i]? = some j → Good R0 nd eqs i j out) →
    (∃ res, ordR nd eqs left t R out = (res, (0, 0, 0)) ∧ res.length = left ∧ ∀ (i : Nat) (j : Int), res[i]? = some j → Good R0 nd eqs i j res) ∨
    (∃ out', ordR nd eqs left t R out = ([], (3, (scanR (R0 ++ out'.map (nameAt eqs)) nd 0 eqs).1, 22)) ∧ out'.length < left ∧ (scanR (R0 ++ out'.map (nameAt eqs)) nd 0 eqs).2 < 0 ∧ ∀ (i : Nat) (j : Int), out'[i]? = some j → Good R0 nd eqs i j out')
  | 0, R, out, ht, hR, hg => .inl ⟨out, rfl, by omega, hg⟩
  | t + 1, R, out, ht, hR, hg => by
    rw [ordR, if_pos (by omega)]
    by_cases hn : (scanR R nd 0 eqs).2 < 0
    · rw [if_pos hn]
      right
      subst hR
      exact ⟨out, rfl, by omega, hn, hg⟩
    · rw [if_neg hn]
      obtain ⟨j, q, h1, h2, h3, h4⟩ := scanR_hit eqs 0 hn
      rw [Nat.zero_add] at h1
      have hname : nameAt eqs (j : Int) = q.name := by unfold nameAt; rw [Int.toNat_natCast, h2]
      rw [h1]
      refine ordR_cases t _ _ (by simp; omega) (by rw [hR, List.map_append, List.append_assoc]; rfl) fun i x hi => ?_
      rcases Nat.lt_trichotomy i out.length with hlt | he | hlt
      · rw [List.getElem?_append_left hlt] at hi
        have := hg i x hi
        unfold Good at this ⊢
        rw [List.take_append_of_le_length (by omega)]
        exact this
      · subst he
        rw [List.getElem?_append_right (Nat.le_refl _), Nat.sub_self] at hi
        obtain rfl : (j : Int) = x := by simpa using hi
        refine ⟨by omega, q, by rw [Int.toNat_natCast]; exact h2, ?_, ?_⟩
        · rw [List.take_left' rfl, ← hR]; exact hasB_not.1 h3
        · rw [List.take_left' rfl, ← hR]
          intro s hs
          exact hasB_iff.1 (List.all_eq_true.1 h4 s hs)
      · rw [List.getElem?_eq_none (by simp; omega)] at hi
        cases hi

theorem nameAt_of {eqs : List Qe} {j : Int} {q : Qe} (h : eqs[j.toNat]? = some q) : nameAt eqs j = q.name := by unfold nameAt; rw [h]
theorem nodup_plain {p : Pr} (h : checkF p = (0, 0, 0)) : ((p.eqs.filter (fun q => q.delay == 0)).map (·.name)).Nodup := by
  unfold List.Nodup
  rw [List.pairwise_map]
  exact (eqs_parts h).1.filter _
/-- As long as there are fewer than all plain equations, one waits. -/
theorem some_waits {p : Pr} (h : checkF p = (0, 0, 0)) {nd : Qe → List ByteArray} {out : List Int} (hl : out.length < leftE p.eqs) : ∃ q ∈ p.eqs, hasB (readyE p ++ out.map (nameAt p.eqs)) q.name = false := by
  refine Classical.byContradiction fun hno => ?_
  have hall : ∀ q ∈ p.eqs, q.name ∈ readyE p ++ out.map (nameAt p.eqs) := fun q hq => by
    rw [← hasB_iff]
    cases hb : hasB (readyE p ++ out.map (nameAt p.eqs)) q.name
    · exact absurd ⟨q, hq, hb⟩ hno
    · rfl
  have h1 := nodup_len _ (out.map (nameAt p.eqs)) (nodup_plain h) fun s hs => by
    rw [List.mem_map] at hs
    obtain ⟨q, hq, rfl⟩ := hs
    rw [List.mem_filter] at hq
    obtain ⟨i, hi⟩ := List.getElem?_of_mem hq.1
    obtain ⟨hpw, hin, _⟩ := eqs_parts h
    rcases List.mem_append.1 (hall q hq.1) with h2 | h2
    · exfalso
      unfold readyE at h2
      rcases List.mem_append.1 h2 with h3 | h3
      · exact hin q hq.1 h3
      · obtain ⟨x, hx, hxd, hxn⟩ := delaysE_mem.1 h3
        obtain ⟨j, hj⟩ := List.getElem?_of_mem hx
        obtain rfl := pair_eq hpw hj hi hxn
        rw [hi] at hj
        obtain rfl : q = x := by injection hj
        exact hxd (by simpa using hq.2)
    · exact h2
  rw [List.length_map, List.length_map] at h1
  unfold leftE at hl
  omega
/-- What is not ready at first is plain. -/
theorem plain_of {p : Pr} {l : List ByteArray} {q : Qe} (hq : q ∈ p.eqs) (h : q.name ∉ readyE p ++ l) : q.delay = 0 := by
  refine Classical.byContradiction fun hd => h ?_
  refine List.mem_append.2 (.inl ?_)
  unfold readyE
  exact List.mem_append.2 (.inr (delaysE_mem.2 ⟨q, hq, hd, rfl⟩))

/-- What the reference's order is. -/
theorem orderR_cases {p : Pr} (h : checkF p = (0, 0, 0)) :
    (∃ res, orderR p = (res, (0, 0, 0)) ∧ res.length = leftE p.eqs ∧ ∀ (i : Nat) (j : Int), res[i]? = some j → Good (readyE p) (ofR (varsOf p)) p.eqs i j res) ∨
    (∃ (out : List Int) (at' : Nat) (q : Qe), orderR p = ([], (3, (at' : Int), 22)) ∧ p.eqs[at']? = some q ∧ q.name ∉ readyE p ++ out.map (nameAt p.eqs) ∧ q.delay = 0 ∧ ∀ x ∈ p.eqs, x.name ∉ readyE p ++ out.map (nameAt p.eqs) → ¬ ∀ s ∈ ofR (varsOf p) x, s ∈ readyE p ++ out.map (nameAt p.eqs)) := by
  rcases ordR_cases (nd := ofR (varsOf p)) (eqs := p.eqs) (left := leftE p.eqs) (R0 := readyE p) (leftE p.eqs) (readyE p) [] (by simp) (by simp) (by simp) with ⟨res, h1, h2, h3⟩ | ⟨out, h1, h2, h3, _⟩
  · exact .inl ⟨res, h1, h2, h3⟩
  · right
    obtain ⟨s1, s2⟩ := scanR_stuck p.eqs 0 h3
    obtain ⟨i, q, e1, e2, e3⟩ := s2 (some_waits (nd := ofR (varsOf p)) h h2)
    rw [Nat.zero_add] at e1
    refine ⟨out, i, q, by unfold orderR; rw [h1, e1], e2, hasB_not.1 e3, plain_of (List.mem_of_getElem? e2) (hasB_not.1 e3), fun x hx hn hall => ?_⟩
    have := s1 x hx (hasB_not.2 hn)
    rw [← Bool.not_eq_true] at this
    exact this (List.all_eq_true.2 fun s hs => hasB_iff.2 (hall s hs))

/-- order.Order: the order, and the fault. -/
def orderE (p : Pr) : List Int × (Int × Int × Int) := if clkF p = (0, 0, 0) then orderR p else ([], clkF p)
end Go.Proofs.YtknfcamdfdfoeaaDoor

/- Which variables have no value at first. No program of Go in sight. -/
namespace Go.Proofs.YtknfcamdfdfoeaaDoor
open Go.RowKit

namespace Ex
mutual
/-- Does an expression hang on a name of which g says so? -/
def reach (g : ByteArray → Bool) : Ex → Bool
  | mk k _ s sub => g s || (if k = 7 then reachF g sub else reachL g sub)
def reachF (g : ByteArray → Bool) : List Ex → Bool
  | [] => false
  | x :: _ => reach g x
def reachL (g : ByteArray → Bool) : List Ex → Bool
  | [] => false
  | x :: r => reach g x || reachL g r
end
theorem reach_eq (g : ByteArray → Bool) (e : Ex) : e.reach g = (g e.name || (if e.kind = 7 then reachF g e.sub else reachL g e.sub)) := by cases e; rw [reach]; rfl
theorem reachL_app (g : ByteArray → Bool) : ∀ (a b : List Ex), reachL g (a ++ b) = (reachL g a || reachL g b)
  | [], b => by simp [reachL]
  | x :: a, b => by rw [List.cons_append, reachL, reachL, reachL_app g a b, Bool.or_assoc]
theorem sizeL_app : ∀ (a b : List Ex), sizeL (a ++ b) = sizeL a + sizeL b
  | [], b => by simp [sizeL]
  | x :: a, b => by rw [List.cons_append, sizeL, sizeL, sizeL_app a b]; omega
theorem size_pos (e : Ex) : 0 < e.size := by rw [size_eq]; omega
theorem len_sizeL : ∀ l : List Ex, l.length ≤ sizeL l
  | [] => by simp
  | x :: l => by have := len_sizeL l; have := x.size_pos; rw [sizeL, List.length_cons]; omega
end Ex

/-- What a map of numbers says of a name; what a list of names does. -/
def onM (f : ByteArray → Option Int) (s : ByteArray) : Bool := decide (0 < (f s).getD 0)
def inL (l : List ByteArray) (s : ByteArray) : Bool := !s.toList.isEmpty && hasB l s
def Agree (f : ByteArray → Option Int) (l : List ByteArray) : Prop := ∀ s, onM f s = inL l s
theorem agree_nil : Agree (fun _ => none) [] := fun s => by unfold onM inL hasB; simp
theorem agree_snoc {f : ByteArray → Option Int} {l : List ByteArray} {n : ByteArray} (h : Agree f l) (hn : n.toList.isEmpty = false) : Agree (upd f n 1) (l ++ [n]) := fun s => by
  have hs := h s
  unfold onM inL at hs ⊢
  rw [hasB_snoc, data_beq]
  unfold upd
  by_cases hd : s.data = n.data
  · have hsn : s = n := by ext1; exact hd
    rw [if_pos hd, hsn, hn]
    simp
  · rw [if_neg hd]
    have : decide (n.data = s.data) = false := by simpa using fun e => hd e.symm
    rw [this, Bool.or_false]
    exact hs
theorem Agree.reach {f : ByteArray → Option Int} {l : List ByteArray} (h : Agree f l) (e : Ex) : e.reach (onM f) = e.reach (inL l) := by rw [show onM f = inL l from funext h]

/-- The names of those that begin with nothing. -/
def presE (l : List Qe) : List ByteArray := (l.filter (fun q => q.delay == 2)).map (·.name)
theorem presE_take (l : List Qe) {k : Nat} {q : Qe} (h : l[k]? = some q) : presE (l.take (k + 1)) = if (q.delay == 2) = true then presE (l.take k) ++ [q.name] else presE (l.take k) := by
  rw [List.take_add_one, h]
  unfold presE
  show ((l.take k ++ [q]).filter _).map _ = _
  rw [List.filter_append]
  cases hd : q.delay == 2 <;> simp [hd]
/-- The loose names, along an order. -/
def looseGo (eqs : List Qe) : List ByteArray → List Int → List ByteArray
  | out, [] => out
  | out, j :: r => looseGo eqs (match eqs[j.toNat]? with | some q => if q.e.reach (inL out) = true then out ++ [q.name] else out | none => out) r
/-- The loose names of a program, and its fault. -/
def looseE (p : Pr) : List ByteArray × (Int × Int × Int) := if (orderE p).2 = (0, 0, 0) then (looseGo p.eqs (presE p.eqs) (orderE p).1, (0, 0, 0)) else ([], (orderE p).2)
theorem orderE_good {p : Pr} (h : (orderE p).2 = (0, 0, 0)) : clkF p = (0, 0, 0) ∧ (orderE p).1.length ≤ p.eqs.length ∧ ∀ (i : Nat) (j : Int), (orderE p).1[i]? = some j → ∃ (m : Nat) (q : Qe), j = m ∧ p.eqs[m]? = some q := by
  unfold orderE at h ⊢
  by_cases hck : clkF p = (0, 0, 0)
  · rw [if_pos hck] at h ⊢
    refine ⟨hck, ?_⟩
    rcases orderR_cases (clkF_parts hck).1 with ⟨res, h1, h2, h3⟩ | ⟨out, m, q, h1, _⟩
    · rw [h1]
      refine ⟨by have := leftE_le p.eqs; show res.length ≤ _; omega, fun i j hi => ?_⟩
      obtain ⟨h0, q, hq, _⟩ := h3 i j hi
      exact ⟨j.toNat, q, by omega, hq⟩
    · rw [h1] at h
      exact absurd h (by simp)
  · rw [if_neg hck] at h
    exact absurd h hck
end Go.Proofs.YtknfcamdfdfoeaaDoor

/- What is torn, and what hangs on what has no value at first. No program of Go in sight. -/
namespace Go.Proofs.YtknfcamdfdfoeaaDoor
open Go.RowKit

namespace Ex
mutual
/-- Does some merge hang on a name of which g says so? -/
def torn (g : ByteArray → Bool) : Ex → Bool
  | mk k n s sub => (decide (k = 10) && reach g (mk k n s sub)) || tornL g sub
def tornL (g : ByteArray → Bool) : List Ex → Bool
  | [] => false
  | x :: r => torn g x || tornL g r
end
theorem torn_eq (g : ByteArray → Bool) (e : Ex) : e.torn g = ((decide (e.kind = 10) && e.reach g) || tornL g e.sub) := by cases e; rw [torn]; rfl
end Ex
end Go.Proofs.YtknfcamdfdfoeaaDoor

/- What hangs on what has no value at first. No program of Go in sight. -/
namespace Go.Proofs.YtknfcamdfdfoeaaDoor
open Go.RowKit

/-- Does an equation hang on a loose name where it must not? -/
def hangB (t c l d r o s : Bool) : Bool := t || (c && l) || (d && r) || (o && s)
def hangQ (p : Pr) (LF : List ByteArray) (q : Qe) : Bool :=
  hangB (q.e.torn (inL LF)) ((clockL (varsOf p) q.name).1 != 0) (inL LF (clockL (varsOf p) q.name).2) (q.delay != 0) (q.e.reach (inL LF)) (hasB (p.outs.map (·.name)) q.name) (inL LF q.name)
/-- The first that does. -/
def startGo (h : Qe → Bool) : Nat → List Qe → Int × Int × Int
  | _, [] => (0, 0, 0)
  | k, q :: r => if h q = true then (3, (k : Int), 23) else startGo h (k + 1) r
/-- start.Check. -/
def startF (p : Pr) : Int × Int × Int := if (orderE p).2 = (0, 0, 0) then startGo (hangQ p (looseE p).1) 0 p.eqs else (orderE p).2
/-- The ways in which the program comes to know it. -/
theorem hang_ways (t c l d r o s : Bool) :
    (t = true ∧ (d = true ∨ d = false) ∧ (o = true ∨ o = false) ∧ hangB t c l d r o s = true) ∨
    (t = false ∧ c = true ∧ l = true ∧ (d = true ∨ d = false) ∧ (o = true ∨ o = false) ∧ hangB t c l d r o s = true) ∨
    (t = false ∧ ((c = true ∧ l = false) ∨ c = false) ∧ d = true ∧ r = true ∧ (o = true ∨ o = false) ∧ hangB t c l d r o s = true) ∨
    (t = false ∧ ((c = true ∧ l = false) ∨ c = false) ∧ ((d = true ∧ r = false) ∨ d = false) ∧ o = true ∧ s = true ∧ hangB t c l d r o s = true) ∨
    (t = false ∧ ((c = true ∧ l = false) ∨ c = false) ∧ ((d = true ∧ r = false) ∨ d = false) ∧ ((o = true ∧ s = false) ∨ o = false) ∧ hangB t c l d r o s = false) := by
  revert t c l d r o s
  decide
theorem torn_congr {f : ByteArray → Option Int} {l : List ByteArray} (h : Agree f l) (e : Ex) : e.torn (onM f) = e.torn (inL l) := by rw [show onM f = inL l from funext h]
theorem clock_size {L : List Va} (h : ∀ v ∈ L, v.cn.size ≤ maxLen) (s : ByteArray) : (clockL L s).2.size ≤ maxLen := by
  unfold clockL
  have : ∀ (l : List Va) (c : Int × ByteArray), (∀ v ∈ l, v.cn.size ≤ maxLen) → c.2.size ≤ maxLen → (l.foldl (fun c v => if s.data = v.name.data then (v.ck, v.cn) else c) c).2.size ≤ maxLen := by
    intro l
    induction l with
    | nil => exact fun c _ hc => hc
    | cons v l ih =>
      intro c hl hc
      rw [List.foldl_cons]
      refine ih _ (fun u hu => hl u (by simp [hu])) ?_
      split
      · exact hl v (by simp)
      · exact hc
  exact this L _ h (by unfold maxLen; show 0 ≤ _; omega)
end Go.Proofs.YtknfcamdfdfoeaaDoor
