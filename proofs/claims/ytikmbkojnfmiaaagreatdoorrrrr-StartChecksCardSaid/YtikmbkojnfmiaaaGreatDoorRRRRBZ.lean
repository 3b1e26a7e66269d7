/- A stack of expressions in a slice of the call's own. -/
import Derived.Test.YtikmbkojnfmiaaaGreatDoorRRRRBJ
import Derived.Test.YtikmbkojnfmiaaaGreatDoorRRRRBS
import Derived.Test.YtikmbkojnfmiaaaGreatDoorRRRRBQ
import Derived.WalkMore
import Derived.Test.YtikmbkojnfmiaaaGreatDoorRRRRBP
set_option linter.unusedVariables false
set_option linter.unusedSimpArgs false
set_option maxRecDepth 100000
namespace Go.Proofs.YtikmbkojnfmiaaaGreatDoorRRRR
open Go.RowKit Go.Sort

theorem snoc_cases {α : Type} (l : List α) : l = [] ∨ ∃ (a : List α) (b : α), l = a ++ [b] := by
  rcases List.eq_nil_or_concat l with h | ⟨a, b, h⟩
  · exact .inl h
  · exact .inr ⟨a, b, by rw [h, List.concat_eq_append]⟩
theorem own_drop {w : World} {base size n m cap : Nat} {e : TypeId} {D : Option Addr} {xs ys : List Value} (h : w.ownsRow base e size (.slice D (n + m) cap) (n + m) (xs ++ ys)) (hx : xs.length = n * size) : w.ownsRow base e size (.slice D n cap) n xs := by
  refine ⟨hx, ?_⟩
  rcases h.2 with ⟨hv, h0⟩ | ⟨g, cap', cur, hv, hg, hh, h1, h2, h3, h4⟩
  · injection hv with e1 e2 e3
    subst e1 e3
    obtain rfl : n = 0 := by omega
    exact .inl ⟨rfl, rfl⟩
  · injection hv with e1 e2 e3
    subst e1 e3
    refine .inr ⟨g, cap, cur, rfl, hg, hh, by omega, h2, h3, ?_⟩
    have : (cur.toList.take ((n + m) * size)).take (n * size) = xs := by rw [h4, List.take_append_of_le_length (by omega), ← hx, List.take_length]
    rwa [List.take_take, Nat.min_eq_left (Nat.mul_le_mul_right _ (by omega))] at this
theorem exsC_len : ∀ (l : List Ex) (ls : List (Option Addr × Nat)), ls.length = l.length → (exsC l ls).length = l.length * 4
  | [], [], _ => rfl
  | y :: l, b :: ls, h => by
    have := exsC_len l ls (by simpa using h)
    rw [exsC, List.length_append, this]
    simp [exC]; omega
  | [], b :: ls, h => by simp at h
  | y :: l, [], h => by simp at h
theorem exsC_app : ∀ (l m : List Ex) (ls ms : List (Option Addr × Nat)), ls.length = l.length → exsC (l ++ m) (ls ++ ms) = exsC l ls ++ exsC m ms
  | [], m, [], ms, _ => by simp [exsC]
  | y :: l, m, b :: ls, ms, h => by
    simp only [List.cons_append, exsC, List.append_assoc]
    rw [exsC_app l m ls ms (by simpa using h)]
  | [], m, b :: ls, ms, h => by simp at h
  | y :: l, m, [], ms, h => by simp at h
theorem RowAt.lies {w : World} {b : Nat} : ∀ (l : List Ex) (off : Nat), RowAt w b l off → ∃ ls : List (Option Addr × Nat), ls.length = l.length ∧ (∀ j u, (exsC l ls)[j]? = some u → w.cell? ⟨b, off + j, none⟩ = some u) ∧ ∀ (j : Nat) (x : Ex) (a : Option Addr × Nat), l[j]? = some x → ls[j]? = some a → SubsAt w x a.1 a.2
  | [], off, _ => ⟨[], rfl, by simp [exsC], by simp⟩
  | y :: l, off, h => by
    rw [RowAt] at h
    obtain ⟨⟨A, cap, c0, c1, c2, c3, hs⟩, hr⟩ := h
    obtain ⟨ls, h1, h2, h3⟩ := RowAt.lies l (off + 4) hr
    refine ⟨(A, cap) :: ls, by simp [h1], fun j u hj => ?_, fun j x a hx ha => ?_⟩
    · rw [exsC] at hj
      match j with
      | 0 => obtain rfl : Value.int .i64 y.kind = u := by simpa [exC] using hj
             exact c0
      | 1 => obtain rfl : Value.int .i32 y.n = u := by simpa [exC] using hj
             exact c1
      | 2 => obtain rfl : Value.string y.name = u := by simpa [exC] using hj
             exact c2
      | 3 => obtain rfl : Value.slice A y.sub.length cap = u := by simpa [exC] using hj
             exact c3
      | j + 4 =>
        have := h2 j u (by simpa [exC] using hj)
        rwa [show off + 4 + j = off + (j + 4) from by omega] at this
    · cases j with
      | zero =>
        simp at hx ha
        subst hx ha
        exact hs
      | succ j => exact h3 j x a (by simpa using hx) (by simpa using ha)
theorem SubsAt.lies {w : World} {e : Ex} {A : Option Addr} {cap : Nat} (h : SubsAt w e A cap) : ∃ ls : List (Option Addr × Nat), ls.length = e.sub.length ∧ CellsAt w A e.sub.length 4 (exsC e.sub ls) ∧ ∀ (j : Nat) (x : Ex) (a : Option Addr × Nat), e.sub[j]? = some x → ls[j]? = some a → SubsAt w x a.1 a.2 := by
  rw [SubsAt_iff] at h
  rcases Nat.eq_zero_or_pos e.sub.length with h0 | h0
  · have hn : e.sub = [] := List.eq_nil_of_length_eq_zero h0
    rw [hn]
    exact ⟨[], rfl, ⟨rfl, fun h => absurd h (by simp)⟩, by simp⟩
  · obtain ⟨b, off, rfl, hr⟩ := h.2.2 h0
    obtain ⟨ls, h1, h2, h3⟩ := RowAt.lies _ _ hr
    exact ⟨ls, h1, ⟨exsC_len _ _ h1, fun _ => ⟨b, off, rfl, h2⟩⟩, h3⟩

/-- st lies in a row of the call's own; what hangs on it lies in w0. -/
def StackAt (w0 w : World) (base : Nat) (t : TypeId) (st : List Ex) (D : Option Addr) (dc : Nat) : Prop :=
  ∃ ls : List (Option Addr × Nat), ls.length = st.length ∧ (∀ (j : Nat) (x : Ex) (a : Option Addr × Nat), st[j]? = some x → ls[j]? = some a → SubsAt w0 x a.1 a.2) ∧ w.ownsRow base t 4 (.slice D st.length dc) st.length (exsC st ls)
theorem StackAt.pop {w0 w : World} {base : Nat} {t : TypeId} {st : List Ex} {x : Ex} {D : Option Addr} {dc : Nat} (h : StackAt w0 w base t (st ++ [x]) D dc) :
    ∃ b A cap, D = some ⟨b, 0, none⟩ ∧ base ≤ b ∧ b < w.heap.size ∧ st.length + 1 ≤ dc ∧ dc ≤ maxLen ∧ SubsAt w0 x A cap ∧ w.cell? ⟨b, st.length * 4, none⟩ = some (.int .i64 x.kind) ∧ w.cell? ⟨b, st.length * 4 + 1, none⟩ = some (.int .i32 x.n) ∧
      w.cell? ⟨b, st.length * 4 + 2, none⟩ = some (.string x.name) ∧ w.cell? ⟨b, st.length * 4 + 3, none⟩ = some (.slice A x.sub.length cap) ∧ StackAt w0 w base t st D dc := by
  obtain ⟨ls, hl, hs, hown⟩ := h
  rcases snoc_cases ls with rfl | ⟨ls', a, rfl⟩
  · simp at hl
  · have hl' : ls'.length = st.length := by simpa using hl
    rw [exsC_snoc st ls' x a hl', List.length_append] at hown
    obtain ⟨g, cap, hv, hg, hlt, h1, h2, hc⟩ := own_get hown (by simp)
    injection hv with e1 e2 e3
    subst e1 e3
    have hlen := exsC_len st ls' hl'
    have hcell : ∀ i u, (exC x a)[i]? = some u → w.cell? ⟨g, st.length * 4 + i, none⟩ = some u := fun i u hu => hc _ _ (by rw [List.getElem?_append_right (by omega), hlen, show st.length * 4 + i - st.length * 4 = i from by omega]; exact hu)
    refine ⟨g, a.1, a.2, rfl, hg, hlt, by simpa using h1, h2, hs st.length x a (by simp) (by rw [← hl']; simp), hcell 0 _ rfl, hcell 1 _ rfl, hcell 2 _ rfl, hcell 3 _ rfl, ls', hl', fun j y b hy hb => ?_, own_drop hown hlen⟩
    have hj : j < st.length := (List.getElem?_eq_some_iff.1 hy).1
    exact hs j y b (by rw [List.getElem?_append_left hj]; exact hy) (by rw [List.getElem?_append_left (by omega)]; exact hb)
theorem StackAt.push {w0 w : World} {base : Nat} {t : TypeId} {st sub : List Ex} {ls ms : List (Option Addr × Nat)} {D : Option Addr} {dc : Nat} (hl : ls.length = st.length) (hs : ∀ (j : Nat) (x : Ex) (a : Option Addr × Nat), st[j]? = some x → ls[j]? = some a → SubsAt w0 x a.1 a.2)
    (hm : ms.length = sub.length) (hs2 : ∀ (j : Nat) (x : Ex) (a : Option Addr × Nat), sub[j]? = some x → ms[j]? = some a → SubsAt w0 x a.1 a.2) (hown : w.ownsRow base t 4 (.slice D (st.length + sub.length) dc) (st.length + sub.length) (exsC st ls ++ exsC sub ms)) : StackAt w0 w base t (st ++ sub) D dc := by
  refine ⟨ls ++ ms, by simp [hl, hm], fun j x a hx ha => ?_, by rw [exsC_app _ _ _ _ hl, List.length_append]; exact hown⟩
  rcases Nat.lt_or_ge j st.length with hj | hj
  · rw [List.getElem?_append_left hj] at hx
    rw [List.getElem?_append_left (by omega)] at ha
    exact hs j x a hx ha
  · rw [List.getElem?_append_right hj] at hx
    rw [List.getElem?_append_right (by omega), hl] at ha
    exact hs2 _ x a hx ha
theorem CellsAt.moved {w w' : World} {A : Option Addr} {m size : Nat} {news : List Value} (h : CellsAt w A m size news) (hb : Below w.heap.size w w') : CellsAt w' A m size news :=
  ⟨h.1, fun hm => by
    obtain ⟨b, off, e, hc⟩ := h.2 hm
    exact ⟨b, off, e, fun j u hj => bel_cell hb (hc j u hj)⟩⟩
theorem exsC_one : ∀ (l : List Ex) (ls : List (Option Addr × Nat)), ∀ u ∈ exsC l ls, u.oneCell' = true
  | [], _, u, h => by simp [exsC] at h
  | y :: l, [], u, h => by simp [exsC] at h
  | y :: l, b :: ls, u, h => by
    rw [exsC] at h
    rcases List.mem_append.1 h with h1 | h1
    · simp only [exC, List.mem_cons, List.not_mem_nil, or_false] at h1
      rcases h1 with rfl | rfl | rfl | rfl <;> rfl
    · exact exsC_one l ls u h1
end Go.Proofs.YtikmbkojnfmiaaaGreatDoorRRRR

/- Which variables have no value at first. No program of Go in sight. -/
namespace Go.Proofs.YtikmbkojnfmiaaaGreatDoorRRRR
open Go.RowKit

namespace Ex
mutual
/-- Does an expression hang on a name of which g says so? -/
def reach (g : ByteArray → Bool) : Ex → Bool
  | mk k _ s sub => g s || (if k = 7 then reachF g sub else reachL g sub)
def reachF (g : ByteArray → Bool) : List Ex → Bool
  | [] => false
  | x :: _ => reach g x
def reachL (g : ByteArray → Bool) : List Ex → Bool
  | [] => false
  | x :: r => reach g x || reachL g r
end
theorem reach_eq (g : ByteArray → Bool) (e : Ex) : e.reach g = (g e.name || (if e.kind = 7 then reachF g e.sub else reachL g e.sub)) := by cases e; rw [reach]; rfl
theorem reachL_app (g : ByteArray → Bool) : ∀ (a b : List Ex), reachL g (a ++ b) = (reachL g a || reachL g b)
  | [], b => by simp [reachL]
  | x :: a, b => by rw [List.cons_append, reachL, reachL, reachL_app g a b, Bool.or_assoc]
theorem sizeL_app : ∀ (a b : List Ex), sizeL (a ++ b) = sizeL a + sizeL b
  | [], b => by simp [sizeL]
  | x :: a, b => by rw [List.cons_append, sizeL, sizeL, sizeL_app a b]; omega
theorem size_pos (e : Ex) : 0 < e.size := by rw [size_eq]; omega
theorem len_sizeL : ∀ l : List Ex, l.length ≤ sizeL l
  | [] => by simp
  | x :: l => by have := len_sizeL l; have := x.size_pos; rw [sizeL, List.length_cons]; omega
end Ex

/-- What a map of numbers says of a name; what a list of names does. -/
def onM (f : ByteArray → Option Int) (s : ByteArray) : Bool := decide (0 < (f s).getD 0)
def inL (l : List ByteArray) (s : ByteArray) : Bool := !s.toList.isEmpty && hasB l s
def Agree (f : ByteArray → Option Int) (l : List ByteArray) : Prop := ∀ s, onM f s = inL l s
theorem agree_nil : Agree (fun _ => none) [] := fun s => by unfold onM inL hasB; simp
theorem agree_snoc {f : ByteArray → Option Int} {l : List ByteArray} {n : ByteArray} (h : Agree f l) (hn : n.toList.isEmpty = false) : Agree (upd f n 1) (l ++ [n]) := fun s => by
  have hs := h s
  unfold onM inL at hs ⊢
  rw [hasB_snoc, data_beq]
  unfold upd
  by_cases hd : s.data = n.data
  · have hsn : s = n := by ext1; exact hd
    rw [if_pos hd, hsn, hn]
    simp
  · rw [if_neg hd]
    have : decide (n.data = s.data) = false := by simpa using fun e => hd e.symm
    rw [this, Bool.or_false]
    exact hs
theorem Agree.reach {f : ByteArray → Option Int} {l : List ByteArray} (h : Agree f l) (e : Ex) : e.reach (onM f) = e.reach (inL l) := by rw [show onM f = inL l from funext h]

/-- The names of those that begin with nothing. -/
def presE (l : List Qe) : List ByteArray := (l.filter (fun q => q.delay == 2)).map (·.name)
theorem presE_take (l : List Qe) {k : Nat} {q : Qe} (h : l[k]? = some q) : presE (l.take (k + 1)) = if (q.delay == 2) = true then presE (l.take k) ++ [q.name] else presE (l.take k) := by
  rw [List.take_add_one, h]
  unfold presE
  show ((l.take k ++ [q]).filter _).map _ = _
  rw [List.filter_append]
  cases hd : q.delay == 2 <;> simp [hd]
/-- The loose names, along an order. -/
def looseGo (eqs : List Qe) : List ByteArray → List Int → List ByteArray
  | out, [] => out
  | out, j :: r => looseGo eqs (match eqs[j.toNat]? with | some q => if q.e.reach (inL out) = true then out ++ [q.name] else out | none => out) r
/-- The loose names of a program, and its fault. -/
def looseE (p : Pr) : List ByteArray × (Int × Int × Int) := if (orderE p).2 = (0, 0, 0) then (looseGo p.eqs (presE p.eqs) (orderE p).1, (0, 0, 0)) else ([], (orderE p).2)
theorem presE_len (l : List Qe) : (presE l).length ≤ l.length := by unfold presE; rw [List.length_map]; exact List.length_filter_le _ _
theorem orderE_good {p : Pr} (h : (orderE p).2 = (0, 0, 0)) : clkF p = (0, 0, 0) ∧ (orderE p).1.length ≤ p.eqs.length ∧ ∀ (i : Nat) (j : Int), (orderE p).1[i]? = some j → ∃ (m : Nat) (q : Qe), j = m ∧ p.eqs[m]? = some q := by
  unfold orderE at h ⊢
  by_cases hck : clkF p = (0, 0, 0)
  · rw [if_pos hck] at h ⊢
    refine ⟨hck, ?_⟩
    rcases orderR_cases (clkF_parts hck).1 with ⟨res, h1, h2, h3⟩ | ⟨out, m, q, h1, _⟩
    · rw [h1]
      refine ⟨by have := leftE_le p.eqs; show res.length ≤ _; omega, fun i j hi => ?_⟩
      obtain ⟨h0, q, hq, _⟩ := h3 i j hi
      exact ⟨j.toNat, q, by omega, hq⟩
    · rw [h1] at h
      exact absurd h (by simp)
  · rw [if_neg hck] at h
    exact absurd h hck
/-- Each variable of a whole program has a name. -/
theorem variable_named {v : Va} {b : Bool} (h : variableB v b = true) : v.name.toList.isEmpty = false := by
  simp only [variableB, Bool.and_eq_true] at h
  exact nameB_ne h.1.1
theorem vars_named {p : Pr} (h : wholeB p = true) : ∀ v ∈ varsOf p, v.name.toList.isEmpty = false := by
  simp only [wholeB, Bool.and_eq_true, List.all_eq_true] at h
  intro v hv
  simp only [varsOf, List.mem_append] at hv
  rcases hv with (hv | hv) | hv
  · exact variable_named (h.1.1.1.2 v hv)
  · exact variable_named (h.1.1.2 v hv)
  · exact variable_named (h.1.2 v hv)
end Go.Proofs.YtikmbkojnfmiaaaGreatDoorRRRR

/- What is torn, and what hangs on what has no value at first. No program of Go in sight. -/
namespace Go.Proofs.YtikmbkojnfmiaaaGreatDoorRRRR
open Go.RowKit

namespace Ex
mutual
/-- Does some merge hang on a name of which g says so? -/
def torn (g : ByteArray → Bool) : Ex → Bool
  | mk k n s sub => (decide (k = 10) && reach g (mk k n s sub)) || tornL g sub
def tornL (g : ByteArray → Bool) : List Ex → Bool
  | [] => false
  | x :: r => torn g x || tornL g r
end
theorem torn_eq (g : ByteArray → Bool) (e : Ex) : e.torn g = ((decide (e.kind = 10) && e.reach g) || tornL g e.sub) := by cases e; rw [torn]; rfl
end Ex
end Go.Proofs.YtikmbkojnfmiaaaGreatDoorRRRR

/- What hangs on what has no value at first. No program of Go in sight. -/
namespace Go.Proofs.YtikmbkojnfmiaaaGreatDoorRRRR
open Go.RowKit

/-- Does an equation hang on a loose name where it must not? -/
def hangB (t c l d r o s : Bool) : Bool := t || (c && l) || (d && r) || (o && s)
def hangQ (p : Pr) (LF : List ByteArray) (q : Qe) : Bool :=
  hangB (q.e.torn (inL LF)) ((clockL (varsOf p) q.name).1 != 0) (inL LF (clockL (varsOf p) q.name).2) (q.delay != 0) (q.e.reach (inL LF)) (hasB (p.outs.map (·.name)) q.name) (inL LF q.name)
/-- The first that does. -/
def startGo (h : Qe → Bool) : Nat → List Qe → Int × Int × Int
  | _, [] => (0, 0, 0)
  | k, q :: r => if h q = true then (3, (k : Int), 23) else startGo h (k + 1) r
/-- start.Check. -/
def startF (p : Pr) : Int × Int × Int := if (orderE p).2 = (0, 0, 0) then startGo (hangQ p (looseE p).1) 0 p.eqs else (orderE p).2
/-- The ways in which the program comes to know it. -/
theorem hang_ways (t c l d r o s : Bool) :
    (t = true ∧ (d = true ∨ d = false) ∧ (o = true ∨ o = false) ∧ hangB t c l d r o s = true) ∨
    (t = false ∧ c = true ∧ l = true ∧ (d = true ∨ d = false) ∧ (o = true ∨ o = false) ∧ hangB t c l d r o s = true) ∨
    (t = false ∧ ((c = true ∧ l = false) ∨ c = false) ∧ d = true ∧ r = true ∧ (o = true ∨ o = false) ∧ hangB t c l d r o s = true) ∨
    (t = false ∧ ((c = true ∧ l = false) ∨ c = false) ∧ ((d = true ∧ r = false) ∨ d = false) ∧ o = true ∧ s = true ∧ hangB t c l d r o s = true) ∨
    (t = false ∧ ((c = true ∧ l = false) ∨ c = false) ∧ ((d = true ∧ r = false) ∨ d = false) ∧ ((o = true ∧ s = false) ∨ o = false) ∧ hangB t c l d r o s = false) := by
  revert t c l d r o s
  decide
theorem torn_congr {f : ByteArray → Option Int} {l : List ByteArray} (h : Agree f l) (e : Ex) : e.torn (onM f) = e.torn (inL l) := by rw [show onM f = inL l from funext h]
theorem clock_size {L : List Va} (h : ∀ v ∈ L, v.cn.size ≤ maxLen) (s : ByteArray) : (clockL L s).2.size ≤ maxLen := by
  unfold clockL
  have : ∀ (l : List Va) (c : Int × ByteArray), (∀ v ∈ l, v.cn.size ≤ maxLen) → c.2.size ≤ maxLen → (l.foldl (fun c v => if s.data = v.name.data then (v.ck, v.cn) else c) c).2.size ≤ maxLen := by
    intro l
    induction l with
    | nil => exact fun c _ hc => hc
    | cons v l ih =>
      intro c hl hc
      rw [List.foldl_cons]
      refine ih _ (fun u hu => hl u (by simp [hu])) ?_
      split
      · exact hl v (by simp)
      · exact hc
  exact this L _ h (by unfold maxLen; show 0 ≤ _; omega)
end Go.Proofs.YtikmbkojnfmiaaaGreatDoorRRRR

/- Walk over start's reaches. -/
namespace Go.Proofs.YtikmbkojnfmiaaaGreatDoorRRRR
open Go.RowKit Go.Sort

theorem formed_arrow {e : Ex} (h : e.formed = true) (hk : e.kind = 7) : e.sub.length = 2 := by
  rw [Ex.formed_eq, Bool.and_eq_true] at h
  have := h.1
  unfold formedH formK at this
  rw [hk] at this
  simp at this
  omega
set_option maxHeartbeats 4000000 in
theorem reaches_any (e : Ex) (A : Option Addr) (cap : Nat) (B n : Nat) (f : ByteArray → Option Int) (w : World) (he : SubsAt w e A cap) (hf : e.formed = true) (hok : e.OK) (hz : e.size ≤ 1000000) (hm : MapI Tryz.prog 9 3 w B n f) :
    Calls Tryz.prog 15 #[.map (some B), exV e A cap] w fun r w' => r = .returned (.bool (e.reach (onM f))) ∧ Below w.heap.size w w' := by
  obtain ⟨R, hR⟩ : ∃ R, R = e.reach (onM f) := ⟨_, rfl⟩
  rw [← hR]
  have HR0 := Lib.hid (by rw [hR]; simp [Ex.reachL] : Ex.reachL (onM f) [e] = R)
  clear hR
  unfold exV
  go_enter Tryz.func15, Tryz.ntmps15
  go_wp2_with fail
  go_step3
  go_wp2_with fail
  go_step3
  go_wp2_with fail
  refine wp_name fun W0 hW0 => ?_
  have hb0 : Below w.heap.size w W0 := by rw [hW0]; exact belA
  have hst0 : StackAt w W0 w.heap.size 37 [e] (some ⟨w.heap.size + 1, 0, none⟩) 1 := by
    refine ⟨[(A, cap)], rfl, fun j x a hx ha => ?_, ?_⟩
    · match j with
      | 0 => obtain rfl : e = x := by simpa using hx
             obtain rfl : (A, cap) = a := by simpa using ha
             exact he
      | j + 1 => simp at hx
    · rw [hW0]
      have := World.ownsRow_lit (base := w.heap.size) (e := 37) (size := 4) (w.alloc (.cells #[.int .i64 e.kind, .int .i32 e.n, .string e.name, .slice A e.sub.length cap] 37)) #[.int .i64 e.kind, .int .i32 e.n, .string e.name, .slice A e.sub.length cap] 1 (by simp) (by unfold maxLen; omega) rfl
      simpa [exsC, exC] using this
  have hf0 : ∀ x ∈ [e], x.formed = true ∧ x.OK := fun x hx => by
    obtain rfl : x = e := by simpa using hx
    exact ⟨hf, hok⟩
  have HF0 := Lib.hid hf0
  clear hW0 he hf hok hf0
  go_loopg [5, 6] (e.size) (fun gk todo met wr => ∃ (st : List Ex) (m : Nat) (D : Option Addr) (dc : Nat), todo = .slice D m dc ∧ met = .bool false ∧ Hid (m = st.length) ∧ Ex.sizeL st ≤ gk ∧ gk ≤ 1000000 ∧ Hid (Ex.reachL (onM f) st = R) ∧ Hid (∀ x ∈ st, x.formed = true ∧ x.OK) ∧ Hid (StackAt w wr w.heap.size 37 st D dc) ∧ Below w.heap.size w wr)
  case atStart => exact ⟨[e], 1, _, 1, rfl, rfl, Lib.hid rfl, by simp [Ex.sizeL], hz, HR0, HF0, Lib.hid hst0, hb0⟩
  case round =>
    obtain ⟨st, m, D, dc, rfl, rfl, hml, hgs, hgk, hrem, hfo, hst, hbel⟩ := hrel
    have hzr := hbel.size
    have hmr := hm.bel hbel
    rcases snoc_cases st with rfl | ⟨st, x, rfl⟩
    · have hm0 : m = 0 := by simpa using hml.out
      subst hm0
      have HR := Lib.hid (show false = R from hrem.out)
      clear hrem hml hfo hst
      go_wp2_with fail
      (try rw [Exit.noGoto_ret])
      go_ret
      exact ⟨ret_bool HR.out, belA⟩
    · have hm0 : m = st.length + 1 := by simpa using hml.out
      subst hm0
      obtain ⟨b, A', cap', rfl, hb1, hb2, hd1, hd2, hsx, c0, c1, c2, c3, hst'⟩ := hst.out.pop
      obtain ⟨hxf, hxok⟩ := hfo.out x (by simp)
      have hr := hrem.out
      rw [Ex.reachL_app, show Ex.reachL (onM f) [x] = x.reach (onM f) by simp [Ex.reachL], Ex.reach_eq] at hr
      have hs1 : Ex.sizeL st + (Ex.sizeL x.sub + 1) ≤ gk := by
        rw [Ex.sizeL_app] at hgs
        simpa [Ex.sizeL, Ex.size_eq] using hgs
      have hfo' : ∀ y ∈ st, y.formed = true ∧ y.OK := fun y hy => hfo.out y (by simp [hy])
      have hnx : x.name.size ≤ maxLen := by cases x; simp only [Ex.OK] at hxok; exact hxok.2.2.1
      have hstl := Ex.len_sizeL st
      have hxs : Ex.OKL x.sub := by cases x; simp only [Ex.OK] at hxok; exact hxok.2.2.2
      have hkc : st.length ≤ dc := by omega
      have hdc0 : ¬ dc = 0 := by omega
      unfold maxLen at hd2
      obtain ⟨ls, hl, hls, hown⟩ := hst'
      have HFO := Lib.hid hfo'
      have HLS := Lib.hid hls
      have HLL := Lib.hid hl
      clear hrem hml hfo hst hfo' hgs hls hl
      by_cases h0 : 0 < (f x.name).getD 0
      · rw [show onM f x.name = true by unfold onM; simpa using h0, Bool.true_or, Bool.or_true] at hr
        have HR := Lib.hid hr
        clear hr
        go_wp2_with (first | (at_lookup; go_loud (refine wpList_lkI rfl (.tmp 29) (.tmp 31) 49 rfl Tryz.underlying9 Tryz.underlying49 Tryz.underlying3 (zeroInt _) B n f x.name rfl (hmr.bel belA) rfl hnx ?_)))
        (try rw [Exit.noGoto_ret])
        go_ret
        exact ⟨ret_bool HR.out, belA⟩
      · rw [show onM f x.name = false by unfold onM; simpa using h0, Bool.false_or] at hr
        by_cases hk : x.kind = 7
        · have hlen := formed_arrow hxf hk
          obtain ⟨y, z, hyz⟩ : ∃ y z, x.sub = [y, z] := by
            match h : x.sub, hlen with
            | [y, z], _ => exact ⟨y, z, rfl⟩
          rw [if_pos hk, hyz] at hr
          have hyf : y.formed = true := formed_subs hxf y (by rw [hyz]; simp)
          have hyok : y.OK := Ex.OKL_mem hxs y (by rw [hyz]; simp)
          have hysz : y.size ≤ Ex.sizeL x.sub := by rw [hyz]; simp [Ex.sizeL]
          obtain ⟨b2, o2, A2, cap2, rfl, e0, e1, e2, e3, hsy⟩ := hsx.get (by rw [hyz]; rfl : x.sub[0]? = some y)
          rw [Nat.zero_mul, Nat.add_zero] at e0 e1 e2 e3
          have e0' := bel_cell hbel e0
          have e1' := bel_cell hbel e1
          have e2' := bel_cell hbel e2
          have e3' := bel_cell hbel e3
          have hb2w : b2 < wr.heap.size := block_lt_of_cell e0'
          have tk : (x.kind == 7) = true := by simpa using hk
          have hl0 : 0 < x.sub.length := by omega
          have HR := Lib.hid hr
          have HY := Lib.hid hyz
          clear hr hk hyz hlen e0 e1 e2 e3
          go_wp2_with (first | (at_lookup; go_loud (refine wpList_lkI rfl (.tmp 29) (.tmp 31) 49 rfl Tryz.underlying9 Tryz.underlying49 Tryz.underlying3 (zeroInt _) B n f x.name rfl (hmr.bel belA) rfl hnx ?_)) | (at_builtin; go_loud (refine wpList_cat rfl (.tmp 38) (.tmp 43) 35 rfl w.heap.size 37 _ 4 56 Tryz.underlying35 exinfo rfl (by omega) (.slice (some ⟨b, 0, none⟩) st.length dc) st.length (exsC st ls) _ 1 1 (exC y (A2, cap2)) rfl (own_alloc (own_alloc hown)) rfl ⟨rfl, fun _ => ⟨_, _, rfl, fun j u hj => by rw [Nat.zero_add]; exact (cell_new' (by simp)).trans (by simpa [exC] using hj)⟩⟩ (by simp [exC, Value.oneCell']) (by omega) (by omega) (by simp; omega) ?_; intro v9 w9 hown9 hb9; have hz9 := hb9.size; obtain ⟨A9, c9, rfl, hcb1, hcb2⟩ := own_slice hown9)))
          go_roundg (gk - 1)
          case measure => omega
          case rel =>
            refine ⟨st ++ [y], st.length + 1, A9, c9, by first | rfl | simp, rfl, Lib.hid (by simp), ?_, by omega, ?_, ?_, ?_, belA⟩
            · rw [Ex.sizeL_app]
              simp only [Ex.sizeL]
              omega
            · refine Lib.hid ?_
              rw [Ex.reachL_app, ← HR.out]
              simp [Ex.reachL, Ex.reachF]
            · refine Lib.hid fun u hu => ?_
              rcases List.mem_append.1 hu with h1 | h1
              · exact HFO.out u h1
              · obtain rfl : u = y := by simpa using h1
                exact ⟨hyf, hyok⟩
            · refine Lib.hid (StackAt.push (sub := [y]) (ms := [(A2, cap2)]) HLL.out HLS.out rfl (fun j u a hu ha => ?_) (by simpa [exsC] using hown9))
              match j with
              | 0 => obtain rfl : y = u := by simpa using hu
                     obtain rfl : (A2, cap2) = a := by simpa using ha
                     exact hsy
              | j + 1 => simp at hu
        · rw [if_neg hk] at hr
          have tk : (x.kind == 7) = false := by simpa using hk
          obtain ⟨ms, hm1, hm2, hm3⟩ := hsx.lies
          have HR := Lib.hid hr
          have HM1 := Lib.hid hm1
          have HM3 := Lib.hid hm3
          have HM2 := Lib.hid hm2
          have hxl := Ex.len_sizeL x.sub
          clear hr hk hm1 hm2 hm3
          go_wp2_with (first | (at_lookup; go_loud (refine wpList_lkI rfl (.tmp 29) (.tmp 31) 49 rfl Tryz.underlying9 Tryz.underlying49 Tryz.underlying3 (zeroInt _) B n f x.name rfl (hmr.bel belA) rfl hnx ?_)) | (at_builtin; go_loud (refine wpList_cat rfl (.tmp 24) (.tmp 26) 35 rfl w.heap.size 37 _ 4 56 Tryz.underlying35 exinfo rfl (by omega) (.slice (some ⟨b, 0, none⟩) st.length dc) st.length (exsC st ls) A' x.sub.length cap' (exsC x.sub ms) rfl (own_alloc hown) rfl (HM2.out.moved belA) (exsC_one _ _) (by omega) (by omega) (by simp; omega) ?_; intro v9 w9 hown9 hb9; have hz9 := hb9.size; obtain ⟨A9, c9, rfl, hcb1, hcb2⟩ := own_slice hown9)))
          go_roundg (gk - 1)
          case measure => omega
          case rel =>
            refine ⟨st ++ x.sub, st.length + x.sub.length, A9, c9, by first | rfl | simp, rfl, Lib.hid (by simp), ?_, by omega, ?_, ?_, ?_, belA⟩
            · rw [Ex.sizeL_app]
              omega
            · refine Lib.hid ?_
              rw [Ex.reachL_app, ← HR.out]
            · refine Lib.hid fun u hu => ?_
              rcases List.mem_append.1 hu with h1 | h1
              · exact HFO.out u h1
              · exact ⟨formed_subs hxf u h1, Ex.OKL_mem hxs u h1⟩
            · exact Lib.hid (StackAt.push HLL.out HLS.out HM1.out HM3.out hown9)

end Go.Proofs.YtikmbkojnfmiaaaGreatDoorRRRR

/- Walk over the reference's Expr: is an expression loose? -/
namespace Go.Proofs.YtikmbkojnfmiaaaGreatDoorRRRR
open Go.RowKit Go.Sort

set_option maxHeartbeats 4000000 in
theorem rexpr_any (l : List ByteArray) (e : Ex) : ∀ (A : Option Addr) (cap : Nat) (AL : Option Addr) (capL : Nat) (w : World), SubsAt w e A cap → StrsAt w l AL capL → e.formed = true →
    Calls Tryz.prog 22 #[exV e A cap, .slice AL l.length capL] w fun r w' => r = .returned (.bool (e.reach (inL l))) ∧ Below w.heap.size w w' := by
  induction e using Ex.ind with
  | h e ih =>
  intro A cap AL capL w he hl hf
  obtain ⟨R, hR⟩ : ∃ R, R = e.reach (inL l) := ⟨_, rfl⟩
  rw [← hR]
  rw [Ex.reach_eq, show inL l e.name = (!e.name.toList.isEmpty && hasB l e.name) from rfl] at hR
  have hel := he.len
  have hll := hl.len
  unfold maxLen at hel hll
  obtain ⟨hel1, hel2⟩ := hel
  obtain ⟨hll1, hll2⟩ := hll
  unfold exV at *
  cases hem : e.name.toList.isEmpty
  · cases hh : hasB l e.name
    · have HH := Lib.hid hh
      rw [hem, hh, Bool.and_false, Bool.false_or] at hR
      clear hh
      by_cases hk : e.kind = 7
      · rw [if_pos hk] at hR
        have hlen := formed_arrow hf hk
        have tk : (e.kind == 7) = true := by simpa using hk
        obtain ⟨x, y, hxy⟩ : ∃ x y, e.sub = [x, y] := by
          match h : e.sub, hlen with
          | [x, y], _ => exact ⟨x, y, rfl⟩
        have HX0 := Lib.hid (by rw [hxy]; rfl : e.sub[0]? = some x)
        have hmem : x ∈ e.sub := by rw [hxy]; simp
        have HB := Lib.hid (by rw [hR, hxy]; rfl : x.reach (inL l) = R)
        have hl0 : 0 < e.sub.length := by omega
        clear hk hxy hR hlen
        go_enter Tryz.func22, Tryz.ntmps22
        go_wp2_with (first | (go_at_call 21; refine (has_any l AL capL e.name _ (hl.later belA)).mono ?_; rw [HH.out]; rintro r wh ⟨rfl, hbh⟩; have hch := bcell hbh; have hzh : w.heap.size + 1 ≤ wh.heap.size := (by have := hbh.size; simpa using this); have hyh : w.heap.size < wh.heap.size := (by omega)))
        refine wp_name fun W0 hW0 => ?_
        have hb0 : Below w.heap.size w W0 := by rw [hW0]; exact belA
        have hz0 : w.heap.size < W0.heap.size := by rw [hW0]; first | exact hyh | simp
        have p3 : W0.cell? ⟨w.heap.size, 3, none⟩ = some (.slice A e.sub.length cap) := by rw [hW0]; go_simp
        clear hW0
        go_loopw [6] (fun i wr => ((i = .int .i64 0) ∨ (i = .int .i64 1 ∧ Hid (false = R))) ∧ Below W0.heap.size W0 wr) (fun i _ => 1 - (intOf i).toNat)
        case atStart => exact ⟨.inl rfl, Below.refl _ _⟩
        case round =>
          obtain ⟨hi, hbel⟩ := hrel
          have hbw : Below w.heap.size w wr := bel_grow hb0 hbel (by omega)
          have hc := bcell hbel
          have hzr := hbel.size
          rcases hi with rfl | ⟨rfl, HR⟩
          · obtain ⟨b, off, A', cap', rfl, c0, c1, c2, c3, hs⟩ := (he.later hbw).get HX0.out
            rw [Nat.zero_mul, Nat.add_zero] at c0 c1 c2 c3
            have ihx := ih x hmem
            have hxf := formed_subs hf x hmem
            cases hxr : x.reach (inL l)
            · have HXR := Lib.hid hxr
              have HR : Hid (false = R) := Lib.hid (by rw [← hxr]; exact HB.out)
              clear hxr
              go_wp2_with (first | (go_at_call 22; go_loud (refine (ihx A' cap' AL capL _ (hs.later belA) (hl.later belA) hxf).mono ?_; rw [HXR.out]; rintro r w1 ⟨rfl, hb1⟩)))
              go_roundw
              case rel => exact ⟨.inr ⟨by first | rfl | go_num, HR⟩, belA⟩
              case measure => simp [intOf]; try omega
            · have HXR := Lib.hid hxr
              have HR : Hid (true = R) := Lib.hid (by rw [← hxr]; exact HB.out)
              clear hxr
              go_wp2_with (first | (go_at_call 22; go_loud (refine (ihx A' cap' AL capL _ (hs.later belA) (hl.later belA) hxf).mono ?_; rw [HXR.out]; rintro r w1 ⟨rfl, hb1⟩)))
              go_ret
              exact ⟨ret_bool HR.out, belA⟩
          · go_wp2_with fail
            go_ret
            exact ⟨ret_bool HR.out, belA⟩
      · rw [if_neg hk] at hR
        have tk : (e.kind == 7) = false := by simpa using hk
        have HB := Lib.hid (by rw [hR]; rfl : Ex.reachL (inL l) (e.sub.drop 0) = R)
        clear hk hR
        go_enter Tryz.func22, Tryz.ntmps22
        go_wp2_with (first | (go_at_call 21; refine (has_any l AL capL e.name _ (hl.later belA)).mono ?_; rw [HH.out]; rintro r wh ⟨rfl, hbh⟩; have hch := bcell hbh; have hzh : w.heap.size + 1 ≤ wh.heap.size := (by have := hbh.size; simpa using this); have hyh : w.heap.size < wh.heap.size := (by omega)))
        refine wp_name fun W0 hW0 => ?_
        have hb0 : Below w.heap.size w W0 := by rw [hW0]; exact belA
        have hz0 : w.heap.size < W0.heap.size := by rw [hW0]; first | exact hyh | simp
        have p3 : W0.cell? ⟨w.heap.size, 3, none⟩ = some (.slice A e.sub.length cap) := by rw [hW0]; go_simp
        clear hW0
        go_loopw [6] (fun i wr => ∃ k : Nat, k ≤ e.sub.length ∧ i = .int .i64 k ∧ Hid (Ex.reachL (inL l) (e.sub.drop k) = R) ∧ Below W0.heap.size W0 wr) (fun i _ => e.sub.length - (intOf i).toNat)
        case atStart => exact ⟨0, Nat.zero_le _, rfl, HB, Below.refl _ _⟩
        case round =>
          obtain ⟨k, hk, rfl, hrem, hbel⟩ := hrel
          have hbw : Below w.heap.size w wr := bel_grow hb0 hbel (by omega)
          have hc := bcell hbel
          have hzr := hbel.size
          by_cases hlt : k < e.sub.length
          · have hx : e.sub[k]? = some e.sub[k] := List.getElem?_eq_getElem hlt
            have hmem : e.sub[k] ∈ e.sub := List.getElem_mem hlt
            have hd : e.sub.drop k = e.sub[k] :: e.sub.drop (k + 1) := List.drop_eq_getElem_cons hlt
            generalize e.sub[k] = x at hx hmem hd
            obtain ⟨b, off, A', cap', rfl, c0, c1, c2, c3, hs⟩ := (he.later hbw).get hx
            have ihx := ih x hmem
            have hxf := formed_subs hf x hmem
            have hr := hrem.out
            rw [hd, Ex.reachL] at hr
            clear hd hx hmem hrem
            cases hxr : x.reach (inL l)
            · rw [hxr, Bool.false_or] at hr
              have HXR := Lib.hid hxr
              have HR := Lib.hid hr
              clear hxr hr
              go_wp2_with (first | (go_at_call 22; go_loud (refine (ihx A' cap' AL capL _ (hs.later belA) (hl.later belA) hxf).mono ?_; rw [HXR.out]; rintro r w1 ⟨rfl, hb1⟩)))
              go_roundw
              case rel => exact ⟨k + 1, by omega, by go_num, HR, belA⟩
              case measure => simp [intOf]; try omega
            · rw [hxr, Bool.true_or] at hr
              have HXR := Lib.hid hxr
              have HR := Lib.hid hr
              clear hxr hr
              go_wp2_with (first | (go_at_call 22; go_loud (refine (ihx A' cap' AL capL _ (hs.later belA) (hl.later belA) hxf).mono ?_; rw [HXR.out]; rintro r w1 ⟨rfl, hb1⟩)))
              go_ret
              exact ⟨ret_bool HR.out, belA⟩
          · obtain rfl : k = e.sub.length := by omega
            have hr := hrem.out
            rw [List.drop_length, Ex.reachL] at hr
            have HR := Lib.hid hr
            clear hr hrem
            go_wp2_with fail
            go_ret
            exact ⟨ret_bool HR.out, belA⟩
    · have HH := Lib.hid hh
      rw [hem, hh] at hR
      have HR := Lib.hid (by rw [hR]; rfl : true = R)
      clear hh hR
      go_enter Tryz.func22, Tryz.ntmps22
      go_wp2_with (first | (go_at_call 21; refine (has_any l AL capL e.name _ (hl.later belA)).mono ?_; rw [HH.out]; rintro r wh ⟨rfl, hbh⟩))
      go_ret
      exact ⟨ret_bool HR.out, belA⟩
  · rw [hem, Bool.not_true, Bool.false_and, Bool.false_or] at hR
    by_cases hk : e.kind = 7
    · rw [if_pos hk] at hR
      have hlen := formed_arrow hf hk
      have tk : (e.kind == 7) = true := by simpa using hk
      obtain ⟨x, y, hxy⟩ : ∃ x y, e.sub = [x, y] := by
        match h : e.sub, hlen with
        | [x, y], _ => exact ⟨x, y, rfl⟩
      have HX0 := Lib.hid (by rw [hxy]; rfl : e.sub[0]? = some x)
      have hmem : x ∈ e.sub := by rw [hxy]; simp
      have HB := Lib.hid (by rw [hR, hxy]; rfl : x.reach (inL l) = R)
      have hl0 : 0 < e.sub.length := by omega
      clear hk hxy hR hlen
      go_enter Tryz.func22, Tryz.ntmps22
      go_wp2_with (first | (go_at_call 21; refine (has_any l AL capL e.name _ (hl.later belA)).mono ?_; rw [HH.out]; rintro r wh ⟨rfl, hbh⟩; have hch := bcell hbh; have hzh : w.heap.size + 1 ≤ wh.heap.size := (by have := hbh.size; simpa using this); have hyh : w.heap.size < wh.heap.size := (by omega)))
      refine wp_name fun W0 hW0 => ?_
      have hb0 : Below w.heap.size w W0 := by rw [hW0]; exact belA
      have hz0 : w.heap.size < W0.heap.size := by rw [hW0]; first | exact hyh | simp
      have p3 : W0.cell? ⟨w.heap.size, 3, none⟩ = some (.slice A e.sub.length cap) := by rw [hW0]; go_simp
      clear hW0
      go_loopw [6] (fun i wr => ((i = .int .i64 0) ∨ (i = .int .i64 1 ∧ Hid (false = R))) ∧ Below W0.heap.size W0 wr) (fun i _ => 1 - (intOf i).toNat)
      case atStart => exact ⟨.inl rfl, Below.refl _ _⟩
      case round =>
        obtain ⟨hi, hbel⟩ := hrel
        have hbw : Below w.heap.size w wr := bel_grow hb0 hbel (by omega)
        have hc := bcell hbel
        have hzr := hbel.size
        rcases hi with rfl | ⟨rfl, HR⟩
        · obtain ⟨b, off, A', cap', rfl, c0, c1, c2, c3, hs⟩ := (he.later hbw).get HX0.out
          rw [Nat.zero_mul, Nat.add_zero] at c0 c1 c2 c3
          have ihx := ih x hmem
          have hxf := formed_subs hf x hmem
          cases hxr : x.reach (inL l)
          · have HXR := Lib.hid hxr
            have HR : Hid (false = R) := Lib.hid (by rw [← hxr]; exact HB.out)
            clear hxr
            go_wp2_with (first | (go_at_call 22; go_loud (refine (ihx A' cap' AL capL _ (hs.later belA) (hl.later belA) hxf).mono ?_; rw [HXR.out]; rintro r w1 ⟨rfl, hb1⟩)))
            go_roundw
            case rel => exact ⟨.inr ⟨by first | rfl | go_num, HR⟩, belA⟩
            case measure => simp [intOf]; try omega
          · have HXR := Lib.hid hxr
            have HR : Hid (true = R) := Lib.hid (by rw [← hxr]; exact HB.out)
            clear hxr
            go_wp2_with (first | (go_at_call 22; go_loud (refine (ihx A' cap' AL capL _ (hs.later belA) (hl.later belA) hxf).mono ?_; rw [HXR.out]; rintro r w1 ⟨rfl, hb1⟩)))
            go_ret
            exact ⟨ret_bool HR.out, belA⟩
        · go_wp2_with fail
          go_ret
          exact ⟨ret_bool HR.out, belA⟩
    · rw [if_neg hk] at hR
      have tk : (e.kind == 7) = false := by simpa using hk
      have HB := Lib.hid (by rw [hR]; rfl : Ex.reachL (inL l) (e.sub.drop 0) = R)
      clear hk hR
      go_enter Tryz.func22, Tryz.ntmps22
      go_wp2_with (first | (go_at_call 21; refine (has_any l AL capL e.name _ (hl.later belA)).mono ?_; rw [HH.out]; rintro r wh ⟨rfl, hbh⟩; have hch := bcell hbh; have hzh : w.heap.size + 1 ≤ wh.heap.size := (by have := hbh.size; simpa using this); have hyh : w.heap.size < wh.heap.size := (by omega)))
      refine wp_name fun W0 hW0 => ?_
      have hb0 : Below w.heap.size w W0 := by rw [hW0]; exact belA
      have hz0 : w.heap.size < W0.heap.size := by rw [hW0]; first | exact hyh | simp
      have p3 : W0.cell? ⟨w.heap.size, 3, none⟩ = some (.slice A e.sub.length cap) := by rw [hW0]; go_simp
      clear hW0
      go_loopw [6] (fun i wr => ∃ k : Nat, k ≤ e.sub.length ∧ i = .int .i64 k ∧ Hid (Ex.reachL (inL l) (e.sub.drop k) = R) ∧ Below W0.heap.size W0 wr) (fun i _ => e.sub.length - (intOf i).toNat)
      case atStart => exact ⟨0, Nat.zero_le _, rfl, HB, Below.refl _ _⟩
      case round =>
        obtain ⟨k, hk, rfl, hrem, hbel⟩ := hrel
        have hbw : Below w.heap.size w wr := bel_grow hb0 hbel (by omega)
        have hc := bcell hbel
        have hzr := hbel.size
        by_cases hlt : k < e.sub.length
        · have hx : e.sub[k]? = some e.sub[k] := List.getElem?_eq_getElem hlt
          have hmem : e.sub[k] ∈ e.sub := List.getElem_mem hlt
          have hd : e.sub.drop k = e.sub[k] :: e.sub.drop (k + 1) := List.drop_eq_getElem_cons hlt
          generalize e.sub[k] = x at hx hmem hd
          obtain ⟨b, off, A', cap', rfl, c0, c1, c2, c3, hs⟩ := (he.later hbw).get hx
          have ihx := ih x hmem
          have hxf := formed_subs hf x hmem
          have hr := hrem.out
          rw [hd, Ex.reachL] at hr
          clear hd hx hmem hrem
          cases hxr : x.reach (inL l)
          · rw [hxr, Bool.false_or] at hr
            have HXR := Lib.hid hxr
            have HR := Lib.hid hr
            clear hxr hr
            go_wp2_with (first | (go_at_call 22; go_loud (refine (ihx A' cap' AL capL _ (hs.later belA) (hl.later belA) hxf).mono ?_; rw [HXR.out]; rintro r w1 ⟨rfl, hb1⟩)))
            go_roundw
            case rel => exact ⟨k + 1, by omega, by go_num, HR, belA⟩
            case measure => simp [intOf]; try omega
          · rw [hxr, Bool.true_or] at hr
            have HXR := Lib.hid hxr
            have HR := Lib.hid hr
            clear hxr hr
            go_wp2_with (first | (go_at_call 22; go_loud (refine (ihx A' cap' AL capL _ (hs.later belA) (hl.later belA) hxf).mono ?_; rw [HXR.out]; rintro r w1 ⟨rfl, hb1⟩)))
            go_ret
            exact ⟨ret_bool HR.out, belA⟩
        · obtain rfl : k = e.sub.length := by omega
          have hr := hrem.out
          rw [List.drop_length, Ex.reachL] at hr
          have HR := Lib.hid hr
          clear hr hrem
          go_wp2_with fail
          go_ret
          exact ⟨ret_bool HR.out, belA⟩

end Go.Proofs.YtikmbkojnfmiaaaGreatDoorRRRR

/- Walk over start's torn. -/
namespace Go.Proofs.YtikmbkojnfmiaaaGreatDoorRRRR
open Go.RowKit Go.Sort

set_option maxHeartbeats 4000000 in
theorem torn_any (B n : Nat) (f : ByteArray → Option Int) (e : Ex) : ∀ (A : Option Addr) (cap : Nat) (w : World), SubsAt w e A cap → e.formed = true → e.OK → e.size ≤ 1000000 → MapI Tryz.prog 9 3 w B n f →
    Calls Tryz.prog 16 #[.map (some B), exV e A cap] w fun r w' => r = .returned (.bool (e.torn (onM f))) ∧ Below w.heap.size w w' := by
  induction e using Ex.ind with
  | h e ih =>
  intro A cap w he hf hok hz hm
  obtain ⟨R, hR⟩ : ∃ R, R = e.torn (onM f) := ⟨_, rfl⟩
  rw [← hR]
  rw [Ex.torn_eq] at hR
  have hrch := fun W h => reaches_any e A cap B n f W (he.later h) hf hok hz (hm.bel h)
  have hoks : Ex.OKL e.sub := by cases e; simp only [Ex.OK] at hok; exact hok.2.2.2
  have hse := Ex.size_eq e
  have hel := he.len
  unfold maxLen at hel
  obtain ⟨hel1, hel2⟩ := hel
  unfold exV at *
  by_cases hk : e.kind = 10
  · have tk : (e.kind == 10) = true := by simpa using hk
    rw [show decide (e.kind = 10) = true by simpa using hk, Bool.true_and] at hR
    clear hk
    cases hrc : e.reach (onM f)
    · rw [hrc, Bool.false_or] at hR
      have HRC := Lib.hid hrc
      have HB := Lib.hid (by rw [hR]; rfl : Ex.tornL (onM f) (e.sub.drop 0) = R)
      clear hrc hR hok
      go_enter Tryz.func16, Tryz.ntmps16
      go_wp2_with (first | (go_at_call 15; go_loud (refine (hrch _ belA).mono ?_; rw [HRC.out]; rintro r wh ⟨rfl, hbh⟩; have hch := bcell hbh; have hzh : w.heap.size + 1 ≤ wh.heap.size := (by have := hbh.size; simpa using this); have hyh : w.heap.size < wh.heap.size := (by omega))))
      refine wp_name fun W0 hW0 => ?_
      have hb0 : Below w.heap.size w W0 := by rw [hW0]; exact belA
      clear hW0
      go_loopw [18] (fun i wr => ∃ k : Nat, k ≤ e.sub.length ∧ i = .int .i64 k ∧ Hid (Ex.tornL (onM f) (e.sub.drop k) = R) ∧ Below w.heap.size w wr) (fun i _ => e.sub.length - (intOf i).toNat)
      case atStart => exact ⟨0, Nat.zero_le _, rfl, HB, hb0⟩
      case round =>
        obtain ⟨k, hk, rfl, hrem, hbel⟩ := hrel
        have hzr := hbel.size
        by_cases hlt : k < e.sub.length
        · have hx : e.sub[k]? = some e.sub[k] := List.getElem?_eq_getElem hlt
          have hmem : e.sub[k] ∈ e.sub := List.getElem_mem hlt
          have hd : e.sub.drop k = e.sub[k] :: e.sub.drop (k + 1) := List.drop_eq_getElem_cons hlt
          generalize e.sub[k] = x at hx hmem hd
          obtain ⟨b, off, A', cap', rfl, c0, c1, c2, c3, hs⟩ := (he.later hbel).get hx
          have ihx := ih x hmem
          have hxf := formed_subs hf x hmem
          have hxok := Ex.OKL_mem hoks x hmem
          have hxz : x.size ≤ 1000000 := by have := Ex.size_mem _ _ _ hx; omega
          have hr := hrem.out
          rw [hd, Ex.tornL] at hr
          clear hd hx hmem hrem
          cases hxr : x.torn (onM f)
          · rw [hxr, Bool.false_or] at hr
            have HXR := Lib.hid hxr
            have HR := Lib.hid hr
            clear hxr hr
            go_wp2_with (first | (go_at_call 16; go_loud (refine (ihx A' cap' _ (hs.later belA) hxf hxok hxz (hm.bel belA)).mono ?_; rw [HXR.out]; rintro r w1 ⟨rfl, hb1⟩)))
            go_roundw
            case rel => exact ⟨k + 1, by omega, by go_num, HR, belA⟩
            case measure => simp [intOf]; try omega
          · rw [hxr, Bool.true_or] at hr
            have HXR := Lib.hid hxr
            have HR := Lib.hid hr
            clear hxr hr
            go_wp2_with (first | (go_at_call 16; go_loud (refine (ihx A' cap' _ (hs.later belA) hxf hxok hxz (hm.bel belA)).mono ?_; rw [HXR.out]; rintro r w1 ⟨rfl, hb1⟩)))
            go_ret
            exact ⟨ret_bool HR.out, belA⟩
        · obtain rfl : k = e.sub.length := by omega
          have hr := hrem.out
          rw [List.drop_length, Ex.tornL] at hr
          have HR := Lib.hid hr
          clear hr hrem
          go_wp2_with fail
          go_ret
          exact ⟨ret_bool HR.out, belA⟩
    · rw [hrc, Bool.true_or] at hR
      have HRC := Lib.hid hrc
      have HR := Lib.hid hR.symm
      clear hrc hR hok
      go_enter Tryz.func16, Tryz.ntmps16
      go_wp2_with (first | (go_at_call 15; go_loud (refine (hrch _ belA).mono ?_; rw [HRC.out]; rintro r wh ⟨rfl, hbh⟩)))
      go_ret
      exact ⟨ret_bool HR.out, belA⟩
  · have tk : (e.kind == 10) = false := by simpa using hk
    rw [show decide (e.kind = 10) = false by simpa using hk, Bool.false_and, Bool.false_or] at hR
    have HB := Lib.hid (by rw [hR]; rfl : Ex.tornL (onM f) (e.sub.drop 0) = R)
    clear hk hR hok hrch
    go_enter Tryz.func16, Tryz.ntmps16
    go_wp2_with (first | (go_at_call 15; go_loud (refine (hrch _ belA).mono ?_; rw [HRC.out]; rintro r wh ⟨rfl, hbh⟩; have hch := bcell hbh; have hzh : w.heap.size + 1 ≤ wh.heap.size := (by have := hbh.size; simpa using this); have hyh : w.heap.size < wh.heap.size := (by omega))))
    refine wp_name fun W0 hW0 => ?_
    have hb0 : Below w.heap.size w W0 := by rw [hW0]; exact belA
    clear hW0
    go_loopw [18] (fun i wr => ∃ k : Nat, k ≤ e.sub.length ∧ i = .int .i64 k ∧ Hid (Ex.tornL (onM f) (e.sub.drop k) = R) ∧ Below w.heap.size w wr) (fun i _ => e.sub.length - (intOf i).toNat)
    case atStart => exact ⟨0, Nat.zero_le _, rfl, HB, hb0⟩
    case round =>
      obtain ⟨k, hk, rfl, hrem, hbel⟩ := hrel
      have hzr := hbel.size
      by_cases hlt : k < e.sub.length
      · have hx : e.sub[k]? = some e.sub[k] := List.getElem?_eq_getElem hlt
        have hmem : e.sub[k] ∈ e.sub := List.getElem_mem hlt
        have hd : e.sub.drop k = e.sub[k] :: e.sub.drop (k + 1) := List.drop_eq_getElem_cons hlt
        generalize e.sub[k] = x at hx hmem hd
        obtain ⟨b, off, A', cap', rfl, c0, c1, c2, c3, hs⟩ := (he.later hbel).get hx
        have ihx := ih x hmem
        have hxf := formed_subs hf x hmem
        have hxok := Ex.OKL_mem hoks x hmem
        have hxz : x.size ≤ 1000000 := by have := Ex.size_mem _ _ _ hx; omega
        have hr := hrem.out
        rw [hd, Ex.tornL] at hr
        clear hd hx hmem hrem
        cases hxr : x.torn (onM f)
        · rw [hxr, Bool.false_or] at hr
          have HXR := Lib.hid hxr
          have HR := Lib.hid hr
          clear hxr hr
          go_wp2_with (first | (go_at_call 16; go_loud (refine (ihx A' cap' _ (hs.later belA) hxf hxok hxz (hm.bel belA)).mono ?_; rw [HXR.out]; rintro r w1 ⟨rfl, hb1⟩)))
          go_roundw
          case rel => exact ⟨k + 1, by omega, by go_num, HR, belA⟩
          case measure => simp [intOf]; try omega
        · rw [hxr, Bool.true_or] at hr
          have HXR := Lib.hid hxr
          have HR := Lib.hid hr
          clear hxr hr
          go_wp2_with (first | (go_at_call 16; go_loud (refine (ihx A' cap' _ (hs.later belA) hxf hxok hxz (hm.bel belA)).mono ?_; rw [HXR.out]; rintro r w1 ⟨rfl, hb1⟩)))
          go_ret
          exact ⟨ret_bool HR.out, belA⟩
      · obtain rfl : k = e.sub.length := by omega
        have hr := hrem.out
        rw [List.drop_length, Ex.tornL] at hr
        have HR := Lib.hid hr
        clear hr hrem
        go_wp2_with fail
        go_ret
        exact ⟨ret_bool HR.out, belA⟩

end Go.Proofs.YtikmbkojnfmiaaaGreatDoorRRRR
