/- What the reference's Check of the start asks is what the program's does. No program of Go in sight. -/
import Derived.Test.YtikmbkojnfmiaaaDoorRRRRBZ
import Derived.Test.YtikmbkojnfmiaaaDoorRRRRWFind
import Derived.Test.YtikmbkojnfmiaaaDoorRRRRCD
set_option linter.unusedVariables false
set_option linter.unusedSimpArgs false
set_option maxRecDepth 100000
namespace Go.Proofs.YtikmbkojnfmiaaaDoorRRRR
open Go.RowKit

theorem looseGo_named {eqs : List Qe} (he : ∀ q ∈ eqs, q.name.toList.isEmpty = false) : ∀ (l : List Int) (out : List ByteArray), (∀ s ∈ out, s.toList.isEmpty = false) → ∀ s ∈ looseGo eqs out l, s.toList.isEmpty = false
  | [], out, ho, s, hs => ho s hs
  | j :: r, out, ho, s, hs => by
    rw [looseGo] at hs
    refine looseGo_named he r _ ?_ s hs
    cases hq : eqs[j.toNat]? with
    | none => exact ho
    | some q =>
      dsimp only
      split
      · intro x hx
        rcases List.mem_append.1 hx with h1 | h1
        · exact ho x h1
        · obtain rfl : x = q.name := by simpa using h1
          exact he q (List.mem_of_getElem? hq)
      · exact ho
theorem eqs_named {p : Pr} (h : wholeB p = true) : ∀ q ∈ p.eqs, q.name.toList.isEmpty = false := fun q hq => by
  have hb := (whole_parts h).2.2.2.2 q hq
  simp only [eqB, Bool.and_eq_true] at hb
  exact nameB_ne hb.1.1
theorem loose_named {p : Pr} (hO : (orderE p).2 = (0, 0, 0)) : ∀ s ∈ (looseE p).1, s.toList.isEmpty = false := by
  have hwh := (clean_parts (clkF_parts (orderE_good hO).1).1).1
  unfold looseE
  rw [if_pos hO]
  refine looseGo_named (eqs_named hwh) _ _ fun s hs => ?_
  unfold presE at hs
  rw [List.mem_map] at hs
  obtain ⟨q, hq, rfl⟩ := hs
  exact eqs_named hwh q (List.mem_filter.1 hq).1
theorem inL_has {LF : List ByteArray} (h : ∀ s ∈ LF, s.toList.isEmpty = false) (s : ByteArray) : inL LF s = hasB LF s := by
  unfold inL
  cases hs : s.toList.isEmpty
  · simp
  · have : hasB LF s = false := hasB_not.2 fun hm => by rw [h s hm] at hs; cases hs
    rw [this]; rfl

/-- What the reference asks. -/
def hangR (t h d r o s : Bool) : Bool := t || h || (d && r) || (o && s)
theorem hangR_ways (t h d r o s : Bool) :
    (t = true ∧ hangR t h d r o s = true) ∨ (t = false ∧ h = true ∧ hangR t h d r o s = true) ∨ (t = false ∧ h = false ∧ d = true ∧ r = true ∧ hangR t h d r o s = true) ∨
    (t = false ∧ h = false ∧ ((d = true ∧ r = false) ∨ d = false) ∧ o = true ∧ s = true ∧ hangR t h d r o s = true) ∨
    (t = false ∧ h = false ∧ ((d = true ∧ r = false) ∨ d = false) ∧ ((o = true ∧ s = false) ∨ o = false) ∧ hangR t h d r o s = false) := by
  revert t h d r o s
  decide
theorem hangR_eq {p : Pr} (hO : (orderE p).2 = (0, 0, 0)) {q : Qe} (hq : q ∈ p.eqs) : ∃ (j : Nat) (v : Va), refFind (varsOf p) q.name = (j : Int) ∧ (varsOf p)[j]? = some v ∧
    hangQ p (looseE p).1 q = hangR (q.e.torn (inL (looseE p).1)) (hasB (looseE p).1 v.cn) (q.delay != 0) (q.e.reach (inL (looseE p).1)) (decide ((j : Int) < (p.ins.length : Int) + (p.outs.length : Int))) (hasB (looseE p).1 q.name) := by
  have hck := (orderE_good hO).1
  have hc := (clkF_parts hck).1
  have hun := (clean_parts hc).2.1
  have hLF := loose_named hO
  obtain ⟨v, hm, hf, hn, hcl, hor⟩ := needs_clock hck hq
  rcases refFind_cases (varsOf p) q.name with ⟨_, hfc⟩ | ⟨j, u, hrf, hx, hfc⟩
  · rw [hf] at hfc; cases hfc
  · rw [hf] at hfc
    obtain rfl : v = u := by injection hfc
    refine ⟨j, v, hrf, hx, ?_⟩
    unfold hangQ hangB hangR
    rw [hcl, inL_has hLF, inL_has hLF]
    dsimp only
    have h1 : (v.ck != 0 && hasB (looseE p).1 v.cn) = hasB (looseE p).1 v.cn := by
      rcases hor with ⟨h0, he⟩ | ⟨h0, _, _⟩
      · have : hasB (looseE p).1 v.cn = false := hasB_not.2 fun hm => by rw [hLF _ hm] at he; cases he
        rw [this, Bool.and_false]
      · have : (v.ck != 0) = true := by simpa using h0
        rw [this, Bool.true_and]
    have h2 : hasB (p.outs.map (·.name)) q.name = decide ((j : Int) < (p.ins.length : Int) + (p.outs.length : Int)) := by
      rw [Bool.eq_iff_iff, hasB_iff, decide_eq_true_eq, List.mem_map]
      constructor
      · rintro ⟨u, hu, hun2⟩
        obtain ⟨i, hi⟩ := List.getElem?_of_mem hu
        have hil := (List.getElem?_eq_some_iff.1 hi).1
        have hi2 : (varsOf p)[p.ins.length + i]? = some u := by
          unfold varsOf
          rw [List.append_assoc, List.getElem?_append_right (by omega), show p.ins.length + i - p.ins.length = i from by omega, List.getElem?_append_left hil]
          exact hi
        have := hun _ _ _ _ hi2 hx (by rw [hun2, hn])
        omega
      · intro hlt
        have hni := (eqs_parts hc).2.1 q hq
        unfold varsOf at hx
        rcases Nat.lt_or_ge j p.ins.length with hj | hj
        · rw [List.append_assoc, List.getElem?_append_left hj] at hx
          exact absurd (List.mem_map.2 ⟨v, List.mem_of_getElem? hx, hn⟩) hni
        · rw [List.append_assoc, List.getElem?_append_right hj, List.getElem?_append_left (by omega)] at hx
          exact ⟨v, List.mem_of_getElem? hx, hn⟩
    rw [h1, h2]
end Go.Proofs.YtikmbkojnfmiaaaDoorRRRR

/- Which variables are loose, said without the document's answer. No program of Go in sight. -/
namespace Go.Proofs.YtikmbkojnfmiaaaDoorRRRR
open Go.RowKit

theorem looseGo_mono {eqs : List Qe} : ∀ (l : List Int) (out : List ByteArray), ∀ s ∈ out, s ∈ looseGo eqs out l
  | [], out, s, hs => hs
  | j :: r, out, s, hs => by
    rw [looseGo]
    refine looseGo_mono r _ s ?_
    cases eqs[j.toNat]? with
    | none => exact hs
    | some q =>
      dsimp only
      split
      · exact List.mem_append.2 (.inl hs)
      · exact hs
/-- Where a loose name comes from. -/
theorem looseGo_from {eqs : List Qe} : ∀ (l : List Int) (out : List ByteArray), ∀ s ∈ looseGo eqs out l, s ∈ out ∨ ∃ (j : Int) (q : Qe) (o : List ByteArray), j ∈ l ∧ eqs[j.toNat]? = some q ∧ q.name = s ∧ q.e.reach (inL o) = true ∧ ∀ x ∈ o, x ∈ looseGo eqs out l
  | [], out, s, hs => .inl hs
  | j :: r, out, s, hs => by
    rw [looseGo] at hs
    cases hq : eqs[j.toNat]? with
    | none =>
      rw [hq] at hs
      rcases looseGo_from r _ s hs with h | ⟨j', q, o, h1, h2, h3, h4, h5⟩
      · exact .inl h
      · refine .inr ⟨j', q, o, by simp [h1], h2, h3, h4, ?_⟩
        rw [looseGo, hq]
        exact h5
    | some q =>
      rw [hq] at hs
      dsimp only at hs
      by_cases hr : q.e.reach (inL out) = true
      · rw [if_pos hr] at hs
        rcases looseGo_from r _ s hs with h | ⟨j', q', o, h1, h2, h3, h4, h5⟩
        · rcases List.mem_append.1 h with h | h
          · exact .inl h
          · have hsq : s = q.name := by simpa using h
            refine .inr ⟨j, q, out, by simp, hq, hsq.symm, hr, fun x hx => ?_⟩
            exact looseGo_mono (j :: r) out x hx
        · refine .inr ⟨j', q', o, by simp [h1], h2, h3, h4, ?_⟩
          rw [looseGo, hq]
          dsimp only
          rw [if_pos hr]
          exact h5
      · rw [if_neg hr] at hs
        rcases looseGo_from r _ s hs with h | ⟨j', q', o, h1, h2, h3, h4, h5⟩
        · exact .inl h
        · refine .inr ⟨j', q', o, by simp [h1], h2, h3, h4, ?_⟩
          rw [looseGo, hq]
          dsimp only
          rw [if_neg hr]
          exact h5

namespace Ex
theorem named_mono (e : Ex) : ∀ l s, s ∈ l → s ∈ named l e := by
  induction e using ind with
  | h e ih =>
    intro l s hs
    rw [named_eq]
    have h0 : s ∈ addN l e.name := by
      unfold addN
      split
      · exact hs
      · split
        · exact hs
        · exact List.mem_append.2 (.inl hs)
    have : ∀ (r : List Ex), (∀ x ∈ r, ∀ l s, s ∈ l → s ∈ named l x) → ∀ l s, s ∈ l → s ∈ namedL l r := by
      intro r
      induction r with
      | nil => exact fun _ l s hs => by rw [namedL]; exact hs
      | cons x r ihr =>
        intro h l s hs
        rw [namedL]
        exact ihr (fun y hy => h y (by simp [hy])) _ s (h x (by simp) l s hs)
    exact this e.sub ih _ s h0
theorem namedL_mono : ∀ (r : List Ex) (l : List ByteArray), ∀ s ∈ l, s ∈ namedL l r
  | [], l, s, hs => by rw [namedL]; exact hs
  | x :: r, l, s, hs => by rw [namedL]; exact namedL_mono r _ s (named_mono x l s hs)
/-- What an expression hangs on it names. -/
theorem reach_named {g : ByteArray → Bool} (hg : ∀ s, g s = true → s.toList.isEmpty = false) (e : Ex) : ∀ l, e.reach g = true → ∃ s, g s = true ∧ s ∈ named l e := by
  induction e using ind with
  | h e ih =>
    intro l hr
    rw [reach_eq, Bool.or_eq_true] at hr
    rw [named_eq]
    rcases hr with h | h
    · refine ⟨e.name, h, namedL_mono _ _ _ ?_⟩
      unfold addN
      rw [hg _ h, if_neg (by simp)]
      by_cases hh : hasB l e.name = true
      · rw [if_pos hh]; exact hasB_iff.1 hh
      · rw [if_neg hh]; simp
    · have hL : reachL g e.sub = true := by
        by_cases hk : e.kind = 7
        · rw [if_pos hk] at h
          cases hs : e.sub with
          | nil => rw [hs] at h; simp [reachF] at h
          | cons x r => rw [hs, reachF] at h; rw [reachL, h]; rfl
        · rw [if_neg hk] at h; exact h
      have : ∀ (r : List Ex), (∀ x ∈ r, ∀ l, x.reach g = true → ∃ s, g s = true ∧ s ∈ named l x) → reachL g r = true → ∀ l, ∃ s, g s = true ∧ s ∈ namedL l r := by
        intro r
        induction r with
        | nil => exact fun _ h => by simp [reachL] at h
        | cons x r ihr =>
          intro hx h l
          rw [reachL, Bool.or_eq_true] at h
          rw [namedL]
          rcases h with h | h
          · obtain ⟨s, h1, h2⟩ := hx x (by simp) l h
            exact ⟨s, h1, namedL_mono _ _ _ h2⟩
          · exact ihr (fun y hy => hx y (by simp [hy])) h _
      exact this e.sub ih hL _
end Ex

/-- What is loose in a program that has an order. -/
theorem loose_why {p : Pr} (hO : (orderE p).2 = (0, 0, 0)) {q : Qe} (hq : q ∈ p.eqs) :
    (q.delay = 2 → inL (looseE p).1 q.name = true) ∧ (q.delay ≠ 0 → q.delay ≠ 2 → inL (looseE p).1 q.name = false) ∧
    (q.delay = 0 → inL (looseE p).1 q.name = true → ∃ s ∈ needsF q.e, inL (looseE p).1 s = true) := by
  have hck := (orderE_good hO).1
  have hc := (clkF_parts hck).1
  have hLF := loose_named hO
  obtain ⟨hpw, _, _⟩ := eqs_parts hc
  have hgood := (orderE_good hO).2.2
  have hplain : ∀ (i : Nat) (j : Int), (orderE p).1[i]? = some j → ∀ x, p.eqs[j.toNat]? = some x → x.delay = 0 := by
    intro i j hi x hx
    unfold orderE at hi hO
    rw [if_pos hck] at hi hO
    rcases orderR_cases hc with ⟨res, h1, _, h3⟩ | ⟨out, m, y, h1, _⟩
    · rw [h1] at hi
      obtain ⟨_, y, hy, hn, _⟩ := h3 i j hi
      rw [hx] at hy
      obtain rfl : x = y := by injection hy
      exact plain_of (List.mem_of_getElem? hx) hn
    · rw [h1] at hi
      simp at hi
  have hE : (looseE p).1 = looseGo p.eqs (presE p.eqs) (orderE p).1 := by unfold looseE; rw [if_pos hO]
  have hfrom : inL (looseE p).1 q.name = true → q.delay = 2 ∨ (q.delay = 0 ∧ ∃ o, q.e.reach (inL o) = true ∧ ∀ x ∈ o, x ∈ (looseE p).1) := by
    intro h
    rw [inL_has hLF, hasB_iff, hE] at h
    obtain ⟨i, hi⟩ := List.getElem?_of_mem hq
    rcases looseGo_from _ _ _ h with h1 | ⟨j, x, o, h1, h2, h3, h4, h5⟩
    · unfold presE at h1
      rw [List.mem_map] at h1
      obtain ⟨x, hx, hn⟩ := h1
      rw [List.mem_filter] at hx
      obtain ⟨i', hi'⟩ := List.getElem?_of_mem hx.1
      obtain rfl := pair_eq hpw hi' hi hn
      rw [hi] at hi'
      obtain rfl : q = x := by injection hi'
      exact .inl (by simpa using hx.2)
    · obtain rfl := pair_eq hpw h2 hi h3
      rw [hi] at h2
      obtain rfl : q = x := by injection h2
      obtain ⟨i', hi'⟩ := List.getElem?_of_mem h1
      exact .inr ⟨hplain i' j hi' q hi, o, h4, by rw [hE]; exact h5⟩
  refine ⟨fun h2 => ?_, fun h0 h2 => ?_, fun h0 h => ?_⟩
  · rw [inL_has hLF, hasB_iff, hE]
    refine looseGo_mono _ _ _ ?_
    unfold presE
    exact List.mem_map.2 ⟨q, List.mem_filter.2 ⟨hq, by simpa using h2⟩, rfl⟩
  · cases h : inL (looseE p).1 q.name
    · rfl
    · rcases hfrom h with h1 | h1
      · exact absurd h1 h2
      · exact absurd h1.1 h0
  · rcases hfrom h with h1 | ⟨_, o, hr, ho⟩
    · omega
    · obtain ⟨s, hs1, hs2⟩ := Ex.reach_named (g := inL o) (fun s h => by unfold inL at h; simp only [Bool.and_eq_true] at h; simpa using h.1) q.e [] hr
      have hz : ¬ 120 < q.e.count 121 := by
        have h1 := (eqB_parts ((whole_parts (clean_parts hc).1).2.2.2.2 q hq)).2.2.1
        have h2 := count_le q.e 121
        omega
      refine ⟨s, by unfold needsF; rw [if_neg hz]; exact hs2, ?_⟩
      rw [inL_has hLF, hasB_iff]
      refine ho s ?_
      unfold inL at hs1
      rw [Bool.and_eq_true] at hs1
      exact hasB_iff.1 hs1.2
/-- No input is loose. -/
theorem loose_ins {p : Pr} (hO : (orderE p).2 = (0, 0, 0)) {v : Va} (hv : v ∈ p.ins) : inL (looseE p).1 v.name = false := by
  have hc := (clkF_parts (orderE_good hO).1).1
  have hLF := loose_named hO
  obtain ⟨_, hin, _⟩ := eqs_parts hc
  rw [inL_has hLF]
  refine hasB_not.2 fun hm => ?_
  have hE : (looseE p).1 = looseGo p.eqs (presE p.eqs) (orderE p).1 := by unfold looseE; rw [if_pos hO]
  rw [hE] at hm
  rcases looseGo_from _ _ _ hm with h1 | ⟨j, x, o, h1, h2, h3, _⟩
  · unfold presE at h1
    rw [List.mem_map] at h1
    obtain ⟨x, hx, hn⟩ := h1
    exact hin x (List.mem_filter.1 hx).1 (List.mem_map.2 ⟨v, hv, hn.symm⟩)
  · exact hin x (List.mem_of_getElem? h2) (List.mem_map.2 ⟨v, hv, h3.symm⟩)
end Go.Proofs.YtikmbkojnfmiaaaDoorRRRR

/- What a program is in which nothing hangs on what has no value at first. No program of Go in sight. -/
namespace Go.Proofs.YtikmbkojnfmiaaaDoorRRRR
open Go.RowKit

theorem startGo_zero {h : Qe → Bool} : ∀ (l : List Qe) (k : Nat), startGo h k l = (0, 0, 0) → ∀ q ∈ l, h q = false
  | [], _, _, q, hq => by simp at hq
  | x :: r, k, hs, q, hq => by
    rw [startGo] at hs
    by_cases hx : h x = true
    · rw [if_pos hx] at hs
      simp at hs
    · rw [if_neg hx] at hs
      rcases List.mem_cons.1 hq with rfl | hq
      · simpa using hx
      · exact startGo_zero r (k + 1) hs q hq
theorem variable_plain {v : Va} (h : variableB v false = true) : v.cn.toList.isEmpty = true := by
  simp only [variableB, Bool.and_eq_true] at h
  have h3 := h.2
  by_cases h0 : v.ck = 0
  · rw [if_pos h0] at h3; exact h3
  · rw [if_neg h0] at h3
    by_cases h1 : v.ck = 1 ∨ v.ck = 2
    · rw [if_pos h1] at h3; simp at h3
    · rw [if_neg h1] at h3; simp at h3
theorem vars_same {p : Pr} (hc : checkF p = (0, 0, 0)) {u v : Va} (hu : u ∈ varsOf p) (hv : v ∈ varsOf p) (hn : u.name = v.name) : u = v := by
  obtain ⟨i, hi⟩ := List.getElem?_of_mem hu
  obtain ⟨j, hj⟩ := List.getElem?_of_mem hv
  have := (clean_parts hc).2.1 i j u v hi hj hn
  subst this
  rw [hi] at hj
  injection hj
/-- No output is loose, and no truth by which a clock goes. -/
theorem outs_clean {p : Pr} (h : startF p = (0, 0, 0)) : (orderE p).2 = (0, 0, 0) ∧ (∀ v ∈ p.ins ++ p.outs, inL (looseE p).1 v.name = false) ∧ ∀ v ∈ varsOf p, v.cn.toList.isEmpty = false → inL (looseE p).1 v.cn = false := by
  unfold startF at h
  by_cases hO : (orderE p).2 = (0, 0, 0)
  · rw [if_pos hO] at h
    have hck := (orderE_good hO).1
    have hc := (clkF_parts hck).1
    have hwh := (clean_parts hc).1
    have hwh2 := hwh
    simp only [wholeB, Bool.and_eq_true, List.all_eq_true] at hwh2
    have hz := startGo_zero _ _ h
    obtain ⟨_, hin, hvar⟩ := eqs_parts hc
    refine ⟨hO, fun v hv => ?_, fun v hv hne => ?_⟩
    · rcases List.mem_append.1 hv with h1 | h1
      · exact loose_ins hO h1
      · have hvm : v ∈ varsOf p := by simp [varsOf, h1]
        rcases hvar v hvm with h2 | ⟨q, hq, hqn⟩
        · obtain ⟨u, hu, hun⟩ := List.mem_map.1 h2
          have := vars_same hc (by simp [varsOf, hu]) hvm hun
          subst this
          exact loose_ins hO hu
        · have hh := hz q hq
          unfold hangQ hangB at hh
          simp only [Bool.or_eq_false_iff, Bool.and_eq_false_iff] at hh
          rw [← hqn]
          rcases hh.2 with h3 | h3
          · exact absurd (hasB_iff.2 (List.mem_map.2 ⟨v, h1, hqn.symm⟩)) (by rw [h3]; simp)
          · exact h3
    · have hnin : v ∉ p.ins := fun hi => by rw [variable_plain (hwh2.1.1.1.2 v hi)] at hne; cases hne
      rcases hvar v hv with h2 | ⟨q, hq, hqn⟩
      · obtain ⟨u, hu, hun⟩ := List.mem_map.1 h2
        have := vars_same hc (by simp [varsOf, hu]) hv hun
        subst this
        exact absurd hu hnin
      · obtain ⟨v', hm, _, hn', hcl, hor⟩ := needs_clock hck hq
        have := vars_same hc hm hv (hn'.trans hqn)
        subst this
        have hh := hz q hq
        unfold hangQ hangB at hh
        rw [hcl] at hh
        simp only [Bool.or_eq_false_iff, Bool.and_eq_false_iff] at hh
        rcases hor with ⟨_, h4⟩ | ⟨h4, _, _⟩
        · rw [h4] at hne; cases hne
        · rcases hh.1.1.2 with h5 | h5
          · exact absurd h5 (by simpa using h4)
          · exact h5
  · rw [if_neg hO] at h
    exact absurd h hO
end Go.Proofs.YtikmbkojnfmiaaaDoorRRRR

/- What the laws of the start ask of a list of truths. No program of Go in sight. -/
namespace Go.Proofs.YtikmbkojnfmiaaaDoorRRRR
open Go.RowKit

/-- Which variables are loose, in their order. -/
def isB (L : List Va) (B : List Bool) (s : ByteArray) : Bool := match findV L s with | some k => (B[k.toNat]?).getD false | none => false
theorem loose_eq {p : Pr} (hO : (orderE p).2 = (0, 0, 0)) {s : ByteArray} (h : inL (looseE p).1 s = true) : ∃ q ∈ p.eqs, q.name = s := by
  have hLF := loose_named hO
  have hE : (looseE p).1 = looseGo p.eqs (presE p.eqs) (orderE p).1 := by unfold looseE; rw [if_pos hO]
  rw [inL_has hLF, hasB_iff, hE] at h
  rcases looseGo_from _ _ _ h with h1 | ⟨j, x, o, h1, h2, h3, _⟩
  · unfold presE at h1
    rw [List.mem_map] at h1
    obtain ⟨x, hx, hn⟩ := h1
    exact ⟨x, (List.mem_filter.1 hx).1, hn⟩
  · exact ⟨x, List.mem_of_getElem? h2, h3⟩
theorem isB_loose {p : Pr} (hO : (orderE p).2 = (0, 0, 0)) (s : ByteArray) : isB (varsOf p) ((varsOf p).map (fun v => inL (looseE p).1 v.name)) s = inL (looseE p).1 s := by
  have hc := (clkF_parts (orderE_good hO).1).1
  unfold isB
  cases hf : findV (varsOf p) s with
  | none =>
    dsimp only
    cases hi : inL (looseE p).1 s
    · rfl
    · obtain ⟨q, hq, hn⟩ := loose_eq hO hi
      obtain ⟨j, hj⟩ := check_found hc q hq
      rw [hn, hf] at hj
      cases hj
  | some j =>
    obtain ⟨k, v, rfl, hk, hn⟩ := findV_some hf
    dsimp only
    rw [Int.toNat_natCast, List.getElem?_map, hk]
    show inL (looseE p).1 v.name = _
    rw [hn]
/-- The laws' question of an equation. -/
theorem reaches_q {p : Pr} (hO : (orderE p).2 = (0, 0, 0)) {q : Qe} (hq : q ∈ p.eqs) : ∃ (j : Nat) (x : Bool), refFind (varsOf p) q.name = (j : Int) ∧ ((varsOf p).map (fun v => inL (looseE p).1 v.name))[j]? = some x ∧
    ((q.delay == 2) = true → x = true) ∧ ((q.delay == 1) = true → x = false) ∧ ((q.delay == 0) = true → x = true → (needsF q.e).any (inL (looseE p).1) = true) := by
  have hc := (clkF_parts (orderE_good hO).1).1
  obtain ⟨j, hj⟩ := check_found hc q hq
  obtain ⟨k, v, rfl, hk, hn⟩ := findV_some hj
  obtain ⟨h1, h2, h3⟩ := loose_why hO hq
  refine ⟨k, inL (looseE p).1 q.name, by unfold refFind; rw [hj]; rfl, by rw [List.getElem?_map, hk, ← hn]; rfl, fun h => h1 (by simpa using h), fun h => ?_, fun h hx => ?_⟩
  · have : q.delay = 1 := by simpa using h
    exact h2 (by omega) (by omega)
  · obtain ⟨s, hs, hi⟩ := h3 (by simpa using h) hx
    exact List.any_eq_true.2 ⟨s, hs, hi⟩
theorem reaches_ins {p : Pr} (hO : (orderE p).2 = (0, 0, 0)) {k : Nat} {x : Bool} (hk : k < p.ins.length) (h : ((varsOf p).map (fun v => inL (looseE p).1 v.name))[k]? = some x) : x = false := by
  rw [List.getElem?_map] at h
  have : (varsOf p)[k]? = p.ins[k]? := by unfold varsOf; rw [List.append_assoc, List.getElem?_append_left hk]
  rw [this, List.getElem?_eq_getElem hk] at h
  simp only [Option.map_some, Option.some.injEq] at h
  rw [← h]
  exact loose_ins hO (List.getElem_mem hk)
theorem outs_q {p : Pr} (h : startF p = (0, 0, 0)) {k : Nat} {x : Bool} (hk : k < p.ins.length + p.outs.length) (hx : ((varsOf p).map (fun v => inL (looseE p).1 v.name))[k]? = some x) : x = false := by
  obtain ⟨_, h1, _⟩ := outs_clean h
  rw [List.getElem?_map] at hx
  have hl : k < (p.ins ++ p.outs).length := by simpa using hk
  have : (varsOf p)[k]? = (p.ins ++ p.outs)[k]? := by unfold varsOf; rw [List.getElem?_append_left hl]
  rw [this, List.getElem?_eq_getElem hl] at hx
  simp only [Option.map_some, Option.some.injEq] at hx
  rw [← hx]
  exact h1 _ (List.getElem_mem hl)
theorem outs_c {p : Pr} (h : startF p = (0, 0, 0)) {v : Va} (hv : v ∈ varsOf p) (hne : v.cn.toList.isEmpty = false) : isB (varsOf p) ((varsOf p).map (fun v => inL (looseE p).1 v.name)) v.cn = false := by
  obtain ⟨hO, _, h2⟩ := outs_clean h
  rw [isB_loose hO]
  exact h2 v hv hne
end Go.Proofs.YtikmbkojnfmiaaaDoorRRRR

/- The program in which each pre begins with 0 or false instead: nothing of it is loose. No program of Go in sight. -/
namespace Go.Proofs.YtikmbkojnfmiaaaDoorRRRR
open Go.RowKit

/-- Is the variable of a name a truth? -/
def truthV (L : List Va) (s : ByteArray) : Bool := match findV L s with | some j => (match L[j.toNat]? with | some v => v.type == 2 | none => false) | none => false
/-- The literal with which it begins. -/
def zeroX (L : List Va) (s : ByteArray) : Ex := .mk (if truthV L s = true then 2 else 1) 0 ⟨#[]⟩ []
def fixQ (L : List Va) (q : Qe) : Qe := if (q.delay != 2) = true then q else ⟨q.name, 1, zeroX L q.name, q.e⟩
def fixP (p : Pr) : Pr := ⟨p.name, p.ins, p.outs, p.locals, p.eqs.map (fixQ (varsOf p))⟩

theorem fixQ_pre (L : List Va) (q : Qe) : ((fixQ L q).delay == 2) = false := by
  unfold fixQ
  by_cases h : (q.delay != 2) = true
  · rw [if_pos h]; simpa using h
  · rw [if_neg h]; rfl
theorem fix_pres (L : List Va) : ∀ l : List Qe, presE (l.map (fixQ L)) = []
  | [] => rfl
  | q :: l => by
    have ih := fix_pres L l
    unfold presE at ih ⊢
    rw [List.map_cons, List.filter_cons, if_neg (by rw [fixQ_pre]; simp)]
    exact ih
namespace Ex
theorem reach_none {g : ByteArray → Bool} (hg : ∀ s, g s = false) (e : Ex) : e.reach g = false := by
  induction e using ind with
  | h e ih =>
    rw [reach_eq, hg, Bool.false_or]
    split
    · cases hs : e.sub with
      | nil => rw [reachF]
      | cons x r => rw [reachF]; exact ih x (by simp [hs])
    · have : ∀ r : List Ex, (∀ x ∈ r, x.reach g = false) → reachL g r = false := by
        intro r
        induction r with
        | nil => exact fun _ => by rw [reachL]
        | cons x r ihr => exact fun h => by rw [reachL, h x (by simp), Bool.false_or]; exact ihr fun y hy => h y (by simp [hy])
      exact this e.sub ih
theorem torn_none {g : ByteArray → Bool} (hg : ∀ s, g s = false) (e : Ex) : e.torn g = false := by
  induction e using ind with
  | h e ih =>
    rw [torn_eq, reach_none hg, Bool.and_false, Bool.false_or]
    have : ∀ r : List Ex, (∀ x ∈ r, x.torn g = false) → tornL g r = false := by
      intro r
      induction r with
      | nil => exact fun _ => by rw [tornL]
      | cons x r ihr => exact fun h => by rw [tornL, h x (by simp), Bool.false_or]; exact ihr fun y hy => h y (by simp [hy])
    exact this e.sub ih
end Ex
theorem inL_nil (s : ByteArray) : inL [] s = false := by unfold inL hasB; simp
theorem looseGo_nil (eqs : List Qe) : ∀ l : List Int, looseGo eqs [] l = []
  | [] => rfl
  | j :: r => by
    rw [looseGo]
    have : ∀ o : List ByteArray, o = [] → looseGo eqs o r = [] := fun o ho => by rw [ho]; exact looseGo_nil eqs r
    refine this _ ?_
    cases eqs[j.toNat]? with
    | none => rfl
    | some q =>
      dsimp only
      rw [Ex.reach_none inL_nil, if_neg (by simp)]
theorem startGo_none {h : Qe → Bool} (hh : ∀ q, h q = false) : ∀ (l : List Qe) (k : Nat), startGo h k l = (0, 0, 0)
  | [], _ => rfl
  | q :: l, k => by rw [startGo, hh, if_neg (by simp)]; exact startGo_none hh l (k + 1)
/-- Nothing of it is loose, and it has no fault here but that of its order. -/
theorem fix_loose (p : Pr) : (looseE (fixP p)).1 = [] := by
  unfold looseE
  split
  · show looseGo (p.eqs.map (fixQ (varsOf p))) (presE (p.eqs.map (fixQ (varsOf p)))) _ = []
    rw [fix_pres, looseGo_nil]
  · rfl
theorem fix_start (p : Pr) : startF (fixP p) = (orderE (fixP p)).2 := by
  unfold startF
  split
  · rename_i h
    rw [h, fix_loose]
    refine startGo_none (fun q => ?_) _ _
    unfold hangQ hangB
    rw [Ex.torn_none inL_nil, Ex.reach_none inL_nil, inL_nil, inL_nil]
    simp
  · rfl

/-- The equations while they are changed: the first k of them are. -/
def fixL (L : List Va) (k : Nat) (l : List Qe) : List Qe := (l.take k).map (fixQ L) ++ l.drop k
theorem fixL_len (L : List Va) (k : Nat) (l : List Qe) : (fixL L k l).length = l.length := by
  unfold fixL
  simp
  omega
theorem fixL_zero (L : List Va) (l : List Qe) : fixL L 0 l = l := by unfold fixL; simp
theorem fixL_all (L : List Va) (l : List Qe) : fixL L l.length l = l.map (fixQ L) := by unfold fixL; simp
theorem fixL_at {L : List Va} {k : Nat} {l : List Qe} {q : Qe} (h : l[k]? = some q) : (fixL L k l)[k]? = some q := by
  have hk := (List.getElem?_eq_some_iff.1 h).1
  unfold fixL
  rw [List.getElem?_append_right (by simp; omega)]
  simp
  rw [show k - min k l.length = 0 from by omega]
  simpa using h
theorem fixL_step {L : List Va} {k : Nat} {l : List Qe} {q : Qe} (h : l[k]? = some q) : fixL L (k + 1) l = (fixL L k l).set k (fixQ L q) := by
  have hk := (List.getElem?_eq_some_iff.1 h).1
  apply List.ext_getElem?
  intro i
  rw [List.getElem?_set]
  have hlen := fixL_len L k l
  have hlt : ∀ j, j < k + 1 → j < l.length := fun j hj => by omega
  unfold fixL
  by_cases h1 : i = k
  · subst h1
    rw [if_pos rfl, if_pos (by unfold fixL at hlen; omega), List.getElem?_append_left (by simp; omega), List.getElem?_map, List.getElem?_take_of_lt (by omega), h]
    rfl
  · rw [if_neg (fun e => h1 e.symm)]
    rcases Nat.lt_or_ge i k with h2 | h2
    · rw [List.getElem?_append_left (by simp; omega), List.getElem?_append_left (by simp; omega), List.getElem?_map, List.getElem?_map, List.getElem?_take_of_lt (by omega), List.getElem?_take_of_lt (by omega)]
    · rw [List.getElem?_append_right (by simp; omega), List.getElem?_append_right (by simp; omega), List.getElem?_drop, List.getElem?_drop]
      congr 1
      simp
      omega
theorem fixL_same {L : List Va} {k : Nat} {l : List Qe} {q : Qe} (h : l[k]? = some q) (hq : (q.delay != 2) = true) : fixL L (k + 1) l = fixL L k l := by
  rw [fixL_step h, show fixQ L q = q from by unfold fixQ; rw [if_pos hq]]
  apply List.ext_getElem?
  intro i
  rw [List.getElem?_set]
  split
  · rename_i h1
    subst h1
    rw [if_pos (by rw [fixL_len]; exact (List.getElem?_eq_some_iff.1 h).1), fixL_at h]
  · rfl
end Go.Proofs.YtikmbkojnfmiaaaDoorRRRR

/- Walk over the laws' is: whether the variable of a name is loose. -/
namespace Go.Proofs.YtikmbkojnfmiaaaDoorRRRR
open Go.RowKit Go.Sort

set_option maxHeartbeats 1000000 in
theorem is_any (L : List Va) (A : Option Addr) (cap : Nat) (B : List Bool) (Ab : Option Addr) (cb : Nat) (s : ByteArray) (w : World) (hl : VarsAt w L A cap) (hb : BoolsAt w B Ab cb) :
    Calls Tryd.prog 15 #[.slice Ab B.length cb, .slice A L.length cap, .string s] w fun r w' => r = .returned (.bool (isB L B s)) ∧ Below w.heap.size w w' := by
  have hfind := fun W h => refFind_any L A cap s W (hl.later h)
  have hlen := hl.len
  unfold maxLen at hlen
  obtain ⟨hlen1, hlen2⟩ := hlen
  have hb1 := hb.1
  have hb2 := hb.2.1
  unfold maxLen at hb2
  cases hfv : findV L s with
  | none =>
    have hv : isB L B s = false := by unfold isB; rw [hfv]
    have hrf : refFind L s = -1 := by unfold refFind; rw [hfv]; rfl
    rw [hrf] at hfind
    clear hfv hrf hb
    have HV := Lib.hid hv; clear hv
    go_enter Tryd.func15, Tryd.ntmps15
    go_wp2_with (first | (go_at_call 10; refine (hfind _ belA).mono ?_; rintro r w1 ⟨rfl, hb1⟩; have hc1 := bcell hb1; have hz1 := hb1.size; (try simp at hz1); (try have hy1 := lt0 w w1); (try have hy2 := ltA w 1 w1); (try have hy3 := ltA w 2 w1); (try have hy4 := lt0 wr w1); (try have hy5 := ltA wr 1 w1)))
    go_ret
    exact ⟨ret_bool HV.out.symm, belA⟩
  | some j =>
    obtain ⟨k, v, rfl, hk, hn⟩ := findV_some hfv
    have hrf : refFind L s = (k : Int) := by unfold refFind; rw [hfv]; rfl
    rw [hrf] at hfind
    have hkl : k < L.length := (List.getElem?_eq_some_iff.1 hk).1
    have t0 : ¬ ((k : Int) < 0) := by omega
    by_cases hlt : k < B.length
    · have hx : B[k]? = some B[k] := List.getElem?_eq_getElem hlt
      generalize B[k] = x at hx
      have hv : isB L B s = x := by unfold isB; rw [hfv]; simp [hx]
      obtain ⟨b, off, rfl, hbb, d0⟩ := hb.get hx
      clear hfv hrf hb hx hk hn
      have HV := Lib.hid hv; clear hv
      go_enter Tryd.func15, Tryd.ntmps15
      go_wp2_with (first | (go_at_call 10; refine (hfind _ belA).mono ?_; rintro r w1 ⟨rfl, hb1⟩; have hc1 := bcell hb1; have hz1 := hb1.size; (try simp at hz1); (try have hy1 := lt0 w w1); (try have hy2 := ltA w 1 w1); (try have hy3 := ltA w 2 w1); (try have hy4 := lt0 wr w1); (try have hy5 := ltA wr 1 w1)))
      go_ret
      exact ⟨ret_bool HV.out.symm, belA⟩
    · have hv : isB L B s = false := by unfold isB; rw [hfv]; simp [List.getElem?_eq_none (Nat.le_of_not_lt hlt)]
      clear hfv hrf hb hk hn
      have HV := Lib.hid hv; clear hv
      go_enter Tryd.func15, Tryd.ntmps15
      go_wp2_with (first | (go_at_call 10; refine (hfind _ belA).mono ?_; rintro r w1 ⟨rfl, hb1⟩; have hc1 := bcell hb1; have hz1 := hb1.size; (try simp at hz1); (try have hy1 := lt0 w w1); (try have hy2 := ltA w 1 w1); (try have hy3 := ltA w 2 w1); (try have hy4 := lt0 wr w1); (try have hy5 := ltA wr 1 w1)))
      go_ret
      exact ⟨ret_bool HV.out.symm, belA⟩

end Go.Proofs.YtikmbkojnfmiaaaDoorRRRR
