/- The variables that have other names. No program of Go in sight. -/
import Derived.Test.YtikmbkojnfmiaaaGreatDoorRRRRBG
import Derived.Test.YtikmbkojnfmiaaaGreatDoorRRRRBB
set_option linter.unusedVariables false
set_option linter.unusedSimpArgs false
set_option maxRecDepth 100000
namespace Go.Proofs.YtikmbkojnfmiaaaGreatDoorRRRR
open Go.RowKit

theorem findC_of_I : ∀ (l : List Va) (s : ByteArray) (i : Int), findI l s i = none → findC l s = none
  | [], _, _, _ => rfl
  | v :: l, s, i, h => by
    unfold findI at h
    split at h
    · cases h
    · rename_i hn
      rw [findC, if_neg, findC_of_I l s (i + 1) h]
      rw [eqS_iff]
      intro he
      exact hn (by rw [he])
/-- Those of some variables whose names are not among others. -/
def keepF (l : List Va) : List Va → List Va
  | [] => []
  | v :: m => if findV l v.name = none then v :: keepF l m else keepF l m
theorem keepF_mem {l : List Va} : ∀ {m : List Va} {v : Va}, v ∈ keepF l m → findV l v.name = none
  | [], v, h => by cases h
  | u :: m, v, h => by
    unfold keepF at h
    split at h
    · rename_i hu
      rcases List.mem_cons.1 h with rfl | h
      · exact hu
      · exact keepF_mem h
    · exact keepF_mem h
theorem keepF_len (l : List Va) : ∀ m : List Va, (keepF l m).length ≤ m.length
  | [] => by simp [keepF]
  | u :: m => by
    have := keepF_len l m
    unfold keepF
    split
    · simp; omega
    · simp; omega
/-- ClocksMore, in plain Lean. -/
theorem more_law {l m : List Va} {e : Ex} {c : Int × ByteArray} (h : clkOf l e c = 0) : clkOf (keepF l m ++ l) e c = 0 := by
  unfold clkOf at h ⊢
  by_cases hr : e.right = 0
  · rw [if_neg (by omega)] at h ⊢
    exact clk_more l _ (fun v hv => findC_of_I l v.name 0 (keepF_mem hv)) e c h
  · rw [if_pos hr] at h; exact absurd h hr
/-- The reference's Find. -/
def refFind (l : List Va) (s : ByteArray) : Int := (findV l s).getD (-1)
theorem findI_hit {x : Va} {l : List Va} {s : ByteArray} {i : Int} (h : (x.name.toList == s.toList) = true) : findI (x :: l) s i = some i := by
  rw [eqS_iff] at h
  unfold findI
  rw [if_pos (by rw [h])]
theorem findI_miss {x : Va} {l : List Va} {s : ByteArray} {i : Int} (h : (x.name.toList == s.toList) = false) : findI (x :: l) s i = findI l s (i + 1) := by
  have hn : ¬ s.data = x.name.data := by
    intro he
    have : x.name = s := by ext1; exact he.symm
    rw [this] at h
    simp at h
  rw [findI, if_neg hn]
end Go.Proofs.YtikmbkojnfmiaaaGreatDoorRRRR

/- The reference's types of expressions are those of the package kinds. No program of Go in sight. -/
namespace Go.Proofs.YtikmbkojnfmiaaaGreatDoorRRRR
open Go.RowKit

/-- both. -/
def bothK (a b : Int) : Int := if a = b then a else 0
/-- made. -/
def madeK (op t : Int) : Int :=
  if t = 0 then 0 else if 8 ≤ op ∧ op ≤ 10 then t else if op = 11 ∨ op = 12 then 2 else if t ≠ 1 then 0 else if op ≤ 7 then 1 else 2
/-- The number that the reference's of has before its last test. -/
def kR (k n named : Int) (ts : List Int) : Int :=
  if k = 1 then 1 else if k = 2 then 2 else if k = 3 then named
  else if k = 4 then (if n = 1 ∧ ts.getD 0 0 = 1 ∨ n = 2 ∧ ts.getD 0 0 = 2 then ts.getD 0 0 else 0)
  else if k = 5 then madeK n (bothK (ts.getD 0 0) (ts.getD 1 0))
  else if k = 6 then (if ts.getD 0 0 = 2 then bothK (ts.getD 1 0) (ts.getD 2 0) else 0)
  else if k = 7 then bothK (ts.getD 0 0) (ts.getD 1 0)
  else if k = 8 ∨ k = 9 then (if named = 2 then ts.getD 0 0 else 0)
  else if k = 10 then (if named = 2 then bothK (ts.getD 0 0) (ts.getD 1 0) else 0)
  else 0
/-- Its last test. -/
def endR (k : Int) : Int × Int := if k = 1 ∨ k = 2 then (k, 0) else (0, 20)

theorem endK_zero {out : Int} {ok : Bool} : (endK out ok).2 = 0 → (endK out ok).1 = 1 ∨ (endK out ok).1 = 2 := by
  unfold endK
  split
  · rename_i h; intro _; exact h.2
  · intro h; simp at h
theorem typ_ok {l : List Va} {e : Ex} (h : (e.typ l).2 = 0) : (e.typ l).1 = 1 ∨ (e.typ l).1 = 2 := by
  rw [Ex.typ_eq] at h ⊢
  split at h
  · rename_i h0
    rw [if_pos h0]
    unfold typK at h ⊢
    split at h
    · simp at h
    · rename_i h1
      rw [if_neg h1]
      exact endK_zero h
  · rename_i h0; exact absurd h h0
theorem typL_ok {l : List Va} : ∀ {sub : List Ex}, (Ex.typL l sub).2 = 0 → ∀ t ∈ (Ex.typL l sub).1, t = 1 ∨ t = 2
  | [], _, t, ht => by simp [Ex.typL] at ht
  | x :: r, h, t, ht => by
    simp only [Ex.typL, joinT] at h ht
    by_cases h1 : (x.typ l).2 = 0
    · rw [if_pos h1] at h ht
      by_cases h2 : (Ex.typL l r).2 = 0
      · rw [if_pos h2] at ht
        simp only [List.cons_append, List.nil_append] at ht
        rcases List.mem_cons.1 ht with rfl | ht
        · exact typ_ok h1
        · exact typL_ok h2 t ht
      · rw [if_neg h2] at h; exact absurd h h2
    · rw [if_neg h1] at h; exact absurd h h1

theorem getD_12 {ts : List Int} (h : ∀ t ∈ ts, t = 1 ∨ t = 2) {i : Nat} (hi : i < ts.length) : ts.getD i 0 = 1 ∨ ts.getD i 0 = 2 := by
  have : ts.getD i 0 = ts[i] := by simp [List.getD, List.getElem?_eq_getElem hi]
  rw [this]
  exact h _ (List.getElem_mem hi)

/-- Both end alike. -/
theorem kR_end (k n named : Int) (ts : List Int) (hts : ∀ t ∈ ts, t = 1 ∨ t = 2) (hk : 1 ≤ k ∧ k ≤ 10)
    (h4 : k = 4 → (n = 1 ∨ n = 2) ∧ 1 ≤ ts.length) (h5 : k = 5 → 1 ≤ n ∧ n ≤ 16 ∧ 2 ≤ ts.length) (h6 : k = 6 → 3 ≤ ts.length) (h7 : k = 7 → 2 ≤ ts.length) (h8 : k = 8 ∨ k = 9 → 1 ≤ ts.length) (h10 : k = 10 → 2 ≤ ts.length) :
    endK (outK k n named ts).1 (outK k n named ts).2 = endR (kR k n named ts) := by
  have g0 := fun h => getD_12 hts (i := 0) h
  have g1 := fun h => getD_12 hts (i := 1) h
  have g2 := fun h => getD_12 hts (i := 2) h

  have hkk : k = 1 ∨ k = 2 ∨ k = 3 ∨ k = 4 ∨ k = 5 ∨ k = 6 ∨ k = 7 ∨ k = 8 ∨ k = 9 ∨ k = 10 := by omega
  unfold outK kR
  rcases hkk with rfl | rfl | rfl | rfl | rfl | rfl | rfl | rfl | rfl | rfl
  · simp [endK, endR]
  · simp [endK, endR]
  · simp [endK, endR]
  · obtain ⟨hn, hl⟩ := h4 rfl
    rcases hn with rfl | rfl <;> rcases g0 (by omega) with ha | ha <;> simp [endK, endR, List.getD, ha] <;> simp_all
  · obtain ⟨hn1, hn2, hl⟩ := h5 rfl
    have hn : n = 1 ∨ n = 2 ∨ n = 3 ∨ n = 4 ∨ n = 5 ∨ n = 6 ∨ n = 7 ∨ n = 8 ∨ n = 9 ∨ n = 10 ∨ n = 11 ∨ n = 12 ∨ n = 13 ∨ n = 14 ∨ n = 15 ∨ n = 16 := by omega
    have b0 := g0 (by omega)
    have b1 := g1 (by omega)
    simp only [List.getD] at *
    rcases hn with rfl | rfl | rfl | rfl | rfl | rfl | rfl | rfl | rfl | rfl | rfl | rfl | rfl | rfl | rfl | rfl <;> rcases b0 with b0 | b0 <;> rcases b1 with b1 | b1 <;> simp [endK, endR, twoK, madeK, bothK, b0, b1]
  · have hl := h6 rfl
    have b0 := g0 (by omega)
    have b1 := g1 (by omega)
    have b2 := g2 (by omega)
    simp only [List.getD] at *
    rcases b0 with b0 | b0 <;> rcases b1 with b1 | b1 <;> rcases b2 with b2 | b2 <;> simp [endK, endR, bothK, b0, b1, b2]
  · have hl := h7 rfl
    have b0 := g0 (by omega)
    have b1 := g1 (by omega)
    simp only [List.getD] at *
    rcases b0 with b0 | b0 <;> rcases b1 with b1 | b1 <;> simp [endK, endR, bothK, b0, b1]
  · have hl := h8 (.inl rfl)
    have b0 := g0 (by omega)
    simp only [List.getD] at *
    by_cases hn : named = 2 <;> rcases b0 with b0 | b0 <;> simp [endK, endR, b0, hn]
  · have hl := h8 (.inr rfl)
    have b0 := g0 (by omega)
    simp only [List.getD] at *
    by_cases hn : named = 2 <;> rcases b0 with b0 | b0 <;> simp [endK, endR, b0, hn]
  · have hl := h10 rfl
    have b0 := g0 (by omega)
    have b1 := g1 (by omega)
    simp only [List.getD] at *
    by_cases hn : named = 2 <;> rcases b0 with b0 | b0 <;> rcases b1 with b1 | b1 <;> simp [endK, endR, bothK, b0, b1, hn]
end Go.Proofs.YtikmbkojnfmiaaaGreatDoorRRRR

/- What the reference says of an equation is what the package kinds says. No program of Go in sight. -/
namespace Go.Proofs.YtikmbkojnfmiaaaGreatDoorRRRR
open Go.RowKit

/-- kinds.Of. -/
def ofF (e : Ex) (l : List Va) : Int × Int := if e.right ≠ 0 then (0, e.right) else e.typ l

/-- Does an equation of this name stand among some? -/
def standsB (l : List Qe) (s : ByteArray) : Bool := l.any fun x => x.name.toList == s.toList
theorem stands_snoc (l : List Qe) (q : Qe) (s : ByteArray) : standsB (l ++ [q]) s = (standsB l s || q.name.toList == s.toList) := by
  unfold standsB; rw [List.any_append]; simp
/-- The counts say which names have stood. -/
def Counts (d : ByteArray → Option Int) (l : List Qe) : Prop := ∀ s, (standsB l s = true → 0 < (d s).getD 0) ∧ (standsB l s = false → (d s).getD 0 = 0)
theorem counts_nil : Counts (fun _ => none) [] := fun s => ⟨fun h => by simp [standsB] at h, fun _ => rfl⟩
theorem counts_snoc {d : ByteArray → Option Int} {l : List Qe} (h : Counts d l) (q : Qe) : Counts (upd d q.name ((d q.name).getD 0 + 1)) (l ++ [q]) := by
  intro s
  rw [stands_snoc]
  have h1 := h s
  have h2 := h q.name
  have h0 : 0 ≤ (d q.name).getD 0 := by
    cases hs : standsB l q.name
    · rw [h2.2 hs]; omega
    · have := h2.1 hs; omega
  unfold upd
  by_cases hs : s.data = q.name.data
  · rw [if_pos hs]
    have he : q.name = s := by ext1; exact hs.symm
    have : (q.name.toList == s.toList) = true := by rw [he]; simp
    rw [this]
    refine ⟨fun _ => by simp only [Option.getD_some]; omega, fun h => by simp at h⟩
  · rw [if_neg hs]
    have : (q.name.toList == s.toList) = false := by
      cases hb : (q.name.toList == s.toList)
      · rfl
      · rw [eqS_iff] at hb; exact absurd (by rw [hb]) hs
    rw [this, Bool.or_false]
    exact h1

/-- The reference's equation. -/
def refEqE (l : List Va) (ins : Int) (prev : List Qe) (q : Qe) : Int :=
  if refFind l q.name < ins then 19
  else if standsB prev q.name = true then 18
  else if (q.e.typ l).2 ≠ 0 then (q.e.typ l).2
  else if (q.e.typ l).1 ≠ typeAt l (refFind l q.name) then 20
  else if q.delay = 1 ∧ (q.first.typ l).1 ≠ typeAt l (refFind l q.name) then 20
  else 0
theorem refEq_eq {l : List Va} {ins : Int} (hi : 0 ≤ ins) {prev : List Qe} {d : ByteArray → Option Int} (hd : Counts d prev) (q : Qe) : refEqE l ins prev q = eqE l ins d q := by
  unfold refEqE eqE refFind
  cases hf : findV l q.name with
  | none => simp only [Option.getD_none]; rw [if_pos (by omega)]
  | some j =>
    simp only [Option.getD_some]
    by_cases h1 : j < ins
    · rw [if_pos h1, if_pos h1]
    rw [if_neg h1, if_neg h1]
    have h2 := hd q.name
    cases hs : standsB prev q.name
    · rw [if_neg (show ¬ (false = true) by simp), if_neg (show ¬ 0 < (d q.name).getD 0 by have := h2.2 hs; omega)]
      by_cases h3 : (q.e.typ l).2 ≠ 0
      · rw [if_pos h3, if_pos h3]
      rw [if_neg h3, if_neg h3]
      by_cases h4 : (q.e.typ l).1 ≠ typeAt l j
      · rw [if_pos h4]
        by_cases h5 : q.delay = 1 ∧ (q.first.typ l).1 ≠ typeAt l j
        · rw [if_pos h5]
        · rw [if_neg h5, if_pos h4]
      · rw [if_neg h4]
        by_cases h5 : q.delay = 1 ∧ (q.first.typ l).1 ≠ typeAt l j
        · rw [if_pos h5, if_pos h5]
        · rw [if_neg h5, if_neg h5, if_neg h4]
    · rw [if_pos rfl, if_pos (h2.1 hs)]

theorem findI_le : ∀ (l : List Va) (k : Nat) (v : Va) (i : Int), l[k]? = some v → ∃ j, findI l v.name i = some j ∧ i ≤ j ∧ j ≤ i + k
  | [], k, v, i, h => by simp at h
  | x :: l, 0, v, i, h => by
    simp at h; subst h
    exact ⟨i, by rw [findI, if_pos rfl], by omega, by omega⟩
  | x :: l, k + 1, v, i, h => by
    rw [findI]
    by_cases hs : v.name.data = x.name.data
    · rw [if_pos hs]; exact ⟨i, rfl, by omega, by omega⟩
    · rw [if_neg hs]
      obtain ⟨j, h1, h2, h3⟩ := findI_le l k v (i + 1) (by simpa using h)
      exact ⟨j, h1, by omega, by omega⟩
/-- A variable is found at its place or before. -/
theorem refFind_le {l : List Va} {k : Nat} {v : Va} (h : l[k]? = some v) : 0 ≤ refFind l v.name ∧ refFind l v.name ≤ k ∧ refFind l v.name = (findV l v.name).getD 0 := by
  obtain ⟨j, h1, h2, h3⟩ := findI_le l k v 0 h
  unfold refFind findV
  rw [h1]
  exact ⟨h2, by show j ≤ (k : Int); omega, rfl⟩
end Go.Proofs.YtikmbkojnfmiaaaGreatDoorRRRR

/- The reference's clocks are those of the package clocks. No program of Go in sight. -/
namespace Go.Proofs.YtikmbkojnfmiaaaGreatDoorRRRR
open Go.RowKit

theorem findC_some : ∀ (l : List Va) (s : ByteArray) (i j : Int), findI l s i = some j → ∃ (k : Nat) (v : Va), j = i + k ∧ l[k]? = some v ∧ findC l s = some v
  | [], _, _, _, h => by simp [findI] at h
  | v :: l, s, i, j, h => by
    unfold findI at h
    by_cases hs : s.data = v.name.data
    · rw [if_pos hs] at h
      have hj : i = j := by injection h
      have he : v.name = s := by ext1; exact hs.symm
      exact ⟨0, v, by omega, rfl, by rw [findC, if_pos]; rw [he]; simp⟩
    · rw [if_neg hs] at h
      obtain ⟨k, u, h1, h2, h3⟩ := findC_some l s (i + 1) j h
      refine ⟨k + 1, u, by omega, by simpa using h2, ?_⟩
      rw [findC, if_neg, h3]
      rw [eqS_iff]
      intro he
      exact hs (by rw [he])
/-- Where the reference finds a variable, and what the package finds. -/
theorem refFind_cases (l : List Va) (s : ByteArray) : (refFind l s = -1 ∧ findC l s = none) ∨ ∃ (k : Nat) (v : Va), refFind l s = (k : Int) ∧ l[k]? = some v ∧ findC l s = some v := by
  unfold refFind findV
  cases h : findI l s 0 with
  | none => exact .inl ⟨rfl, findC_of_I l s 0 h⟩
  | some j =>
    obtain ⟨k, v, h1, h2, h3⟩ := findC_some l s 0 j h
    exact .inr ⟨k, v, by simp only [Option.getD_some]; omega, h2, h3⟩

/-- The clock at which a name must be used. -/
def wantC (k : Int) (s : ByteArray) (v : Va) : Int × ByteArray := if k = 3 then (v.ck, v.cn) else if k = 8 then (1, s) else if k = 9 then (2, s) else (0, ⟨#[]⟩)
/-- The reference's own. -/
def ownR (l : List Va) (k : Int) (s : ByteArray) (c : Int × ByteArray) : Int :=
  if s.toList.isEmpty = true then 0
  else match findC l s with
    | none => 19
    | some v => if ckEq c.1 c.2 (wantC k s v).1 (wantC k s v).2 = false then 21 else if k ≠ 3 ∧ ckEq v.ck v.cn 0 ⟨#[]⟩ = false then 21 else 0
theorem ckEq_swap (a : Int) (s : ByteArray) (b : Int) (t : ByteArray) : ckEq a s b t = ckEq b t a s := by
  rw [Bool.eq_iff_iff, ckEq_iff, ckEq_iff]
  exact ⟨fun h => ⟨h.1.symm, h.2.symm⟩, fun h => ⟨h.1.symm, h.2.symm⟩⟩
theorem ownR_eq {l : List Va} {e : Ex} (hf : e.formed = true) (c : Int × ByteArray) : ownR l e.kind e.name c = ownC l e.kind e.name c.1 c.2 := by
  unfold ownR
  rcases formed_nameK hf with ⟨hk, hn⟩ | ⟨⟨h3, h8, h9, h10⟩, hn⟩
  · rw [nameB_ne hn, if_neg (by simp)]
    unfold ownC truthE wantC
    cases findC l e.name with
    | none => rcases hk with hk | hk | hk | hk <;> simp [hk]
    | some v =>
      rcases hk with hk | hk | hk | hk
      · simp only [hk, if_pos]
        rw [ckEq_swap v.ck v.cn c.1 c.2]
        cases ckEq c.1 c.2 v.ck v.cn <;> simp
      · simp only [hk]
        cases h1 : ckEq c.1 c.2 1 e.name <;> cases h2 : ckEq v.ck v.cn 0 ⟨#[]⟩ <;> simp [h1]
      · simp only [hk]
        cases h1 : ckEq c.1 c.2 2 e.name <;> cases h2 : ckEq v.ck v.cn 0 ⟨#[]⟩ <;> simp [h1]
      · simp only [hk]
        cases h1 : ckEq c.1 c.2 0 ⟨#[]⟩ <;> cases h2 : ckEq v.ck v.cn 0 ⟨#[]⟩ <;> simp [h1]
  · rw [hn, if_pos rfl]
    unfold ownC
    rw [if_neg h3, if_neg h8, if_neg h9, if_neg h10]

/-- The clock at which part i must stand: Within. -/
def withC (k : Int) (s : ByteArray) (c : Int × ByteArray) (i : Nat) : Int × ByteArray := if k = 10 then (1 + (i : Int), s) else if k = 8 ∨ k = 9 then (0, ⟨#[]⟩) else c
/-- The first fault among parts, from part i on. -/
def clkW (l : List Va) (k : Int) (s : ByteArray) (c : Int × ByteArray) : Nat → List Ex → Int
  | _, [] => 0
  | i, x :: r => if x.clk l (withC k s c i) ≠ 0 then x.clk l (withC k s c i) else clkW l k s c (i + 1) r
theorem clkW_eq {l : List Va} {e : Ex} (hf : e.formed = true) (c : Int × ByteArray) : Ex.clkL l e.sub (subC e.kind e.name c) (subD e.kind e.name c) = clkW l e.kind e.name c 0 e.sub := by
  by_cases hk : e.kind = 10
  · have hl := formed_merge hf hk
    match h : e.sub, hl with
    | [x, y], _ =>
      simp only [Ex.clkL, clkW, subC, subD, withC, hk]
      simp
  · have hsub : subC e.kind e.name c = subD e.kind e.name c := by unfold subC subD; rw [if_neg hk, if_neg hk]
    have hw : ∀ i, withC e.kind e.name c i = subD e.kind e.name c := fun i => by unfold withC subD; rw [if_neg hk, if_neg hk]
    rw [hsub]
    have : ∀ (r : List Ex) (i : Nat), Ex.clkL l r (subD e.kind e.name c) (subD e.kind e.name c) = clkW l e.kind e.name c i r := by
      intro r
      induction r with
      | nil => intro i; simp [Ex.clkL, clkW]
      | cons x r ih => intro i; rw [Ex.clkL, clkW, hw i, ih (i + 1)]
    exact this _ 0
theorem clkR_eq {l : List Va} {e : Ex} (hf : e.formed = true) (c : Int × ByteArray) : e.clk l c = if ownR l e.kind e.name c ≠ 0 then ownR l e.kind e.name c else clkW l e.kind e.name c 0 e.sub := by
  rw [Ex.clk_eq, ownR_eq hf, clkW_eq hf]
end Go.Proofs.YtikmbkojnfmiaaaGreatDoorRRRR
