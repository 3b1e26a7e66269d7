/- When an expression stands at a clock. No program of Go in sight. -/
import Derived.Test.YtikmbkojnfmiaaaGreatDoorRRRRBA
import Derived.Laws.StructEq
import Derived.Test.YtikmbkojnfmiaaaGreatDoorRRRRRows
import Derived.Test.YtikmbkojnfmiaaaGreatDoorRRRRBB
import Derived.RegionTactic
import Derived.BigRegion
set_option linter.unusedVariables false
set_option linter.unusedSimpArgs false
set_option maxRecDepth 100000
namespace Go.Proofs.YtikmbkojnfmiaaaGreatDoorRRRR
open Go.RowKit

/-- The first variable of a name. -/
def findC : List Va → ByteArray → Option Va
  | [], _ => none
  | v :: l, s => if (v.name.toList == s.toList) = true then some v else findC l s
/-- Are two clocks alike? -/
def ckEq (a : Int) (s : ByteArray) (b : Int) (t : ByteArray) : Bool := a == b && s.toList == t.toList
/-- house.truth. -/
def truthE (l : List Va) (s : ByteArray) (ok : Bool) : Int :=
  match findC l s with
  | none => 19
  | some v => if (ok && ckEq v.ck v.cn 0 ⟨#[]⟩) = true then 0 else 21
/-- Why an expression itself does not stand at a clock. -/
def ownC (l : List Va) (k : Int) (s : ByteArray) (ck : Int) (cn : ByteArray) : Int :=
  if k = 3 then (match findC l s with
    | none => 19
    | some v => if ckEq v.ck v.cn ck cn = true then 0 else 21)
  else if k = 8 then truthE l s (ckEq ck cn 1 s)
  else if k = 9 then truthE l s (ckEq ck cn 2 s)
  else if k = 10 then truthE l s (ckEq ck cn 0 ⟨#[]⟩)
  else 0
/-- The clocks at which its first part, and its second one, must stand. -/
def subC (k : Int) (s : ByteArray) (c : Int × ByteArray) : Int × ByteArray := if k = 8 ∨ k = 9 then (0, ⟨#[]⟩) else if k = 10 then (1, s) else c
def subD (k : Int) (s : ByteArray) (c : Int × ByteArray) : Int × ByteArray := if k = 8 ∨ k = 9 then (0, ⟨#[]⟩) else if k = 10 then (2, s) else c

namespace Ex
mutual
/-- house.of. -/
def clk (l : List Va) : Ex → Int × ByteArray → Int
  | mk k _ s sub, c => if ownC l k s c.1 c.2 ≠ 0 then ownC l k s c.1 c.2 else clkL l sub (subC k s c) (subD k s c)
def clkL (l : List Va) : List Ex → Int × ByteArray → Int × ByteArray → Int
  | [], _, _ => 0
  | x :: r, c, d => if clk l x c ≠ 0 then clk l x c else clkL l r d c
end
theorem clk_eq (l : List Va) (e : Ex) (c : Int × ByteArray) : e.clk l c = if ownC l e.kind e.name c.1 c.2 ≠ 0 then ownC l e.kind e.name c.1 c.2 else clkL l e.sub (subC e.kind e.name c) (subD e.kind e.name c) := by cases e; rw [clk]; rfl
end Ex

/-- clocks.Of. -/
def clkOf (l : List Va) (e : Ex) (c : Int × ByteArray) : Int := if e.right ≠ 0 then e.right else e.clk l c
/-- house.declared. -/
def declaredE (l : List Va) (v : Va) : Int :=
  if ckEq v.ck v.cn 0 ⟨#[]⟩ = true then 0
  else match findC l v.cn with
    | none => 19
    | some c => if c.type ≠ 2 then 20 else if ckEq c.ck c.cn 0 ⟨#[]⟩ = true then 0 else 21

theorem ckEq_iff {a b : Int} {s t : ByteArray} : ckEq a s b t = true ↔ a = b ∧ s.toList = t.toList := by
  unfold ckEq; simp

namespace Ex
mutual
/-- Does it name no variable? -/
def bare : Ex → Bool
  | mk _ _ s sub => s.toList.isEmpty && bareL sub
def bareL : List Ex → Bool
  | [] => true
  | x :: r => bare x && bareL r
end
theorem bare_eq (e : Ex) : e.bare = (e.name.toList.isEmpty && bareL e.sub) := by cases e; rw [bare]; rfl
end Ex

theorem formedL_mem : ∀ {l : List Ex}, Ex.formedL l = true → ∀ x ∈ l, x.formed = true
  | [], _, x, hx => by cases hx
  | y :: l, h, x, hx => by
    simp only [Ex.formedL, Bool.and_eq_true] at h
    rcases List.mem_cons.1 hx with rfl | hx
    · exact h.1
    · exact formedL_mem h.2 x hx

/-- A kind of expressions that has a name: the name is there; else it is not. -/
theorem formed_nameK {e : Ex} (h : e.formed = true) : (e.kind = 3 ∨ e.kind = 8 ∨ e.kind = 9 ∨ e.kind = 10) ∧ nameB e.name = true ∨ (e.kind ≠ 3 ∧ e.kind ≠ 8 ∧ e.kind ≠ 9 ∧ e.kind ≠ 10) ∧ e.name.toList.isEmpty = true := by
  rw [Ex.formed_eq] at h
  unfold formedH formK at h
  generalize e.kind = k at *
  by_cases h1 : k = 1
  · subst h1; simp at h ⊢; simp_all
  by_cases h2 : k = 2
  · subst h2; simp at h ⊢; simp_all
  by_cases h3 : k = 3
  · subst h3; simp at h ⊢; simp_all
  by_cases h4 : k = 4
  · subst h4; simp at h ⊢; simp_all
  by_cases h5 : k = 5
  · subst h5; simp at h ⊢; simp_all
  by_cases h6 : k = 6
  · subst h6; simp at h ⊢; simp_all
  by_cases h7 : k = 7
  · subst h7; simp at h ⊢; simp_all
  by_cases h8 : k = 8
  · subst h8; simp at h ⊢; simp_all
  by_cases h9 : k = 9
  · subst h9; simp at h ⊢; simp_all
  by_cases h10 : k = 10
  · subst h10; simp at h ⊢; simp_all
  simp [h1, h2, h3, h4, h5, h6, h7, h8, h9, h10] at h

theorem formed_subs {e : Ex} (h : e.formed = true) : ∀ x ∈ e.sub, x.formed = true := by
  rw [Ex.formed_eq, Bool.and_eq_true] at h
  exact formedL_mem h.2
theorem formed_merge {e : Ex} (h : e.formed = true) (hk : e.kind = 10) : e.sub.length = 2 := by
  rw [Ex.formed_eq, Bool.and_eq_true] at h
  have := h.1
  unfold formedH formK at this
  rw [hk] at this
  simp at this
  omega

theorem clkL_same {l : List Va} {c : Int × ByteArray} : ∀ {r : List Ex}, Ex.clkL l r c c = 0 ↔ ∀ x ∈ r, x.clk l c = 0
  | [] => by simp [Ex.clkL]
  | x :: r => by
    have ih := @clkL_same l c r
    rw [Ex.clkL]
    split
    · rename_i h
      constructor
      · intro h2; exact absurd h2 h
      · intro h2; exact absurd (h2 x (by simp)) h
    · rename_i h
      rw [ih]
      constructor
      · intro h2 y hy
        rcases List.mem_cons.1 hy with rfl | hy
        · omega
        · exact h2 y hy
      · intro h2 y hy
        exact h2 y (by simp [hy])

theorem bareL_mem : ∀ {r : List Ex}, Ex.bareL r = false → ∃ x ∈ r, x.bare = false
  | [], h => by simp [Ex.bareL] at h
  | x :: r, h => by
    simp only [Ex.bareL, Bool.and_eq_false_iff] at h
    rcases h with h | h
    · exact ⟨x, by simp, h⟩
    · obtain ⟨y, hy, hb⟩ := bareL_mem h
      exact ⟨y, by simp [hy], hb⟩
theorem bareL_all : ∀ {r : List Ex}, Ex.bareL r = true → ∀ x ∈ r, x.bare = true
  | [], _, x, hx => by cases hx
  | y :: r, h, x, hx => by
    simp only [Ex.bareL, Bool.and_eq_true] at h
    rcases List.mem_cons.1 hx with rfl | hx
    · exact h.1
    · exact bareL_all h.2 x hx

theorem nameB_ne {s : ByteArray} (h : nameB s = true) : s.toList.isEmpty = false := by
  cases hs : s.toList.isEmpty with
  | false => rfl
  | true =>
    exfalso
    have h0 : s.toList = [] := by simpa using hs
    have h1 : s.size = 0 := by
      have := congrArg List.length h0
      rw [ByteArray.toList_eq] at this
      simpa using this
    unfold nameB at h
    rw [dif_neg (by omega)] at h
    cases h

theorem truthE_zero {l : List Va} {s : ByteArray} {ok : Bool} (h : truthE l s ok = 0) : ok = true := by
  unfold truthE at h
  split at h
  · omega
  · split at h
    · rename_i h2; simp only [Bool.and_eq_true] at h2; exact h2.1
    · omega

/-- What names no variable stands at any clock. -/
theorem clk_bare (l : List Va) (e : Ex) : e.formed = true → e.bare = true → ∀ c, e.clk l c = 0 := by
  induction e using Ex.ind with
  | h e ih =>
  intro hf hb c
  rw [Ex.bare_eq, Bool.and_eq_true] at hb
  rcases formed_nameK hf with ⟨_, hn⟩ | ⟨⟨h3, h8, h9, h10⟩, _⟩
  · rw [nameB_ne hn] at hb; simp at hb
  · rw [Ex.clk_eq]
    have ho : ownC l e.kind e.name c.1 c.2 = 0 := by unfold ownC; rw [if_neg h3, if_neg h8, if_neg h9, if_neg h10]
    rw [ho, if_neg (by omega)]
    have hc : subC e.kind e.name c = c := by unfold subC; rw [if_neg (by omega), if_neg h10]
    have hd : subD e.kind e.name c = c := by unfold subD; rw [if_neg (by omega), if_neg h10]
    rw [hc, hd, clkL_same]
    exact fun x hx => ih x hx (formed_subs hf x hx) (bareL_all hb.2 x hx) c

theorem toList_inj {a b : ByteArray} (h : a.toList = b.toList) : a = b := eqS_iff.1 (by rw [h]; simp)

/-- What stands at two clocks names no variable, or they are one. -/
theorem clk_two (l : List Va) (e : Ex) : e.formed = true → e.bare = false → ∀ c d, e.clk l c = 0 → e.clk l d = 0 → ckEq c.1 c.2 d.1 d.2 = true := by
  induction e using Ex.ind with
  | h e ih =>
  intro hf hb c d hc hd
  rw [Ex.clk_eq] at hc hd
  have oc : ownC l e.kind e.name c.1 c.2 = 0 := by
    by_cases h : ownC l e.kind e.name c.1 c.2 = 0
    · exact h
    · rw [if_pos h] at hc; exact hc
  have od : ownC l e.kind e.name d.1 d.2 = 0 := by
    by_cases h : ownC l e.kind e.name d.1 d.2 = 0
    · exact h
    · rw [if_pos h] at hd; exact hd
  rw [if_neg (by omega)] at hc hd
  rcases formed_nameK hf with ⟨hk, hn⟩ | ⟨⟨h3, h8, h9, h10⟩, hn⟩
  · have hall : ∀ a (s : ByteArray), ckEq c.1 c.2 a s = true → ckEq d.1 d.2 a s = true → ckEq c.1 c.2 d.1 d.2 = true := by
      intro a s h1 h2
      rw [ckEq_iff] at *
      exact ⟨h1.1.trans h2.1.symm, h1.2.trans h2.2.symm⟩
    unfold ownC at oc od
    rcases hk with hk | hk | hk | hk
    · rw [if_pos hk] at oc od
      cases hfd : findC l e.name with
      | none => rw [hfd] at oc; simp at oc
      | some v =>
        rw [hfd] at oc od
        have h1 : ckEq v.ck v.cn c.1 c.2 = true := by
          by_cases h : ckEq v.ck v.cn c.1 c.2 = true
          · exact h
          · simp only at oc; rw [if_neg h] at oc; omega
        have h2 : ckEq v.ck v.cn d.1 d.2 = true := by
          by_cases h : ckEq v.ck v.cn d.1 d.2 = true
          · exact h
          · simp only at od; rw [if_neg h] at od; omega
        rw [ckEq_iff] at *
        exact ⟨h1.1.symm.trans h2.1, h1.2.symm.trans h2.2⟩
    · rw [if_neg (by omega), if_pos hk] at oc od
      exact hall _ _ (truthE_zero oc) (truthE_zero od)
    · rw [if_neg (by omega), if_neg (by omega), if_pos hk] at oc od
      exact hall _ _ (truthE_zero oc) (truthE_zero od)
    · rw [if_neg (by omega), if_neg (by omega), if_neg (by omega), if_pos hk] at oc od
      exact hall _ _ (truthE_zero oc) (truthE_zero od)
  · rw [Ex.bare_eq, hn, Bool.true_and] at hb
    obtain ⟨x, hx, hxb⟩ := bareL_mem hb
    have h1 : ∀ c, subC e.kind e.name c = c := fun c => by unfold subC; rw [if_neg (by omega), if_neg h10]
    have h2 : ∀ c, subD e.kind e.name c = c := fun c => by unfold subD; rw [if_neg (by omega), if_neg h10]
    rw [h1, h2, clkL_same] at hc hd
    exact ih x hx (formed_subs hf x hx) hxb c d (hc x hx) (hd x hx)

/-- More variables, of other names, change nothing of what stands at a clock. -/
theorem findC_more : ∀ {m : List Va} {s : ByteArray} {l : List Va}, (∀ v ∈ m, (v.name.toList == s.toList) = false) → findC (m ++ l) s = findC l s
  | [], s, l, _ => rfl
  | v :: m, s, l, h => by
    rw [List.cons_append, findC, if_neg (by rw [h v (by simp)]; simp)]
    exact findC_more fun u hu => h u (by simp [hu])
theorem findC_name : ∀ {l : List Va} {s : ByteArray} {v : Va}, findC l s = some v → v ∈ l ∧ v.name.toList = s.toList
  | [], s, v, h => by simp [findC] at h
  | u :: l, s, v, h => by
    rw [findC] at h
    split at h
    · rename_i hn
      obtain rfl : u = v := by injection h
      exact ⟨by simp, by simpa using hn⟩
    · obtain ⟨h1, h2⟩ := findC_name h
      exact ⟨by simp [h1], h2⟩
theorem clk_more (l m : List Va) (hm : ∀ v ∈ m, findC l v.name = none) (e : Ex) : ∀ c, e.clk l c = 0 → e.clk (m ++ l) c = 0 := by
  have hfd : ∀ s v, findC l s = some v → findC (m ++ l) s = some v := by
    intro s v h
    have hne : ∀ u ∈ m, (u.name.toList == s.toList) = false := by
      intro u hu
      have := hm u hu
      cases hc : (u.name.toList == s.toList) with
      | false => rfl
      | true =>
        have hs : u.name = s := eqS_iff.1 hc
        rw [hs, h] at this
        cases this
    rw [findC_more hne, h]
  have hown : ∀ k s (c : Int × ByteArray), ownC l k s c.1 c.2 = 0 → ownC (m ++ l) k s c.1 c.2 = 0 := by
    intro k s c h
    have htr : ∀ ok, truthE l s ok = 0 → truthE (m ++ l) s ok = 0 := by
      intro ok h
      unfold truthE at h ⊢
      cases hf : findC l s with
      | none => rw [hf] at h; simp at h
      | some v => rw [hf] at h; rw [hfd s v hf]; exact h
    unfold ownC at h ⊢
    split
    · rename_i hk
      rw [if_pos hk] at h
      cases hf : findC l s with
      | none => rw [hf] at h; simp at h
      | some v => rw [hf] at h; rw [hfd s v hf]; exact h
    · rename_i hk
      rw [if_neg hk] at h
      split
      · rename_i hk; rw [if_pos hk] at h; exact htr _ h
      · rename_i hk; rw [if_neg hk] at h
        split
        · rename_i hk; rw [if_pos hk] at h; exact htr _ h
        · rename_i hk; rw [if_neg hk] at h
          split
          · rename_i hk; rw [if_pos hk] at h; exact htr _ h
          · rfl
  induction e using Ex.ind with
  | h e ih =>
  intro c hc
  rw [Ex.clk_eq] at hc ⊢
  have oc : ownC l e.kind e.name c.1 c.2 = 0 := by
    by_cases h : ownC l e.kind e.name c.1 c.2 = 0
    · exact h
    · rw [if_pos h] at hc; exact hc
  rw [if_neg (by omega)] at hc
  rw [if_neg (by have := hown _ _ c oc; omega)]
  generalize subC e.kind e.name c = c1 at *
  generalize subD e.kind e.name c = c2 at *
  have hl : ∀ (r : List Ex), (∀ x ∈ r, x ∈ e.sub) → ∀ c d, Ex.clkL l r c d = 0 → Ex.clkL (m ++ l) r c d = 0 := by
    intro r
    induction r with
    | nil => intro _ c d _; rfl
    | cons x r ihr =>
      intro hr c d h
      rw [Ex.clkL] at h ⊢
      have hx : x.clk l c = 0 := by
        by_cases h0 : x.clk l c = 0
        · exact h0
        · rw [if_pos h0] at h; exact h
      rw [if_neg (by omega)] at h
      rw [if_neg (by have := ih x (hr x (by simp)) c hx; omega)]
      exact ihr (fun y hy => hr y (by simp [hy])) d c h
  exact hl e.sub (fun _ h => h) c1 c2 hc
end Go.Proofs.YtikmbkojnfmiaaaGreatDoorRRRR

/- Parts of an expression that stands at a clock. No program of Go in sight. -/
namespace Go.Proofs.YtikmbkojnfmiaaaGreatDoorRRRR
open Go.RowKit

theorem countL_le : ∀ (l : List Ex), (∀ x ∈ l, ∀ m, x.count m ≤ x.size) → ∀ n m, Ex.countL l n m ≤ n + Ex.sizeL l
  | [], _, n, m => by simp [Ex.countL, Ex.sizeL]
  | x :: l, h, n, m => by
    simp only [Ex.countL, Ex.sizeL]
    split
    · omega
    · have := h x (by simp) (m - n)
      have := countL_le l (fun y hy => h y (by simp [hy])) (n + x.count (m - n)) m
      omega
theorem count_le (e : Ex) : ∀ m, e.count m ≤ e.size := by
  induction e using Ex.ind with
  | h e ih =>
    intro m
    rw [Ex.count_eq, Ex.size_eq]
    have := countL_le e.sub ih 1 m
    omega
theorem depthL_ge : ∀ (l : List Ex) (n : Int) (x : Ex), x ∈ l → x.depth ≤ Ex.depthL l n ∧ n ≤ Ex.depthL l n
  | [], n, x, h => by cases h
  | y :: l, n, x, h => by
    rw [Ex.depthL]
    have h2 : max n y.depth ≤ Ex.depthL l (max n y.depth) := by
      cases l with
      | nil => simp [Ex.depthL]
      | cons z l => exact (depthL_ge (z :: l) (max n y.depth) z (by simp)).2
    rcases List.mem_cons.1 h with rfl | h
    · omega
    · have := (depthL_ge l (max n y.depth) x h).1
      omega
/-- The parts of what is right are right. -/
theorem right_sub {e x : Ex} (h : e.right = 0) (hx : x ∈ e.sub) : x.right = 0 := by
  obtain ⟨h1, h2, h3⟩ := Ex.right_zero.1 h
  rw [Ex.right_zero]
  refine ⟨?_, ?_, formed_subs h3 x hx⟩
  · have hs := Ex.count_size e 121 (by omega)
    obtain ⟨k, hk⟩ := List.getElem?_of_mem hx
    have := Ex.size_sub hk
    have := count_le x 121
    omega
  · rw [Ex.depth_eq] at h2
    have := (depthL_ge e.sub 0 x hx).1
    omega

/-- The clock at which part i must stand. -/
def partC (k : Int) (s : ByteArray) (c : Int × ByteArray) (i : Nat) : Int × ByteArray :=
  if k = 8 ∨ k = 9 then (0, ⟨#[]⟩) else if k = 10 then (if i = 1 then (2, s) else (1, s)) else c

theorem clkL_two {l : List Va} {c d : Int × ByteArray} {x y : Ex} (h : Ex.clkL l [x, y] c d = 0) : x.clk l c = 0 ∧ y.clk l d = 0 := by
  simp only [Ex.clkL] at h
  by_cases h1 : x.clk l c = 0
  · rw [if_neg (by omega)] at h
    by_cases h2 : y.clk l d = 0
    · exact ⟨h1, h2⟩
    · rw [if_pos h2] at h; exact absurd h h2
  · rw [if_pos h1] at h; exact absurd h h1

theorem clk_parts {l : List Va} {e : Ex} {c : Int × ByteArray} (hf : e.formed = true) (h : e.clk l c = 0) :
    (∀ (i : Nat) (x : Ex), e.sub[i]? = some x → x.clk l (partC e.kind e.name c i) = 0) ∧ (e.kind = 8 → c.1 = 1 ∧ c.2.toList = e.name.toList) ∧ (e.kind = 9 → c.1 = 2 ∧ c.2.toList = e.name.toList) ∧ (e.kind = 10 → c.1 = 0) := by
  rw [Ex.clk_eq] at h
  have oc : ownC l e.kind e.name c.1 c.2 = 0 := by
    by_cases h0 : ownC l e.kind e.name c.1 c.2 = 0
    · exact h0
    · rw [if_pos h0] at h; exact h
  rw [if_neg (by omega)] at h
  unfold ownC at oc
  refine ⟨fun i x hx => ?_, fun hk => ?_, fun hk => ?_, fun hk => ?_⟩
  · have hmem := List.mem_of_getElem? hx
    unfold partC
    by_cases h89 : e.kind = 8 ∨ e.kind = 9
    · rw [if_pos h89]
      have h1 : subC e.kind e.name c = (0, ⟨#[]⟩) := by unfold subC; rw [if_pos h89]
      have h2 : subD e.kind e.name c = (0, ⟨#[]⟩) := by unfold subD; rw [if_pos h89]
      rw [h1, h2, clkL_same] at h
      exact h x hmem
    · rw [if_neg h89]
      by_cases h10 : e.kind = 10
      · rw [if_pos h10]
        have h1 : subC e.kind e.name c = (1, e.name) := by unfold subC; rw [if_neg h89, if_pos h10]
        have h2 : subD e.kind e.name c = (2, e.name) := by unfold subD; rw [if_neg h89, if_pos h10]
        rw [h1, h2] at h
        have hlen := formed_merge hf h10
        match hm : e.sub, hlen with
        | [u, v], _ =>
          rw [hm] at h hx
          obtain ⟨hu, hv⟩ := clkL_two h
          match i with
          | 0 => simp at hx; subst hx; simpa using hu
          | 1 => simp at hx; subst hx; simpa using hv
          | i + 2 => simp at hx
      · rw [if_neg h10]
        have h1 : subC e.kind e.name c = c := by unfold subC; rw [if_neg h89, if_neg h10]
        have h2 : subD e.kind e.name c = c := by unfold subD; rw [if_neg h89, if_neg h10]
        rw [h1, h2, clkL_same] at h
        exact h x hmem
  · rw [if_neg (by omega), if_pos hk] at oc
    exact ckEq_iff.1 (truthE_zero oc)
  · rw [if_neg (by omega), if_neg (by omega), if_pos hk] at oc
    exact ckEq_iff.1 (truthE_zero oc)
  · rw [if_neg (by omega), if_neg (by omega), if_neg (by omega), if_pos hk] at oc
    exact (ckEq_iff.1 (truthE_zero oc)).1

/-- ClocksParts, in plain Lean. -/
theorem parts_law {l : List Va} {e : Ex} {c : Int × ByteArray} (h : clkOf l e c = 0) :
    (∀ (i : Nat) (x : Ex), e.sub[i]? = some x → clkOf l x (partC e.kind e.name c i) = 0) ∧ (e.kind = 8 → c.1 = 1 ∧ c.2.toList = e.name.toList) ∧ (e.kind = 9 → c.1 = 2 ∧ c.2.toList = e.name.toList) ∧ (e.kind = 10 → c.1 = 0) := by
  unfold clkOf at h
  by_cases hr : e.right = 0
  · rw [if_neg (by omega)] at h
    obtain ⟨h1, h2⟩ := clk_parts (Ex.right_zero.1 hr).2.2 h
    refine ⟨fun i x hx => ?_, h2⟩
    unfold clkOf
    rw [if_neg (by have := right_sub hr (List.mem_of_getElem? hx); omega)]
    exact h1 i x hx
  · rw [if_pos hr] at h; exact absurd h hr
end Go.Proofs.YtikmbkojnfmiaaaGreatDoorRRRR

/- Walks over the package clocks: find, truth. -/
namespace Go.Proofs.YtikmbkojnfmiaaaGreatDoorRRRR
open Go.RowKit Go.Sort

theorem eqClock (a : Int) (s : ByteArray) (b : Int) (t : ByteArray) (w : World) : (Op.equalIn 10000 41 (.agg #[.int .i64 a, .string s]) (.agg #[.int .i64 b, .string t])).run Tryz.prog w = .ok (ckEq a s b t) w := by
  have hS : Tryz.prog.underlying 41 = some (.struct (Tryz.prog.fieldsOf 41)) := by kernel_rfl
  have hp : Tryz.prog.stoodInHeld 41 = false := by kernel_rfl
  rw [show (10000 : Nat) = 9999 + 1 from rfl, run_equalIn_agg w 9999 41 _ _ hS hp]
  simp only [Program.fieldsOf, Tryz.underlying41]
  go_simp
  unfold ckEq
  by_cases h1 : a = b <;> by_cases h2 : s.toList = t.toList <;> simp [h1, h2]
theorem gmClock : Tryz.prog.eqGuardType Tryz.prog.depth 41 = false := by kernel_rfl

def zeroVa : Va := ⟨⟨#[]⟩, 0, 0, ⟨#[]⟩⟩
/-- What house.find hands back. -/
def fcV : Option Va → Value
  | some v => .tuple #[vaV v, .bool true]
  | none => .tuple #[vaV zeroVa, .bool false]

set_option maxHeartbeats 2000000 in
theorem find_any (l : List Va) (A : Option Addr) (cap : Nat) (s : ByteArray) (w : World) (hl : VarsAt w l A cap) (hn : l.length ≤ 1000000) :
    Calls Tryz.prog 34 #[.slice A l.length cap, .string s] w fun r w' => r = .returned (fcV (findC l s)) ∧ Below w.heap.size w w' := by
  have hv : fcV (findC l s) = fcV (findC l s) := rfl
  clear hv
  go_enter Tryz.func34, Tryz.ntmps34
  go_wp2_with fail
  refine wp_name fun W0 hW0 => ?_
  have hb0 : Below w.heap.size w W0 := by rw [hW0]; exact belA
  have hz0 : w.heap.size < W0.heap.size := by rw [hW0]; simp
  have f0 : W0.cell? ⟨w.heap.size, 0, none⟩ = some (.string ⟨#[]⟩) := by rw [hW0]; go_simp
  have f1 : W0.cell? ⟨w.heap.size, 1, none⟩ = some (.int .i64 0) := by rw [hW0]; go_simp
  have f2 : W0.cell? ⟨w.heap.size, 2, none⟩ = some (.int .i64 0) := by rw [hW0]; go_simp
  have f3 : W0.cell? ⟨w.heap.size, 3, none⟩ = some (.string ⟨#[]⟩) := by rw [hW0]; go_simp
  have z0 : W0.frozen? ⟨w.heap.size, 0, none⟩ = false := by rw [hW0]; go_simp
  have z1 : W0.frozen? ⟨w.heap.size, 1, none⟩ = false := by rw [hW0]; go_simp
  have z2 : W0.frozen? ⟨w.heap.size, 2, none⟩ = false := by rw [hW0]; go_simp
  have z3 : W0.frozen? ⟨w.heap.size, 3, none⟩ = false := by rw [hW0]; go_simp
  clear hW0
  replace hl := hl.later hb0
  go_loopw [10] (fun i wr => ∃ k : Nat, k ≤ l.length ∧ i = .int .i64 k ∧ findC (l.drop k) s = findC l s ∧ Below W0.heap.size W0 wr) (fun i _ => l.length - (intOf i).toNat)
  case atStart => exact ⟨0, Nat.zero_le _, rfl, rfl, Below.refl _ _⟩
  case round =>
    obtain ⟨k, hk, rfl, hrem, hbel⟩ := hrel
    have hc := bcell hbel
    have hfz := bfrozen hbel
    have hzr := hbel.size
    have hr1 : w.heap.size < wr.heap.size := by omega
    by_cases hlt : k < l.length
    · have hx : l[k]? = some l[k] := List.getElem?_eq_getElem hlt
      have hd : l.drop k = l[k] :: l.drop (k + 1) := List.drop_eq_getElem_cons hlt
      generalize l[k] = x at hx hd
      obtain ⟨b, off, rfl, hbb, ⟨d0, d1, d2, d3⟩⟩ := (hl.later hbel).get hx
      rw [hd, findC] at hrem
      clear hd hx
      cases hcs : (x.name.toList == s.toList)
      · rw [hcs, if_neg (by simp)] at hrem
        have HR := Lib.hid hrem; clear hrem
        go_wp2_with fail
        go_roundw
        case rel => exact ⟨k + 1, by omega, by go_num, HR.out, belA⟩
        case measure => simp [intOf]; omega
      · rw [hcs, if_pos rfl] at hrem
        have HR := Lib.hid hrem; clear hrem
        go_wp2_with fail
        refine bodyPost_ret (v := .tuple #[.agg #[.string x.name, .int .i64 x.type, .int .i64 x.ck, .string x.cn], .bool true]) (by simp [results, Tryz.results34, go_sem, *]) rfl ⟨by rw [← HR.out]; rfl, ?_⟩
        exact belS
    obtain rfl : k = l.length := by omega
    rw [List.drop_length, findC] at hrem
    have HR := Lib.hid hrem; clear hrem
    go_wp2_with fail
    refine bodyPost_ret (v := .tuple #[.agg #[.string ⟨#[]⟩, .int .i64 0, .int .i64 0, .string ⟨#[]⟩], .bool false]) (by simp [results, Tryz.results34, go_sem, *]) rfl ⟨by rw [← HR.out]; rfl, ?_⟩
    exact belS

/-- clocks.always lies in its cells. -/
structure Always (w : World) : Prop where
  c0 : w.cell? ⟨0, 0, none⟩ = some (.int .i64 0)
  c1 : w.cell? ⟨0, 1, none⟩ = some (.string ⟨#[]⟩)
theorem Always.later {w w' : World} (h : Always w) (hb : Below w.heap.size w w') : Always w' := ⟨bel_cell hb h.c0, bel_cell hb h.c1⟩

set_option maxHeartbeats 2000000 in
theorem truth_any (l : List Va) (A : Option Addr) (cap : Nat) (s : ByteArray) (ok : Bool) (w : World) (hg : Always w) (hl : VarsAt w l A cap) (hn : l.length ≤ 1000000) :
    Calls Tryz.prog 44 #[.slice A l.length cap, .string s, .bool ok] w fun r w' => r = .returned (.int .i64 (truthE l s ok)) ∧ Below w.heap.size w w' := by
  have hfind := fun W h => find_any l A cap s W (hl.later h) hn
  have hv : truthE l s ok = truthE l s ok := rfl
  rw (occs := .pos [2]) [truthE] at hv
  obtain ⟨a0, a1⟩ := hg
  have hgz : 0 < w.heap.size := block_lt_of_cell a0
  cases hf : findC l s with
  | none =>
    rw [hf] at hv hfind
    clear hf
    have HV := Lib.hid hv; clear hv
    unfold fcV vaV zeroVa at hfind
    dsimp only at hfind
    go_enter Tryz.func44, Tryz.ntmps44
    go_wp2_with (first | (go_at_call 34; refine (hfind _ belA).mono ?_; rintro r w1 ⟨rfl, hb1⟩; have hc1 := bcell hb1; have hz1 := hb1.size; (try simp at hz1); (try have hy1 := lt0 w w1); (try have hy2 := ltA w 1 w1); (try have hy3 := ltA w 2 w1); (try have hy4 := lt0 wr w1); (try have hy5 := ltA wr 1 w1); (try have hgy1 : 0 < w1.heap.size := by omega)))
    go_ret
    exact ⟨ret_int HV.out.symm, belA⟩
  | some v =>
    rw [hf] at hv hfind
    clear hf
    unfold fcV vaV at hfind
    dsimp only at hfind hv
    have hgm := gmClock
    have hfq := fun w => eqClock v.ck v.cn 0 ⟨#[]⟩ w
    cases ok
    · rw [Bool.false_and, if_neg (by simp)] at hv
      have HV := Lib.hid hv; clear hv
      go_enter Tryz.func44, Tryz.ntmps44
      go_wp2_with (first | (go_at_call 34; refine (hfind _ belA).mono ?_; rintro r w1 ⟨rfl, hb1⟩; have hc1 := bcell hb1; have hz1 := hb1.size; (try simp at hz1); (try have hy1 := lt0 w w1); (try have hy2 := ltA w 1 w1); (try have hy3 := ltA w 2 w1); (try have hy4 := lt0 wr w1); (try have hy5 := ltA wr 1 w1); (try have hgy1 : 0 < w1.heap.size := by omega)))
      go_ret
      exact ⟨ret_int HV.out.symm, belA⟩
    · cases hq : ckEq v.ck v.cn 0 ⟨#[]⟩
      · rw [hq] at hv hfq
        rw [Bool.and_false, if_neg (by simp)] at hv
        clear hq
        have HV := Lib.hid hv; clear hv
        go_enter Tryz.func44, Tryz.ntmps44
        go_wp2_with (first | (go_at_call 34; refine (hfind _ belA).mono ?_; rintro r w1 ⟨rfl, hb1⟩; have hc1 := bcell hb1; have hz1 := hb1.size; (try simp at hz1); (try have hy1 := lt0 w w1); (try have hy2 := ltA w 1 w1); (try have hy3 := ltA w 2 w1); (try have hy4 := lt0 wr w1); (try have hy5 := ltA wr 1 w1); (try have hgy1 : 0 < w1.heap.size := by omega)))
        go_ret
        exact ⟨ret_int HV.out.symm, belA⟩
      · rw [hq] at hv hfq
        rw [Bool.and_true, if_pos rfl] at hv
        clear hq
        have HV := Lib.hid hv; clear hv
        go_enter Tryz.func44, Tryz.ntmps44
        go_wp2_with (first | (go_at_call 34; refine (hfind _ belA).mono ?_; rintro r w1 ⟨rfl, hb1⟩; have hc1 := bcell hb1; have hz1 := hb1.size; (try simp at hz1); (try have hy1 := lt0 w w1); (try have hy2 := ltA w 1 w1); (try have hy3 := ltA w 2 w1); (try have hy4 := lt0 wr w1); (try have hy5 := ltA wr 1 w1); (try have hgy1 : 0 < w1.heap.size := by omega)))
        go_ret
        exact ⟨ret_int HV.out.symm, belA⟩

end Go.Proofs.YtikmbkojnfmiaaaGreatDoorRRRR

/- Walks over the package clocks: all, of. -/
namespace Go.Proofs.YtikmbkojnfmiaaaGreatDoorRRRR
open Go.RowKit Go.Sort

/-- The contract of house.of at an expression. -/
def OfP (l : List Va) (A : Option Addr) (cap : Nat) (x : Ex) : Prop := ∀ (Ae : Option Addr) (ce : Nat) (ck : Int) (cs : ByteArray) (W : World), Always W → SubsAt W x Ae ce → VarsAt W l A cap →
    Calls Tryz.prog 35 #[.slice A l.length cap, exV x Ae ce, .agg #[.int .i64 ck, .string cs]] W fun r w' => r = .returned (.int .i64 (x.clk l (ck, cs))) ∧ Below W.heap.size W w'

set_option maxHeartbeats 2000000 in
theorem all_any (l : List Va) (A : Option Addr) (cap : Nat) (e : Ex) (ih : ∀ x ∈ e.sub, OfP l A cap x) (Ae : Option Addr) (ce : Nat) (ck : Int) (cs : ByteArray) (w : World) (hg : Always w) (he : SubsAt w e Ae ce) (hl : VarsAt w l A cap) :
    Calls Tryz.prog 45 #[.slice A l.length cap, .slice Ae e.sub.length ce, .agg #[.int .i64 ck, .string cs]] w fun r w' => r = .returned (.int .i64 (Ex.clkL l e.sub (ck, cs) (ck, cs))) ∧ Below w.heap.size w w' := by
  have hlen := he.len
  unfold maxLen at hlen
  obtain ⟨hlen1, hlen2⟩ := hlen
  go_enter Tryz.func45, Tryz.ntmps45
  go_wp2_with fail
  refine wp_name fun W0 hW0 => ?_
  have hb0 : Below w.heap.size w W0 := by rw [hW0]; exact belA
  have hz0 : w.heap.size < W0.heap.size := by rw [hW0]; simp
  have f0 : W0.cell? ⟨w.heap.size, 0, none⟩ = some (.int .i64 ck) := by rw [hW0]; go_simp
  have f1 : W0.cell? ⟨w.heap.size, 1, none⟩ = some (.string cs) := by rw [hW0]; go_simp
  clear hW0
  replace hl := hl.later hb0
  replace he := he.later hb0
  replace hg := hg.later hb0
  go_loopw [12] (fun i wr => ∃ k : Nat, k ≤ e.sub.length ∧ i = .int .i64 k ∧ Ex.clkL l (e.sub.drop k) (ck, cs) (ck, cs) = Ex.clkL l e.sub (ck, cs) (ck, cs) ∧ Below W0.heap.size W0 wr) (fun i _ => e.sub.length - (intOf i).toNat)
  case atStart => exact ⟨0, Nat.zero_le _, rfl, rfl, Below.refl _ _⟩
  case round =>
    obtain ⟨k, hk, rfl, hrem, hbel⟩ := hrel
    have hc := bcell hbel
    have hzr := hbel.size
    have hr1 : w.heap.size < wr.heap.size := by omega
    by_cases hlt : k < e.sub.length
    · have hx : e.sub[k]? = some e.sub[k] := List.getElem?_eq_getElem hlt
      have hmem : e.sub[k] ∈ e.sub := List.getElem_mem hlt
      have hd : e.sub.drop k = e.sub[k] :: e.sub.drop (k + 1) := List.drop_eq_getElem_cons hlt
      generalize e.sub[k] = x at hx hmem hd
      obtain ⟨b, off, A', cap', rfl, c0, c1, c2, c3, hs⟩ := (he.later hbel).get hx
      rw [hd, Ex.clkL] at hrem
      have ihx := fun W h1 h2 h3 => ih x hmem A' cap' ck cs W h1 h2 h3
      unfold exV at ihx
      clear hd hx hmem ih
      by_cases hz : x.clk l (ck, cs) ≠ 0
      · rw [if_pos hz] at hrem
        have t1 : (x.clk l (ck, cs) != 0) = true := by simpa using hz
        have HR := Lib.hid hrem; clear hrem hz
        generalize x.clk l (ck, cs) = xc at *
        go_wp2_with (first | (go_at_call 35; refine (ihx _ (hg.later belA) (hs.later belA) (hl.later belA)).mono ?_; rintro r w1 ⟨rfl, hb1⟩; have hc1 := bcell hb1; have hz1 := hb1.size; (try simp at hz1); (try have hy1 := lt0 w w1); (try have hy2 := ltA w 1 w1); (try have hy3 := ltA w 2 w1); (try have hy4 := lt0 wr w1); (try have hy5 := ltA wr 1 w1)))
        go_ret
        exact ⟨ret_int HR.out, belA⟩
      · rw [if_neg hz] at hrem
        have t1 : (x.clk l (ck, cs) != 0) = false := by simpa using hz
        have HR := Lib.hid hrem; clear hrem hz
        generalize x.clk l (ck, cs) = xc at *
        go_wp2_with (first | (go_at_call 35; refine (ihx _ (hg.later belA) (hs.later belA) (hl.later belA)).mono ?_; rintro r w1 ⟨rfl, hb1⟩; have hc1 := bcell hb1; have hz1 := hb1.size; (try simp at hz1); (try have hy1 := lt0 w w1); (try have hy2 := ltA w 1 w1); (try have hy3 := ltA w 2 w1); (try have hy4 := lt0 wr w1); (try have hy5 := ltA wr 1 w1)))
        go_roundw
        case rel => exact ⟨k + 1, by omega, by go_num, HR.out, belA⟩
        case measure => simp [intOf]; omega
    · have hke : k = e.sub.length := by omega
      rw [hke, List.drop_length, Ex.clkL] at hrem
      have HR := Lib.hid hrem; clear hrem hke
      go_wp2_with fail
      go_ret
      exact ⟨ret_int HR.out, belA⟩

theorem clk_own {l : List Va} {e : Ex} {c : Int × ByteArray} {f : Int} (h : ownC l e.kind e.name c.1 c.2 = f) (hf : f ≠ 0) : e.clk l c = f := by
  rw [Ex.clk_eq, h, if_pos hf]
theorem clk_sub {l : List Va} {e : Ex} {c : Int × ByteArray} (h : ownC l e.kind e.name c.1 c.2 = 0) : e.clk l c = Ex.clkL l e.sub (subC e.kind e.name c) (subD e.kind e.name c) := by
  rw [Ex.clk_eq, h, if_neg (by omega)]

end Go.Proofs.YtikmbkojnfmiaaaGreatDoorRRRR
