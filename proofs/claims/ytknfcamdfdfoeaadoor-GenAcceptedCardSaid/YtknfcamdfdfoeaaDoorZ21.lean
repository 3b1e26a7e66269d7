/- The cells of a program's memory, and what a program means at an instant. No program of Go in sight. -/
import Derived.Test.YtknfcamdfdfoeaaDoorZ20
import Derived.Test.YtknfcamdfdfoeaaDoorZ09
set_option linter.unusedVariables false
set_option linter.unusedSimpArgs false
set_option maxRecDepth 100000
namespace Go.Proofs.YtknfcamdfdfoeaaDoor
open Go.RowKit

/-- A cell of a memory. -/
structure Ce where
  name : ByteArray
  ck : Int
  cn : ByteArray
  first : Int

/-- Is a clock among others? -/
def inC (l : List (Int × ByteArray)) (c : Int × ByteArray) : Bool := l.any fun d => ckEq d.1 d.2 c.1 c.2
theorem inC_snoc (l : List (Int × ByteArray)) (d c : Int × ByteArray) : inC (l ++ [d]) c = (inC l c || ckEq d.1 d.2 c.1 c.2) := by unfold inC; simp
theorem ckEq_of {c d : Int × ByteArray} (h : ckEq c.1 c.2 d.1 d.2 = true) : c = d := by
  obtain ⟨h1, h2⟩ := ckEq_iff.1 h
  exact Prod.ext h1 (toList_inj h2)
theorem ckEq_self (c : Int × ByteArray) : ckEq c.1 c.2 c.1 c.2 = true := ckEq_iff.2 ⟨rfl, rfl⟩
theorem inC_iff {l : List (Int × ByteArray)} {c : Int × ByteArray} : inC l c = true ↔ c ∈ l := by
  unfold inC
  rw [List.any_eq_true]
  constructor
  · rintro ⟨d, hd, h⟩
    rw [← ckEq_of h]; exact hd
  · exact fun h => ⟨c, h, ckEq_self c⟩

namespace Ex
mutual
/-- The clocks at which an expression's arrows stand, behind others. -/
def arrs : List (Int × ByteArray) → Ex → Int × ByteArray → List (Int × ByteArray)
  | l, mk k _ s sub, c => arrsL (if k = 7 then l ++ [c] else l) k s c 0 sub
def arrsL : List (Int × ByteArray) → Int → ByteArray → Int × ByteArray → Nat → List Ex → List (Int × ByteArray)
  | l, _, _, _, _, [] => l
  | l, k, s, c, i, x :: r => arrsL (arrs l x (withC k s c i)) k s c (i + 1) r
end
theorem arrs_eq (l : List (Int × ByteArray)) (e : Ex) (c : Int × ByteArray) : e.arrs l c = arrsL (if e.kind = 7 then l ++ [c] else l) e.kind e.name c 0 e.sub := by cases e; rw [arrs]; rfl
end Ex

/-- A literal's value. -/
def litV (e : Ex) : Int := if e.kind = 4 then W32 (-(match e.sub with | x :: _ => x.n | [] => 0)) else e.n
/-- The cell of an equation that tells its value one instant later. -/
def eqCe (L : List Va) (q : Qe) : Ce := ⟨q.name, (clockL L q.name).1, (clockL L q.name).2, litV q.first⟩
def delayed (l : List Qe) : List Qe := l.filter (fun q => q.delay != 0)
def metE (L : List Va) (l : List Qe) : List (Int × ByteArray) := l.foldl (fun m q => q.e.arrs m (clockL L q.name)) []
def allC (L : List Va) : List (Int × ByteArray) := (0, ⟨#[]⟩) :: L.flatMap fun v => [(1, v.name), (2, v.name)]
def flagCe (c : Int × ByteArray) : Ce := ⟨⟨#[]⟩, c.1, c.2, 0⟩
def flagsOf (m : List (Int × ByteArray)) (l : List (Int × ByteArray)) : List Ce := (l.filter (inC m)).map flagCe
/-- The cells of a program's memory. -/
def cellsL (p : Pr) : List Ce := (delayed p.eqs).map (eqCe (varsOf p)) ++ flagsOf (metE (varsOf p) p.eqs) (allC (varsOf p))
/-- The cells, and the fault. -/
def cellsE (p : Pr) : List Ce × (Int × Int × Int) := if startF p = (0, 0, 0) then if 16 < (cellsL p).length then ([], (4, 0, 3)) else (cellsL p, (0, 0, 0)) else ([], startF p)

/-- What an expression's parts come to. -/
def evalK (g : ByteArray → Int) (fl : Int × ByteArray → Int) (k n : Int) (s : ByteArray) (c : Int × ByteArray) (vs : List Int) : Int :=
  if k = 3 then g s
  else if k = 4 then unF n (vs.getD 0 0)
  else if k = 5 then binF n (vs.getD 0 0) (vs.getD 1 0)
  else if k = 6 then if vs.getD 0 0 ≠ 0 then vs.getD 1 0 else vs.getD 2 0
  else if k = 7 then if fl c ≠ 0 then vs.getD 1 0 else vs.getD 0 0
  else if k = 8 ∨ k = 9 then vs.getD 0 0
  else if k = 10 then if g s ≠ 0 then vs.getD 0 0 else vs.getD 1 0
  else n
namespace Ex
mutual
/-- An expression's value at a clock: g: of variables, fl: of flags. -/
def eval (g : ByteArray → Int) (fl : Int × ByteArray → Int) : Ex → Int × ByteArray → Int
  | mk k n s sub, c => evalK g fl k n s c (evalL g fl k s c 0 sub)
def evalL (g : ByteArray → Int) (fl : Int × ByteArray → Int) : Int → ByteArray → Int × ByteArray → Nat → List Ex → List Int
  | _, _, _, _, [] => []
  | k, s, c, i, x :: r => eval g fl x (withC k s c i) :: evalL g fl k s c (i + 1) r
end
end Ex

/-- Is a clock there? -/
def there (g : ByteArray → Int) (c : Int × ByteArray) : Bool := if c.1 = 1 then g c.2 != 0 else if c.1 = 2 then g c.2 == 0 else true
end Go.Proofs.YtknfcamdfdfoeaaDoor

/- The cells of a memory: which there are, that no two flags are alike; the reference's list of values. No program of Go in sight. -/
namespace Go.Proofs.YtknfcamdfdfoeaaDoor
open Go.RowKit

theorem ba_eq {s t : ByteArray} : s.data = t.data ↔ s = t := ⟨fun h => by ext1; exact h, fun h => by rw [h]⟩
/-- No two variables have one name. -/
def Distinct (L : List Va) : Prop := ∀ (i j : Nat) (u v : Va), L[i]? = some u → L[j]? = some v → u.name = v.name → i = j
theorem Distinct.tail {v : Va} {L : List Va} (h : Distinct (v :: L)) : Distinct L ∧ ∀ u ∈ L, u.name ≠ v.name := by
  refine ⟨fun i j a b ha hb hn => ?_, fun u hu hn => ?_⟩
  · have := h (i + 1) (j + 1) a b (by simpa using ha) (by simpa using hb) hn
    omega
  · obtain ⟨i, hi⟩ := List.getElem?_of_mem hu
    have := h (i + 1) 0 u v (by simpa using hi) rfl hn
    omega

theorem flagC_mem {L : List Va} {c : Int × ByteArray} : c ∈ L.flatMap (fun v => [((1 : Int), v.name), (2, v.name)]) ↔ ∃ v ∈ L, c = (1, v.name) ∨ c = (2, v.name) := by
  simp [List.mem_flatMap]
theorem flagC_nodup : ∀ {L : List Va}, Distinct L → (L.flatMap fun v => [((1 : Int), v.name), (2, v.name)]).Pairwise (· ≠ ·)
  | [], _ => by simp
  | v :: L, h => by
    obtain ⟨h1, h2⟩ := h.tail
    rw [List.flatMap_cons, List.pairwise_append]
    refine ⟨by simp, flagC_nodup h1, fun a ha b hb => ?_⟩
    obtain ⟨u, hu, hb⟩ := flagC_mem.1 hb
    have hne := h2 u hu
    simp only [List.mem_cons, List.not_mem_nil, or_false] at ha
    rcases ha with rfl | rfl <;> rcases hb with rfl | rfl <;> intro e <;> injection e with e1 e2
    · exact hne e2.symm
    · exact absurd e1 (by decide)
    · exact absurd e1 (by decide)
    · exact hne e2.symm
theorem allC_nodup {L : List Va} (h : Distinct L) : (allC L).Pairwise (· ≠ ·) := by
  unfold allC
  rw [List.pairwise_cons]
  refine ⟨fun b hb => ?_, flagC_nodup h⟩
  obtain ⟨u, _, hb⟩ := flagC_mem.1 hb
  rcases hb with rfl | rfl <;> intro e <;> injection e with e1 e2 <;> exact absurd e1 (by decide)

/-- Cells of which each one that has no name is of a clock of its own. -/
def Flags (l : List Ce) : Prop := l.Pairwise fun a b => a.name.toList.isEmpty = true → b.name.toList.isEmpty = true → (a.ck, a.cn) ≠ (b.ck, b.cn)
theorem flagsOf_flags {m l : List (Int × ByteArray)} (h : l.Pairwise (· ≠ ·)) : Flags (flagsOf m l) := by
  unfold Flags flagsOf
  rw [List.pairwise_map]
  exact (h.filter _).imp fun hne _ _ => hne
theorem cellsL_flags {p : Pr} (hun : Distinct (varsOf p)) (hn : ∀ q ∈ p.eqs, q.name.toList.isEmpty = false) : Flags (cellsL p) := by
  unfold cellsL Flags
  rw [List.pairwise_append]
  refine ⟨?_, flagsOf_flags (allC_nodup hun), fun a ha b _ hea => ?_⟩
  · rw [List.pairwise_map]
    refine List.Pairwise.imp_of_mem (R := fun _ _ => True) ?_ (List.pairwise_of_forall fun _ _ => trivial)
    intro a b ha _ _ hea
    have := hn a (List.mem_filter.1 ha).1
    rw [show (eqCe (varsOf p) a).name = a.name from rfl, this] at hea
    cases hea
  · obtain ⟨q, hq, rfl⟩ := List.mem_map.1 ha
    have := hn q (List.mem_filter.1 hq).1
    rw [show (eqCe (varsOf p) q).name = q.name from rfl, this] at hea
    cases hea
namespace Ex
theorem arrsL_app {k : Int} {s : ByteArray} {c : Int × ByteArray} : ∀ (r : List Ex), (∀ x ∈ r, ∀ l c, x.arrs l c = l ++ x.arrs [] c) → ∀ (l : List (Int × ByteArray)) (i : Nat), arrsL l k s c i r = l ++ arrsL [] k s c i r
  | [], _, l, i => by rw [arrsL, arrsL]; simp
  | x :: r, h, l, i => by
    rw [arrsL, arrsL, arrsL_app r (fun y hy => h y (by simp [hy])) (x.arrs l _), arrsL_app r (fun y hy => h y (by simp [hy])) (x.arrs [] _), h x (by simp) l, List.append_assoc]
theorem arrs_app (e : Ex) : ∀ l c, e.arrs l c = l ++ e.arrs [] c := by
  induction e using ind with
  | h e ih =>
    intro l c
    rw [arrs_eq, arrs_eq []]
    rw [arrsL_app e.sub ih, arrsL_app e.sub ih (if e.kind = 7 then [] ++ [c] else [])]
    split <;> simp
theorem arrsL_sub {k : Int} {s : ByteArray} {c : Int × ByteArray} : ∀ (r : List Ex) (l : List (Int × ByteArray)) (i j : Nat) (x : Ex), r[j]? = some x → ∀ d ∈ x.arrs [] (withC k s c (i + j)), d ∈ arrsL l k s c i r
  | [], l, i, j, x, h => by simp at h
  | y :: r, l, i, 0, x, h => fun d hd => by
    simp at h; subst h
    rw [arrsL, arrsL_app r (fun z _ => arrs_app z), arrs_app]
    simp [show i + 0 = i from rfl] at hd ⊢
    exact .inr (.inl hd) 
  | y :: r, l, i, j + 1, x, h => fun d hd => by
    rw [arrsL]
    exact arrsL_sub r _ (i + 1) j x (by simpa using h) d (by rwa [show i + 1 + j = i + (j + 1) from by omega])
/-- The arrows of a part are the whole's. -/
theorem arrs_sub {e x : Ex} {j : Nat} (h : e.sub[j]? = some x) (c : Int × ByteArray) : ∀ d ∈ x.arrs [] (withC e.kind e.name c j), d ∈ e.arrs [] c := fun d hd => by
  rw [arrs_eq]
  exact arrsL_sub e.sub _ 0 j x h d (by rwa [Nat.zero_add])
theorem arrs_here {e : Ex} (h : e.kind = 7) (c : Int × ByteArray) : c ∈ e.arrs [] c := by
  rw [arrs_eq, if_pos h, arrsL_app e.sub (fun x _ => arrs_app x)]
  simp
end Ex

end Go.Proofs.YtknfcamdfdfoeaaDoor

/- The code that is made of a program. No program of Go in sight. -/
namespace Go.Proofs.YtknfcamdfdfoeaaDoor
open Go.RowKit

/-- The first piece where a value is so, else the second one. -/
def choiceC (v a b : List (Int × Int)) : List (Int × Int) := v ++ [(11, (a.length : Int) + 1)] ++ a ++ [(10, (b.length : Int))] ++ b
/-- The code of an expression, of its parts' codes. -/
def genK (sl : ByteArray → Int) (fl : Int × ByteArray → Int) (k n : Int) (s : ByteArray) (c : Int × ByteArray) (ps : List (List (Int × Int))) : List (Int × Int) :=
  if k = 3 then [(2, sl s)]
  else if k = 4 then ps.getD 0 [] ++ [(8, n)]
  else if k = 5 then ps.getD 0 [] ++ ps.getD 1 [] ++ [(9, n)]
  else if k = 6 then choiceC (ps.getD 0 []) (ps.getD 1 []) (ps.getD 2 [])
  else if k = 7 then choiceC [(4, fl c)] (ps.getD 1 []) (ps.getD 0 [])
  else if k = 8 ∨ k = 9 then ps.getD 0 []
  else if k = 10 then choiceC [(2, sl s)] (ps.getD 0 []) (ps.getD 1 [])
  else [(1, n)]
namespace Ex
mutual
/-- An expression's code at a clock: sl: where variables stand, fl: where flags do. -/
def gen (sl : ByteArray → Int) (fl : Int × ByteArray → Int) : Ex → Int × ByteArray → List (Int × Int)
  | mk k n s sub, c => genK sl fl k n s c (genL sl fl k s c 0 sub)
def genL (sl : ByteArray → Int) (fl : Int × ByteArray → Int) : Int → ByteArray → Int × ByteArray → Nat → List Ex → List (List (Int × Int))
  | _, _, _, _, [] => []
  | k, s, c, i, x :: r => gen sl fl x (withC k s c i) :: genL sl fl k s c (i + 1) r
end
theorem gen_eq (sl : ByteArray → Int) (fl : Int × ByteArray → Int) (e : Ex) (c : Int × ByteArray) : e.gen sl fl c = genK sl fl e.kind e.n e.name c (genL sl fl e.kind e.name c 0 e.sub) := by cases e; rw [gen]; rfl
theorem genL_len (sl : ByteArray → Int) (fl : Int × ByteArray → Int) (k : Int) (s : ByteArray) (c : Int × ByteArray) : ∀ (r : List Ex) (i : Nat), (genL sl fl k s c i r).length = r.length
  | [], i => by rw [genL]; rfl
  | x :: r, i => by rw [genL, List.length_cons, List.length_cons, genL_len sl fl k s c r]
theorem genL_get (sl : ByteArray → Int) (fl : Int × ByteArray → Int) (k : Int) (s : ByteArray) (c : Int × ByteArray) : ∀ (r : List Ex) (i j : Nat) (x : Ex), r[j]? = some x → (genL sl fl k s c i r).getD j [] = x.gen sl fl (withC k s c (i + j))
  | [], i, j, x, h => by simp at h
  | y :: r, i, 0, x, h => by simp at h; subst h; rw [genL]; rfl
  | y :: r, i, j + 1, x, h => by
    rw [genL, show i + (j + 1) = i + 1 + j from by omega]
    have := genL_get sl fl k s c r (i + 1) j x (by simpa using h)
    simpa using this
theorem choice_len (v a b : List (Int × Int)) : (choiceC v a b).length = v.length + a.length + b.length + 2 := by unfold choiceC; simp; omega
/-- How long it is at most. -/
theorem gen_len (sl : ByteArray → Int) (fl : Int × ByteArray → Int) (e : Ex) : ∀ c, (e.gen sl fl c).length ≤ 3 * e.size := by
  induction e using ind with
  | h e ih =>
    intro c
    have hs : ∀ (r : List Ex) (i : Nat), (∀ x ∈ r, ∀ c, (x.gen sl fl c).length ≤ 3 * x.size) → ∀ c, ((genL sl fl e.kind e.name c i r).map List.length).sum ≤ 3 * sizeL r := by
      intro r
      induction r with
      | nil => exact fun i _ c => by rw [genL]; simp [sizeL]
      | cons x r ihr =>
        intro i h c
        have h1 := h x (by simp) (withC e.kind e.name c i)
        have h2 := ihr (i + 1) (fun y hy => h y (by simp [hy])) c
        rw [genL, List.map_cons, List.sum_cons, sizeL]
        omega
    have h0 := hs e.sub 0 ih c
    rw [gen_eq, size_eq]
    generalize genL sl fl e.kind e.name c 0 e.sub = ps at h0 ⊢
    have hd : (ps.getD 0 []).length + (ps.getD 1 []).length + (ps.getD 2 []).length ≤ (ps.map List.length).sum := by
      match ps with
      | [] => simp
      | [a] => simp
      | [a, b] => simp
      | a :: b :: d :: r => simp; omega
    unfold genK
    generalize ps.getD 0 [] = a at hd ⊢
    generalize ps.getD 1 [] = b at hd ⊢
    generalize ps.getD 2 [] = d at hd ⊢
    repeat' split
    all_goals first | omega | (rw [choice_len]; simp only [List.length_cons, List.length_nil]; omega) | (rw [choice_len]; omega) | (simp only [List.length_append, List.length_cons, List.length_nil]; omega)
end Ex

/-- Where a variable stands; where a clock's flag does. -/
def slotF (L : List Va) (s : ByteArray) : Int := (findV L s).getD 0
def flagI : Nat → List Ce → Int × ByteArray → Int
  | _, [], _ => 0
  | i, x :: r, d => if x.name.toList.isEmpty = true ∧ ckEq x.ck x.cn d.1 d.2 = true then (i : Int) else flagI (i + 1) r d
def flagF (l : List Ce) (d : Int × ByteArray) : Int := flagI 0 l d
/-- A piece that is done where a clock is there. -/
def underC (sl : ByteArray → Int) (c : Int × ByteArray) (x : List (Int × Int)) : List (Int × Int) :=
  if c.1 = 1 then [(2, sl c.2), (11, (x.length : Int))] ++ x else if c.1 = 2 then [(2, sl c.2), (8, 2), (11, (x.length : Int))] ++ x else x
def insC (sl : ByteArray → Int) : Nat → List Va → List (Int × Int)
  | _, [] => []
  | i, v :: r => [(6, (i : Int)), (3, sl v.name)] ++ insC sl (i + 1) r
def oldC (sl : ByteArray → Int) : Nat → List Qe → List (Int × Int)
  | _, [] => []
  | k, q :: r => [(4, (k : Int)), (3, sl q.name)] ++ oldC sl (k + 1) r
def newC (sl : ByteArray → Int) (fl : Int × ByteArray → Int) (L : List Va) : Nat → List Qe → List (Int × Int)
  | _, [] => []
  | k, q :: r => underC sl (clockL L q.name) (q.e.gen sl fl (clockL L q.name) ++ [(5, (k : Int))]) ++ newC sl fl L (k + 1) r
def flgC (sl : ByteArray → Int) : Nat → List Ce → List (Int × Int)
  | _, [] => []
  | k, c :: r => underC sl (c.ck, c.cn) [(1, 1), (5, (k : Int))] ++ flgC sl (k + 1) r
def ordC (sl : ByteArray → Int) (fl : Int × ByteArray → Int) (L : List Va) (eqs : List Qe) : List Int → List (Int × Int)
  | [] => []
  | j :: r => (match eqs[j.toNat]? with | some q => underC sl (clockL L q.name) (q.e.gen sl fl (clockL L q.name) ++ [(3, sl q.name)]) | none => []) ++ ordC sl fl L eqs r
def outC (sl : ByteArray → Int) : Nat → List Va → List (Int × Int)
  | _, [] => []
  | i, v :: r => [(2, sl v.name), (7, (i : Int))] ++ outC sl (i + 1) r
/-- The code of a program. -/
def codeL (p : Pr) : List (Int × Int) :=
  insC (slotF (varsOf p)) 0 p.ins ++ oldC (slotF (varsOf p)) 0 (delayed p.eqs) ++ ordC (slotF (varsOf p)) (flagF (cellsL p)) (varsOf p) p.eqs (orderE p).1 ++
  newC (slotF (varsOf p)) (flagF (cellsL p)) (varsOf p) 0 (delayed p.eqs) ++ flgC (slotF (varsOf p)) (delayed p.eqs).length ((cellsL p).drop (delayed p.eqs).length) ++ outC (slotF (varsOf p)) 0 p.outs
/-- The code, its frame, and the fault. -/
def codeE (p : Pr) : List (Int × Int) × (Int × Int × Int × Int × Int) × (Int × Int × Int) :=
  if (cellsE p).2 = (0, 0, 0) then
    if 600 < (codeL p).length then ([], (0, 0, 0, 0, 0), (4, 0, 3))
    else (codeL p, ((varsOf p).length, (cellsL p).length, (cellsL p).length, p.ins.length, p.outs.length), (0, 0, 0))
  else ([], (0, 0, 0, 0, 0), (cellsE p).2)
end Go.Proofs.YtknfcamdfdfoeaaDoor

/- What the maps of the package gen hold. No program of Go in sight. -/
namespace Go.Proofs.YtknfcamdfdfoeaaDoor
open Go.RowKit

theorem snocInd {α : Type} {P : List α → Prop} (h0 : P []) (h1 : ∀ l x, P l → P (l ++ [x])) : ∀ l, P l := fun l => by
  have : ∀ r : List α, P r.reverse := fun r => by
    induction r with
    | nil => exact h0
    | cons x r ih => rw [List.reverse_cons]; exact h1 _ _ ih
  rw [← List.reverse_reverse l]
  exact this _

/-- The last variable of a name. -/
def slotM (L : List Va) (s : ByteArray) : Option Int := L.zipIdx.foldl (fun c v => if s.data = v.1.name.data then some (v.2 : Int) else c) none
theorem slotM_snoc (L : List Va) (v : Va) (s : ByteArray) : slotM (L ++ [v]) s = if s.data = v.name.data then some (L.length : Int) else slotM L s := by
  unfold slotM
  rw [List.zipIdx_append, List.foldl_append]
  simp [List.zipIdx]
/-- The last clock of a name. -/
def clkM2 (L : List Va) (s : ByteArray) : Option (Int × ByteArray) := L.foldl (fun c v => if s.data = v.name.data then some (v.ck, v.cn) else c) none
theorem clkM2_snoc (L : List Va) (v : Va) (s : ByteArray) : clkM2 (L ++ [v]) s = if s.data = v.name.data then some (v.ck, v.cn) else clkM2 L s := by
  unfold clkM2
  rw [List.foldl_append]
  rfl
/-- The last flag of a clock. -/
def flagM (l : List Ce) (d : Int × ByteArray) : Option Int := l.zipIdx.foldl (fun c x => if x.1.name.toList.isEmpty = true ∧ d.1 = x.1.ck ∧ d.2.data = x.1.cn.data then some (x.2 : Int) else c) none
theorem flagM_snoc (l : List Ce) (x : Ce) (d : Int × ByteArray) : flagM (l ++ [x]) d = if x.name.toList.isEmpty = true ∧ d.1 = x.ck ∧ d.2.data = x.cn.data then some (l.length : Int) else flagM l d := by
  unfold flagM
  rw [List.zipIdx_append, List.foldl_append]
  simp [List.zipIdx]

theorem findI_snoc (v : Va) (s : ByteArray) : ∀ (L : List Va) (i : Int), findI (L ++ [v]) s i = match findI L s i with | some j => some j | none => if s.data = v.name.data then some (i + (L.length : Int)) else none
  | [], i => by simp [findI]
  | u :: L, i => by
    simp only [List.cons_append, findI]
    split
    · rfl
    · rw [findI_snoc v s L (i + 1)]
      cases findI L s (i + 1)
      · simp only [List.length_cons]
        split
        · congr 1; omega
        · rfl
      · rfl
theorem findI_none : ∀ (L : List Va) (s : ByteArray) (i : Int), (∀ u ∈ L, u.name ≠ s) → findI L s i = none
  | [], s, i, _ => rfl
  | u :: L, s, i, h => by
    have h1 := h u (by simp)
    rw [findI, if_neg (fun he => h1 (by ext1; exact he.symm))]
    exact findI_none L s (i + 1) fun y hy => h y (by simp [hy])
/-- Where names differ the last one is the first one. -/
theorem slotM_find (s : ByteArray) : ∀ (L : List Va), (L.map (·.name)).Nodup → slotM L s = findV L s := by
  refine snocInd (fun _ => rfl) fun L v ih hn => ?_
  · rw [List.map_append, List.nodup_append] at hn
    rw [slotM_snoc, ih hn.1]
    unfold findV
    rw [findI_snoc]
    by_cases hs : s.data = v.name.data
    · have hsv : s = v.name := by ext1; exact hs
      rw [findI_none L s 0 (fun u hu he => hn.2.2 u.name (List.mem_map.2 ⟨u, hu, rfl⟩) v.name (by simp) (he.trans hsv))]
      simp [hs]
    · rw [if_neg hs]
      cases findI L s 0 <;> simp [hs]
theorem slotM_none (s : ByteArray) : ∀ (L : List Va), (∀ u ∈ L, u.name ≠ s) → slotM L s = none := by
  refine snocInd (fun _ => rfl) fun L v ih h => ?_
  rw [slotM_snoc, if_neg (fun he => h v (by simp) (by ext1; exact he.symm))]
  exact ih fun u hu => h u (by simp [hu])
theorem clkM2_none (s : ByteArray) : ∀ (L : List Va), (∀ u ∈ L, u.name ≠ s) → clkM2 L s = none := by
  refine snocInd (fun _ => rfl) fun L v ih h => ?_
  rw [clkM2_snoc, if_neg (fun he => h v (by simp) (by ext1; exact he.symm))]
  exact ih fun u hu => h u (by simp [hu])
theorem names_new {L : List Va} (hn : (L.map (·.name)).Nodup) {k : Nat} {x : Va} (hx : L[k]? = some x) : ∀ u ∈ L.take k, u.name ≠ x.name := by
  intro u hu he
  obtain ⟨j, hj⟩ := List.getElem?_of_mem hu
  have hjk : j < k := by
    have := (List.getElem?_eq_some_iff.1 hj).1
    rw [List.length_take] at this; omega
  rw [List.getElem?_take, if_pos hjk] at hj
  have e1 : (L.map (·.name))[j]? = some x.name := by rw [List.getElem?_map, hj]; simp [he]
  have e2 : (L.map (·.name))[k]? = some x.name := by rw [List.getElem?_map, hx]; rfl
  obtain ⟨l1, g1⟩ := List.getElem?_eq_some_iff.1 e1
  obtain ⟨l2, g2⟩ := List.getElem?_eq_some_iff.1 e2
  have := (List.getElem_inj hn).1 (g1.trans g2.symm)
  omega
theorem clkM2_get (s : ByteArray) : ∀ L : List Va, (clkM2 L s).getD (0, ⟨#[]⟩) = L.foldl (fun c v => if s.data = v.name.data then (v.ck, v.cn) else c) (0, ⟨#[]⟩) := by
  refine snocInd rfl fun L v ih => ?_
  · rw [clkM2_snoc, List.foldl_append]
    simp only [List.foldl_cons, List.foldl_nil]
    split
    · rfl
    · exact ih
end Go.Proofs.YtknfcamdfdfoeaaDoor
