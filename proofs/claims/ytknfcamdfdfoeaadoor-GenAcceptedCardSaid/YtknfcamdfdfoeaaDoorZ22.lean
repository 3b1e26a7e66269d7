/- Codes in memory: slices of instructions. -/
import Derived.Test.YtknfcamdfdfoeaaDoorZ03
import Derived.Test.YtknfcamdfdfoeaaDoorRows
import Derived.Test.YtknfcamdfdfoeaaDoorZ04
import Derived.Test.YtknfcamdfdfoeaaDoorZ21
import Derived.Deep.RegionLaw
set_option linter.unusedVariables false
set_option linter.unusedSimpArgs false
set_option maxRecDepth 100000
namespace Go.Proofs.YtknfcamdfdfoeaaDoor
open Go.RowKit Go.Sort

theorem insinfo : (Tryd.prog.info? 62).map (fun i => (i.zero, i.size, i.bytes)) = some (some (.agg #[.int .i64 0, .int .i32 0]), 2, 16) := by kernel_rfl
/-- A code's cells. -/
def cdC (l : List (Int × Int)) : List Value := l.flatMap fun x => [.int .i64 x.1, .int .i32 x.2]
theorem cdC_len : ∀ l : List (Int × Int), (cdC l).length = l.length * 2
  | [] => rfl
  | x :: l => by
    have := cdC_len l
    unfold cdC at this ⊢
    rw [List.flatMap_cons, List.length_append, this, List.length_cons]
    simp; omega
theorem cdC_app (a b : List (Int × Int)) : cdC (a ++ b) = cdC a ++ cdC b := by unfold cdC; simp
theorem cdC_one (l : List (Int × Int)) : ∀ u ∈ cdC l, u.oneCell' = true := by
  intro u hu
  unfold cdC at hu
  rw [List.mem_flatMap] at hu
  obtain ⟨x, _, hx⟩ := hu
  simp only [List.mem_cons, List.not_mem_nil, or_false] at hx
  rcases hx with rfl | rfl <;> rfl
theorem cdC_at : ∀ (l : List (Int × Int)) (k : Nat) (x : Int × Int), l[k]? = some x → (cdC l)[k * 2]? = some (.int .i64 x.1) ∧ (cdC l)[k * 2 + 1]? = some (.int .i32 x.2)
  | [], k, x, h => by simp at h
  | y :: l, 0, x, h => by simp at h; subst h; exact ⟨rfl, rfl⟩
  | y :: l, k + 1, x, h => by
    have := cdC_at l k x (by simpa using h)
    have e : cdC (y :: l) = [.int .i64 y.1, .int .i32 y.2] ++ cdC l := rfl
    rw [e, show (k + 1) * 2 = 2 + k * 2 from by omega, List.getElem?_append_right (by simp), List.getElem?_append_right (by simp; omega)]
    simp only [List.length_cons, List.length_nil]
    rw [show 0 + 1 + 1 = 2 from rfl, show 2 + k * 2 - 2 = k * 2 from by omega, show 2 + k * 2 + 1 - 2 = k * 2 + 1 from by omega]
    exact this
/-- The slice at A holds a code. -/
def InsAt (w : World) (l : List (Int × Int)) (A : Option Addr) (cap : Nat) : Prop := l.length ≤ cap ∧ cap ≤ maxLen ∧ CellsAt w A l.length 2 (cdC l)
theorem cells_later {w w' : World} {A : Option Addr} {m size : Nat} {news : List Value} (h : CellsAt w A m size news) (hb : Below w.heap.size w w') : CellsAt w' A m size news :=
  ⟨h.1, fun hm => by
    obtain ⟨b, off, hA, hc⟩ := h.2 hm
    exact ⟨b, off, hA, fun j u hj => bel_cell hb (hc j u hj)⟩⟩
theorem InsAt.later {w w' : World} {l : List (Int × Int)} {A : Option Addr} {cap : Nat} (h : InsAt w l A cap) (hb : Below w.heap.size w w') : InsAt w' l A cap := ⟨h.1, h.2.1, cells_later h.2.2 hb⟩
theorem InsAt.of_own {w : World} {base : Nat} {e : TypeId} {l : List (Int × Int)} {v : Value} (h : w.ownsRow base e 2 v l.length (cdC l)) : ∃ A cap, v = .slice A l.length cap ∧ InsAt w l A cap := by
  obtain ⟨A, cap, rfl, h1, h2⟩ := own_slice h
  refine ⟨A, cap, rfl, h1, h2, cdC_len l, fun hm => ?_⟩
  obtain ⟨g, c', hv, _, _, _, _, hc⟩ := own_get h hm
  injection hv with e1 e2 e3
  subst e1
  exact ⟨g, 0, rfl, fun j u hj => by rw [Nat.zero_add]; exact hc j u hj⟩
/-- A slice of codes: a piece lies there. -/
structure Piece where
  l : List (Int × Int)
  A : Option Addr
  cap : Nat
def Piece.val (x : Piece) : Value := .slice x.A x.l.length x.cap
/-- The slice at A holds these pieces. -/
def PiecesAt (w : World) (ps : List Piece) (A : Option Addr) : Prop := (0 < ps.length → ∃ b off, A = some ⟨b, off, none⟩ ∧ ∀ (k : Nat) (x : Piece), ps[k]? = some x → w.cell? ⟨b, off + k, none⟩ = some x.val) ∧ ∀ x ∈ ps, InsAt w x.l x.A x.cap
theorem PiecesAt.later {w w' : World} {ps : List Piece} {A : Option Addr} (h : PiecesAt w ps A) (hb : Below w.heap.size w w') : PiecesAt w' ps A :=
  ⟨fun hl => by
    obtain ⟨b, off, hA, hc⟩ := h.1 hl
    exact ⟨b, off, hA, fun k x hk => bel_cell hb (hc k x hk)⟩, fun x hx => (h.2 x hx).later hb⟩
def flatP (ps : List Piece) : List (Int × Int) := ps.flatMap Piece.l
theorem flatP_take {ps : List Piece} {k : Nat} {x : Piece} (h : ps[k]? = some x) : flatP (ps.take (k + 1)) = flatP (ps.take k) ++ x.l := by
  unfold flatP
  rw [List.take_add_one, h]
  simp
theorem flatP_len {ps : List Piece} {k : Nat} : (flatP (ps.take k)).length ≤ (flatP ps).length := by
  have : flatP ps = flatP (ps.take k) ++ flatP (ps.drop k) := by unfold flatP; rw [← List.flatMap_append, List.take_append_drop]
  rw [this, List.length_append]; omega
end Go.Proofs.YtknfcamdfdfoeaaDoor

/- Walks over gen's one and row. -/
namespace Go.Proofs.YtknfcamdfdfoeaaDoor
open Go.RowKit Go.Sort

/-- What a function that makes a code hands back. -/
def CodeIs (w : World) (l : List (Int × Int)) (r : Ending) (w' : World) : Prop := (∃ v, r = .returned v ∧ w'.ownsRow w.heap.size 62 2 v l.length (cdC l)) ∧ Below w.heap.size w w'

theorem one_any (op n : Int) (w : World) : Calls Tryd.prog 15 #[.int .i64 op, .int .i32 n] w fun r w' => (r = .returned (.slice (some ⟨w.heap.size, 0, none⟩) 1 1) ∧ w'.ownsRow w.heap.size 62 2 (.slice (some ⟨w.heap.size, 0, none⟩) 1 1) 1 (cdC [(op, n)])) ∧ Below w.heap.size w w' := by
  go_enter Tryd.func15, Tryd.ntmps15
  go_wp2_with fail
  go_ret
  refine ⟨⟨rfl, ?_⟩, belA⟩
  exact ⟨rfl, .inr ⟨w.heap.size, 1, #[.int .i64 op, .int .i32 n], rfl, Nat.le_refl _, heap_alloc_new w _, Nat.le_refl _, by unfold maxLen; omega, rfl, rfl⟩⟩

set_option maxHeartbeats 2000000 in
theorem row_any (ps : List Piece) (A : Option Addr) (cap : Nat) (w : World) (hp : PiecesAt w ps A) (hl : (flatP ps).length ≤ 1000000) (h1 : ps.length ≤ 1000000) :
    Calls Tryd.prog 14 #[.slice A ps.length cap] w (CodeIs w (flatP ps)) := by
  unfold CodeIs
  go_enter Tryd.func14, Tryd.ntmps14
  go_wp2_with fail
  go_loopw [3, 8] (fun v i wr => ∃ (k : Nat), k ≤ ps.length ∧ i = .int .i64 k ∧ wr.ownsRow w.heap.size 62 2 v (flatP (ps.take k)).length (cdC (flatP (ps.take k))) ∧ Below w.heap.size w wr) (fun _ i _ => ps.length - (intOf i).toNat)
  case atStart => exact ⟨0, Nat.zero_le _, rfl, World.ownsRow_nil _ _ _ _, Below.refl _ _⟩
  case round =>
    obtain ⟨k, hk, rfl, hown, hbel⟩ := hrel
    by_cases hlt : k < ps.length
    · obtain ⟨x, hx⟩ : ∃ x, ps[k]? = some x := ⟨_, List.getElem?_eq_getElem hlt⟩
      obtain ⟨b, off, rfl, hc⟩ := (hp.later hbel).1 (by omega)
      have c0 := hc k x hx
      have hins := (hp.later hbel).2 x (List.mem_of_getElem? hx)
      have htk := flatP_take hx
      have hfl := @flatP_len ps k
      have hfl2 := @flatP_len ps (k + 1)
      rw [htk, List.length_append] at hfl2
      obtain ⟨xl, xA, xc⟩ := x
      unfold Piece.val at c0
      dsimp only at *
      have hz := hbel.size
      have HTK := Lib.hid htk; clear htk
      clear hc hx
      go_wp2_with (first | (at_builtin; go_loud (refine wpList_cat rfl (.tmp 12) (.tmp 13) 29 rfl w.heap.size 62 _ 2 16 Tryd.underlying29 insinfo rfl (by omega) _ (flatP (ps.take k)).length (cdC (flatP (ps.take k))) xA xl.length xc (cdC xl) rfl hown rfl hins.2.2 (cdC_one _) (by omega) (by omega) (by omega) ?_; intro v2 w2 hown2 hb2)))
      go_roundw
      case rel => exact ⟨k + 1, by omega, by go_num, by rw [HTK.out, cdC_app, List.length_append]; exact hown2, hbel.trans hb2⟩
      case measure => simp [intOf]; omega
    · obtain rfl : k = ps.length := by omega
      rw [List.take_length] at hown
      go_wp2_with fail
      go_ret
      exact ⟨⟨_, rfl, hown⟩, hbel⟩
end Go.Proofs.YtknfcamdfdfoeaaDoor

/- Walks over gen's choice and under. -/
namespace Go.Proofs.YtknfcamdfdfoeaaDoor
open Go.RowKit Go.Sort Go.Maps

theorem wrap32_len (n : Nat) (h : n ≤ 1000000) : IntKind.i32.wrap (n : Int) = (n : Int) := w32_same (by unfold I32; omega)
theorem wrap32_len1 (n : Nat) (h : n ≤ 1000000) : IntKind.i32.wrap ((n : Int) + 1) = (n : Int) + 1 := w32_same (by unfold I32; omega)
theorem InsAt.one {w : World} {base g : Nat} {x : Int × Int} (h : w.ownsRow base 62 2 (.slice (some ⟨g, 0, none⟩) 1 1) 1 (cdC [x])) : InsAt w [x] (some ⟨g, 0, none⟩) 1 := by
  obtain ⟨A, cap, hv, hat⟩ := InsAt.of_own (l := [x]) h
  injection hv with e1 e2 e3
  subst e1 e3
  exact hat
theorem CodeIs.less {w w2 : World} {l : List (Int × Int)} {r : Ending} {w' : World} (h : CodeIs w2 l r w') (hb : Below w.heap.size w w2) : CodeIs w l r w' := by
  obtain ⟨⟨v, hr, hown⟩, hb2⟩ := h
  exact ⟨⟨v, hr, own_less hown hb.size⟩, bel_trans hb hb2⟩

/-- Pieces in a row that was just laid. -/
theorem pieces_new {w : World} {ps : List Piece} {c : Array Value} {t : TypeId} (hc : c = (ps.map Piece.val).toArray) (hi : ∀ x ∈ ps, InsAt w x.l x.A x.cap) : PiecesAt (w.alloc (.cells c t)) ps (some ⟨w.heap.size, 0, none⟩) := by
  refine ⟨fun _ => ⟨w.heap.size, 0, rfl, fun k x hk => ?_⟩, fun x hx => (hi x hx).later (bel_alloc (Below.refl _ _) _)⟩
  rw [Nat.zero_add, cell_new, hc, List.getElem?_toArray, List.getElem?_map, hk]
  rfl

set_option maxHeartbeats 4000000 in
theorem choice_any (v a b : List (Int × Int)) (A1 : Option Addr) (c1 : Nat) (A2 : Option Addr) (c2 : Nat) (A3 : Option Addr) (c3 : Nat) (w : World) (h1 : InsAt w v A1 c1) (h2 : InsAt w a A2 c2) (h3 : InsAt w b A3 c3) (hl : v.length + a.length + b.length ≤ 900000) :
    Calls Tryd.prog 28 #[.slice A1 v.length c1, .slice A2 a.length c2, .slice A3 b.length c3] w (CodeIs w (choiceC v a b)) := by
  have t1 := wrap32_len1 a.length (by omega)
  have t2 := wrap32_len b.length (by omega)
  have l2 := h2.1
  have l3 := h3.1
  have m2 := h2.2.1
  have m3 := h3.2.1
  unfold maxLen at m2 m3
  have hrow := fun (g1 g2 : Nat) (W : World) (hb : Below w.heap.size w W) (hi1 : InsAt W [(11, (a.length : Int) + 1)] (some ⟨g1, 0, none⟩) 1) (hi2 : InsAt W [(10, (b.length : Int))] (some ⟨g2, 0, none⟩) 1) (t : TypeId) =>
    row_any [⟨v, A1, c1⟩, ⟨[(11, (a.length : Int) + 1)], some ⟨g1, 0, none⟩, 1⟩, ⟨a, A2, c2⟩, ⟨[(10, (b.length : Int))], some ⟨g2, 0, none⟩, 1⟩, ⟨b, A3, c3⟩] (some ⟨W.heap.size, 0, none⟩) 5
      (W.alloc (.cells #[.slice A1 v.length c1, .slice (some ⟨g1, 0, none⟩) 1 1, .slice A2 a.length c2, .slice (some ⟨g2, 0, none⟩) 1 1, .slice A3 b.length c3] t))
      (pieces_new rfl fun x hx => by
        simp only [List.mem_cons, List.not_mem_nil, or_false] at hx
        rcases hx with rfl | rfl | rfl | rfl | rfl
        · exact h1.later hb
        · exact hi1
        · exact h2.later hb
        · exact hi2
        · exact h3.later hb)
      (by simp [flatP]; omega) (by simp)
  have hfl : ∀ g1 g2 : Nat, flatP [⟨v, A1, c1⟩, ⟨[(11, (a.length : Int) + 1)], some ⟨g1, 0, none⟩, 1⟩, ⟨a, A2, c2⟩, ⟨[(10, (b.length : Int))], some ⟨g2, 0, none⟩, 1⟩, ⟨b, A3, c3⟩] = choiceC v a b := fun g1 g2 => by simp [flatP, choiceC]
  simp only [hfl] at hrow
  have HROW := Lib.hid hrow
  clear hrow hfl h1 h2 h3
  go_enter Tryd.func28, Tryd.ntmps28
  go_wp2_with (first
    | (go_at_call_of 15 (Value.int IntKind.i64 11); go_loud (refine (one_any _ _ _).mono ?_; rintro r w1 ⟨⟨rfl, hown1⟩, hb1⟩; have hi1 := InsAt.one hown1; have hz1 := hb1.size; clear hown1))
    | (go_at_call_of 15 (Value.int IntKind.i64 10); go_loud (refine (one_any _ _ _).mono ?_; rintro r w2 ⟨⟨rfl, hown2⟩, hb2⟩; have hi2 := InsAt.one hown2; have hz2 := hb2.size; clear hown2))
    | (go_at_call 14; go_loud (refine (HROW.out w.heap.size w1.heap.size w2 belA (hi1.later belA) hi2 _).mono ?_; rintro r w4 ⟨⟨v4, rfl, hown4⟩, hb4⟩)))
  go_ret
  exact ⟨⟨_, rfl, own_less hown4 (by simp; omega)⟩, belA⟩
end Go.Proofs.YtknfcamdfdfoeaaDoor

/- Walks over gen's under, and over the closure of its expr. -/
namespace Go.Proofs.YtknfcamdfdfoeaaDoor
open Go.RowKit Go.Sort Go.Maps

/-- What hands back a code, its own or one that it was given. -/
def CodeAt (w : World) (l : List (Int × Int)) (r : Ending) (w' : World) : Prop := (∃ A cap, r = .returned (.slice A l.length cap) ∧ InsAt w' l A cap) ∧ Below w.heap.size w w'
theorem CodeIs.at {w : World} {l : List (Int × Int)} {r : Ending} {w' : World} (h : CodeIs w l r w') : CodeAt w l r w' := by
  obtain ⟨⟨v, hr, hown⟩, hb⟩ := h
  obtain ⟨A, cap, rfl, hat⟩ := InsAt.of_own hown
  exact ⟨⟨A, cap, hr, hat⟩, hb⟩
theorem CodeAt.less {w w2 : World} {l : List (Int × Int)} {r : Ending} {w' : World} (h : CodeAt w2 l r w') (hb : Below w.heap.size w w2) : CodeAt w l r w' := ⟨h.1, bel_trans hb h.2⟩

/-- Where the plan lies: the maps of slots and of flags. -/
structure PlanAt (W : World) (X Bs Bf : Nat) (sl : ByteArray → Int) (fl : Int × ByteArray → Int) : Prop where
  c0 : W.cell? ⟨X, 0, none⟩ = some (.map (some Bs))
  c2 : W.cell? ⟨X, 2, none⟩ = some (.map (some Bf))
  slots : ∃ n f c, MapG Tryd.prog 9 21 .i32 okS klS W Bs n f c ∧ ∀ s, okS s → (f s).getD 0 = sl s
  flags : ∃ n f c, MapG Tryd.prog 58 21 .i32 okC klC W Bf n f c ∧ ∀ s, okC s → (f s).getD 0 = fl s
theorem PlanAt.later {W W' : World} {X Bs Bf : Nat} {sl : ByteArray → Int} {fl : Int × ByteArray → Int} (h : PlanAt W X Bs Bf sl fl) (hb : Below W.heap.size W W') : PlanAt W' X Bs Bf sl fl := by
  obtain ⟨c0, c2, ⟨n, f, c, hm, hf⟩, ⟨n', f', c', hm', hf'⟩⟩ := h
  exact ⟨bel_cell hb c0, bel_cell hb c2, ⟨n, f, c, hm.bel hb, hf⟩, ⟨n', f', c', hm'.bel hb, hf'⟩⟩
theorem zeroI32 (w : World) : (zeroValue 21).run Tryd.prog w = .ok (.int .i32 0) w := by kernel_rfl

theorem topC (w : World) (k : Int) (cs : ByteArray) : (w.alloc (.cells #[.int .i64 k, .string cs] 58)).drew.cell? ⟨w.heap.size, 0, none⟩ = some (.int .i64 k) := by
  go_simp

set_option maxHeartbeats 8000000 in
theorem under_any (X Bs Bf : Nat) (sl : ByteArray → Int) (fl : Int × ByteArray → Int) (ck : Int) (cs : ByteArray) (l : List (Int × Int)) (A : Option Addr) (cap : Nat) (w : World) (hp : PlanAt w X Bs Bf sl fl) (hc : okC (ck, cs)) (hk : ck = 0 ∨ ck = 1 ∨ ck = 2) (hl : InsAt w l A cap) (hlen : l.length ≤ 900000) :
    Calls Tryd.prog 16 #[.pointer (some ⟨X, 0, none⟩), .agg #[.int .i64 ck, .string cs], .slice A l.length cap] w (CodeAt w (underC sl (ck, cs) l)) := by
  obtain ⟨c0, c2, ⟨n, f, c, hm, hf⟩, _⟩ := hp
  have hcs : okS cs := hc.2
  have hfc := hf cs hcs
  have hX : X < w.heap.size := block_lt_of_cell c0
  have t1 := wrap32_len l.length (by omega)
  have l2 := hl.1
  have m2 := hl.2.1
  unfold maxLen at m2
  have HF := Lib.hid hfc
  have HM := Lib.hid hm
  have hrow3 := (fun (g1 g2 : Nat) (W : World) (hb : Below w.heap.size w W) (hi1 : InsAt W [(2, sl cs)] (some ⟨g1, 0, none⟩) 1) (hi2 : InsAt W [(11, (l.length : Int))] (some ⟨g2, 0, none⟩) 1) (t : TypeId) =>
    row_any [⟨[(2, sl cs)], some ⟨g1, 0, none⟩, 1⟩, ⟨[(11, (l.length : Int))], some ⟨g2, 0, none⟩, 1⟩, ⟨l, A, cap⟩] (some ⟨W.heap.size, 0, none⟩) 3
      (W.alloc (.cells #[.slice (some ⟨g1, 0, none⟩) 1 1, .slice (some ⟨g2, 0, none⟩) 1 1, .slice A l.length cap] t))
      (pieces_new rfl fun x hx => by
        simp only [List.mem_cons, List.not_mem_nil, or_false] at hx
        rcases hx with rfl | rfl | rfl
        · exact hi1
        · exact hi2
        · exact hl.later hb)
      (by simp [flatP]; omega) (by simp))
  have hrow4 := (fun (g1 g2 g3 : Nat) (W : World) (hb : Below w.heap.size w W) (hi1 : InsAt W [(2, sl cs)] (some ⟨g1, 0, none⟩) 1) (hi2 : InsAt W [(11, (l.length : Int))] (some ⟨g2, 0, none⟩) 1) (hi3 : InsAt W [(8, 2)] (some ⟨g3, 0, none⟩) 1) (t : TypeId) =>
    row_any [⟨[(2, sl cs)], some ⟨g1, 0, none⟩, 1⟩, ⟨[(8, 2)], some ⟨g3, 0, none⟩, 1⟩, ⟨[(11, (l.length : Int))], some ⟨g2, 0, none⟩, 1⟩, ⟨l, A, cap⟩] (some ⟨W.heap.size, 0, none⟩) 4
      (W.alloc (.cells #[.slice (some ⟨g1, 0, none⟩) 1 1, .slice (some ⟨g3, 0, none⟩) 1 1, .slice (some ⟨g2, 0, none⟩) 1 1, .slice A l.length cap] t))
      (pieces_new rfl fun x hx => by
        simp only [List.mem_cons, List.not_mem_nil, or_false] at hx
        rcases hx with rfl | rfl | rfl | rfl
        · exact hi1
        · exact hi3
        · exact hi2
        · exact hl.later hb)
      (by simp [flatP]; omega) (by simp))
  have hfl3 : ∀ g1 g2 : Nat, flatP [⟨[(2, sl cs)], some ⟨g1, 0, none⟩, 1⟩, ⟨[(11, (l.length : Int))], some ⟨g2, 0, none⟩, 1⟩, ⟨l, A, cap⟩] = underC sl (1, cs) l := fun _ _ => by simp [flatP, underC]
  have hfl4 : ∀ g1 g2 g3 : Nat, flatP [⟨[(2, sl cs)], some ⟨g1, 0, none⟩, 1⟩, ⟨[(8, 2)], some ⟨g3, 0, none⟩, 1⟩, ⟨[(11, (l.length : Int))], some ⟨g2, 0, none⟩, 1⟩, ⟨l, A, cap⟩] = underC sl (2, cs) l := fun _ _ _ => by simp [flatP, underC]
  simp only [hfl3] at hrow3
  simp only [hfl4] at hrow4
  have hu0 : underC sl (0, cs) l = l := by simp [underC]
  have HU0 := Lib.hid hu0
  have HL := Lib.hid hl
  clear hm hf hfc hl hc hfl3 hfl4 hu0
  have hlk0 := fun (k : Int) => run_lkG (w := (w.alloc (.cells #[.int .i64 k, .string cs] 58)).drew) (keyS Tryd.underlying9) (x := .string cs) Tryd.underlying70 Tryd.underlying21 (zeroI32 _) rfl (HM.out.bel belA) hcs HF.out
  have hlk1 := hlk0 0
  have hlk2 := hlk0 1
  have hlk3 := hlk0 2
  clear hlk0
  rcases hk with rfl | rfl | rfl
  all_goals
    go_enter Tryd.func16, Tryd.ntmps16
    go_wp2_with fail
    go_region_law (go_simp; go_wp2_with (first
          | (go_at_call_of 15 (Value.int IntKind.i64 2); go_loud (refine (one_any _ _ _).mono ?_; rintro r w1 ⟨⟨rfl, hown1⟩, hb1⟩; have hi1 := InsAt.one hown1; have hz1 := hb1.size; (try simp at hz1); clear hown1))
          | (go_at_call_of 15 (Value.int IntKind.i64 11); go_loud (refine (one_any _ _ _).mono ?_; rintro r w2 ⟨⟨rfl, hown2⟩, hb2⟩; have hi2 := InsAt.one hown2; have hz2 := hb2.size; (try simp at hz2); clear hown2))))
  all_goals
    have hB1 : Below w.heap.size w w1 := (bel_drew (bel_alloc (Below.refl _ _) _)).trans (hb1.mono (by simp))
    have hB : Below w.heap.size w w2 := hB1.trans (hb2.mono hB1.size)
    have q0 := bel_cell hb2 (bel_cell hb1 (topC _ _ _))
    have hi1' := hi1.later hb2
    rw [show ∀ k : Int, (w.alloc (.cells #[.int .i64 k, .string cs] 58)).drew.heap.size = w.heap.size + 1 from fun _ => by simp] at hi1'
    clear hi1
  · go_wp2_with fail
    go_ret
    rw [HU0.out]
    exact ⟨⟨_, _, rfl, HL.out.later hB⟩, hB⟩
  · go_wp2_with fail
    go_ret
    rw [HU0.out]
    exact ⟨⟨_, _, rfl, HL.out.later hB⟩, hB⟩
  iterate 2
    · go_wp2_with (go_at_call 14; go_loud (refine (hrow3 _ _ w2 hB hi1' hi2 _).mono ?_; intro r w4 hcode; obtain ⟨⟨A4, c4, rfl, hat4⟩, hb4⟩ := hcode.at.less (bel_alloc hB _); clear hcode))
      go_ret
      exact ⟨⟨_, _, rfl, hat4⟩, hb4⟩
  iterate 2
    · go_wp2_with (first
        | (go_at_call_of 15 (Value.int IntKind.i64 8); go_loud (refine (one_any _ _ _).mono ?_; rintro r w3 ⟨⟨rfl, hown3⟩, hb3⟩; have hi3 := InsAt.one hown3; have hz3 := hb3.size; have hB3 := hB.trans (hb3.mono hB.size); clear hown3))
        | (go_at_call 14; go_loud (refine (hrow4 _ _ _ w3 hB3 (hi1'.later hb3) (hi2.later hb3) hi3 _).mono ?_; intro r w4 hcode; obtain ⟨⟨A4, c4, rfl, hat4⟩, hb4⟩ := hcode.at.less (bel_alloc hB3 _); clear hcode)))
      go_ret
      exact ⟨⟨_, _, rfl, hat4⟩, hb4⟩
end Go.Proofs.YtknfcamdfdfoeaaDoor
