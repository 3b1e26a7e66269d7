/- An argument that reads as data lies in memory as Rep says: expressions, lists of variables, lists of equations, programs. -/
import Derived.Test.YtikmbkojnfmiaaaGreatDoorRRRRRows
import Derived.Test.YtikmbkojnfmiaaaGreatDoorRRRRBA
import Derived.ProofKit
import Derived.Deep.Slices
import Derived.Deep.Fields
import Derived.Lib.SmallJoins
set_option linter.unusedVariables false
set_option linter.unusedSimpArgs false
set_option maxRecDepth 100000
namespace Go.Proofs.YtikmbkojnfmiaaaGreatDoorRRRR
open Go.ChangeShapes Go.WideShapes Go.ChangeAt Go.RowKit Go.Deep

section
variable {H : Type} {enc : TypeId × Value → H} {w : World} {spare : Nat → Bool} {held : Bool}

theorem list_of {α : Type} (R : Nat → α → Prop) : ∀ n, (∀ i, i < n → ∃ x, R i x) → ∃ l : List α, l.length = n ∧ ∀ (k : Nat) (x : α), l[k]? = some x → R k x
  | 0, _ => ⟨[], rfl, fun k x h => by simp at h⟩
  | n + 1, h => by
    obtain ⟨l, hl, hr⟩ := list_of R n fun i hi => h i (by omega)
    obtain ⟨x, hx⟩ := h n (by omega)
    refine ⟨l ++ [x], by simp [hl], fun k y hk => ?_⟩
    by_cases hkn : k < l.length
    · rw [List.getElem?_append_left hkn] at hk; exact hr k y hk
    · rw [List.getElem?_append_right (by omega)] at hk
      have h0 : k - l.length = 0 := by
        rcases Nat.eq_zero_or_pos (k - l.length) with h | h
        · exact h
        · rw [List.getElem?_eq_none (by simp; omega)] at hk; cases hk
      rw [h0] at hk
      obtain rfl : x = y := by simpa using hk
      have : k = n := by omega
      rw [this]; exact hx

theorem rowAt_of {b : Nat} : ∀ (l : List Ex) (off : Nat), (∀ (k : Nat) (x : Ex), l[k]? = some x → ∃ A cap, w.cell? ⟨b, off + k * 4, none⟩ = some (.int .i64 x.kind) ∧ w.cell? ⟨b, off + k * 4 + 1, none⟩ = some (.int .i32 x.n) ∧ w.cell? ⟨b, off + k * 4 + 2, none⟩ = some (.string x.name) ∧
      w.cell? ⟨b, off + k * 4 + 3, none⟩ = some (.slice A x.sub.length cap) ∧ SubsAt w x A cap) → RowAt w b l off
  | [], off, _ => by simp [RowAt]
  | x :: l, off, h => by
    rw [RowAt]
    refine ⟨?_, rowAt_of l (off + 4) fun k y hk => ?_⟩
    · simpa using h 0 x rfl
    · have := h (k + 1) y (by simpa using hk)
      rwa [show off + (k + 1) * 4 = off + 4 + k * 4 from by omega] at this

theorem okl_of : ∀ {l : List Ex}, (∀ x ∈ l, Ex.OK x) → Ex.OKL l
  | [], _ => by simp [Ex.OKL]
  | x :: l, h => by
    simp only [Ex.OKL]
    exact ⟨h x (by simp), okl_of fun y hy => h y (by simp [hy])⟩

theorem i64_of {k : Int} (h : (Lit.int .i64 k).wf = true) : I64 k := by
  simp [Lit.wf, IntKind.min, IntKind.max, IntKind.signed, IntKind.bits] at h
  unfold I64; omega
theorem i32_of {k : Int} (h : (Lit.int .i32 k).wf = true) : I32 k := by
  simp [Lit.wf, IntKind.min, IntKind.max, IntKind.signed, IntKind.bits] at h
  unfold I32; omega

theorem cellsInt : Tryz.prog.cellsOf 3 = 1 := by kernel_rfl
theorem cellsInt32 : Tryz.prog.cellsOf 21 = 1 := by kernel_rfl
theorem cellsString : Tryz.prog.cellsOf 9 = 1 := by kernel_rfl
theorem cellsClock : Tryz.prog.cellsOf 41 = 2 := by kernel_rfl
theorem cellsVar : Tryz.prog.cellsOf 43 = 4 := by kernel_rfl
theorem cellsVars : Tryz.prog.cellsOf 22 = 1 := by kernel_rfl
theorem cellsExpr : Tryz.prog.cellsOf 37 = 4 := by kernel_rfl
theorem cellsExprs : Tryz.prog.cellsOf 35 = 1 := by kernel_rfl
theorem cellsEq : Tryz.prog.cellsOf 39 = 10 := by kernel_rfl
theorem cellsEqs : Tryz.prog.cellsOf 23 = 1 := by kernel_rfl
theorem cellsProgram : Tryz.prog.cellsOf 25 = 5 := by kernel_rfl

/-- What the cells of an element are. -/
theorem cells_at {a : Addr} {n : Nat} {cs : List Value} (h : w.cells? 0 a n = some cs) : cs.length = n ∧ ∀ j v, cs[j]? = some v → w.cell? (a.add j) = some v := by
  obtain ⟨_, hl, hc⟩ := World.cells?_some h
  refine ⟨hl, fun j v hj => ?_⟩
  have hlt : j < n := by rw [← hl]; exact (List.getElem?_eq_some_iff.1 hj).1
  rw [hc j hlt, hj]

theorem open_ex : ∀ (fuel : Nat) (cs : List Value) (x : DataW H × List MemPlace), DataW.trod enc Tryz.prog w 0 spare held fuel 37 cs = some x →
    ∃ (e : Ex) (A : Option Addr) (cap : Nat), cs = [.int .i64 e.kind, .int .i32 e.n, .string e.name, .slice A e.sub.length cap] ∧ SubsAt w e A cap ∧ e.OK := by
  intro fuel
  induction fuel using Nat.strongRecOn with
  | ind fuel ih =>
  intro cs x h
  obtain ⟨xs, n, rfl, hx, hlen, hxl, hg⟩ := DataW.trod_struct Tryz.underlying37 h
  rw [cellsExpr] at hlen
  match cs, hlen, xs, hxl with
  | [c0, c1, c2, c3], _, [y0, y1, y2, y3], _ =>
    have g0 : DataW.trod enc Tryz.prog w 0 spare held n 3 (([c0, c1, c2, c3].drop 0).take (Tryz.prog.cellsOf 3)) = some y0 := hg 0 _ rfl
    rw [cellsInt] at g0
    have g1 : DataW.trod enc Tryz.prog w 0 spare held n 21 (([c0, c1, c2, c3].drop 1).take (Tryz.prog.cellsOf 21)) = some y1 := hg 1 _ rfl
    rw [cellsInt32] at g1
    have g2 : DataW.trod enc Tryz.prog w 0 spare held n 9 (([c0, c1, c2, c3].drop 2).take (Tryz.prog.cellsOf 9)) = some y2 := hg 2 _ rfl
    rw [cellsString] at g2
    have g3 : DataW.trod enc Tryz.prog w 0 spare held n 35 (([c0, c1, c2, c3].drop 3).take (Tryz.prog.cellsOf 35)) = some y3 := hg 3 _ rfl
    rw [cellsExprs] at g3
    obtain ⟨k, hk, _, wk⟩ := DataW.trod_int Tryz.underlying3 g0
    obtain ⟨m, hm, _, wm⟩ := DataW.trod_int Tryz.underlying21 g1
    obtain ⟨s, hs, _, ws⟩ := DataW.trod_string Tryz.underlying9 g2
    simp at hk hm hs
    subst hk hm hs
    rcases DataW.trod_slice Tryz.underlying35 g3 with ⟨hc, _⟩ | ⟨a, len, cap, elems, rest, n', hn', hc, _, _, hl, hmx, hel, hget, _, _⟩
    · simp at hc
      subst hc
      refine ⟨.mk k m s [], none, 0, rfl, ?_, ?_⟩
      · rw [SubsAt_iff]; exact ⟨Nat.le_refl _, by unfold maxLen; omega, fun h => absurd h (by simp [Ex.sub])⟩
      · simp only [Ex.OK, Ex.OKL]; exact ⟨i64_of wk, i32_of wm, ws, trivial⟩
    · simp at hc
      subst hc
      rw [cellsExpr] at hget
      obtain ⟨l, hll, hr⟩ := list_of (fun i (e : Ex) => ∃ (A : Option Addr) (cap : Nat), w.cell? ((a.add (i * 4)).add 0) = some (.int .i64 e.kind) ∧ w.cell? ((a.add (i * 4)).add 1) = some (.int .i32 e.n) ∧ w.cell? ((a.add (i * 4)).add 2) = some (.string e.name) ∧
          w.cell? ((a.add (i * 4)).add 3) = some (.slice A e.sub.length cap) ∧ SubsAt w e A cap ∧ e.OK) len (fun i hi => by
        have := hget i hi
        rw [List.getElem?_eq_getElem (by omega)] at this
        obtain ⟨cs', h1, h2⟩ := Option.bind_eq_some_iff.1 this
        obtain ⟨e, A, cap', rfl, h3, h4⟩ := ih n' (by omega) cs' _ h2
        obtain ⟨_, hat⟩ := cells_at h1
        exact ⟨e, A, cap', hat 0 _ rfl, hat 1 _ rfl, hat 2 _ rfl, hat 3 _ rfl, h3, h4⟩)
      refine ⟨.mk k m s l, some a, cap, by simp [Ex.kind, Ex.n, Ex.name, Ex.sub, hll], ?_, ?_⟩
      · rw [SubsAt_iff]
        refine ⟨by simp [Ex.sub]; omega, hmx, fun hp => ?_⟩
        simp only [Ex.sub] at hp
        obtain ⟨b, off, spot⟩ := a
        have hspot : spot = none := by
          obtain ⟨A, cap', h0, _⟩ := hr 0 l[0] (List.getElem?_eq_getElem hp)
          simpa [Addr.add] using World.cell?_spot h0
        subst hspot
        refine ⟨b, off, rfl, rowAt_of _ _ fun k x hk => ?_⟩
        obtain ⟨A, cap', h0, h1, h2, h3, h4, _⟩ := hr k x (by simpa [Ex.sub] using hk)
        simp only [Go.WideShapes.add_plain] at h0 h1 h2 h3
        exact ⟨A, cap', h0, h1, h2, h3, h4⟩
      · simp only [Ex.OK]
        refine ⟨i64_of wk, i32_of wm, ws, okl_of fun x hx => ?_⟩
        obtain ⟨i, hi⟩ := List.getElem?_of_mem hx
        obtain ⟨_, _, _, _, _, _, _, h⟩ := hr i x hi
        exact h

/-- The bounds of a variable. -/
def VaOK (v : Va) : Prop := v.name.size ≤ maxLen ∧ I64 v.type ∧ I64 v.ck ∧ v.cn.size ≤ maxLen

theorem open_va {fuel : Nat} {cs : List Value} {x : DataW H × List MemPlace} (h : DataW.trod enc Tryz.prog w 0 spare held fuel 43 cs = some x) :
    ∃ v : Va, cs = [.string v.name, .int .i64 v.type, .int .i64 v.ck, .string v.cn] ∧ VaOK v := by
  obtain ⟨xs, n, rfl, hx, hlen, hxl, hg⟩ := DataW.trod_struct Tryz.underlying43 h
  rw [cellsVar] at hlen
  match cs, hlen, xs, hxl with
  | [c0, c1, c2, c3], _, [y0, y1, y2], _ =>
    have g0 : DataW.trod enc Tryz.prog w 0 spare held n 9 (([c0, c1, c2, c3].drop 0).take (Tryz.prog.cellsOf 9)) = some y0 := hg 0 _ rfl
    rw [cellsString] at g0
    have g1 : DataW.trod enc Tryz.prog w 0 spare held n 3 (([c0, c1, c2, c3].drop 1).take (Tryz.prog.cellsOf 3)) = some y1 := hg 1 _ rfl
    rw [cellsInt] at g1
    have g2 : DataW.trod enc Tryz.prog w 0 spare held n 41 (([c0, c1, c2, c3].drop 2).take (Tryz.prog.cellsOf 41)) = some y2 := hg 2 _ rfl
    rw [cellsClock] at g2
    obtain ⟨s, hs, _, ws⟩ := DataW.trod_string Tryz.underlying9 g0
    obtain ⟨k, hk, _, wk⟩ := DataW.trod_int Tryz.underlying3 g1
    obtain ⟨xs', n', rfl, _, _, hxl', hg'⟩ := DataW.trod_struct Tryz.underlying41 g2
    match xs', hxl' with
    | [z0, z1], _ =>
      have k0 : DataW.trod enc Tryz.prog w 0 spare held n' 3 (((([c0, c1, c2, c3].drop 2).take 2).drop 0).take (Tryz.prog.cellsOf 3)) = some z0 := hg' 0 _ rfl
      rw [cellsInt] at k0
      have k1 : DataW.trod enc Tryz.prog w 0 spare held n' 9 (((([c0, c1, c2, c3].drop 2).take 2).drop 1).take (Tryz.prog.cellsOf 9)) = some z1 := hg' 1 _ rfl
      rw [cellsString] at k1
      obtain ⟨ck, hck, _, wck⟩ := DataW.trod_int Tryz.underlying3 k0
      obtain ⟨cn, hcn, _, wcn⟩ := DataW.trod_string Tryz.underlying9 k1
      simp at hs hk hck hcn
      subst hs hk hck hcn
      exact ⟨⟨s, k, ck, cn⟩, rfl, ws, i64_of wk, i64_of wck, wcn⟩

theorem open_vars {fuel : Nat} {cs : List Value} {x : DataW H × List MemPlace} (h : DataW.trod enc Tryz.prog w 0 spare held fuel 22 cs = some x) :
    ∃ (l : List Va) (A : Option Addr) (cap : Nat), cs = [.slice A l.length cap] ∧ VarsAt w l A cap ∧ ∀ v ∈ l, VaOK v := by
  rcases DataW.trod_slice Tryz.underlying22 h with ⟨rfl, _⟩ | ⟨a, len, cap, elems, rest, n', hn', rfl, _, _, hl, hmx, hel, hget, _, _⟩
  · exact ⟨[], none, 0, rfl, ⟨Nat.le_refl _, by unfold maxLen; omega, fun h => absurd h (by simp)⟩, by simp⟩
  · rw [cellsVar] at hget
    obtain ⟨l, hll, hr⟩ := list_of (fun i (v : Va) => w.cell? ((a.add (i * 4)).add 0) = some (.string v.name) ∧ w.cell? ((a.add (i * 4)).add 1) = some (.int .i64 v.type) ∧ w.cell? ((a.add (i * 4)).add 2) = some (.int .i64 v.ck) ∧
        w.cell? ((a.add (i * 4)).add 3) = some (.string v.cn) ∧ VaOK v) len (fun i hi => by
      have := hget i hi
      rw [List.getElem?_eq_getElem (by omega)] at this
      obtain ⟨cs', h1, h2⟩ := Option.bind_eq_some_iff.1 this
      obtain ⟨v, rfl, h3⟩ := open_va h2
      obtain ⟨_, hat⟩ := cells_at h1
      exact ⟨v, hat 0 _ rfl, hat 1 _ rfl, hat 2 _ rfl, hat 3 _ rfl, h3⟩)
    refine ⟨l, some a, cap, by rw [hll], ⟨by omega, hmx, fun hp => ?_⟩, fun v hv => ?_⟩
    · obtain ⟨b, off, spot⟩ := a
      have hspot : spot = none := by
        obtain ⟨h0, _⟩ := hr 0 l[0] (List.getElem?_eq_getElem hp)
        simpa [Addr.add] using World.cell?_spot h0
      subst hspot
      refine ⟨b, off, rfl, fun k x hk => ?_⟩
      obtain ⟨h0, h1, h2, h3, _⟩ := hr k x hk
      simp only [Go.WideShapes.add_plain] at h0 h1 h2 h3
      exact ⟨h0, h1, h2, h3⟩
    · obtain ⟨i, hi⟩ := List.getElem?_of_mem hv
      exact (hr i v hi).2.2.2.2

/-- The bounds of an equation. -/
def QeOK (q : Qe) : Prop := q.name.size ≤ maxLen ∧ I64 q.delay ∧ q.first.OK ∧ q.e.OK

theorem open_qe {fuel : Nat} {cs : List Value} {x : DataW H × List MemPlace} (h : DataW.trod enc Tryz.prog w 0 spare held fuel 39 cs = some x) :
    ∃ (q : Qe) (A1 : Option Addr) (c1 : Nat) (A2 : Option Addr) (c2 : Nat), cs = [.string q.name, .int .i64 q.delay, .int .i64 q.first.kind, .int .i32 q.first.n, .string q.first.name, .slice A1 q.first.sub.length c1, .int .i64 q.e.kind, .int .i32 q.e.n, .string q.e.name, .slice A2 q.e.sub.length c2] ∧
      SubsAt w q.first A1 c1 ∧ SubsAt w q.e A2 c2 ∧ QeOK q := by
  obtain ⟨xs, n, rfl, hx, hlen, hxl, hg⟩ := DataW.trod_struct Tryz.underlying39 h
  rw [cellsEq] at hlen
  match cs, hlen, xs, hxl with
  | [c0, c1, c2, c3, c4, c5, c6, c7, c8, c9], _, [y0, y1, y2, y3], _ =>
    have g0 : DataW.trod enc Tryz.prog w 0 spare held n 9 (([c0, c1, c2, c3, c4, c5, c6, c7, c8, c9].drop 0).take (Tryz.prog.cellsOf 9)) = some y0 := hg 0 _ rfl
    rw [cellsString] at g0
    have g1 : DataW.trod enc Tryz.prog w 0 spare held n 3 (([c0, c1, c2, c3, c4, c5, c6, c7, c8, c9].drop 1).take (Tryz.prog.cellsOf 3)) = some y1 := hg 1 _ rfl
    rw [cellsInt] at g1
    have g2 : DataW.trod enc Tryz.prog w 0 spare held n 37 (([c0, c1, c2, c3, c4, c5, c6, c7, c8, c9].drop 2).take (Tryz.prog.cellsOf 37)) = some y2 := hg 2 _ rfl
    rw [cellsExpr] at g2
    have g3 : DataW.trod enc Tryz.prog w 0 spare held n 37 (([c0, c1, c2, c3, c4, c5, c6, c7, c8, c9].drop 6).take (Tryz.prog.cellsOf 37)) = some y3 := hg 3 _ rfl
    rw [cellsExpr] at g3
    obtain ⟨s, hs, _, ws⟩ := DataW.trod_string Tryz.underlying9 g0
    obtain ⟨k, hk, _, wk⟩ := DataW.trod_int Tryz.underlying3 g1
    obtain ⟨e1, A1, k1, he1, hs1, ho1⟩ := open_ex _ _ _ g2
    obtain ⟨e2, A2, k2, he2, hs2, ho2⟩ := open_ex _ _ _ g3
    simp at hs hk he1 he2
    obtain ⟨rfl, rfl, rfl, rfl⟩ := he1
    obtain ⟨rfl, rfl, rfl, rfl⟩ := he2
    subst hs hk
    exact ⟨⟨s, k, e1, e2⟩, A1, k1, A2, k2, rfl, hs1, hs2, ws, i64_of wk, ho1, ho2⟩

theorem open_eqs {fuel : Nat} {cs : List Value} {x : DataW H × List MemPlace} (h : DataW.trod enc Tryz.prog w 0 spare held fuel 23 cs = some x) :
    ∃ (l : List Qe) (A : Option Addr) (cap : Nat), cs = [.slice A l.length cap] ∧ EqsAt w l A cap ∧ ∀ q ∈ l, QeOK q := by
  rcases DataW.trod_slice Tryz.underlying23 h with ⟨rfl, _⟩ | ⟨a, len, cap, elems, rest, n', hn', rfl, _, _, hl, hmx, hel, hget, _, _⟩
  · exact ⟨[], none, 0, rfl, ⟨Nat.le_refl _, by unfold maxLen; omega, fun h => absurd h (by simp)⟩, by simp⟩
  · rw [cellsEq] at hget
    obtain ⟨l, hll, hr⟩ := list_of (fun i (q : Qe) => ∃ (A1 : Option Addr) (c1 : Nat) (A2 : Option Addr) (c2 : Nat), (∀ j v, [.string q.name, .int .i64 q.delay, .int .i64 q.first.kind, .int .i32 q.first.n, .string q.first.name, .slice A1 q.first.sub.length c1, .int .i64 q.e.kind, .int .i32 q.e.n, .string q.e.name, Value.slice A2 q.e.sub.length c2][j]? = some v → w.cell? ((a.add (i * 10)).add j) = some v) ∧
        SubsAt w q.first A1 c1 ∧ SubsAt w q.e A2 c2 ∧ QeOK q) len (fun i hi => by
      have := hget i hi
      rw [List.getElem?_eq_getElem (by omega)] at this
      obtain ⟨cs', h1, h2⟩ := Option.bind_eq_some_iff.1 this
      obtain ⟨q, A1, c1, A2, c2, rfl, h3⟩ := open_qe h2
      obtain ⟨_, hat⟩ := cells_at h1
      exact ⟨q, A1, c1, A2, c2, hat, h3⟩)
    refine ⟨l, some a, cap, by rw [hll], ⟨by omega, hmx, fun hp => ?_⟩, fun q hq => ?_⟩
    · obtain ⟨b, off, spot⟩ := a
      have hspot : spot = none := by
        obtain ⟨A1, c1, A2, c2, h0, _⟩ := hr 0 l[0] (List.getElem?_eq_getElem hp)
        simpa [Addr.add] using World.cell?_spot (h0 0 _ rfl)
      subst hspot
      refine ⟨b, off, rfl, fun k x hk => ?_⟩
      obtain ⟨A1, c1, A2, c2, h0, h1, h2, _⟩ := hr k x hk
      simp only [Go.WideShapes.add_plain] at h0
      exact ⟨A1, c1, A2, c2, ⟨h0 0 _ rfl, h0 1 _ rfl, h0 2 _ rfl, h0 3 _ rfl, h0 4 _ rfl, h0 5 _ rfl, h0 6 _ rfl, h0 7 _ rfl, h0 8 _ rfl, h0 9 _ rfl, h1, h2⟩⟩
    · obtain ⟨i, hi⟩ := List.getElem?_of_mem hq
      obtain ⟨_, _, _, _, _, _, _, h⟩ := hr i q hi
      exact h

/-- The bounds of a program. -/
structure PrOK (p : Pr) : Prop where
  name : p.name.size ≤ maxLen
  ins : ∀ v ∈ p.ins, VaOK v
  outs : ∀ v ∈ p.outs, VaOK v
  locals : ∀ v ∈ p.locals, VaOK v
  eqs : ∀ q ∈ p.eqs, QeOK q

theorem open_pr {base : Nat} {v : Value} {d : DataW H} {ps : List MemPlace} (hv : Value.okWide Tryz.prog w .any base 25 v) (h : DataW.Trod enc Tryz.prog w 0 spare held 25 v d ps) :
    ∃ (p : Pr) (a : PrA), v = prV p a ∧ PrAt w p a ∧ PrOK p := by
  obtain ⟨cs, rfl, hsz⟩ := okWide_struct Tryz.underlying25 hv
  obtain ⟨fuel, hf⟩ := h
  obtain ⟨xs, n, rfl, hx, hlen, hxl, hg⟩ := DataW.trod_struct Tryz.underlying25 hf
  obtain ⟨cs⟩ := cs
  simp only [Value.cells] at hlen hg
  rw [cellsProgram] at hlen
  match cs, hlen, xs, hxl with
  | [c0, c1, c2, c3, c4], _, [y0, y1, y2, y3, y4], _ =>
    have g0 : DataW.trod enc Tryz.prog w 0 spare held n 9 (([c0, c1, c2, c3, c4].drop 0).take (Tryz.prog.cellsOf 9)) = some y0 := hg 0 _ rfl
    rw [cellsString] at g0
    have g1 : DataW.trod enc Tryz.prog w 0 spare held n 22 (([c0, c1, c2, c3, c4].drop 1).take (Tryz.prog.cellsOf 22)) = some y1 := hg 1 _ rfl
    rw [cellsVars] at g1
    have g2 : DataW.trod enc Tryz.prog w 0 spare held n 22 (([c0, c1, c2, c3, c4].drop 2).take (Tryz.prog.cellsOf 22)) = some y2 := hg 2 _ rfl
    rw [cellsVars] at g2
    have g3 : DataW.trod enc Tryz.prog w 0 spare held n 22 (([c0, c1, c2, c3, c4].drop 3).take (Tryz.prog.cellsOf 22)) = some y3 := hg 3 _ rfl
    rw [cellsVars] at g3
    have g4 : DataW.trod enc Tryz.prog w 0 spare held n 23 (([c0, c1, c2, c3, c4].drop 4).take (Tryz.prog.cellsOf 23)) = some y4 := hg 4 _ rfl
    rw [cellsEqs] at g4
    obtain ⟨s, hs, _, ws⟩ := DataW.trod_string Tryz.underlying9 g0
    obtain ⟨l1, A1, n1, h1, v1, o1⟩ := open_vars g1
    obtain ⟨l2, A2, n2, h2, v2, o2⟩ := open_vars g2
    obtain ⟨l3, A3, n3, h3, v3, o3⟩ := open_vars g3
    obtain ⟨l4, A4, n4, h4, v4, o4⟩ := open_eqs g4
    simp at hs h1 h2 h3 h4
    subst hs h1 h2 h3 h4
    exact ⟨⟨s, l1, l2, l3, l4⟩, ⟨A1, n1, A2, n2, A3, n3, A4, n4⟩, rfl, ⟨v1, v2, v3, v4⟩, ⟨ws, o1, o2, o3, o4⟩⟩
end

section
variable {H : Type} {enc : TypeId × Value → H} {P : Program}
/-- The last step of a row whose walk says Below alone. -/
theorem post_of_below {f : Func} {s : ChangeSpec} {apart fresh handsOn again : Bool} {W W' : World} {args : Array Value} {v : Value} {ds gs : List (DataW H)} {before pa pv : List MemPlace}
    (hW : DataW.Whole enc P f.params.toList s.vars apart W args.toList ds gs before)
    (hres : ∀ (b : Nat) (sp : Nat → Bool) (hd : Bool), DataW.TrodAll enc P W' b sp hd f.resultTypes.toList (v.resultList f.resultTypes.size) (s.fn H (ds ++ gs)).results [])
    (hargs : ∀ sp : Nat → Bool, (∀ p ∈ before, sp p.block = true) → DataW.TrodAll enc P W' 0 sp true f.params.toList args.toList (s.fn H (ds ++ gs)).args pa)
    (hvars : ∀ sp : Nat → Bool, (∀ p ∈ before, sp p.block = true) → DataW.TrodVars enc P W' sp s.vars (s.fn H (ds ++ gs)).vars pv)
    (hps : before = pa ++ pv) (hb : Below W.heap.size W W')
    (hok : ∀ (j : Nat) (t : TypeId) (r : Value), f.resultTypes[j]? = some t → (v.resultList f.resultTypes.size)[j]? = some r → Value.okWide P W' .any 0 t r) :
    s.post enc P f apart fresh handsOn again W args v W' := by
  have hlt : ∀ p ∈ before, p.block < W.heap.size := fun p hp => hW.lt p hp
  have hold : ∀ p ∈ before, (fun b => decide (b < W.heap.size)) p.block = true := fun p hp => by simpa using hlt p hp
  refine ⟨ds, gs, before, [], pa, pv, hW, hres _ _ _, hargs _ hold, hvars _ hold, World.keptBut_mono (fun p hp => ⟨hp, ?_⟩) (hb.frame (· ∈ before)), fun _ => ?_⟩
  · rw [hps, List.mem_append] at hp
    exact Or.inr hp
  · obtain ⟨_, _, _, _, _, hz, hn⟩ := hW
    refine ⟨hok, _, _, ([] ++ pa) ++ pv, ⟨[] ++ pa, pv, trodAll_append (hargs _ (fun _ _ => rfl)) (hres _ _ _), hvars _ (fun _ _ => rfl), rfl, ?_, ?_⟩, ?_⟩
    · intro b off hp
      have hin : MemPlace.cell b off ∈ before := by rw [hps]; simpa using hp
      rw [hb.frozen (hlt _ hin)]
      exact hz b off hin
    · intro ha
      have := hn ha
      rw [hps] at this
      simpa using this
    · intro p hp _
      rw [hps]
      simpa using hp
end
theorem Tryz.own : ownKnob Tryz.prog.godebug = none := by kernel_rfl
theorem Tryz.laidOut : laidOutB Tryz.prog = true := by kernel_rfl
theorem recProgram : Tryz.prog.readableRec 25 = true := by kernel_rfl
theorem rowProgram : 25 < Tryz.prog.types.size := of_decide_eq_true (by kernel_rfl)

end Go.Proofs.YtikmbkojnfmiaaaGreatDoorRRRR
