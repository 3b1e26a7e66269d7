/- A stack of expressions in a slice of the call's own. -/
import Derived.Test.YtknfcamdfdfoeaaDoorZ26
import Derived.Test.YtknfcamdfdfoeaaDoorZ19
import Derived.Test.YtknfcamdfdfoeaaDoorZ08
import Derived.WalkMore
import Derived.Test.YtknfcamdfdfoeaaDoorZ02
import Derived.Test.YtknfcamdfdfoeaaDoorRows
import Derived.Test.YtknfcamdfdfoeaaDoorZ01
import Derived.Test.YtknfcamdfdfoeaaDoorZ09
import Derived.Test.YtknfcamdfdfoeaaDoorZ03
import Derived.Test.YtknfcamdfdfoeaaDoorZ05
import Derived.Test.YtknfcamdfdfoeaaDoorZ07
import Derived.Test.YtknfcamdfdfoeaaDoorZ10
import Derived.Test.YtknfcamdfdfoeaaDoorZ12
import Derived.IntWalk
import Derived.Test.YtknfcamdfdfoeaaDoorZ13
import Derived.Test.YtknfcamdfdfoeaaDoorZ11
import Derived.Test.YtknfcamdfdfoeaaDoorZ14
import Derived.Test.YtknfcamdfdfoeaaDoorZ00
import Derived.Laws.StructEq
import Derived.Test.YtknfcamdfdfoeaaDoorZ06
import Derived.Test.YtknfcamdfdfoeaaDoorZ15
import Derived.Test.YtknfcamdfdfoeaaDoorZ18
import Derived.Test.YtknfcamdfdfoeaaDoorZ16
set_option linter.unusedVariables false
set_option linter.unusedSimpArgs false
set_option maxRecDepth 100000
namespace Go.Proofs.YtknfcamdfdfoeaaDoor
open Go.RowKit Go.Sort

theorem snoc_cases {α : Type} (l : List α) : l = [] ∨ ∃ (a : List α) (b : α), l = a ++ [b] := by
  rcases List.eq_nil_or_concat l with h | ⟨a, b, h⟩
  · exact .inl h
  · exact .inr ⟨a, b, by rw [h, List.concat_eq_append]⟩
theorem own_drop {w : World} {base size n m cap : Nat} {e : TypeId} {D : Option Addr} {xs ys : List Value} (h : w.ownsRow base e size (.slice D (n + m) cap) (n + m) (xs ++ ys)) (hx : xs.length = n * size) : w.ownsRow base e size (.slice D n cap) n xs := by
  refine ⟨hx, ?_⟩
  rcases h.2 with ⟨hv, h0⟩ | ⟨g, cap', cur, hv, hg, hh, h1, h2, h3, h4⟩
  · injection hv with e1 e2 e3
    subst e1 e3
    obtain rfl : n = 0 := by omega
    exact .inl ⟨rfl, rfl⟩
  · injection hv with e1 e2 e3
    subst e1 e3
    refine .inr ⟨g, cap, cur, rfl, hg, hh, by omega, h2, h3, ?_⟩
    have : (cur.toList.take ((n + m) * size)).take (n * size) = xs := by rw [h4, List.take_append_of_le_length (by omega), ← hx, List.take_length]
    rwa [List.take_take, Nat.min_eq_left (Nat.mul_le_mul_right _ (by omega))] at this
theorem exsC_len : ∀ (l : List Ex) (ls : List (Option Addr × Nat)), ls.length = l.length → (exsC l ls).length = l.length * 4
  | [], [], _ => rfl
  | y :: l, b :: ls, h => by
    have := exsC_len l ls (by simpa using h)
    rw [exsC, List.length_append, this]
    simp [exC]; omega
  | [], b :: ls, h => by simp at h
  | y :: l, [], h => by simp at h
theorem exsC_app : ∀ (l m : List Ex) (ls ms : List (Option Addr × Nat)), ls.length = l.length → exsC (l ++ m) (ls ++ ms) = exsC l ls ++ exsC m ms
  | [], m, [], ms, _ => by simp [exsC]
  | y :: l, m, b :: ls, ms, h => by
    simp only [List.cons_append, exsC, List.append_assoc]
    rw [exsC_app l m ls ms (by simpa using h)]
  | [], m, b :: ls, ms, h => by simp at h
  | y :: l, m, [], ms, h => by simp at h
theorem RowAt.lies {w : World} {b : Nat} : ∀ (l : List Ex) (off : Nat), RowAt w b l off → ∃ ls : List (Option Addr × Nat), ls.length = l.length ∧ (∀ j u, (exsC l ls)[j]? = some u → w.cell? ⟨b, off + j, none⟩ = some u) ∧ ∀ (j : Nat) (x : Ex) (a : Option Addr × Nat), l[j]? = some x → ls[j]? = some a → SubsAt w x a.1 a.2
  | [], off, _ => ⟨[], rfl, by simp [exsC], by simp⟩
  | y :: l, off, h => by
    rw [RowAt] at h
    obtain ⟨⟨A, cap, c0, c1, c2, c3, hs⟩, hr⟩ := h
    obtain ⟨ls, h1, h2, h3⟩ := RowAt.lies l (off + 4) hr
    refine ⟨(A, cap) :: ls, by simp [h1], fun j u hj => ?_, fun j x a hx ha => ?_⟩
    · rw [exsC] at hj
      match j with
      | 0 => obtain rfl : Value.int .i64 y.kind = u := by simpa [exC] using hj
             exact c0
      | 1 => obtain rfl : Value.int .i32 y.n = u := by simpa [exC] using hj
             exact c1
      | 2 => obtain rfl : Value.string y.name = u := by simpa [exC] using hj
             exact c2
      | 3 => obtain rfl : Value.slice A y.sub.length cap = u := by simpa [exC] using hj
             exact c3
      | j + 4 =>
        have := h2 j u (by simpa [exC] using hj)
        rwa [show off + 4 + j = off + (j + 4) from by omega] at this
    · cases j with
      | zero =>
        simp at hx ha
        subst hx ha
        exact hs
      | succ j => exact h3 j x a (by simpa using hx) (by simpa using ha)
theorem SubsAt.lies {w : World} {e : Ex} {A : Option Addr} {cap : Nat} (h : SubsAt w e A cap) : ∃ ls : List (Option Addr × Nat), ls.length = e.sub.length ∧ CellsAt w A e.sub.length 4 (exsC e.sub ls) ∧ ∀ (j : Nat) (x : Ex) (a : Option Addr × Nat), e.sub[j]? = some x → ls[j]? = some a → SubsAt w x a.1 a.2 := by
  rw [SubsAt_iff] at h
  rcases Nat.eq_zero_or_pos e.sub.length with h0 | h0
  · have hn : e.sub = [] := List.eq_nil_of_length_eq_zero h0
    rw [hn]
    exact ⟨[], rfl, ⟨rfl, fun h => absurd h (by simp)⟩, by simp⟩
  · obtain ⟨b, off, rfl, hr⟩ := h.2.2 h0
    obtain ⟨ls, h1, h2, h3⟩ := RowAt.lies _ _ hr
    exact ⟨ls, h1, ⟨exsC_len _ _ h1, fun _ => ⟨b, off, rfl, h2⟩⟩, h3⟩

/-- st lies in a row of the call's own; what hangs on it lies in w0. -/
def StackAt (w0 w : World) (base : Nat) (t : TypeId) (st : List Ex) (D : Option Addr) (dc : Nat) : Prop :=
  ∃ ls : List (Option Addr × Nat), ls.length = st.length ∧ (∀ (j : Nat) (x : Ex) (a : Option Addr × Nat), st[j]? = some x → ls[j]? = some a → SubsAt w0 x a.1 a.2) ∧ w.ownsRow base t 4 (.slice D st.length dc) st.length (exsC st ls)
theorem StackAt.pop {w0 w : World} {base : Nat} {t : TypeId} {st : List Ex} {x : Ex} {D : Option Addr} {dc : Nat} (h : StackAt w0 w base t (st ++ [x]) D dc) :
    ∃ b A cap, D = some ⟨b, 0, none⟩ ∧ base ≤ b ∧ b < w.heap.size ∧ st.length + 1 ≤ dc ∧ dc ≤ maxLen ∧ SubsAt w0 x A cap ∧ w.cell? ⟨b, st.length * 4, none⟩ = some (.int .i64 x.kind) ∧ w.cell? ⟨b, st.length * 4 + 1, none⟩ = some (.int .i32 x.n) ∧
      w.cell? ⟨b, st.length * 4 + 2, none⟩ = some (.string x.name) ∧ w.cell? ⟨b, st.length * 4 + 3, none⟩ = some (.slice A x.sub.length cap) ∧ StackAt w0 w base t st D dc := by
  obtain ⟨ls, hl, hs, hown⟩ := h
  rcases snoc_cases ls with rfl | ⟨ls', a, rfl⟩
  · simp at hl
  · have hl' : ls'.length = st.length := by simpa using hl
    rw [exsC_snoc st ls' x a hl', List.length_append] at hown
    obtain ⟨g, cap, hv, hg, hlt, h1, h2, hc⟩ := own_get hown (by simp)
    injection hv with e1 e2 e3
    subst e1 e3
    have hlen := exsC_len st ls' hl'
    have hcell : ∀ i u, (exC x a)[i]? = some u → w.cell? ⟨g, st.length * 4 + i, none⟩ = some u := fun i u hu => hc _ _ (by rw [List.getElem?_append_right (by omega), hlen, show st.length * 4 + i - st.length * 4 = i from by omega]; exact hu)
    refine ⟨g, a.1, a.2, rfl, hg, hlt, by simpa using h1, h2, hs st.length x a (by simp) (by rw [← hl']; simp), hcell 0 _ rfl, hcell 1 _ rfl, hcell 2 _ rfl, hcell 3 _ rfl, ls', hl', fun j y b hy hb => ?_, own_drop hown hlen⟩
    have hj : j < st.length := (List.getElem?_eq_some_iff.1 hy).1
    exact hs j y b (by rw [List.getElem?_append_left hj]; exact hy) (by rw [List.getElem?_append_left (by omega)]; exact hb)
theorem StackAt.push {w0 w : World} {base : Nat} {t : TypeId} {st sub : List Ex} {ls ms : List (Option Addr × Nat)} {D : Option Addr} {dc : Nat} (hl : ls.length = st.length) (hs : ∀ (j : Nat) (x : Ex) (a : Option Addr × Nat), st[j]? = some x → ls[j]? = some a → SubsAt w0 x a.1 a.2)
    (hm : ms.length = sub.length) (hs2 : ∀ (j : Nat) (x : Ex) (a : Option Addr × Nat), sub[j]? = some x → ms[j]? = some a → SubsAt w0 x a.1 a.2) (hown : w.ownsRow base t 4 (.slice D (st.length + sub.length) dc) (st.length + sub.length) (exsC st ls ++ exsC sub ms)) : StackAt w0 w base t (st ++ sub) D dc := by
  refine ⟨ls ++ ms, by simp [hl, hm], fun j x a hx ha => ?_, by rw [exsC_app _ _ _ _ hl, List.length_append]; exact hown⟩
  rcases Nat.lt_or_ge j st.length with hj | hj
  · rw [List.getElem?_append_left hj] at hx
    rw [List.getElem?_append_left (by omega)] at ha
    exact hs j x a hx ha
  · rw [List.getElem?_append_right hj] at hx
    rw [List.getElem?_append_right (by omega), hl] at ha
    exact hs2 _ x a hx ha
theorem CellsAt.moved {w w' : World} {A : Option Addr} {m size : Nat} {news : List Value} (h : CellsAt w A m size news) (hb : Below w.heap.size w w') : CellsAt w' A m size news :=
  ⟨h.1, fun hm => by
    obtain ⟨b, off, e, hc⟩ := h.2 hm
    exact ⟨b, off, e, fun j u hj => bel_cell hb (hc j u hj)⟩⟩
theorem exsC_one : ∀ (l : List Ex) (ls : List (Option Addr × Nat)), ∀ u ∈ exsC l ls, u.oneCell' = true
  | [], _, u, h => by simp [exsC] at h
  | y :: l, [], u, h => by simp [exsC] at h
  | y :: l, b :: ls, u, h => by
    rw [exsC] at h
    rcases List.mem_append.1 h with h1 | h1
    · simp only [exC, List.mem_cons, List.not_mem_nil, or_false] at h1
      rcases h1 with rfl | rfl | rfl | rfl <;> rfl
    · exact exsC_one l ls u h1
end Go.Proofs.YtknfcamdfdfoeaaDoor

/- Walk over start's reaches. -/
namespace Go.Proofs.YtknfcamdfdfoeaaDoor
open Go.RowKit Go.Sort

theorem formed_arrow {e : Ex} (h : e.formed = true) (hk : e.kind = 7) : e.sub.length = 2 := by
  rw [Ex.formed_eq, Bool.and_eq_true] at h
  have := h.1
  unfold formedH formK at this
  rw [hk] at this
  simp at this
  omega
set_option maxHeartbeats 4000000 in
theorem reaches_any (e : Ex) (A : Option Addr) (cap : Nat) (B n : Nat) (f : ByteArray → Option Int) (w : World) (he : SubsAt w e A cap) (hf : e.formed = true) (hok : e.OK) (hz : e.size ≤ 1000000) (hm : MapI Tryd.prog 9 3 w B n f) :
    Calls Tryd.prog 56 #[.map (some B), exV e A cap] w fun r w' => r = .returned (.bool (e.reach (onM f))) ∧ Below w.heap.size w w' := by
  obtain ⟨R, hR⟩ : ∃ R, R = e.reach (onM f) := ⟨_, rfl⟩
  rw [← hR]
  have HR0 := Lib.hid (by rw [hR]; simp [Ex.reachL] : Ex.reachL (onM f) [e] = R)
  clear hR
  unfold exV
  go_enter Tryd.func56, Tryd.ntmps56
  go_wp2_with fail
  go_step3
  go_wp2_with fail
  go_step3
  go_wp2_with fail
  refine wp_name fun W0 hW0 => ?_
  have hb0 : Below w.heap.size w W0 := by rw [hW0]; exact belA
  have hst0 : StackAt w W0 w.heap.size 54 [e] (some ⟨w.heap.size + 1, 0, none⟩) 1 := by
    refine ⟨[(A, cap)], rfl, fun j x a hx ha => ?_, ?_⟩
    · match j with
      | 0 => obtain rfl : e = x := by simpa using hx
             obtain rfl : (A, cap) = a := by simpa using ha
             exact he
      | j + 1 => simp at hx
    · rw [hW0]
      have := World.ownsRow_lit (base := w.heap.size) (e := 54) (size := 4) (w.alloc (.cells #[.int .i64 e.kind, .int .i32 e.n, .string e.name, .slice A e.sub.length cap] 54)) #[.int .i64 e.kind, .int .i32 e.n, .string e.name, .slice A e.sub.length cap] 1 (by simp) (by unfold maxLen; omega) rfl
      simpa [exsC, exC] using this
  have hf0 : ∀ x ∈ [e], x.formed = true ∧ x.OK := fun x hx => by
    obtain rfl : x = e := by simpa using hx
    exact ⟨hf, hok⟩
  have HF0 := Lib.hid hf0
  clear hW0 he hf hok hf0
  go_loopg [5, 6] (e.size) (fun gk todo met wr => ∃ (st : List Ex) (m : Nat) (D : Option Addr) (dc : Nat), todo = .slice D m dc ∧ met = .bool false ∧ Hid (m = st.length) ∧ Ex.sizeL st ≤ gk ∧ gk ≤ 1000000 ∧ Hid (Ex.reachL (onM f) st = R) ∧ Hid (∀ x ∈ st, x.formed = true ∧ x.OK) ∧ Hid (StackAt w wr w.heap.size 54 st D dc) ∧ Below w.heap.size w wr)
  case atStart => exact ⟨[e], 1, _, 1, rfl, rfl, Lib.hid rfl, by simp [Ex.sizeL], hz, HR0, HF0, Lib.hid hst0, hb0⟩
  case round =>
    obtain ⟨st, m, D, dc, rfl, rfl, hml, hgs, hgk, hrem, hfo, hst, hbel⟩ := hrel
    have hzr := hbel.size
    have hmr := hm.bel hbel
    rcases snoc_cases st with rfl | ⟨st, x, rfl⟩
    · have hm0 : m = 0 := by simpa using hml.out
      subst hm0
      have HR := Lib.hid (show false = R from hrem.out)
      clear hrem hml hfo hst
      go_wp2_with fail
      (try rw [Exit.noGoto_ret])
      go_ret
      exact ⟨ret_bool HR.out, belA⟩
    · have hm0 : m = st.length + 1 := by simpa using hml.out
      subst hm0
      obtain ⟨b, A', cap', rfl, hb1, hb2, hd1, hd2, hsx, c0, c1, c2, c3, hst'⟩ := hst.out.pop
      obtain ⟨hxf, hxok⟩ := hfo.out x (by simp)
      have hr := hrem.out
      rw [Ex.reachL_app, show Ex.reachL (onM f) [x] = x.reach (onM f) by simp [Ex.reachL], Ex.reach_eq] at hr
      have hs1 : Ex.sizeL st + (Ex.sizeL x.sub + 1) ≤ gk := by
        rw [Ex.sizeL_app] at hgs
        simpa [Ex.sizeL, Ex.size_eq] using hgs
      have hfo' : ∀ y ∈ st, y.formed = true ∧ y.OK := fun y hy => hfo.out y (by simp [hy])
      have hnx : x.name.size ≤ maxLen := by cases x; simp only [Ex.OK] at hxok; exact hxok.2.2.1
      have hstl := Ex.len_sizeL st
      have hxs : Ex.OKL x.sub := by cases x; simp only [Ex.OK] at hxok; exact hxok.2.2.2
      have hkc : st.length ≤ dc := by omega
      have hdc0 : ¬ dc = 0 := by omega
      unfold maxLen at hd2
      obtain ⟨ls, hl, hls, hown⟩ := hst'
      have HFO := Lib.hid hfo'
      have HLS := Lib.hid hls
      have HLL := Lib.hid hl
      clear hrem hml hfo hst hfo' hgs hls hl
      by_cases h0 : 0 < (f x.name).getD 0
      · rw [show onM f x.name = true by unfold onM; simpa using h0, Bool.true_or, Bool.or_true] at hr
        have HR := Lib.hid hr
        clear hr
        go_wp2_with (first | (at_lookup; go_loud (refine wpList_lkI rfl (.tmp 29) (.tmp 31) 142 rfl Tryd.underlying9 Tryd.underlying142 Tryd.underlying3 (zeroInt _) B n f x.name rfl (hmr.bel belA) rfl hnx ?_)))
        (try rw [Exit.noGoto_ret])
        go_ret
        exact ⟨ret_bool HR.out, belA⟩
      · rw [show onM f x.name = false by unfold onM; simpa using h0, Bool.false_or] at hr
        by_cases hk : x.kind = 7
        · have hlen := formed_arrow hxf hk
          obtain ⟨y, z, hyz⟩ : ∃ y z, x.sub = [y, z] := by
            match h : x.sub, hlen with
            | [y, z], _ => exact ⟨y, z, rfl⟩
          rw [if_pos hk, hyz] at hr
          have hyf : y.formed = true := formed_subs hxf y (by rw [hyz]; simp)
          have hyok : y.OK := Ex.OKL_mem hxs y (by rw [hyz]; simp)
          have hysz : y.size ≤ Ex.sizeL x.sub := by rw [hyz]; simp [Ex.sizeL]
          obtain ⟨b2, o2, A2, cap2, rfl, e0, e1, e2, e3, hsy⟩ := hsx.get (by rw [hyz]; rfl : x.sub[0]? = some y)
          rw [Nat.zero_mul, Nat.add_zero] at e0 e1 e2 e3
          have e0' := bel_cell hbel e0
          have e1' := bel_cell hbel e1
          have e2' := bel_cell hbel e2
          have e3' := bel_cell hbel e3
          have hb2w : b2 < wr.heap.size := block_lt_of_cell e0'
          have tk : (x.kind == 7) = true := by simpa using hk
          have hl0 : 0 < x.sub.length := by omega
          have HR := Lib.hid hr
          have HY := Lib.hid hyz
          clear hr hk hyz hlen e0 e1 e2 e3
          go_wp2_with (first | (at_lookup; go_loud (refine wpList_lkI rfl (.tmp 29) (.tmp 31) 142 rfl Tryd.underlying9 Tryd.underlying142 Tryd.underlying3 (zeroInt _) B n f x.name rfl (hmr.bel belA) rfl hnx ?_)) | (at_builtin; go_loud (refine wpList_cat rfl (.tmp 38) (.tmp 43) 52 rfl w.heap.size 54 _ 4 56 Tryd.underlying52 exinfo rfl (by omega) (.slice (some ⟨b, 0, none⟩) st.length dc) st.length (exsC st ls) _ 1 1 (exC y (A2, cap2)) rfl (own_alloc (own_alloc hown)) rfl ⟨rfl, fun _ => ⟨_, _, rfl, fun j u hj => by rw [Nat.zero_add]; exact (cell_new' (by simp)).trans (by simpa [exC] using hj)⟩⟩ (by simp [exC, Value.oneCell']) (by omega) (by omega) (by simp; omega) ?_; intro v9 w9 hown9 hb9; have hz9 := hb9.size; obtain ⟨A9, c9, rfl, hcb1, hcb2⟩ := own_slice hown9)))
          go_roundg (gk - 1)
          case measure => omega
          case rel =>
            refine ⟨st ++ [y], st.length + 1, A9, c9, by first | rfl | simp, rfl, Lib.hid (by simp), ?_, by omega, ?_, ?_, ?_, belA⟩
            · rw [Ex.sizeL_app]
              simp only [Ex.sizeL]
              omega
            · refine Lib.hid ?_
              rw [Ex.reachL_app, ← HR.out]
              simp [Ex.reachL, Ex.reachF]
            · refine Lib.hid fun u hu => ?_
              rcases List.mem_append.1 hu with h1 | h1
              · exact HFO.out u h1
              · obtain rfl : u = y := by simpa using h1
                exact ⟨hyf, hyok⟩
            · refine Lib.hid (StackAt.push (sub := [y]) (ms := [(A2, cap2)]) HLL.out HLS.out rfl (fun j u a hu ha => ?_) (by simpa [exsC] using hown9))
              match j with
              | 0 => obtain rfl : y = u := by simpa using hu
                     obtain rfl : (A2, cap2) = a := by simpa using ha
                     exact hsy
              | j + 1 => simp at hu
        · rw [if_neg hk] at hr
          have tk : (x.kind == 7) = false := by simpa using hk
          obtain ⟨ms, hm1, hm2, hm3⟩ := hsx.lies
          have HR := Lib.hid hr
          have HM1 := Lib.hid hm1
          have HM3 := Lib.hid hm3
          have HM2 := Lib.hid hm2
          have hxl := Ex.len_sizeL x.sub
          clear hr hk hm1 hm2 hm3
          go_wp2_with (first | (at_lookup; go_loud (refine wpList_lkI rfl (.tmp 29) (.tmp 31) 142 rfl Tryd.underlying9 Tryd.underlying142 Tryd.underlying3 (zeroInt _) B n f x.name rfl (hmr.bel belA) rfl hnx ?_)) | (at_builtin; go_loud (refine wpList_cat rfl (.tmp 24) (.tmp 26) 52 rfl w.heap.size 54 _ 4 56 Tryd.underlying52 exinfo rfl (by omega) (.slice (some ⟨b, 0, none⟩) st.length dc) st.length (exsC st ls) A' x.sub.length cap' (exsC x.sub ms) rfl (own_alloc hown) rfl (HM2.out.moved belA) (exsC_one _ _) (by omega) (by omega) (by simp; omega) ?_; intro v9 w9 hown9 hb9; have hz9 := hb9.size; obtain ⟨A9, c9, rfl, hcb1, hcb2⟩ := own_slice hown9)))
          go_roundg (gk - 1)
          case measure => omega
          case rel =>
            refine ⟨st ++ x.sub, st.length + x.sub.length, A9, c9, by first | rfl | simp, rfl, Lib.hid (by simp), ?_, by omega, ?_, ?_, ?_, belA⟩
            · rw [Ex.sizeL_app]
              omega
            · refine Lib.hid ?_
              rw [Ex.reachL_app, ← HR.out]
            · refine Lib.hid fun u hu => ?_
              rcases List.mem_append.1 hu with h1 | h1
              · exact HFO.out u h1
              · exact ⟨formed_subs hxf u h1, Ex.OKL_mem hxs u h1⟩
            · exact Lib.hid (StackAt.push HLL.out HLS.out HM1.out HM3.out hown9)

end Go.Proofs.YtknfcamdfdfoeaaDoor

/- Both Orders of a program that has a fault. -/
namespace Go.Proofs.YtknfcamdfdfoeaaDoor
open Go.RowKit Go.Sort

set_option maxHeartbeats 4000000 in
theorem order_fault (p : Pr) (a : PrA) (w : World) (hg : Always w) (hp : PrAt w p a) (n1 : p.ins.length ≤ 1000000) (n2 : p.outs.length ≤ 1000000) (n3 : p.locals.length ≤ 1000000) (n4 : p.eqs.length ≤ 1000000) (hck : clkF p ≠ (0, 0, 0)) :
    Calls Tryd.prog 18 #[prV p a] w fun r w' => r = .returned (.tuple #[.slice none 0 0, fV (clkF p)]) ∧ Below w.heap.size w w' := by
  have hcheck := fun W h => clkCheck_any p a W (hg.later h) (hp.later h) n1 n2 n3 n4
  have hne : ((clkF p).1 == 0 && (clkF p).2.1 == 0 && (clkF p).2.2 == 0) = false := by
    rw [Bool.eq_false_iff]
    intro h
    simp only [Bool.and_eq_true, beq_iff_eq] at h
    exact hck (Prod.ext h.1.1 (Prod.ext h.1.2 h.2))
  have hfq : ∀ w, (Op.equalIn 10000 34 (.agg #[.int .i64 (clkF p).1, .int .i64 (clkF p).2.1, .int .i64 (clkF p).2.2]) (.agg #[.int .i64 0, .int .i64 0, .int .i64 0])).run Tryd.prog w = .ok false w := fun w => by rw [eqFault, hne]
  have hgm : Tryd.prog.eqGuardType Tryd.prog.depth 34 = false := by kernel_rfl
  clear hck hne
  obtain ⟨A1, c1, A2, c2, A3, c3, A4, c4⟩ := a
  unfold prV fV at *
  dsimp only at *
  generalize (clkF p).1 = k1 at *
  generalize (clkF p).2.1 = k2 at *
  generalize (clkF p).2.2 = k3 at *
  go_enter Tryd.func18, Tryd.ntmps18
  go_wp2_with (first | (go_at_call 29; refine (hcheck _ belA).mono ?_; rintro r wa ⟨rfl, hba⟩; have hca := bcell hba; have hfa := bfrozen hba; have hza : w.heap.size + 2 ≤ wa.heap.size := (by have := hba.size; simpa using this); have hya : w.heap.size < wa.heap.size := (by omega); have hya1 : w.heap.size + 1 < wa.heap.size := (by omega)))
  go_region
  all_goals
    go_wp2_with fail
    refine bodyPost_ret (v := .tuple #[.slice none 0 0, .agg #[.int .i64 k1, .int .i64 k2, .int .i64 k3]]) (by simp [results, Tryd.results18, go_sem, *]) rfl ⟨rfl, ?_⟩
    (repeat refine bel_drew ?_)
    exact belS
end Go.Proofs.YtknfcamdfdfoeaaDoor

/- Walk over the reference's Order of a program without fault. -/
namespace Go.Proofs.YtknfcamdfdfoeaaDoor
open Go.RowKit Go.Sort

def sliceLen (v : Value) : Nat := match v with | .slice _ n _ => n | _ => 0

end Go.Proofs.YtknfcamdfdfoeaaDoor
