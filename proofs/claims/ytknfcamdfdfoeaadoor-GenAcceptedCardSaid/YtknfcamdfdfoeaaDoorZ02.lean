/- When an expression stands at a clock. No program of Go in sight. -/
import Derived.Test.YtknfcamdfdfoeaaDoorZ01
import Derived.Laws.StructEq
import Derived.Test.YtknfcamdfdfoeaaDoorRows
import Derived.Test.YtknfcamdfdfoeaaDoorTie
import Derived.Test.YtknfcamdfdfoeaaDoorCards
import Derived.Test.YtknfcamdfdfoeaaDoorZ00
import Derived.ProofKit
import Derived.LaidMore
import Derived.OpenShut
import Derived.Stop.Joined
import Derived.Maps.Own
import Derived.Maps.OwnOps
import Derived.Maps.OwnSet
import Derived.Maps.Views
import Derived.StringKeys
import Derived.WalkArith
set_option linter.unusedVariables false
set_option linter.unusedSimpArgs false
set_option maxRecDepth 100000
namespace Go.Proofs.YtknfcamdfdfoeaaDoor
open Go.RowKit

/-- The first variable of a name. -/
def findC : List Va → ByteArray → Option Va
  | [], _ => none
  | v :: l, s => if (v.name.toList == s.toList) = true then some v else findC l s
/-- Are two clocks alike? -/
def ckEq (a : Int) (s : ByteArray) (b : Int) (t : ByteArray) : Bool := a == b && s.toList == t.toList
/-- house.truth. -/
def truthE (l : List Va) (s : ByteArray) (ok : Bool) : Int :=
  match findC l s with
  | none => 19
  | some v => if (ok && ckEq v.ck v.cn 0 ⟨#[]⟩) = true then 0 else 21
/-- Why an expression itself does not stand at a clock. -/
def ownC (l : List Va) (k : Int) (s : ByteArray) (ck : Int) (cn : ByteArray) : Int :=
  if k = 3 then (match findC l s with
    | none => 19
    | some v => if ckEq v.ck v.cn ck cn = true then 0 else 21)
  else if k = 8 then truthE l s (ckEq ck cn 1 s)
  else if k = 9 then truthE l s (ckEq ck cn 2 s)
  else if k = 10 then truthE l s (ckEq ck cn 0 ⟨#[]⟩)
  else 0
/-- The clocks at which its first part, and its second one, must stand. -/
def subC (k : Int) (s : ByteArray) (c : Int × ByteArray) : Int × ByteArray := if k = 8 ∨ k = 9 then (0, ⟨#[]⟩) else if k = 10 then (1, s) else c
def subD (k : Int) (s : ByteArray) (c : Int × ByteArray) : Int × ByteArray := if k = 8 ∨ k = 9 then (0, ⟨#[]⟩) else if k = 10 then (2, s) else c

namespace Ex
mutual
/-- house.of. -/
def clk (l : List Va) : Ex → Int × ByteArray → Int
  | mk k _ s sub, c => if ownC l k s c.1 c.2 ≠ 0 then ownC l k s c.1 c.2 else clkL l sub (subC k s c) (subD k s c)
def clkL (l : List Va) : List Ex → Int × ByteArray → Int × ByteArray → Int
  | [], _, _ => 0
  | x :: r, c, d => if clk l x c ≠ 0 then clk l x c else clkL l r d c
end
theorem clk_eq (l : List Va) (e : Ex) (c : Int × ByteArray) : e.clk l c = if ownC l e.kind e.name c.1 c.2 ≠ 0 then ownC l e.kind e.name c.1 c.2 else clkL l e.sub (subC e.kind e.name c) (subD e.kind e.name c) := by cases e; rw [clk]; rfl
end Ex

/-- house.declared. -/
def declaredE (l : List Va) (v : Va) : Int :=
  if ckEq v.ck v.cn 0 ⟨#[]⟩ = true then 0
  else match findC l v.cn with
    | none => 19
    | some c => if c.type ≠ 2 then 20 else if ckEq c.ck c.cn 0 ⟨#[]⟩ = true then 0 else 21

theorem ckEq_iff {a b : Int} {s t : ByteArray} : ckEq a s b t = true ↔ a = b ∧ s.toList = t.toList := by
  unfold ckEq; simp

namespace Ex
end Ex

theorem formedL_mem : ∀ {l : List Ex}, Ex.formedL l = true → ∀ x ∈ l, x.formed = true
  | [], _, x, hx => by cases hx
  | y :: l, h, x, hx => by
    simp only [Ex.formedL, Bool.and_eq_true] at h
    rcases List.mem_cons.1 hx with rfl | hx
    · exact h.1
    · exact formedL_mem h.2 x hx

/-- A kind of expressions that has a name: the name is there; else it is not. -/
theorem formed_nameK {e : Ex} (h : e.formed = true) : (e.kind = 3 ∨ e.kind = 8 ∨ e.kind = 9 ∨ e.kind = 10) ∧ nameB e.name = true ∨ (e.kind ≠ 3 ∧ e.kind ≠ 8 ∧ e.kind ≠ 9 ∧ e.kind ≠ 10) ∧ e.name.toList.isEmpty = true := by
  rw [Ex.formed_eq] at h
  unfold formedH formK at h
  generalize e.kind = k at *
  by_cases h1 : k = 1
  · subst h1; simp at h ⊢; simp_all
  by_cases h2 : k = 2
  · subst h2; simp at h ⊢; simp_all
  by_cases h3 : k = 3
  · subst h3; simp at h ⊢; simp_all
  by_cases h4 : k = 4
  · subst h4; simp at h ⊢; simp_all
  by_cases h5 : k = 5
  · subst h5; simp at h ⊢; simp_all
  by_cases h6 : k = 6
  · subst h6; simp at h ⊢; simp_all
  by_cases h7 : k = 7
  · subst h7; simp at h ⊢; simp_all
  by_cases h8 : k = 8
  · subst h8; simp at h ⊢; simp_all
  by_cases h9 : k = 9
  · subst h9; simp at h ⊢; simp_all
  by_cases h10 : k = 10
  · subst h10; simp at h ⊢; simp_all
  simp [h1, h2, h3, h4, h5, h6, h7, h8, h9, h10] at h

theorem formed_subs {e : Ex} (h : e.formed = true) : ∀ x ∈ e.sub, x.formed = true := by
  rw [Ex.formed_eq, Bool.and_eq_true] at h
  exact formedL_mem h.2
theorem formed_merge {e : Ex} (h : e.formed = true) (hk : e.kind = 10) : e.sub.length = 2 := by
  rw [Ex.formed_eq, Bool.and_eq_true] at h
  have := h.1
  unfold formedH formK at this
  rw [hk] at this
  simp at this
  omega

theorem nameB_ne {s : ByteArray} (h : nameB s = true) : s.toList.isEmpty = false := by
  cases hs : s.toList.isEmpty with
  | false => rfl
  | true =>
    exfalso
    have h0 : s.toList = [] := by simpa using hs
    have h1 : s.size = 0 := by
      have := congrArg List.length h0
      rw [ByteArray.toList_eq] at this
      simpa using this
    unfold nameB at h
    rw [dif_neg (by omega)] at h
    cases h

theorem toList_inj {a b : ByteArray} (h : a.toList = b.toList) : a = b := eqS_iff.1 (by rw [h]; simp)

theorem findC_name : ∀ {l : List Va} {s : ByteArray} {v : Va}, findC l s = some v → v ∈ l ∧ v.name.toList = s.toList
  | [], s, v, h => by simp [findC] at h
  | u :: l, s, v, h => by
    rw [findC] at h
    split at h
    · rename_i hn
      obtain rfl : u = v := by injection h
      exact ⟨by simp, by simpa using hn⟩
    · obtain ⟨h1, h2⟩ := findC_name h
      exact ⟨by simp [h1], h2⟩
end Go.Proofs.YtknfcamdfdfoeaaDoor

/- Walks over the package clocks: find, truth. -/
namespace Go.Proofs.YtknfcamdfdfoeaaDoor
open Go.RowKit Go.Sort

theorem eqClock (a : Int) (s : ByteArray) (b : Int) (t : ByteArray) (w : World) : (Op.equalIn 10000 58 (.agg #[.int .i64 a, .string s]) (.agg #[.int .i64 b, .string t])).run Tryd.prog w = .ok (ckEq a s b t) w := by
  have hS : Tryd.prog.underlying 58 = some (.struct (Tryd.prog.fieldsOf 58)) := by kernel_rfl
  have hp : Tryd.prog.stoodInHeld 58 = false := by kernel_rfl
  rw [show (10000 : Nat) = 9999 + 1 from rfl, run_equalIn_agg w 9999 58 _ _ hS hp]
  simp only [Program.fieldsOf, Tryd.underlying58]
  go_simp
  unfold ckEq
  by_cases h1 : a = b <;> by_cases h2 : s.toList = t.toList <;> simp [h1, h2]
theorem gmClock : Tryd.prog.eqGuardType Tryd.prog.depth 58 = false := by kernel_rfl

def zeroVa : Va := ⟨⟨#[]⟩, 0, 0, ⟨#[]⟩⟩
/-- What house.find hands back. -/
def fcV : Option Va → Value
  | some v => .tuple #[vaV v, .bool true]
  | none => .tuple #[vaV zeroVa, .bool false]

set_option maxHeartbeats 2000000 in
theorem find_any (l : List Va) (A : Option Addr) (cap : Nat) (s : ByteArray) (w : World) (hl : VarsAt w l A cap) (hn : l.length ≤ 1000000) :
    Calls Tryd.prog 49 #[.slice A l.length cap, .string s] w fun r w' => r = .returned (fcV (findC l s)) ∧ Below w.heap.size w w' := by
  have hv : fcV (findC l s) = fcV (findC l s) := rfl
  clear hv
  go_enter Tryd.func49, Tryd.ntmps49
  go_wp2_with fail
  refine wp_name fun W0 hW0 => ?_
  have hb0 : Below w.heap.size w W0 := by rw [hW0]; exact belA
  have hz0 : w.heap.size < W0.heap.size := by rw [hW0]; simp
  have f0 : W0.cell? ⟨w.heap.size, 0, none⟩ = some (.string ⟨#[]⟩) := by rw [hW0]; go_simp
  have f1 : W0.cell? ⟨w.heap.size, 1, none⟩ = some (.int .i64 0) := by rw [hW0]; go_simp
  have f2 : W0.cell? ⟨w.heap.size, 2, none⟩ = some (.int .i64 0) := by rw [hW0]; go_simp
  have f3 : W0.cell? ⟨w.heap.size, 3, none⟩ = some (.string ⟨#[]⟩) := by rw [hW0]; go_simp
  have z0 : W0.frozen? ⟨w.heap.size, 0, none⟩ = false := by rw [hW0]; go_simp
  have z1 : W0.frozen? ⟨w.heap.size, 1, none⟩ = false := by rw [hW0]; go_simp
  have z2 : W0.frozen? ⟨w.heap.size, 2, none⟩ = false := by rw [hW0]; go_simp
  have z3 : W0.frozen? ⟨w.heap.size, 3, none⟩ = false := by rw [hW0]; go_simp
  clear hW0
  replace hl := hl.later hb0
  go_loopw [10] (fun i wr => ∃ k : Nat, k ≤ l.length ∧ i = .int .i64 k ∧ findC (l.drop k) s = findC l s ∧ Below W0.heap.size W0 wr) (fun i _ => l.length - (intOf i).toNat)
  case atStart => exact ⟨0, Nat.zero_le _, rfl, rfl, Below.refl _ _⟩
  case round =>
    obtain ⟨k, hk, rfl, hrem, hbel⟩ := hrel
    have hc := bcell hbel
    have hfz := bfrozen hbel
    have hzr := hbel.size
    have hr1 : w.heap.size < wr.heap.size := by omega
    by_cases hlt : k < l.length
    · have hx : l[k]? = some l[k] := List.getElem?_eq_getElem hlt
      have hd : l.drop k = l[k] :: l.drop (k + 1) := List.drop_eq_getElem_cons hlt
      generalize l[k] = x at hx hd
      obtain ⟨b, off, rfl, hbb, ⟨d0, d1, d2, d3⟩⟩ := (hl.later hbel).get hx
      rw [hd, findC] at hrem
      clear hd hx
      cases hcs : (x.name.toList == s.toList)
      · rw [hcs, if_neg (by simp)] at hrem
        have HR := Lib.hid hrem; clear hrem
        go_wp2_with fail
        go_roundw
        case rel => exact ⟨k + 1, by omega, by go_num, HR.out, belA⟩
        case measure => simp [intOf]; omega
      · rw [hcs, if_pos rfl] at hrem
        have HR := Lib.hid hrem; clear hrem
        go_wp2_with fail
        refine bodyPost_ret (v := .tuple #[.agg #[.string x.name, .int .i64 x.type, .int .i64 x.ck, .string x.cn], .bool true]) (by simp [results, Tryd.results49, go_sem, *]) rfl ⟨by rw [← HR.out]; rfl, ?_⟩
        exact belS
    obtain rfl : k = l.length := by omega
    rw [List.drop_length, findC] at hrem
    have HR := Lib.hid hrem; clear hrem
    go_wp2_with fail
    refine bodyPost_ret (v := .tuple #[.agg #[.string ⟨#[]⟩, .int .i64 0, .int .i64 0, .string ⟨#[]⟩], .bool false]) (by simp [results, Tryd.results49, go_sem, *]) rfl ⟨by rw [← HR.out]; rfl, ?_⟩
    exact belS

/-- clocks.always lies in its cells. -/
structure Always (w : World) : Prop where
  c0 : w.cell? ⟨0, 0, none⟩ = some (.int .i64 0)
  c1 : w.cell? ⟨0, 1, none⟩ = some (.string ⟨#[]⟩)
theorem Always.later {w w' : World} (h : Always w) (hb : Below w.heap.size w w') : Always w' := ⟨bel_cell hb h.c0, bel_cell hb h.c1⟩

set_option maxHeartbeats 2000000 in
theorem truth_any (l : List Va) (A : Option Addr) (cap : Nat) (s : ByteArray) (ok : Bool) (w : World) (hg : Always w) (hl : VarsAt w l A cap) (hn : l.length ≤ 1000000) :
    Calls Tryd.prog 61 #[.slice A l.length cap, .string s, .bool ok] w fun r w' => r = .returned (.int .i64 (truthE l s ok)) ∧ Below w.heap.size w w' := by
  have hfind := fun W h => find_any l A cap s W (hl.later h) hn
  have hv : truthE l s ok = truthE l s ok := rfl
  rw (occs := .pos [2]) [truthE] at hv
  obtain ⟨a0, a1⟩ := hg
  have hgz : 0 < w.heap.size := block_lt_of_cell a0
  cases hf : findC l s with
  | none =>
    rw [hf] at hv hfind
    clear hf
    have HV := Lib.hid hv; clear hv
    unfold fcV vaV zeroVa at hfind
    dsimp only at hfind
    go_enter Tryd.func61, Tryd.ntmps61
    go_wp2_with (first | (go_at_call 49; refine (hfind _ belA).mono ?_; rintro r w1 ⟨rfl, hb1⟩; have hc1 := bcell hb1; have hz1 := hb1.size; (try simp at hz1); (try have hy1 := lt0 w w1); (try have hy2 := ltA w 1 w1); (try have hy3 := ltA w 2 w1); (try have hy4 := lt0 wr w1); (try have hy5 := ltA wr 1 w1); (try have hgy1 : 0 < w1.heap.size := by omega)))
    go_ret
    exact ⟨ret_int HV.out.symm, belA⟩
  | some v =>
    rw [hf] at hv hfind
    clear hf
    unfold fcV vaV at hfind
    dsimp only at hfind hv
    have hgm := gmClock
    have hfq := fun w => eqClock v.ck v.cn 0 ⟨#[]⟩ w
    cases ok
    · rw [Bool.false_and, if_neg (by simp)] at hv
      have HV := Lib.hid hv; clear hv
      go_enter Tryd.func61, Tryd.ntmps61
      go_wp2_with (first | (go_at_call 49; refine (hfind _ belA).mono ?_; rintro r w1 ⟨rfl, hb1⟩; have hc1 := bcell hb1; have hz1 := hb1.size; (try simp at hz1); (try have hy1 := lt0 w w1); (try have hy2 := ltA w 1 w1); (try have hy3 := ltA w 2 w1); (try have hy4 := lt0 wr w1); (try have hy5 := ltA wr 1 w1); (try have hgy1 : 0 < w1.heap.size := by omega)))
      go_ret
      exact ⟨ret_int HV.out.symm, belA⟩
    · cases hq : ckEq v.ck v.cn 0 ⟨#[]⟩
      · rw [hq] at hv hfq
        rw [Bool.and_false, if_neg (by simp)] at hv
        clear hq
        have HV := Lib.hid hv; clear hv
        go_enter Tryd.func61, Tryd.ntmps61
        go_wp2_with (first | (go_at_call 49; refine (hfind _ belA).mono ?_; rintro r w1 ⟨rfl, hb1⟩; have hc1 := bcell hb1; have hz1 := hb1.size; (try simp at hz1); (try have hy1 := lt0 w w1); (try have hy2 := ltA w 1 w1); (try have hy3 := ltA w 2 w1); (try have hy4 := lt0 wr w1); (try have hy5 := ltA wr 1 w1); (try have hgy1 : 0 < w1.heap.size := by omega)))
        go_ret
        exact ⟨ret_int HV.out.symm, belA⟩
      · rw [hq] at hv hfq
        rw [Bool.and_true, if_pos rfl] at hv
        clear hq
        have HV := Lib.hid hv; clear hv
        go_enter Tryd.func61, Tryd.ntmps61
        go_wp2_with (first | (go_at_call 49; refine (hfind _ belA).mono ?_; rintro r w1 ⟨rfl, hb1⟩; have hc1 := bcell hb1; have hz1 := hb1.size; (try simp at hz1); (try have hy1 := lt0 w w1); (try have hy2 := ltA w 1 w1); (try have hy3 := ltA w 2 w1); (try have hy4 := lt0 wr w1); (try have hy5 := ltA wr 1 w1); (try have hgy1 : 0 < w1.heap.size := by omega)))
        go_ret
        exact ⟨ret_int HV.out.symm, belA⟩

end Go.Proofs.YtknfcamdfdfoeaaDoor

/- What a row gives its walk: the listed variable's cells; the arguments opened. -/
namespace Go.Proofs.YtknfcamdfdfoeaaDoor
open Go.ChangeShapes Go.WideShapes Go.ChangeAt Go.WideMaps Go.WideElems Go.RowKit

/-- The one listed variable, with what it holds. -/
def laidL : List (String × DataW Unit) := Rows.genAcceptedRow.laid

theorem door_met (os : Os) (args : Array Value) : laidMetH Tryd.prog laidL ((World.doorLaid Tryd.prog 400 os).forCall (fun _ _ => 0) ⟨#[], args, []⟩).memory :=
  laidMetH_of_parts3 (fuel := 8) (laidMet_of_run' 8 (by kernel_rfl) (by kernel_rfl)) (by kernel_rfl) (by kernel_rfl)

theorem of_laid {W : World} (h : laidMetH Tryd.prog laidL W) : Always W := by
  rw [MakeChecks.laidMetH_plain _ _ _ (by kernel_rfl)] at h
  obtain ⟨ps, ⟨g0, t0, cs0, f0, p0, q0, hg0, ht0, hv0, hd0, _, _⟩, _, _⟩ := h
  obtain rfl := Option.some.inj ((show Tryd.prog.globalNamed _ = some 0 by kernel_rfl).symm.trans hg0)
  obtain rfl := Option.some.inj ((show (Tryd.prog.globals[0]?).map (·.type) = some 58 by kernel_rfl).symm.trans ht0)
  obtain ⟨xs, n, rfl, hx, hlen, hxl, hg⟩ := DataW.trod_struct Tryd.underlying58 hd0
  rw [cellsClock] at hlen
  obtain ⟨cs0⟩ := cs0
  simp only [Prod.mk.injEq] at hx
  obtain ⟨hx, _⟩ := hx
  match cs0, hlen, xs, hxl with
  | [c0, c1], _, [y0, y1], _ =>
    have k0 : DataW.trod _ Tryd.prog W 0 _ _ n 3 (([c0, c1].drop 0).take (Tryd.prog.cellsOf 3)) = some y0 := hg 0 _ rfl
    have k1 : DataW.trod _ Tryd.prog W 0 _ _ n 9 (([c0, c1].drop 1).take (Tryd.prog.cellsOf 9)) = some y1 := hg 1 _ rfl
    rw [cellsInt] at k0
    rw [cellsString] at k1
    obtain ⟨k, hk, hy0, _⟩ := DataW.trod_int Tryd.underlying3 k0
    obtain ⟨s, hs, hy1, _⟩ := DataW.trod_string Tryd.underlying9 k1
    simp at hk hs
    subst hk hs
    subst hy0 hy1
    have hd : (DataW.agg [.lit (.int .i64 0), .lit (.string [])] : DataW Unit) = .agg [.lit (.int .i64 k), .lit (.string s.data.toList)] := hx
    injection hd with hd
    injection hd with h1 h2
    injection h1 with h1
    injection h1 with _ h1
    injection h2 with h2 _
    injection h2 with h2
    injection h2 with h2
    have hs0 : s = ⟨#[]⟩ := WideShapes.bytes_inj (by rw [← h2])
    subst h1 hs0
    have e0 := World.var?_cell hg0 hv0 0
    have e1 := World.var?_cell hg0 hv0 1
    exact ⟨by simpa using e0, by simpa using e1⟩

section
variable {H : Type} {enc : TypeId × Value → H} {w : World} {spare : Nat → Bool} {held : Bool}
end
end Go.Proofs.YtknfcamdfdfoeaaDoor

/- A map from texts to ints that a call makes for itself. -/
namespace Go.Proofs.YtknfcamdfdfoeaaDoor
open Go.RowKit Go.Sort Go.Maps Go.ChangeMaps Go.WideMaps

/-- A map's content with one entry anew. -/
def upd (f : ByteArray → Option Int) (s : ByteArray) (v : Int) : ByteArray → Option Int := fun t => if t.data = s.data then some v else f t

/-- Block b is a map of at most n entries from texts to ints: f. -/
def MapI (P : Program) (k e : TypeId) (w : World) (b n : Nat) (f : ByteArray → Option Int) : Prop :=
  ∃ D : DataW Unit, w.ownsMap P k (plainElem P e) b n D ∧ Maps.IsMap D ∧
    ∀ s : ByteArray, Maps.has D (.string s.data.toList) = (f s).isSome ∧ D.atKey (.string s.data.toList) (.lit (.int .i64 0)) = .lit (.int .i64 ((f s).getD 0))

section
variable {P : Program} {k e : TypeId} {w w' : World} {b n : Nat} {f : ByteArray → Option Int}

theorem MapI.made (w : World) : MapI P k e (w.alloc (.map #[] 0)) w.heap.size 0 (fun _ => none) :=
  ⟨.map [], World.ownsMap_made w P k _, isMap_empty, fun s => ⟨rfl, rfl⟩⟩
theorem MapI.keep (h : MapI P k e w b n f) (hb : ∀ k, k < w.heap.size → w'.heap[k]? = w.heap[k]?) : MapI P k e w' b n f := by
  obtain ⟨D, h1, h2, h3⟩ := h
  have hlt := h1.lt
  obtain ⟨es, clock, hh, F, hs, hD⟩ := h1
  exact ⟨D, ⟨es, clock, (hb b hlt).trans hh, F, hs, hD⟩, h2, h3⟩
theorem MapI.lt (h : MapI P k e w b n f) : b < w.heap.size := by
  obtain ⟨D, h1, _⟩ := h
  exact h1.lt
theorem MapI.bel (h : MapI P k e w b n f) (hb : Below w.heap.size w w') : MapI P k e w' b n f := h.keep hb.block
theorem MapI.alloc (h : MapI P k e w b n f) {o : Obj} : MapI P k e (w.alloc o) b n f := h.bel (bel_alloc (Below.refl _ _) o)
theorem MapI.drew (h : MapI P k e w b n f) : MapI P k e w.drew b n f := h

theorem wpList_lkI {ops : Array Oper} {rest : List Oper} {o : Oper} {a : Act} {Q : Exit → Act → World → Prop} (hg : o.guard = none) (m x : Operand) (t : TypeId) (hop : o.op = Op.lookup t m x false)
    (hk : P.underlying k = some .string) (ht : P.underlying t = some (.map k e)) (he : P.underlying e = some (.int .i64)) (hz : (zeroValue e).run P w = .ok (.int .i64 0) w)
    (b n : Nat) (f : ByteArray → Option Int) (s : ByteArray) (hm : a.eval m = .map (some b)) (hown : MapI P k e w b n f) (hx : a.eval x = .string s) (hs : s.size ≤ maxLen)
    (hK : wpList P ops Q rest (a.put o.dst (.int .i64 ((f s).getD 0))) w) : wpList P ops Q (o :: rest) a w := by
  obtain ⟨D, h1, h2, h3⟩ := hown
  refine wpList_lookup_own_int w hg m x t hop k e .i64 (string_keyed hk) ht he hz b n D hm h1 _ _ hx (keyOf_string_mk hk hs) fun c hc _ => ?_
  rw [(h3 s).2] at hc
  have : (f s).getD 0 = c := by injection hc with hc; injection hc
  rw [← this]; exact hK
theorem wpList_lkokI {ops : Array Oper} {rest : List Oper} {o : Oper} {a : Act} {Q : Exit → Act → World → Prop} (hg : o.guard = none) (m x : Operand) (t : TypeId) (hop : o.op = Op.lookup t m x true)
    (hk : P.underlying k = some .string) (ht : P.underlying t = some (.map k e)) (he : P.underlying e = some (.int .i64)) (hz : (zeroValue e).run P w = .ok (.int .i64 0) w)
    (b n : Nat) (f : ByteArray → Option Int) (s : ByteArray) (hm : a.eval m = .map (some b)) (hown : MapI P k e w b n f) (hx : a.eval x = .string s) (hs : s.size ≤ maxLen)
    (hK : wpList P ops Q rest (a.put o.dst (.tuple #[.int .i64 ((f s).getD 0), .bool (f s).isSome])) w) : wpList P ops Q (o :: rest) a w := by
  obtain ⟨D, h1, h2, h3⟩ := hown
  refine wpList_lookup_own_ok_int w hg m x t hop k e .i64 (string_keyed hk) ht he hz b n D hm h1 _ _ hx (keyOf_string_mk hk hs) fun c hc _ => ?_
  rw [(h3 s).2] at hc
  have : (f s).getD 0 = c := by injection hc with hc; injection hc
  rw [← this, (h3 s).1]; exact hK
theorem wpList_stI {ops : Array Oper} {rest : List Oper} {o : Oper} {a : Act} {Q : Exit → Act → World → Prop} (hg : o.guard = none) (m x v : Operand) (t : TypeId) (hop : o.op = Op.mapUpdate t m x v)
    (hk : P.underlying k = some .string) (ht : P.underlying t = some (.map k e)) (he : P.underlying e = some (.int .i64))
    (b n : Nat) (f : ByteArray → Option Int) (s : ByteArray) (i : Int) (hm : a.eval m = .map (some b)) (hown : MapI P k e w b n f) (hn : n < 1000000000) (hx : a.eval x = .string s) (hv : a.eval v = .int .i64 i)
    (hs : s.size ≤ maxLen) (hi : -9223372036854775808 ≤ i ∧ i ≤ 9223372036854775807)
    (hK : ∀ w', MapI P k e w' b (n + 1) (upd f s i) → w.grownBy w' (some b) → wpList P ops Q rest (a.put o.dst undef) w') : wpList P ops Q (o :: rest) a w := by
  obtain ⟨D, h1, h2, h3⟩ := hown
  refine wpList_mapUpdate_own w hg m x v t hop k e (string_keyed hk) ht _ b n D hm h1 (by unfold maxLen; omega) _ _ _ hx hv (keyOf_string_mk hk hs) _ [] (plainElem_int he (WalkArith.wf_i64 hi)) fun w' h4 h5 => hK w' ⟨_, h4, ?_, fun t => ?_⟩ h5
  · exact h2.put _ _
  · by_cases hts : t.data = s.data
    · have hk2 : WideAt.IsKeyLit (.string s.data.toList) := by trivial
      rw [hts, has_put_same h2 hk2, atKey_put_same h2 hk2]
      simp [upd, hts]
    · have hne : (Lit.string t.data.toList) ≠ .string s.data.toList := by
        intro h
        injection h with h
        exact hts (by have := congrArg List.toArray h; simpa using this)
      rw [has_put_other hne, atKey_put_other hne, (h3 t).1, (h3 t).2]
      simp [upd, hts]
end
end Go.Proofs.YtknfcamdfdfoeaaDoor
