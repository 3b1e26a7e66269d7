/- Walks over the package tree: declared, list. -/
import Derived.Test.YtlfklfjnkpjooaaWShow2
import Derived.Test.YtlfklfjnkpjooaaWTree7
import Derived.Test.YtlfklfjnkpjooaaPlain4
import Derived.WalkKit
import Derived.WalkSpells
import Derived.WalkLawsBesides
import Derived.Deep.QuietTactic
import Derived.BigQuiet
import Derived.Deep.Draws
import Derived.Lib.Hide
import Derived.Deep.LoopGhost
import Derived.StillTailTactics
import Derived.Deep.RegionHeld3
import Derived.Deep.RegionWith
import Derived.Lib.QuietBelow
set_option linter.unusedVariables false
set_option linter.unusedSimpArgs false
namespace Go.Proofs.Ytlfklfjnkpjooaa
open Go.RowKit Go.Sort

set_option maxHeartbeats 1000000 in
theorem decl_any (v : Va) (hs : Short v) (w : World) : Calls Try.prog 28 #[vaV v] w fun r w' => r = .returned (.string (declB v)) ∧ Below w.heap.size w w' := by
  obtain ⟨h1, h2⟩ := hs
  unfold vaV
  by_cases c1 : v.ck = 1 <;> by_cases c2 : v.ck = 2 <;> by_cases c3 : v.type = 2 <;> first | omega |
  · have hv : declB v = declB v := rfl
    rw (occs := .pos [2]) [declB] at hv
    first | rw [if_pos c1] at hv | rw [if_neg c1, if_pos c2] at hv | rw [if_neg c1, if_neg c2] at hv
    first | rw [if_pos c3] at hv | rw [if_neg c3] at hv
    have HV := Lib.hid hv; clear hv
    go_enter Try.func28, Try.ntmps28
    go_wp2_with fail
    go_ret
    exact ⟨ret_str HV.out.symm, (by repeat (first | exact Below.refl _ _ | (with_reducible assumption) | refine bel_trans ?_ (by with_reducible assumption) | refine bel_trans ?_ (below_regrown _ _ _) | refine bel_drew ?_ | refine bel_drewN ?_ _ | refine bel_alloc ?_ _ | refine bel_grow ?_ (by with_reducible assumption) (by omega)))⟩

set_option maxHeartbeats 1000000 in
theorem list_any (l : List Va) (A : Option Addr) (cap : Nat) (hs : ∀ v ∈ l, Short v) (hn : l.length ≤ 1000000) (w : World) (hl : VarsAt w l A cap) :
    Calls Try.prog 27 #[.slice A l.length cap] w fun r w' => r = .returned (.string (listVB l)) ∧ Below w.heap.size w w' := by
  have hl2 := hl.len
  unfold maxLen at hl2
  obtain ⟨hl3, hl4⟩ := hl2
  have hsz := listGo_size l hs 0 ⟨#[40]⟩
  have HV := Lib.hid (show listVB l = listGo 0 ⟨#[40]⟩ l ++ ⟨#[41]⟩ from rfl)
  have hz : (listGo 0 ⟨#[40]⟩ l).size ≤ 100000000 := by
    simp only [size_lit, List.size_toArray, List.length_cons, List.length_nil] at hsz
    omega
  clear hsz
  generalize hG : listGo 0 ⟨#[40]⟩ l = G at HV hz
  have HG := Lib.hid hG; clear hG
  go_enter Try.func27, Try.ntmps27
  go_wp2_with fail
  go_loopw [3, 8] (fun o i wr => ∃ (k : Nat) (s : ByteArray), k ≤ l.length ∧ i = .int .i64 k ∧ o = .string s ∧ s.size ≤ 1 + 62 * k ∧ listGo k s (l.drop k) = G ∧ Below w.heap.size w wr) (fun _ i _ => l.length - (intOf i).toNat)
  case atStart => exact ⟨0, ⟨#[40]⟩, Nat.zero_le _, rfl, rfl, by decide, HG.out, Below.refl _ _⟩
  case round =>
    obtain ⟨k, s, hk, rfl, rfl, hss, hrem, hbel⟩ := hrel
    by_cases hlt : k < l.length
    · have hmem : l[k] ∈ l := List.getElem_mem hlt
      have hx : l[k]? = some l[k] := List.getElem?_eq_getElem hlt
      have hd : l.drop k = l[k] :: l.drop (k + 1) := List.drop_eq_getElem_cons hlt
      generalize l[k] = x at hx hd hmem
      obtain ⟨b, off, rfl, hbb, ⟨d0, d1, d2, d3⟩⟩ := (hl.later hbel).get hx
      rw [hd, listGo] at hrem
      have hsh := hs x hmem
      have hds := declB_size hsh
      have hdecl := fun W => decl_any x hsh W
      unfold vaV at hdecl
      clear hd hx
      rcases Nat.eq_zero_or_pos k with h0 | h0
      · subst h0
        rw [if_neg (by omega)] at hrem
        have HR := Lib.hid hrem; clear hrem
        simp only [Nat.zero_mul, Nat.add_zero] at d0 d1 d2 d3
        go_wp2_with (first | (go_at_call 28; refine (hdecl _).mono ?_; rintro r w1 ⟨rfl, hb1⟩; have hc1 := bcell hb1; have hz1 := hb1.size; (try simp at hz1); (try have hy1 : w.heap.size < w1.heap.size := by omega); (try have hy2 : w.heap.size + 1 < w1.heap.size := by omega); (try have hy3 : w.heap.size + 2 < w1.heap.size := by omega); (try have hy4 : wr.heap.size < w1.heap.size := by omega); (try have hy5 : wr.heap.size + 1 < w1.heap.size := by omega)))
        go_roundw
        case rel => exact ⟨1, _, by omega, by go_num, rfl, by rw [size_app]; omega, HR.out, (by repeat (first | exact Below.refl _ _ | (with_reducible assumption) | refine bel_trans ?_ (by with_reducible assumption) | refine bel_trans ?_ (below_regrown _ _ _) | refine bel_drew ?_ | refine bel_drewN ?_ _ | refine bel_alloc ?_ _ | refine bel_grow ?_ (by with_reducible assumption) (by omega)))⟩
        case measure => simp [intOf]; omega
      · rw [if_pos h0] at hrem
        have HR := Lib.hid hrem; clear hrem
        have h0' : (0 : Int) < k := by omega
        go_wp2_with (first | (go_at_call 28; refine (hdecl _).mono ?_; rintro r w1 ⟨rfl, hb1⟩; have hc1 := bcell hb1; have hz1 := hb1.size; (try simp at hz1); (try have hy1 : w.heap.size < w1.heap.size := by omega); (try have hy2 : w.heap.size + 1 < w1.heap.size := by omega); (try have hy3 : w.heap.size + 2 < w1.heap.size := by omega); (try have hy4 : wr.heap.size < w1.heap.size := by omega); (try have hy5 : wr.heap.size + 1 < w1.heap.size := by omega)))
        go_roundw
        case rel => exact ⟨k + 1, _, by omega, by go_num, rfl, by simp only [size_app, size_lit, List.size_toArray, List.length_cons, List.length_nil]; omega, HR.out, (by repeat (first | exact Below.refl _ _ | (with_reducible assumption) | refine bel_trans ?_ (by with_reducible assumption) | refine bel_trans ?_ (below_regrown _ _ _) | refine bel_drew ?_ | refine bel_drewN ?_ _ | refine bel_alloc ?_ _ | refine bel_grow ?_ (by with_reducible assumption) (by omega)))⟩
        case measure => simp [intOf]; omega
    · obtain rfl : k = l.length := by omega
      rw [List.drop_length, listGo] at hrem
      have HR := Lib.hid hrem; clear hrem
      go_wp2_with fail
      go_ret
      exact ⟨ret_str (by rw [HV.out, ← HR.out]), (by repeat (first | exact Below.refl _ _ | (with_reducible assumption) | refine bel_trans ?_ (by with_reducible assumption) | refine bel_trans ?_ (below_regrown _ _ _) | refine bel_drew ?_ | refine bel_drewN ?_ _ | refine bel_alloc ?_ _ | refine bel_grow ?_ (by with_reducible assumption) (by omega)))⟩

end Go.Proofs.Ytlfklfjnkpjooaa
