/- Walks over the package kinds: typeOf, parts, of. -/
import Derived.Test.YtlfklfjnkpjooaaWKinds1
import Derived.Test.YtlfklfjnkpjooaaWShow2
import Derived.WalkKit
import Derived.WalkSpells
import Derived.WalkLawsBesides
import Derived.Deep.QuietTactic
import Derived.BigQuiet
import Derived.Deep.Draws
import Derived.Lib.Hide
import Derived.Deep.LoopGhost
import Derived.StillTailTactics
import Derived.Deep.RegionHeld3
import Derived.Deep.RegionWith
import Derived.Lib.QuietBelow
set_option linter.unusedVariables false
set_option linter.unusedSimpArgs false
namespace Go.Proofs.Ytlfklfjnkpjooaa
open Go.RowKit Go.Sort

/-- What a look needs: its variables lie there, its map holds their places. -/
structure LookAt (w : World) (l : List Va) (A : Option Addr) (cap B n : Nat) : Prop where
  vars : VarsAt w l A cap
  map : MapI Try.prog 9 3 w B n (findV l)
theorem LookAt.later {w w' : World} {l : List Va} {A : Option Addr} {cap B n : Nat} (h : LookAt w l A cap B n) (hb : Below w.heap.size w w') : LookAt w' l A cap B n := ⟨h.vars.later hb, h.map.bel hb⟩
def lookV (l : List Va) (A : Option Addr) (cap B : Nat) : Value := .agg #[.slice A l.length cap, .map (some B)]

set_option maxHeartbeats 1000000 in
theorem typeOf_any (l : List Va) (A : Option Addr) (cap B n : Nat) (s : ByteArray) (hs : s.size ≤ maxLen) (w : World) (hl : LookAt w l A cap B n) :
    Calls Try.prog 39 #[lookV l A cap B, .string s] w fun r w' => r = .returned (.tuple #[.int .i64 (typeOfP l s).1, .bool (typeOfP l s).2]) ∧ Below w.heap.size w w' := by
  have hl2 := hl.vars.len
  unfold maxLen at hl2
  obtain ⟨hl3, hl4⟩ := hl2
  have hm := hl.map
  have hBz := hm.lt
  have hv : typeOfP l s = typeOfP l s := rfl
  rw (occs := .pos [2]) [typeOfP] at hv
  unfold lookV
  cases hf : findV l s with
  | none =>
    rw [hf] at hv
    have HV := Lib.hid hv; clear hv
    go_enter Try.func39, Try.ntmps39
    go_wp2_with (first | (at_lookup; refine wpList_lkokI rfl (.tmp 10) (.tmp 11) 50 rfl Try.underlying9 Try.underlying50 Try.underlying3 (zeroInt _) B n (findV l) s rfl (by repeat (first | (with_reducible assumption) | refine MapI.alloc ?_ | refine MapI.bel ?_ (by with_reducible assumption) | refine MapI.drew ?_)) rfl hs ?_))
    go_wp2_with fail
    go_ret2
    exact ⟨by rw [HV.out]; rfl, (by repeat (first | exact Below.refl _ _ | (with_reducible assumption) | refine bel_trans ?_ (by with_reducible assumption) | refine bel_trans ?_ (below_regrown _ _ _) | refine bel_drew ?_ | refine bel_drewN ?_ _ | refine bel_alloc ?_ _ | refine bel_grow ?_ (by with_reducible assumption) (by omega)))⟩
  | some j =>
    rw [hf] at hv
    obtain ⟨k, v, rfl, hx, _⟩ := findV_some hf
    have hkl : k < l.length := (List.getElem?_eq_some_iff.1 hx).1
    obtain ⟨b, off, rfl, hbb, ⟨d0, d1, d2, d3⟩⟩ := hl.vars.get hx
    simp only [Int.toNat_natCast, hx] at hv
    have hbb' : b < w.heap.size + 1 := by omega
    clear hx
    have HV := Lib.hid hv; clear hv
    go_enter Try.func39, Try.ntmps39
    go_wp2_with (first | (at_lookup; refine wpList_lkokI rfl (.tmp 10) (.tmp 11) 50 rfl Try.underlying9 Try.underlying50 Try.underlying3 (zeroInt _) B n (findV l) s rfl (by repeat (first | (with_reducible assumption) | refine MapI.alloc ?_ | refine MapI.bel ?_ (by with_reducible assumption) | refine MapI.drew ?_)) rfl hs ?_))
    go_wp2_with fail
    go_ret2
    exact ⟨by rw [HV.out]; rfl, (by repeat (first | exact Below.refl _ _ | (with_reducible assumption) | refine bel_trans ?_ (by with_reducible assumption) | refine bel_trans ?_ (below_regrown _ _ _) | refine bel_drew ?_ | refine bel_drewN ?_ _ | refine bel_alloc ?_ _ | refine bel_grow ?_ (by with_reducible assumption) (by omega)))⟩

end Go.Proofs.Ytlfklfjnkpjooaa
