/- Walks over the package kinds: two, names, typeOf. -/
import Derived.Test.YtlfklfjnkpjooaaRows
import Derived.Test.YtlfklfjnkpjooaaPlain5
import Derived.WalkKit
import Derived.WalkSpells
import Derived.WalkLawsBesides
import Derived.Deep.QuietTactic
import Derived.BigQuiet
import Derived.Deep.Draws
import Derived.Lib.Hide
import Derived.Deep.LoopGhost
import Derived.StillTailTactics
import Derived.Deep.RegionHeld3
import Derived.Deep.RegionWith
import Derived.Lib.QuietBelow
set_option linter.unusedVariables false
set_option linter.unusedSimpArgs false
namespace Go.Proofs.Ytlfklfjnkpjooaa
open Go.RowKit Go.Sort

theorem zeroInt (w : World) : (zeroValue 3).run Try.prog w = .ok (.int .i64 0) w := by kernel_rfl

set_option maxHeartbeats 1000000 in
theorem two_any (a b : Int) (w : World) :
    Calls Try.prog 40 #[.int .i32 a, .int .i64 b] w fun e w' => e = .returned (.tuple #[.int .i64 (twoK a b).1, .bool (twoK a b).2]) ∧ w = w' := by
  go_enter Try.func40, Try.ntmps40
  go_wp2_with fail
  all_goals (go_ret2; exact ⟨by simp_all [twoK], rfl⟩)

/-- What the loop in kinds.names has laid. -/
def fromK (l : List Va) (k : Nat) : ByteArray → Option Int := fun s => findI (l.drop k) s k
theorem fromK_step {l : List Va} {k : Nat} {v : Va} (h : l[k]? = some v) : upd (fromK l (k + 1)) v.name k = fromK l k := by
  funext s
  unfold upd fromK
  have hlt : k < l.length := (List.getElem?_eq_some_iff.1 h).1
  have hd : l.drop k = v :: l.drop (k + 1) := by
    rw [List.drop_eq_getElem_cons hlt]
    have : l[k] = v := (List.getElem?_eq_some_iff.1 h).2
    rw [this]
  rw [hd, findI]
  rfl

theorem makeHint (n : Int) (w : World) : (Instr.makeMap 50 (some (.int .i64 n))).run Try.prog w = .ok (.map (some w.heap.size)) (w.alloc (.map #[] 0)) := by
  have hu : Try.prog.underlying 50 = some (.map 9 3) := Try.underlying50
  simp only [Instr.makeMap, Sem.run_bind, run_underlying hu, Result.andThen]
  rfl
theorem bel_store {w a b : World} {g : Nat} (h : Below w.heap.size w a) (hg : a.grownBy b (some g)) (hw : w.heap.size ≤ g) : Below w.heap.size w b :=
  h.grown hg h.size (fun k hk => by injection hk with hk; omega)

set_option maxHeartbeats 1000000 in
theorem names_any (l : List Va) (A : Option Addr) (cap : Nat) (hs : ∀ v ∈ l, v.name.size ≤ maxLen) (hn : l.length ≤ 1000000) (w : World) (hl : VarsAt w l A cap) :
    Calls Try.prog 17 #[.slice A l.length cap] w fun r w' => (∃ B, r = .returned (.map (some B)) ∧ w.heap.size ≤ B ∧ MapI Try.prog 9 3 w' B l.length (findV l)) ∧ Below w.heap.size w w' := by
  have hl2 := hl.len
  unfold maxLen at hl2
  obtain ⟨hl3, hl4⟩ := hl2
  have hmk := makeHint (l.length : Int)
  have hst : fromK l l.length = fun _ => none := by funext s; simp [fromK, findI]
  have HST := Lib.hid hst; clear hst
  go_enter Try.func17, Try.ntmps17
  go_wp2_with fail
  go_loopw [4] (fun i wr => ∃ k : Nat, k ≤ l.length ∧ i = .int .i64 ((k : Int) - 1) ∧ MapI Try.prog 9 3 wr w.heap.size (l.length - k) (fromK l k) ∧ Below w.heap.size w wr) (fun i _ => (intOf i + 1).toNat)
  case atStart => exact ⟨l.length, Nat.le_refl _, rfl, by rw [HST.out, Nat.sub_self]; exact MapI.made w, (by repeat (first | exact Below.refl _ _ | (with_reducible assumption) | refine bel_trans ?_ (by with_reducible assumption) | refine bel_trans ?_ (below_regrown _ _ _) | refine bel_drew ?_ | refine bel_drewN ?_ _ | refine bel_alloc ?_ _ | refine bel_grow ?_ (by with_reducible assumption) (by omega)))⟩
  case round =>
    obtain ⟨k, hk, rfl, hm, hbel⟩ := hrel
    by_cases hlt : 0 < k
    · obtain ⟨j, rfl⟩ : ∃ j, k = j + 1 := ⟨k - 1, by omega⟩
      have hjl : j < l.length := by omega
      have hx : l[j]? = some l[j] := List.getElem?_eq_getElem hjl
      generalize l[j] = x at hx
      obtain ⟨b, off, rfl, hbb, ⟨d0, d1, d2, d3⟩⟩ := (hl.later hbel).get hx
      have hsz := hs x (List.mem_of_getElem? hx)
      have hstep := fromK_step hx
      have HSTEP := Lib.hid hstep; clear hstep hx
      have hj0 : ((j + 1 : Nat) : Int) - 1 = j := by omega
      rw [hj0]
      have hle : (0 : Int) ≤ j := by omega
      go_wp2_with (at_mapUpdate; refine wpList_stI rfl (.tmp 15) (.tmp 20) (.tmp 21) 50 rfl Try.underlying9 Try.underlying50 Try.underlying3 w.heap.size _ _ x.name j rfl hm (by omega) rfl rfl hsz (by omega) ?_; intro w2 hm2 hg2)
      rw [HSTEP.out] at hm2
      go_wp2_with fail
      go_roundw
      case rel => exact ⟨j, by omega, by first | rfl | go_num, by rw [show l.length - j = l.length - (j + 1) + 1 from by omega]; exact hm2, bel_store hbel hg2 (Nat.le_refl _)⟩
      case measure => first | (simp [intOf]; done) | (simp [intOf]; omega)
    · obtain rfl : k = 0 := by omega
      have hf : fromK l 0 = findV l := by funext s; simp [fromK, findV]
      rw [hf, Nat.sub_zero] at hm
      go_wp2_with fail
      go_ret
      exact ⟨⟨w.heap.size, rfl, Nat.le_refl _, hm⟩, hbel⟩

end Go.Proofs.Ytlfklfjnkpjooaa
