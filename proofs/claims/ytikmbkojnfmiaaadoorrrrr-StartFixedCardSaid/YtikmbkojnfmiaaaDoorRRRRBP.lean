/- What an expression names. No program of Go in sight. -/
import Derived.Test.YtikmbkojnfmiaaaDoorRRRRBA
import Derived.Test.YtikmbkojnfmiaaaDoorRRRRWRefLex
import Derived.Test.YtikmbkojnfmiaaaDoorRRRRBB
import Derived.Test.YtikmbkojnfmiaaaDoorRRRRBJ
import Derived.Test.YtikmbkojnfmiaaaDoorRRRRBY
set_option linter.unusedVariables false
set_option linter.unusedSimpArgs false
set_option maxRecDepth 100000
namespace Go.Proofs.YtikmbkojnfmiaaaDoorRRRR
open Go.RowKit

/-- Is a text among some? -/
def hasB (l : List ByteArray) (s : ByteArray) : Bool := l.any fun x => x.toList == s.toList
theorem hasB_cons (x : ByteArray) (l : List ByteArray) (s : ByteArray) : hasB (x :: l) s = (x.toList == s.toList || hasB l s) := rfl
theorem hasB_snoc (l : List ByteArray) (x s : ByteArray) : hasB (l ++ [x]) s = (hasB l s || x.toList == s.toList) := by
  unfold hasB; rw [List.any_append]; simp
/-- A name behind others, if it is one and not among them. -/
def addN (l : List ByteArray) (s : ByteArray) : List ByteArray := if s.toList.isEmpty = true then l else if hasB l s = true then l else l ++ [s]
theorem addN_len (l : List ByteArray) (s : ByteArray) : l.length ≤ (addN l s).length ∧ (addN l s).length ≤ l.length + 1 := by
  unfold addN
  split
  · omega
  · split
    · omega
    · simp
namespace Ex
mutual
def named : List ByteArray → Ex → List ByteArray
  | l, mk _ _ s sub => namedL (addN l s) sub
def namedL : List ByteArray → List Ex → List ByteArray
  | l, [] => l
  | l, x :: r => namedL (named l x) r
end
theorem named_eq (l : List ByteArray) (e : Ex) : e.named l = namedL (addN l e.name) e.sub := by cases e; rw [named]; rfl
theorem namedL_len : ∀ (r : List Ex), (∀ x ∈ r, ∀ l, l.length ≤ (named l x).length ∧ (named l x).length ≤ l.length + x.size) → ∀ l, l.length ≤ (namedL l r).length ∧ (namedL l r).length ≤ l.length + sizeL r
  | [], _, l => by simp [namedL]
  | x :: r, h, l => by
    have h1 := h x (by simp) l
    have h2 := namedL_len r (fun y hy => h y (by simp [hy])) (named l x)
    simp only [namedL, sizeL]
    omega
theorem named_len (e : Ex) : ∀ l, l.length ≤ (named l e).length ∧ (named l e).length ≤ l.length + e.size := by
  induction e using ind with
  | h e ih =>
    intro l
    have h1 := addN_len l e.name
    have h2 := namedL_len e.sub ih (addN l e.name)
    rw [named_eq, size_eq]
    omega
end Ex
/-- Needs. -/
def needsF (e : Ex) : List ByteArray := if 120 < e.count 121 then [] else e.named []
end Go.Proofs.YtikmbkojnfmiaaaDoorRRRR

/- Walks over the reference's order: Has, named, Needs. -/
namespace Go.Proofs.YtikmbkojnfmiaaaDoorRRRR
open Go.RowKit Go.Sort

theorem StrsAt.of_own {w : World} {base : Nat} {e : TypeId} {l : List ByteArray} {A : Option Addr} {cap : Nat} (h : w.ownsRow base e 1 (.slice A l.length cap) l.length (l.map .string)) : StrsAt w l A cap := by
  rcases Nat.eq_zero_or_pos l.length with h0 | h0
  · obtain ⟨A', c', hv, h1, h2⟩ := own_slice h
    injection hv with e1 e2 e3
    subst e3
    exact ⟨h1, h2, fun hl => absurd hl (by omega)⟩
  · obtain ⟨g, c', hv, _, _, h1, h2, hc⟩ := own_get h h0
    injection hv with e1 e2 e3
    subst e1 e3
    refine ⟨h1, h2, fun _ => ⟨g, 0, rfl, fun k s hk => ?_⟩⟩
    rw [Nat.zero_add]
    exact hc k _ (by simp [hk])

theorem grown_step {a b c : World} {r0 r1 : Option Nat} (h1 : a.grownBy b r0) (h2 : b.grownBy c r1) (hr : r1 = r0 ∨ ∀ k, r1 = some k → a.heap.size ≤ k) : a.grownBy c r0 :=
  ⟨h2.os.trans h1.os, h2.tape.trans h1.tape, h2.output.trans h1.output, Nat.le_trans h1.size h2.size, fun k hk hne => (h2.block k (Nat.lt_of_lt_of_le hk h1.size) (by
    rcases hr with rfl | hr
    · exact hne
    · intro he
      have := hr k he.symm
      omega)).trans (h1.block k hk hne)⟩
theorem grown_bel {a b : World} {r0 : Option Nat} (h : Below a.heap.size a b) : a.grownBy b r0 := ⟨h.os, h.tape, h.output, h.size, fun k hk _ => h.block k hk⟩

end Go.Proofs.YtikmbkojnfmiaaaDoorRRRR

/- Walks over the reference's Needs, and over order's size. -/
namespace Go.Proofs.YtikmbkojnfmiaaaDoorRRRR
open Go.RowKit Go.Sort

theorem bel_of_grown {a b : World} {B : Nat} (h : a.grownBy b none) (hB : B ≤ a.heap.size) : Below B a b :=
  ⟨h.os, h.tape, h.output, h.size, fun k hk => h.block k (by omega) (by simp)⟩

end Go.Proofs.YtikmbkojnfmiaaaDoorRRRR

/- Walks over order's size and over the closure of its Needs. -/
namespace Go.Proofs.YtikmbkojnfmiaaaDoorRRRR
open Go.RowKit Go.Sort

set_option maxHeartbeats 1000000 in
theorem size16_any (e : Ex) : ∀ (A : Option Addr) (cap : Nat) (most : Int) (w : World), SubsAt w e A cap → -1000000 ≤ most → most ≤ 1000000 →
    Calls Tryd.prog 25 #[exV e A cap, .int .i64 most] w fun r w' => r = .returned (.int .i64 (e.count most)) ∧ Below w.heap.size w w' := by
  induction e using Ex.ind with
  | h e ih =>
  intro A cap most w he hm hm2
  have hl := he.len
  unfold maxLen at hl
  obtain ⟨hl1, hl2⟩ := hl
  unfold exV
  go_enter Tryd.func25, Tryd.ntmps25
  go_wp2_with fail
  refine wp_name fun W0 hW0 => ?_
  have hb0 : Below w.heap.size w W0 := by rw [hW0]; exact belA
  have hz0 : w.heap.size < W0.heap.size := by rw [hW0]; simp
  have p3 : W0.cell? ⟨w.heap.size, 3, none⟩ = some (.slice A e.sub.length cap) := by rw [hW0]; go_simp
  clear hW0
  replace he := he.later hb0
  go_loopw [5, 6] (fun m i wr => ∃ (k : Nat) (m' : Int), k ≤ e.sub.length ∧ i = .int .i64 k ∧ m = .int .i64 m' ∧ 1 ≤ m' ∧ m' ≤ max 1 most ∧ Ex.countL (e.sub.drop k) m' most = e.count most ∧ Below W0.heap.size W0 wr) (fun _ i _ => e.sub.length - (intOf i).toNat)
  case atStart => exact ⟨0, 1, Nat.zero_le _, rfl, rfl, by omega, by omega, by simp [Ex.count_eq], Below.refl _ _⟩
  case round =>
    obtain ⟨k, m', hk, rfl, rfl, h0, h1, hrem, hbel⟩ := hrel
    have hc := bcell hbel
    have hzr := hbel.size
    by_cases hlt : k < e.sub.length
    · have hx : e.sub[k]? = some e.sub[k] := List.getElem?_eq_getElem hlt
      have hmem : e.sub[k] ∈ e.sub := List.getElem_mem hlt
      have hd : e.sub.drop k = e.sub[k] :: e.sub.drop (k + 1) := List.drop_eq_getElem_cons hlt
      generalize e.sub[k] = x at hx hmem hd
      obtain ⟨b, off, A', cap', rfl, c0, c1, c2, c3, hs⟩ := (he.later hbel).get hx
      rw [hd, Ex.countL] at hrem
      have hbd := Ex.count_bd x (most - m')
      have ihx := ih x hmem
      by_cases hge : m' ≥ most
      · rw [if_pos hge] at hrem
        have HR := Lib.hid hrem; clear hrem hd hx
        have hge' : ¬ m' < most := by omega
        go_wp2_with fail
        go_ret
        exact ⟨ret_int HR.out, belA⟩
      · rw [if_neg hge] at hrem
        have HR := Lib.hid hrem; clear hrem hd hx
        have hge' : m' < most := by omega
        go_wp2_with (go_at_call 25; refine (ihx A' cap' (most - m') _ (hs.later belA) (by omega) (by omega)).mono ?_; rintro r w1 ⟨rfl, hb1⟩)
        go_roundw
        case rel => exact ⟨k + 1, m' + x.count (most - m'), by omega, by go_num, by go_num, by omega, by omega, HR.out, belA⟩
        case measure => simp [intOf]; omega
    · have hke : k = e.sub.length := by omega
      rw [hke, List.drop_length, Ex.countL] at hrem
      have HR := Lib.hid hrem; clear hrem hke
      go_wp2_with fail
      go_ret
      exact ⟨ret_int HR.out, belA⟩

theorem MapI.keep1 {P : Program} {k e : TypeId} {w w' : World} {b n : Nat} {f : ByteArray → Option Int} (h : MapI P k e w b n f) (hb : w'.heap[b]? = w.heap[b]?) : MapI P k e w' b n f := by
  obtain ⟨D, h1, h2, h3⟩ := h
  obtain ⟨es, clock, hh, F, hs, hD⟩ := h1
  exact ⟨D, ⟨es, clock, hb.trans hh, F, hs, hD⟩, h2, h3⟩

/-- What a call of the closure may change: the variable out, the map, the row of names. -/
structure Chg (bo B : Nat) (r : Option Nat) (W W' : World) : Prop where
  os : W'.os = W.os
  tape : W'.tape = W.tape
  output : W'.output = W.output
  size : W.heap.size ≤ W'.heap.size
  block : ∀ k, k < W.heap.size → k ≠ bo → k ≠ B → some k ≠ r → W'.heap[k]? = W.heap[k]?
theorem Chg.bel {bo B : Nat} {r : Option Nat} {W W' : World} (h : Below W.heap.size W W') : Chg bo B r W W' := ⟨h.os, h.tape, h.output, h.size, fun k hk _ _ _ => h.block k hk⟩
theorem Chg.grown {bo B : Nat} {r r' : Option Nat} {W W' : World} (h : W.grownBy W' r') (hr : r' = some bo ∨ r' = some B ∨ r' = r) : Chg bo B r W W' :=
  ⟨h.os, h.tape, h.output, h.size, fun k hk h1 h2 h3 => h.block k hk fun he => by
    rcases hr with hr | hr | hr
    · rw [hr] at he; injection he with he; exact h1 he
    · rw [hr] at he; injection he with he; exact h2 he
    · rw [hr] at he; exact h3 he⟩
theorem Chg.trans {bo B : Nat} {r0 r1 : Option Nat} {a b c : World} (h1 : Chg bo B r0 a b) (h2 : Chg bo B r1 b c) (hr : r1 = r0 ∨ ∀ k, r1 = some k → a.heap.size ≤ k) : Chg bo B r0 a c :=
  ⟨h2.os.trans h1.os, h2.tape.trans h1.tape, h2.output.trans h1.output, Nat.le_trans h1.size h2.size, fun k hk hbo hB hne => (h2.block k (Nat.lt_of_lt_of_le hk h1.size) hbo hB (by
    rcases hr with rfl | hr
    · exact hne
    · intro he
      have := hr k he.symm
      omega)).trans (h1.block k hk hbo hB hne)⟩
theorem Chg.setCell {bo B : Nat} {r : Option Nat} {W W' : World} (h : Chg bo B r W W') (o : Nat) (u : Value) : Chg bo B r W (W'.setCell ⟨bo, o, none⟩ u) :=
  ⟨h.os, h.tape, h.output, by have := h.size; simpa using this, fun k hk h1 h2 h3 => (heap_setCell_other W' ⟨bo, o, none⟩ k u h1).trans (h.block k hk h1 h2 h3)⟩

end Go.Proofs.YtikmbkojnfmiaaaDoorRRRR
