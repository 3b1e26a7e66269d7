/- Walks over the package tree: markOf, part, show. -/
import Derived.Test.YtknfcamdfdfoeaaDoorZ00
import Derived.Test.YtknfcamdfdfoeaaDoorZ05
import Derived.Test.YtknfcamdfdfoeaaDoorZ06
import Derived.Test.YtknfcamdfdfoeaaDoorZ01
import Derived.Test.YtknfcamdfdfoeaaDoorZ03
set_option linter.unusedVariables false
set_option linter.unusedSimpArgs false
set_option maxRecDepth 100000
namespace Go.Proofs.YtknfcamdfdfoeaaDoor
open Go.RowKit Go.Sort

theorem strinfo : (Tryd.prog.info? 9).map (fun i => (i.zero, i.size, i.bytes)) = some (some (.string ⟨#[]⟩), 1, 16) := by kernel_rfl

set_option maxHeartbeats 1000000 in
theorem mark_any (n : Int) (w : World) : Calls Tryd.prog 77 #[.int .i32 n] w fun r w' => r = .returned (.string (markB n)) ∧ w = w' := by
  go_enter Tryd.func77, Tryd.ntmps77
  go_wp2_with fail
  all_goals (go_ret; exact ⟨ret_str (by simp_all [markB]), rfl⟩)

set_option maxHeartbeats 1000000 in
theorem part_of {e : Ex} (hs : e.showB.size ≤ 100000000) {A : Option Addr} {cap : Nat} {w : World} (he : SubsAt w e A cap)
    (hshow : ∀ W, SubsAt W e A cap → Calls Tryd.prog 68 #[exV e A cap] W fun r w' => r = .returned (.string e.showB) ∧ Below W.heap.size W w') :
    Calls Tryd.prog 75 #[exV e A cap] w fun r w' => r = .returned (.string e.partB) ∧ Below w.heap.size w w' := by
  have hl := he.len
  unfold maxLen at hl
  have hv : e.partB = brk e.kind e.showB := rfl
  unfold brk at hv
  have hcall := fun W h => hshow W (he.later h)
  unfold exV at hcall ⊢
  by_cases hk : e.kind = 1 ∨ e.kind = 2 ∨ e.kind = 3 ∨ e.kind = 8 ∨ e.kind = 9
  · rw [if_pos hk] at hv
    have HV := Lib.hid hv; clear hv
    rcases hk with hk | hk | hk | hk | hk
    · have k1 : (e.kind == 1) = true := by rw [hk]; rfl
      clear hk
      go_enter Tryd.func75, Tryd.ntmps75
      go_wp2_with (first | (go_at_call 68; refine (hcall _ belA).mono ?_; rintro r w1 ⟨rfl, hb1⟩; have hc1 := bcell hb1; have hz1 := hb1.size; (try simp at hz1); (try have hy1 := lt0 w w1); (try have hy2 := ltA w 1 w1); (try have hy3 := ltA w 2 w1); (try have hy4 := lt0 wr w1); (try have hy5 := ltA wr 1 w1)))
      go_ret
      exact ⟨ret_str HV.out.symm, belA⟩
    · have k1 : (e.kind == 1) = false := by rw [hk]; rfl
      have k2 : (e.kind == 2) = true := by rw [hk]; rfl
      clear hk
      go_enter Tryd.func75, Tryd.ntmps75
      go_wp2_with (first | (go_at_call 68; refine (hcall _ belA).mono ?_; rintro r w1 ⟨rfl, hb1⟩; have hc1 := bcell hb1; have hz1 := hb1.size; (try simp at hz1); (try have hy1 := lt0 w w1); (try have hy2 := ltA w 1 w1); (try have hy3 := ltA w 2 w1); (try have hy4 := lt0 wr w1); (try have hy5 := ltA wr 1 w1)))
      go_ret
      exact ⟨ret_str HV.out.symm, belA⟩
    · have k1 : (e.kind == 1) = false := by rw [hk]; rfl
      have k2 : (e.kind == 2) = false := by rw [hk]; rfl
      have k3 : (e.kind == 3) = true := by rw [hk]; rfl
      clear hk
      go_enter Tryd.func75, Tryd.ntmps75
      go_wp2_with (first | (go_at_call 68; refine (hcall _ belA).mono ?_; rintro r w1 ⟨rfl, hb1⟩; have hc1 := bcell hb1; have hz1 := hb1.size; (try simp at hz1); (try have hy1 := lt0 w w1); (try have hy2 := ltA w 1 w1); (try have hy3 := ltA w 2 w1); (try have hy4 := lt0 wr w1); (try have hy5 := ltA wr 1 w1)))
      go_ret
      exact ⟨ret_str HV.out.symm, belA⟩
    · have k1 : (e.kind == 1) = false := by rw [hk]; rfl
      have k2 : (e.kind == 2) = false := by rw [hk]; rfl
      have k3 : (e.kind == 3) = false := by rw [hk]; rfl
      have k8 : (e.kind == 8) = true := by rw [hk]; rfl
      clear hk
      go_enter Tryd.func75, Tryd.ntmps75
      go_wp2_with (first | (go_at_call 68; refine (hcall _ belA).mono ?_; rintro r w1 ⟨rfl, hb1⟩; have hc1 := bcell hb1; have hz1 := hb1.size; (try simp at hz1); (try have hy1 := lt0 w w1); (try have hy2 := ltA w 1 w1); (try have hy3 := ltA w 2 w1); (try have hy4 := lt0 wr w1); (try have hy5 := ltA wr 1 w1)))
      go_ret
      exact ⟨ret_str HV.out.symm, belA⟩
    · have k1 : (e.kind == 1) = false := by rw [hk]; rfl
      have k2 : (e.kind == 2) = false := by rw [hk]; rfl
      have k3 : (e.kind == 3) = false := by rw [hk]; rfl
      have k8 : (e.kind == 8) = false := by rw [hk]; rfl
      have k9 : (e.kind == 9) = true := by rw [hk]; rfl
      clear hk
      go_enter Tryd.func75, Tryd.ntmps75
      go_wp2_with (first | (go_at_call 68; refine (hcall _ belA).mono ?_; rintro r w1 ⟨rfl, hb1⟩; have hc1 := bcell hb1; have hz1 := hb1.size; (try simp at hz1); (try have hy1 := lt0 w w1); (try have hy2 := ltA w 1 w1); (try have hy3 := ltA w 2 w1); (try have hy4 := lt0 wr w1); (try have hy5 := ltA wr 1 w1)))
      go_ret
      exact ⟨ret_str HV.out.symm, belA⟩
  · rw [if_neg hk] at hv
    have HV := Lib.hid hv; clear hv
    have k1 : (e.kind == 1) = false := by simp; omega
    have k2 : (e.kind == 2) = false := by simp; omega
    have k3 : (e.kind == 3) = false := by simp; omega
    have k8 : (e.kind == 8) = false := by simp; omega
    have k9 : (e.kind == 9) = false := by simp; omega
    go_enter Tryd.func75, Tryd.ntmps75
    go_wp2_with (first | (go_at_call 68; refine (hcall _ belA).mono ?_; rintro r w1 ⟨rfl, hb1⟩; have hc1 := bcell hb1; have hz1 := hb1.size; (try simp at hz1); (try have hy1 := lt0 w w1); (try have hy2 := ltA w 1 w1); (try have hy3 := ltA w 2 w1); (try have hy4 := lt0 wr w1); (try have hy5 := ltA wr 1 w1)))
    go_ret
    exact ⟨ret_str HV.out.symm, belA⟩

end Go.Proofs.YtknfcamdfdfoeaaDoor

/- What an expression names. No program of Go in sight. -/
namespace Go.Proofs.YtknfcamdfdfoeaaDoor
open Go.RowKit

/-- Is a text among some? -/
def hasB (l : List ByteArray) (s : ByteArray) : Bool := l.any fun x => x.toList == s.toList
theorem hasB_snoc (l : List ByteArray) (x s : ByteArray) : hasB (l ++ [x]) s = (hasB l s || x.toList == s.toList) := by
  unfold hasB; rw [List.any_append]; simp
/-- A name behind others, if it is one and not among them. -/
def addN (l : List ByteArray) (s : ByteArray) : List ByteArray := if s.toList.isEmpty = true then l else if hasB l s = true then l else l ++ [s]
theorem addN_len (l : List ByteArray) (s : ByteArray) : l.length ≤ (addN l s).length ∧ (addN l s).length ≤ l.length + 1 := by
  unfold addN
  split
  · omega
  · split
    · omega
    · simp
namespace Ex
mutual
def named : List ByteArray → Ex → List ByteArray
  | l, mk _ _ s sub => namedL (addN l s) sub
def namedL : List ByteArray → List Ex → List ByteArray
  | l, [] => l
  | l, x :: r => namedL (named l x) r
end
theorem named_eq (l : List ByteArray) (e : Ex) : e.named l = namedL (addN l e.name) e.sub := by cases e; rw [named]; rfl
theorem namedL_len : ∀ (r : List Ex), (∀ x ∈ r, ∀ l, l.length ≤ (named l x).length ∧ (named l x).length ≤ l.length + x.size) → ∀ l, l.length ≤ (namedL l r).length ∧ (namedL l r).length ≤ l.length + sizeL r
  | [], _, l => by simp [namedL]
  | x :: r, h, l => by
    have h1 := h x (by simp) l
    have h2 := namedL_len r (fun y hy => h y (by simp [hy])) (named l x)
    simp only [namedL, sizeL]
    omega
theorem named_len (e : Ex) : ∀ l, l.length ≤ (named l e).length ∧ (named l e).length ≤ l.length + e.size := by
  induction e using ind with
  | h e ih =>
    intro l
    have h1 := addN_len l e.name
    have h2 := namedL_len e.sub ih (addN l e.name)
    rw [named_eq, size_eq]
    omega
end Ex
/-- Needs. -/
def needsF (e : Ex) : List ByteArray := if 120 < e.count 121 then [] else e.named []
end Go.Proofs.YtknfcamdfdfoeaaDoor

/- Walks over the reference's order: Has, named, Needs. -/
namespace Go.Proofs.YtknfcamdfdfoeaaDoor
open Go.RowKit Go.Sort

theorem StrsAt.of_own {w : World} {base : Nat} {e : TypeId} {l : List ByteArray} {A : Option Addr} {cap : Nat} (h : w.ownsRow base e 1 (.slice A l.length cap) l.length (l.map .string)) : StrsAt w l A cap := by
  rcases Nat.eq_zero_or_pos l.length with h0 | h0
  · obtain ⟨A', c', hv, h1, h2⟩ := own_slice h
    injection hv with e1 e2 e3
    subst e3
    exact ⟨h1, h2, fun hl => absurd hl (by omega)⟩
  · obtain ⟨g, c', hv, _, _, h1, h2, hc⟩ := own_get h h0
    injection hv with e1 e2 e3
    subst e1 e3
    refine ⟨h1, h2, fun _ => ⟨g, 0, rfl, fun k s hk => ?_⟩⟩
    rw [Nat.zero_add]
    exact hc k _ (by simp [hk])

theorem grown_step {a b c : World} {r0 r1 : Option Nat} (h1 : a.grownBy b r0) (h2 : b.grownBy c r1) (hr : r1 = r0 ∨ ∀ k, r1 = some k → a.heap.size ≤ k) : a.grownBy c r0 :=
  ⟨h2.os.trans h1.os, h2.tape.trans h1.tape, h2.output.trans h1.output, Nat.le_trans h1.size h2.size, fun k hk hne => (h2.block k (Nat.lt_of_lt_of_le hk h1.size) (by
    rcases hr with rfl | hr
    · exact hne
    · intro he
      have := hr k he.symm
      omega)).trans (h1.block k hk hne)⟩
theorem grown_bel {a b : World} {r0 : Option Nat} (h : Below a.heap.size a b) : a.grownBy b r0 := ⟨h.os, h.tape, h.output, h.size, fun k hk _ => h.block k hk⟩

end Go.Proofs.YtknfcamdfdfoeaaDoor

/- Walks over the reference's Parts and Light. -/
namespace Go.Proofs.YtknfcamdfdfoeaaDoor
open Go.RowKit Go.Sort

set_option maxHeartbeats 1000000 in
theorem parts_any (e : Ex) : ∀ (A : Option Addr) (cap : Nat) (most : Int) (w : World), SubsAt w e A cap → -1000000 ≤ most → most ≤ 1000000 →
    Calls Tryd.prog 11 #[exV e A cap, .int .i64 most] w fun r w' => r = .returned (.int .i64 (e.count most)) ∧ Below w.heap.size w w' := by
  induction e using Ex.ind with
  | h e ih =>
  intro A cap most w he hm hm2
  have hl := he.len
  unfold maxLen at hl
  obtain ⟨hl1, hl2⟩ := hl
  unfold exV
  go_enter Tryd.func11, Tryd.ntmps11
  go_wp2_with fail
  refine wp_name fun W0 hW0 => ?_
  have hb0 : Below w.heap.size w W0 := by rw [hW0]; exact belA
  have hz0 : w.heap.size < W0.heap.size := by rw [hW0]; simp
  have p3 : W0.cell? ⟨w.heap.size, 3, none⟩ = some (.slice A e.sub.length cap) := by rw [hW0]; go_simp
  clear hW0
  replace he := he.later hb0
  go_loopw [5, 6] (fun m i wr => ∃ (k : Nat) (m' : Int), k ≤ e.sub.length ∧ i = .int .i64 k ∧ m = .int .i64 m' ∧ 1 ≤ m' ∧ m' ≤ max 1 most ∧ Ex.countL (e.sub.drop k) m' most = e.count most ∧ Below W0.heap.size W0 wr) (fun _ i _ => e.sub.length - (intOf i).toNat)
  case atStart => exact ⟨0, 1, Nat.zero_le _, rfl, rfl, by omega, by omega, by simp [Ex.count_eq], Below.refl _ _⟩
  case round =>
    obtain ⟨k, m', hk, rfl, rfl, h0, h1, hrem, hbel⟩ := hrel
    have hc := bcell hbel
    have hzr := hbel.size
    by_cases hlt : k < e.sub.length
    · have hx : e.sub[k]? = some e.sub[k] := List.getElem?_eq_getElem hlt
      have hmem : e.sub[k] ∈ e.sub := List.getElem_mem hlt
      have hd : e.sub.drop k = e.sub[k] :: e.sub.drop (k + 1) := List.drop_eq_getElem_cons hlt
      generalize e.sub[k] = x at hx hmem hd
      obtain ⟨b, off, A', cap', rfl, c0, c1, c2, c3, hs⟩ := (he.later hbel).get hx
      rw [hd, Ex.countL] at hrem
      have hbd := Ex.count_bd x (most - m')
      have ihx := ih x hmem
      by_cases hge : m' ≥ most
      · rw [if_pos hge] at hrem
        have HR := Lib.hid hrem; clear hrem hd hx
        have hge' : ¬ m' < most := by omega
        go_wp2_with fail
        go_ret
        exact ⟨ret_int HR.out, belA⟩
      · rw [if_neg hge] at hrem
        have HR := Lib.hid hrem; clear hrem hd hx
        have hge' : m' < most := by omega
        go_wp2_with (go_at_call 11; refine (ihx A' cap' (most - m') _ (hs.later belA) (by omega) (by omega)).mono ?_; rintro r w1 ⟨rfl, hb1⟩)
        go_roundw
        case rel => exact ⟨k + 1, m' + x.count (most - m'), by omega, by go_num, by go_num, by omega, by omega, HR.out, belA⟩
        case measure => simp [intOf]; omega
    · have hke : k = e.sub.length := by omega
      rw [hke, List.drop_length, Ex.countL] at hrem
      have HR := Lib.hid hrem; clear hrem hke
      go_wp2_with fail
      go_ret
      exact ⟨ret_int HR.out, belA⟩

end Go.Proofs.YtknfcamdfdfoeaaDoor
