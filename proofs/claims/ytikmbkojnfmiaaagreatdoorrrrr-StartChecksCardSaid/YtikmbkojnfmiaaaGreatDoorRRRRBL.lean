/- Walk over the reference's of: a part has a fault. -/
import Derived.Test.YtikmbkojnfmiaaaGreatDoorRRRRWRefKinds1
import Derived.Test.YtikmbkojnfmiaaaGreatDoorRRRRWFind
import Derived.Test.YtikmbkojnfmiaaaGreatDoorRRRRBD
set_option linter.unusedVariables false
set_option linter.unusedSimpArgs false
set_option maxRecDepth 100000
namespace Go.Proofs.YtikmbkojnfmiaaaGreatDoorRRRR
open Go.RowKit Go.Sort

/-- The contract of the reference's of. -/
def RofP (l : List Va) (A : Option Addr) (cap : Nat) (x : Ex) : Prop := ∀ (A' : Option Addr) (c' : Nat) (W : World), SubsAt W x A' c' → VarsAt W l A cap →
    Calls Tryz.prog 84 #[exV x A' c', .slice A l.length cap] W fun r w' => r = .returned (.tuple #[.int .i64 (x.typ l).1, .int .i64 (x.typ l).2]) ∧ Below W.heap.size W w'

set_option maxHeartbeats 2000000 in
set_option maxRecDepth 100000 in
theorem rof_bad (l : List Va) (A : Option Addr) (cap : Nat) (e : Ex) (ih : ∀ x ∈ e.sub, RofP l A cap x) (Ae : Option Addr) (ce : Nat) (w : World) (he : SubsAt w e Ae ce) (hl : VarsAt w l A cap) (h3 : e.sub.length ≤ 3) (hbad : (Ex.typL l e.sub).2 ≠ 0) :
    Calls Tryz.prog 84 #[exV e Ae ce, .slice A l.length cap] w fun r w' => r = .returned (.tuple #[.int .i64 (e.typ l).1, .int .i64 (e.typ l).2]) ∧ Below w.heap.size w w' := by
  have hv : e.typ l = (0, (Ex.typL l e.sub).2) := by rw [Ex.typ_eq, if_neg hbad]
  have HV0 := Lib.hid hv; clear hv
  have HB := Lib.hid hbad; clear hbad
  have hlen := he.len
  unfold maxLen at hlen
  obtain ⟨hl1, hl2⟩ := hlen
  have hT := Lib.hid (show joinT [] (Ex.typL l (e.sub.drop 0)) = Ex.typL l e.sub from joinT_nil _ (typL_err l e.sub))
  unfold exV
  go_enter Tryz.func84, Tryz.ntmps84
  go_wp2_with fail
  refine wp_name fun W0 hW0 => ?_
  have hb0 : Below w.heap.size w W0 := by rw [hW0]; exact belA
  have hz0 : w.heap.size < W0.heap.size := by rw [hW0]; first | omega | (simp; done) | (simp; omega)
  have p0 : W0.cell? ⟨w.heap.size, 0, none⟩ = some (.int .i64 e.kind) := by rw [hW0]; go_simp
  have p1 : W0.cell? ⟨w.heap.size, 1, none⟩ = some (.int .i32 e.n) := by rw [hW0]; go_simp
  have p2 : W0.cell? ⟨w.heap.size, 2, none⟩ = some (.string e.name) := by rw [hW0]; go_simp
  have p3 : W0.cell? ⟨w.heap.size, 3, none⟩ = some (.slice Ae e.sub.length ce) := by rw [hW0]; go_simp
  clear hW0
  replace he := he.later hb0
  replace hl := hl.later hb0
  go_loopw [6, 7] (fun v i wr => ∃ (k : Nat) (acc : List Int), k ≤ e.sub.length ∧ i = .int .i64 k ∧ acc.length = k ∧ wr.ownsRow W0.heap.size 3 1 v k (acc.map (Value.int .i64)) ∧ joinT acc (Ex.typL l (e.sub.drop k)) = Ex.typL l e.sub ∧ Below W0.heap.size W0 wr) (fun _ i _ => e.sub.length - (intOf i).toNat)
  case atStart => exact ⟨0, [], Nat.zero_le _, rfl, rfl, World.ownsRow_nil _ _ _ _, hT.out, Below.refl _ _⟩
  case round =>
    obtain ⟨k, acc, hk, rfl, hacc, hown, hrem, hbel⟩ := hrel
    have hc := bcell hbel
    have hzr := hbel.size
    have hz1 : w.heap.size < wr.heap.size := by omega
    have HACC := Lib.hid hacc; clear hacc
    by_cases hlt : k < e.sub.length
    · have hx : e.sub[k]? = some e.sub[k] := List.getElem?_eq_getElem hlt
      have hmem : e.sub[k] ∈ e.sub := List.getElem_mem hlt
      have hd : e.sub.drop k = e.sub[k] :: e.sub.drop (k + 1) := List.drop_eq_getElem_cons hlt
      generalize e.sub[k] = x at hx hmem hd
      obtain ⟨b, off, A', cap', rfl, c0, c1, c2, c3, hs⟩ := (he.later hbel).get hx
      rw [hd] at hrem
      have hof' := fun W h => ih x hmem A' cap' W h
      unfold exV at hof'
      cases hfx : ((x.typ l).2 != 0)
      · have h0 : (x.typ l).2 = 0 := by simpa using hfx
        rw [joinT_step l acc x _ h0] at hrem
        have HR := Lib.hid hrem; clear hrem hd hx h0
        go_wp2_with (first | (go_at_call 84; refine (hof' _ (hs.later belA) (hl.later belA)).mono ?_; rintro r w1 ⟨rfl, hb1⟩; have hc1 := bcell hb1; have hz1 := hb1.size; (try simp at hz1); (try have hy1 := lt0 w w1); (try have hy2 := ltA w 1 w1); (try have hy3 := ltA w 2 w1); (try have hy4 := lt0 wr w1); (try have hy5 := ltA wr 1 w1)) | (at_builtin; refine wpList_app rfl (.tmp 33) (.tmp 35) 63 rfl W0.heap.size 3 (.int .i64 0) 1 8 Tryz.underlying63 intinfo rfl (by omega) u6 k (acc.map (Value.int .i64)) _ 1 [.int .i64 (x.typ l).1] rfl (by repeat (first | (with_reducible assumption) | refine own_alloc ?_ | refine own_bel ?_ (by with_reducible assumption) | refine own_drew ?_)) rfl rfl (fun j u hj => by rw [cell_new]; simpa using hj) (by simp [Value.oneCell']) (by omega) (by omega) (by first | omega | (simp; omega)) ?_; intro v2 w2 hown2 hb2; have hz2 := hb2.size; (try simp at hz2)))
        go_roundw
        case rel => exact ⟨k + 1, acc ++ [(x.typ l).1], by omega, by go_num, by have := HACC.out; simp [this], by rw [List.map_append]; exact hown2, HR.out, belA⟩
        case measure => simp [intOf]; omega
      · have h0 : (x.typ l).2 ≠ 0 := by simpa using hfx
        rw [joinT_stop l acc x _ h0] at hrem
        have hv : e.typ l = (0, (x.typ l).2) := by rw [HV0.out, ← hrem]
        clear hrem hd hx h0
        have HV := Lib.hid hv; clear hv
        go_wp2_with (first | (go_at_call 84; refine (hof' _ (hs.later belA) (hl.later belA)).mono ?_; rintro r w1 ⟨rfl, hb1⟩; have hc1 := bcell hb1; have hz1 := hb1.size; (try simp at hz1); (try have hy1 := lt0 w w1); (try have hy2 := ltA w 1 w1); (try have hy3 := ltA w 2 w1); (try have hy4 := lt0 wr w1); (try have hy5 := ltA wr 1 w1)))
        go_ret2
        exact ⟨by rw [HV.out]; try rfl, belA⟩
    · exfalso
      obtain rfl : k = e.sub.length := by omega
      rw [List.drop_length, Ex.typL, joinT, if_pos rfl, List.append_nil] at hrem
      exact HB.out (by rw [← hrem])

end Go.Proofs.YtikmbkojnfmiaaaGreatDoorRRRR

/- Walk over the reference's of: numbers, truths. -/
namespace Go.Proofs.YtikmbkojnfmiaaaGreatDoorRRRR
open Go.RowKit Go.Sort

set_option maxHeartbeats 4000000 in
set_option maxRecDepth 100000 in
theorem rof_12 (l : List Va) (A : Option Addr) (cap : Nat) (e : Ex) (ih : ∀ x ∈ e.sub, RofP l A cap x) (Ae : Option Addr) (ce : Nat) (w : World) (he : SubsAt w e Ae ce) (hl : VarsAt w l A cap) (h0 : e.sub.length = 0) (hk : e.kind = 1 ∨ e.kind = 2) (hnm : e.name.toList.isEmpty = true) (hv : e.typ l = (e.kind, 0)) :
    Calls Tryz.prog 84 #[exV e Ae ce, .slice A l.length cap] w fun r w' => r = .returned (.tuple #[.int .i64 (e.typ l).1, .int .i64 (e.typ l).2]) ∧ Below w.heap.size w w' := by
  have hlt0 : ¬ 0 < e.sub.length := by omega
  rcases hk with hk | hk
  · have q1 : (e.kind == 1) = true := by rw [hk]; rfl
    rw [hk] at hv
    clear hk h0
    have HV := Lib.hid hv; clear hv
    have hlen := he.len
    unfold maxLen at hlen
    obtain ⟨hl1, hl2⟩ := hlen
    have hT := Lib.hid (show joinT [] (Ex.typL l (e.sub.drop 0)) = Ex.typL l e.sub from joinT_nil _ (typL_err l e.sub))
    unfold exV
    go_enter Tryz.func84, Tryz.ntmps84
    go_wp2_with fail
    refine wp_name fun W0 hW0 => ?_
    have hb0 : Below w.heap.size w W0 := by rw [hW0]; exact belA
    have hz0 : w.heap.size < W0.heap.size := by rw [hW0]; first | omega | (simp; done) | (simp; omega)
    have p0 : W0.cell? ⟨w.heap.size, 0, none⟩ = some (.int .i64 e.kind) := by rw [hW0]; go_simp
    have p1 : W0.cell? ⟨w.heap.size, 1, none⟩ = some (.int .i32 e.n) := by rw [hW0]; go_simp
    have p2 : W0.cell? ⟨w.heap.size, 2, none⟩ = some (.string e.name) := by rw [hW0]; go_simp
    have p3 : W0.cell? ⟨w.heap.size, 3, none⟩ = some (.slice Ae e.sub.length ce) := by rw [hW0]; go_simp
    clear hW0
    replace he := he.later hb0
    replace hl := hl.later hb0
    go_loopw [6, 7] (fun v i wr => ∃ (k : Nat) (acc : List Int), k ≤ e.sub.length ∧ i = .int .i64 k ∧ acc.length = k ∧ wr.ownsRow W0.heap.size 3 1 v k (acc.map (Value.int .i64)) ∧ joinT acc (Ex.typL l (e.sub.drop k)) = Ex.typL l e.sub ∧ Below W0.heap.size W0 wr) (fun _ i _ => e.sub.length - (intOf i).toNat)
    case atStart => exact ⟨0, [], Nat.zero_le _, rfl, rfl, World.ownsRow_nil _ _ _ _, hT.out, Below.refl _ _⟩
    case round =>
      obtain ⟨k, acc, hk, rfl, hacc, hown, hrem, hbel⟩ := hrel
      have hc := bcell hbel
      have hzr := hbel.size
      have hz1 : w.heap.size < wr.heap.size := by omega
      have HACC := Lib.hid hacc; clear hacc
      have hlt : ¬ k < e.sub.length := by omega
      have hk0 : k = e.sub.length := by omega
      have HK := Lib.hid hk0; clear hk0 hrem hown
      go_wp2_with fail
      go_ret2
      exact ⟨by rw [HV.out]; try rfl, belA⟩
  · have q1 : (e.kind == 1) = false := by rw [hk]; rfl
    have q2 : (e.kind == 2) = true := by rw [hk]; rfl
    rw [hk] at hv
    clear hk h0
    have HV := Lib.hid hv; clear hv
    have hlen := he.len
    unfold maxLen at hlen
    obtain ⟨hl1, hl2⟩ := hlen
    have hT := Lib.hid (show joinT [] (Ex.typL l (e.sub.drop 0)) = Ex.typL l e.sub from joinT_nil _ (typL_err l e.sub))
    unfold exV
    go_enter Tryz.func84, Tryz.ntmps84
    go_wp2_with fail
    refine wp_name fun W0 hW0 => ?_
    have hb0 : Below w.heap.size w W0 := by rw [hW0]; exact belA
    have hz0 : w.heap.size < W0.heap.size := by rw [hW0]; first | omega | (simp; done) | (simp; omega)
    have p0 : W0.cell? ⟨w.heap.size, 0, none⟩ = some (.int .i64 e.kind) := by rw [hW0]; go_simp
    have p1 : W0.cell? ⟨w.heap.size, 1, none⟩ = some (.int .i32 e.n) := by rw [hW0]; go_simp
    have p2 : W0.cell? ⟨w.heap.size, 2, none⟩ = some (.string e.name) := by rw [hW0]; go_simp
    have p3 : W0.cell? ⟨w.heap.size, 3, none⟩ = some (.slice Ae e.sub.length ce) := by rw [hW0]; go_simp
    clear hW0
    replace he := he.later hb0
    replace hl := hl.later hb0
    go_loopw [6, 7] (fun v i wr => ∃ (k : Nat) (acc : List Int), k ≤ e.sub.length ∧ i = .int .i64 k ∧ acc.length = k ∧ wr.ownsRow W0.heap.size 3 1 v k (acc.map (Value.int .i64)) ∧ joinT acc (Ex.typL l (e.sub.drop k)) = Ex.typL l e.sub ∧ Below W0.heap.size W0 wr) (fun _ i _ => e.sub.length - (intOf i).toNat)
    case atStart => exact ⟨0, [], Nat.zero_le _, rfl, rfl, World.ownsRow_nil _ _ _ _, hT.out, Below.refl _ _⟩
    case round =>
      obtain ⟨k, acc, hk, rfl, hacc, hown, hrem, hbel⟩ := hrel
      have hc := bcell hbel
      have hzr := hbel.size
      have hz1 : w.heap.size < wr.heap.size := by omega
      have HACC := Lib.hid hacc; clear hacc
      have hlt : ¬ k < e.sub.length := by omega
      have hk0 : k = e.sub.length := by omega
      have HK := Lib.hid hk0; clear hk0 hrem hown
      go_wp2_with fail
      go_ret2
      exact ⟨by rw [HV.out]; try rfl, belA⟩

end Go.Proofs.YtikmbkojnfmiaaaGreatDoorRRRR

/- Walk over the reference's of: a name that is not there; a variable. -/
namespace Go.Proofs.YtikmbkojnfmiaaaGreatDoorRRRR
open Go.RowKit Go.Sort

set_option maxHeartbeats 4000000 in
set_option maxRecDepth 100000 in
theorem rof_none (l : List Va) (A : Option Addr) (cap : Nat) (e : Ex) (ih : ∀ x ∈ e.sub, RofP l A cap x) (Ae : Option Addr) (ce : Nat) (w : World) (he : SubsAt w e Ae ce) (hl : VarsAt w l A cap) (h3 : e.sub.length ≤ 3) (hts : (Ex.typL l e.sub).2 = 0) (hnm : e.name.toList.isEmpty = false) (hfv : findV l e.name = none) (hv : e.typ l = (0, 19)) :
    Calls Tryz.prog 84 #[exV e Ae ce, .slice A l.length cap] w fun r w' => r = .returned (.tuple #[.int .i64 (e.typ l).1, .int .i64 (e.typ l).2]) ∧ Below w.heap.size w w' := by
  have hrf : refFind l e.name = -1 := by unfold refFind; rw [hfv]; rfl
  have hfind := fun W h => refFind_any l A cap e.name W (hl.later h)
  rw [hrf] at hfind
  clear hrf hfv
  have HB := Lib.hid hts; clear hts
  have HV := Lib.hid hv; clear hv
  have hlen := he.len
  unfold maxLen at hlen
  obtain ⟨hl1, hl2⟩ := hlen
  have hT := Lib.hid (show joinT [] (Ex.typL l (e.sub.drop 0)) = Ex.typL l e.sub from joinT_nil _ (typL_err l e.sub))
  unfold exV
  go_enter Tryz.func84, Tryz.ntmps84
  go_wp2_with fail
  refine wp_name fun W0 hW0 => ?_
  have hb0 : Below w.heap.size w W0 := by rw [hW0]; exact belA
  have hz0 : w.heap.size < W0.heap.size := by rw [hW0]; first | omega | (simp; done) | (simp; omega)
  have p0 : W0.cell? ⟨w.heap.size, 0, none⟩ = some (.int .i64 e.kind) := by rw [hW0]; go_simp
  have p1 : W0.cell? ⟨w.heap.size, 1, none⟩ = some (.int .i32 e.n) := by rw [hW0]; go_simp
  have p2 : W0.cell? ⟨w.heap.size, 2, none⟩ = some (.string e.name) := by rw [hW0]; go_simp
  have p3 : W0.cell? ⟨w.heap.size, 3, none⟩ = some (.slice Ae e.sub.length ce) := by rw [hW0]; go_simp
  clear hW0
  replace he := he.later hb0
  replace hl := hl.later hb0
  go_loopw [6, 7] (fun v i wr => ∃ (k : Nat) (acc : List Int), k ≤ e.sub.length ∧ i = .int .i64 k ∧ acc.length = k ∧ wr.ownsRow W0.heap.size 3 1 v k (acc.map (Value.int .i64)) ∧ joinT acc (Ex.typL l (e.sub.drop k)) = Ex.typL l e.sub ∧ Below W0.heap.size W0 wr) (fun _ i _ => e.sub.length - (intOf i).toNat)
  case atStart => exact ⟨0, [], Nat.zero_le _, rfl, rfl, World.ownsRow_nil _ _ _ _, hT.out, Below.refl _ _⟩
  case round =>
    obtain ⟨k, acc, hk, rfl, hacc, hown, hrem, hbel⟩ := hrel
    have hc := bcell hbel
    have hzr := hbel.size
    have hz1 : w.heap.size < wr.heap.size := by omega
    have HACC := Lib.hid hacc; clear hacc
    by_cases hlt : k < e.sub.length
    · have hx : e.sub[k]? = some e.sub[k] := List.getElem?_eq_getElem hlt
      have hmem : e.sub[k] ∈ e.sub := List.getElem_mem hlt
      have hd : e.sub.drop k = e.sub[k] :: e.sub.drop (k + 1) := List.drop_eq_getElem_cons hlt
      generalize e.sub[k] = x at hx hmem hd
      obtain ⟨b, off, A', cap', rfl, c0, c1, c2, c3, hs⟩ := (he.later hbel).get hx
      rw [hd] at hrem
      have hof' := fun W h => ih x hmem A' cap' W h
      unfold exV at hof'
      cases hfx : ((x.typ l).2 != 0)
      · have h0 : (x.typ l).2 = 0 := by simpa using hfx
        rw [joinT_step l acc x _ h0] at hrem
        have HR := Lib.hid hrem; clear hrem hd hx h0
        go_wp2_with (first | (go_at_call 84; refine (hof' _ (hs.later belA) (hl.later belA)).mono ?_; rintro r w1 ⟨rfl, hb1⟩; have hc1 := bcell hb1; have hz1 := hb1.size; (try simp at hz1); (try have hy1 := lt0 w w1); (try have hy2 := ltA w 1 w1); (try have hy3 := ltA w 2 w1); (try have hy4 := lt0 wr w1); (try have hy5 := ltA wr 1 w1)) | (at_builtin; refine wpList_app rfl (.tmp 33) (.tmp 35) 63 rfl W0.heap.size 3 (.int .i64 0) 1 8 Tryz.underlying63 intinfo rfl (by omega) u6 k (acc.map (Value.int .i64)) _ 1 [.int .i64 (x.typ l).1] rfl (by repeat (first | (with_reducible assumption) | refine own_alloc ?_ | refine own_bel ?_ (by with_reducible assumption) | refine own_drew ?_)) rfl rfl (fun j u hj => by rw [cell_new]; simpa using hj) (by simp [Value.oneCell']) (by omega) (by omega) (by first | omega | (simp; omega)) ?_; intro v2 w2 hown2 hb2; have hz2 := hb2.size; (try simp at hz2)))
        go_roundw
        case rel => exact ⟨k + 1, acc ++ [(x.typ l).1], by omega, by go_num, by have := HACC.out; simp [this], by rw [List.map_append]; exact hown2, HR.out, belA⟩
        case measure => simp [intOf]; omega
      · exfalso
        have h0 : (x.typ l).2 ≠ 0 := by simpa using hfx
        rw [joinT_stop l acc x _ h0] at hrem
        exact h0 (by have := HB.out; rw [← hrem] at this; exact this)
    · clear hrem hown
      go_wp2_with (first | (go_at_call 19; refine (hfind _ belA).mono ?_; rintro r w1 ⟨rfl, hb1⟩; have hc1 := bcell hb1; have hz1 := hb1.size; (try simp at hz1); (try have hy1 := lt0 w w1); (try have hy2 := ltA w 1 w1); (try have hy3 := ltA w 2 w1); (try have hy4 := lt0 wr w1); (try have hy5 := ltA wr 1 w1)))
      go_ret2
      exact ⟨by rw [HV.out]; try rfl, belA⟩

end Go.Proofs.YtikmbkojnfmiaaaGreatDoorRRRR

/- Walk over the reference's of: a variable. -/
namespace Go.Proofs.YtikmbkojnfmiaaaGreatDoorRRRR
open Go.RowKit Go.Sort

set_option maxHeartbeats 4000000 in
set_option maxRecDepth 100000 in
theorem rof_3 (l : List Va) (A : Option Addr) (cap : Nat) (e : Ex) (ih : ∀ x ∈ e.sub, RofP l A cap x) (Ae : Option Addr) (ce : Nat) (w : World) (he : SubsAt w e Ae ce) (hl : VarsAt w l A cap) (h0 : e.sub.length = 0) (hk : e.kind = 3) (hnm : e.name.toList.isEmpty = false) (kk : Nat) (v : Va) (hrf : refFind l e.name = (kk : Int)) (hx : l[kk]? = some v) (hv : e.typ l = endR v.type) :
    Calls Tryz.prog 84 #[exV e Ae ce, .slice A l.length cap] w fun r w' => r = .returned (.tuple #[.int .i64 (e.typ l).1, .int .i64 (e.typ l).2]) ∧ Below w.heap.size w w' := by
  have hlt0 : ¬ 0 < e.sub.length := by omega
  have hkl : kk < l.length := (List.getElem?_eq_some_iff.1 hx).1
  have hkl2 : (kk : Int) < (l.length : Int) := by omega
  have hll := hl.len
  unfold maxLen at hll
  obtain ⟨hll1, hll2⟩ := hll
  have hfind := fun W h => refFind_any l A cap e.name W (hl.later h)
  rw [hrf] at hfind
  have hl0 := hl
  obtain ⟨bv, ov, rfl, hbv, ⟨v0, v1, v2, v3⟩⟩ := hl.get hx
  have hbv0 : bv < w.heap.size := hbv
  have tkk : ¬ ((kk : Int) < 0) := by omega
  clear hrf hx hl0
  have q1 : (e.kind == 1) = false := by rw [hk]; rfl
  have q2 : (e.kind == 2) = false := by rw [hk]; rfl
  have q3 : (e.kind == 3) = true := by rw [hk]; rfl
  clear hk h0
  unfold endR at hv
  by_cases ht : v.type = 1 ∨ v.type = 2
  · rw [if_pos ht] at hv
    have HV := Lib.hid hv; clear hv
    have hlen := he.len
    unfold maxLen at hlen
    obtain ⟨hl1, hl2⟩ := hlen
    have hT := Lib.hid (show joinT [] (Ex.typL l (e.sub.drop 0)) = Ex.typL l e.sub from joinT_nil _ (typL_err l e.sub))
    unfold exV
    go_enter Tryz.func84, Tryz.ntmps84
    go_wp2_with fail
    refine wp_name fun W0 hW0 => ?_
    have hb0 : Below w.heap.size w W0 := by rw [hW0]; exact belA
    have hz0 : w.heap.size < W0.heap.size := by rw [hW0]; first | omega | (simp; done) | (simp; omega)
    have p0 : W0.cell? ⟨w.heap.size, 0, none⟩ = some (.int .i64 e.kind) := by rw [hW0]; go_simp
    have p1 : W0.cell? ⟨w.heap.size, 1, none⟩ = some (.int .i32 e.n) := by rw [hW0]; go_simp
    have p2 : W0.cell? ⟨w.heap.size, 2, none⟩ = some (.string e.name) := by rw [hW0]; go_simp
    have p3 : W0.cell? ⟨w.heap.size, 3, none⟩ = some (.slice Ae e.sub.length ce) := by rw [hW0]; go_simp
    clear hW0
    replace he := he.later hb0
    replace hl := hl.later hb0
    go_loopw [6, 7] (fun v i wr => ∃ (k : Nat) (acc : List Int), k ≤ e.sub.length ∧ i = .int .i64 k ∧ acc.length = k ∧ wr.ownsRow W0.heap.size 3 1 v k (acc.map (Value.int .i64)) ∧ joinT acc (Ex.typL l (e.sub.drop k)) = Ex.typL l e.sub ∧ Below W0.heap.size W0 wr) (fun _ i _ => e.sub.length - (intOf i).toNat)
    case atStart => exact ⟨0, [], Nat.zero_le _, rfl, rfl, World.ownsRow_nil _ _ _ _, hT.out, Below.refl _ _⟩
    case round =>
      obtain ⟨k, acc, hk, rfl, hacc, hown, hrem, hbel⟩ := hrel
      have hc := bcell hbel
      have hzr := hbel.size
      have hz1 : w.heap.size < wr.heap.size := by omega
      have HACC := Lib.hid hacc; clear hacc
      have hlt : ¬ k < e.sub.length := by omega
      have hk0 : k = e.sub.length := by omega
      have HK := Lib.hid hk0; clear hk0 hrem hown
      have hbw : Below w.heap.size w wr := bel_trans hb0 hbel
      have hcw := bcell hbw
      have hbvr : bv < wr.heap.size := by omega
      have hbvr1 : bv < wr.heap.size + 1 := by omega
      have hzr1 : w.heap.size < wr.heap.size + 1 := by omega
      have v0' := (hcw _ _ hbv0).trans v0
      have v1' := (hcw _ _ hbv0).trans v1
      have v2' := (hcw _ _ hbv0).trans v2
      have v3' := (hcw _ _ hbv0).trans v3
      clear hcw v0 v1 v2 v3
      rcases ht with ht | ht
      · have t1 : (v.type != 1) = false := by rw [ht]; rfl
        clear ht
        go_wp2_with (first | (go_at_call 19; go_loud (refine (hfind _ belA).mono ?_; rintro r w1 ⟨rfl, hb1⟩; have hc1 := bcell hb1; have hf1 := bfrozen hb1; have hzf := hb1.size; (try simp at hzf); (try have hy1 := lt0 w w1); (try have hy2 := ltA w 1 w1); (try have hy3 := ltA w 2 w1); (try have hy4 := lt0 wr w1); (try have hy5 := ltA wr 1 w1); have hbv1 : bv < w1.heap.size := (by omega); (try have hg1' : g < w1.heap.size := (by omega)))))
        go_ret2
        exact ⟨by rw [HV.out]; try rfl, (by repeat (first | exact Below.refl _ _ | (with_reducible assumption) | refine Below.setCell ?_ (by first | (simp; done) | (simp; omega) | (show w.heap.size ≤ wr.heap.size; omega)) _ | refine bel_trans ?_ (by with_reducible assumption) | refine bel_trans ?_ (below_regrown _ _ _) | refine bel_drew ?_ | refine bel_drewN ?_ _ | refine bel_alloc ?_ _ | refine bel_grow ?_ (by with_reducible assumption) (by omega)))⟩
      · have t1 : (v.type != 1) = true := by rw [ht]; rfl
        have t2 : (v.type != 2) = false := by rw [ht]; rfl
        clear ht
        go_wp2_with (first | (go_at_call 19; go_loud (refine (hfind _ belA).mono ?_; rintro r w1 ⟨rfl, hb1⟩; have hc1 := bcell hb1; have hf1 := bfrozen hb1; have hzf := hb1.size; (try simp at hzf); (try have hy1 := lt0 w w1); (try have hy2 := ltA w 1 w1); (try have hy3 := ltA w 2 w1); (try have hy4 := lt0 wr w1); (try have hy5 := ltA wr 1 w1); have hbv1 : bv < w1.heap.size := (by omega); (try have hg1' : g < w1.heap.size := (by omega)))))
        go_ret2
        exact ⟨by rw [HV.out]; try rfl, (by repeat (first | exact Below.refl _ _ | (with_reducible assumption) | refine Below.setCell ?_ (by first | (simp; done) | (simp; omega) | (show w.heap.size ≤ wr.heap.size; omega)) _ | refine bel_trans ?_ (by with_reducible assumption) | refine bel_trans ?_ (below_regrown _ _ _) | refine bel_drew ?_ | refine bel_drewN ?_ _ | refine bel_alloc ?_ _ | refine bel_grow ?_ (by with_reducible assumption) (by omega)))⟩
  · rw [if_neg ht] at hv
    have HV := Lib.hid hv; clear hv
    have t1 : (v.type != 1) = true := by simp; omega
    have t2 : (v.type != 2) = true := by simp; omega
    clear ht
    have hlen := he.len
    unfold maxLen at hlen
    obtain ⟨hl1, hl2⟩ := hlen
    have hT := Lib.hid (show joinT [] (Ex.typL l (e.sub.drop 0)) = Ex.typL l e.sub from joinT_nil _ (typL_err l e.sub))
    unfold exV
    go_enter Tryz.func84, Tryz.ntmps84
    go_wp2_with fail
    refine wp_name fun W0 hW0 => ?_
    have hb0 : Below w.heap.size w W0 := by rw [hW0]; exact belA
    have hz0 : w.heap.size < W0.heap.size := by rw [hW0]; first | omega | (simp; done) | (simp; omega)
    have p0 : W0.cell? ⟨w.heap.size, 0, none⟩ = some (.int .i64 e.kind) := by rw [hW0]; go_simp
    have p1 : W0.cell? ⟨w.heap.size, 1, none⟩ = some (.int .i32 e.n) := by rw [hW0]; go_simp
    have p2 : W0.cell? ⟨w.heap.size, 2, none⟩ = some (.string e.name) := by rw [hW0]; go_simp
    have p3 : W0.cell? ⟨w.heap.size, 3, none⟩ = some (.slice Ae e.sub.length ce) := by rw [hW0]; go_simp
    clear hW0
    replace he := he.later hb0
    replace hl := hl.later hb0
    go_loopw [6, 7] (fun v i wr => ∃ (k : Nat) (acc : List Int), k ≤ e.sub.length ∧ i = .int .i64 k ∧ acc.length = k ∧ wr.ownsRow W0.heap.size 3 1 v k (acc.map (Value.int .i64)) ∧ joinT acc (Ex.typL l (e.sub.drop k)) = Ex.typL l e.sub ∧ Below W0.heap.size W0 wr) (fun _ i _ => e.sub.length - (intOf i).toNat)
    case atStart => exact ⟨0, [], Nat.zero_le _, rfl, rfl, World.ownsRow_nil _ _ _ _, hT.out, Below.refl _ _⟩
    case round =>
      obtain ⟨k, acc, hk, rfl, hacc, hown, hrem, hbel⟩ := hrel
      have hc := bcell hbel
      have hzr := hbel.size
      have hz1 : w.heap.size < wr.heap.size := by omega
      have HACC := Lib.hid hacc; clear hacc
      have hlt : ¬ k < e.sub.length := by omega
      have hk0 : k = e.sub.length := by omega
      have HK := Lib.hid hk0; clear hk0 hrem hown
      have hbw : Below w.heap.size w wr := bel_trans hb0 hbel
      have hcw := bcell hbw
      have hbvr : bv < wr.heap.size := by omega
      have hbvr1 : bv < wr.heap.size + 1 := by omega
      have hzr1 : w.heap.size < wr.heap.size + 1 := by omega
      have v0' := (hcw _ _ hbv0).trans v0
      have v1' := (hcw _ _ hbv0).trans v1
      have v2' := (hcw _ _ hbv0).trans v2
      have v3' := (hcw _ _ hbv0).trans v3
      clear hcw v0 v1 v2 v3
      go_wp2_with (first | (go_at_call 19; go_loud (refine (hfind _ belA).mono ?_; rintro r w1 ⟨rfl, hb1⟩; have hc1 := bcell hb1; have hf1 := bfrozen hb1; have hzf := hb1.size; (try simp at hzf); (try have hy1 := lt0 w w1); (try have hy2 := ltA w 1 w1); (try have hy3 := ltA w 2 w1); (try have hy4 := lt0 wr w1); (try have hy5 := ltA wr 1 w1); have hbv1 : bv < w1.heap.size := (by omega); (try have hg1' : g < w1.heap.size := (by omega)))))
      go_ret2
      exact ⟨by rw [HV.out]; try rfl, (by repeat (first | exact Below.refl _ _ | (with_reducible assumption) | refine Below.setCell ?_ (by first | (simp; done) | (simp; omega) | (show w.heap.size ≤ wr.heap.size; omega)) _ | refine bel_trans ?_ (by with_reducible assumption) | refine bel_trans ?_ (below_regrown _ _ _) | refine bel_drew ?_ | refine bel_drewN ?_ _ | refine bel_alloc ?_ _ | refine bel_grow ?_ (by with_reducible assumption) (by omega)))⟩

end Go.Proofs.YtikmbkojnfmiaaaGreatDoorRRRR

/- Walk over the reference's of: an operation of one value; when and unless. -/
namespace Go.Proofs.YtikmbkojnfmiaaaGreatDoorRRRR
open Go.RowKit Go.Sort

set_option maxHeartbeats 4000000 in
set_option maxRecDepth 100000 in
theorem rof_4 (l : List Va) (A : Option Addr) (cap : Nat) (e : Ex) (ih : ∀ x ∈ e.sub, RofP l A cap x) (Ae : Option Addr) (ce : Nat) (w : World) (he : SubsAt w e Ae ce) (hl : VarsAt w l A cap) (h3 : e.sub.length ≤ 3) (hk : e.kind = 4) (hnm : e.name.toList.isEmpty = true) (t0 : Int) (hts : Ex.typL l e.sub = ([t0], 0)) (h1 : e.sub.length = 1) (ht0 : t0 = 1 ∨ t0 = 2) (hn12 : e.n = 1 ∨ e.n = 2) (hv : e.typ l = if e.n = t0 then (t0, 0) else (0, 20)) :
    Calls Tryz.prog 84 #[exV e Ae ce, .slice A l.length cap] w fun r w' => r = .returned (.tuple #[.int .i64 (e.typ l).1, .int .i64 (e.typ l).2]) ∧ Below w.heap.size w w' := by
  have q1 : (e.kind == 1) = false := by rw [hk]; rfl
  have q2 : (e.kind == 2) = false := by rw [hk]; rfl
  have q3 : (e.kind == 3) = false := by rw [hk]; rfl
  have q4 : (e.kind == 4) = true := by rw [hk]; rfl
  have hts2 : (Ex.typL l e.sub).2 = 0 := by rw [hts]
  have HB := Lib.hid hts2; clear hts2
  have HTS := Lib.hid hts; clear hts
  have H1 := Lib.hid h1; clear h1
  clear hk
  have HV := Lib.hid hv; clear hv
  have hlen := he.len
  unfold maxLen at hlen
  obtain ⟨hl1, hl2⟩ := hlen
  have hT := Lib.hid (show joinT [] (Ex.typL l (e.sub.drop 0)) = Ex.typL l e.sub from joinT_nil _ (typL_err l e.sub))
  unfold exV
  go_enter Tryz.func84, Tryz.ntmps84
  go_wp2_with fail
  refine wp_name fun W0 hW0 => ?_
  have hb0 : Below w.heap.size w W0 := by rw [hW0]; exact belA
  have hz0 : w.heap.size < W0.heap.size := by rw [hW0]; first | omega | (simp; done) | (simp; omega)
  have p0 : W0.cell? ⟨w.heap.size, 0, none⟩ = some (.int .i64 e.kind) := by rw [hW0]; go_simp
  have p1 : W0.cell? ⟨w.heap.size, 1, none⟩ = some (.int .i32 e.n) := by rw [hW0]; go_simp
  have p2 : W0.cell? ⟨w.heap.size, 2, none⟩ = some (.string e.name) := by rw [hW0]; go_simp
  have p3 : W0.cell? ⟨w.heap.size, 3, none⟩ = some (.slice Ae e.sub.length ce) := by rw [hW0]; go_simp
  clear hW0
  replace he := he.later hb0
  replace hl := hl.later hb0
  go_loopw [6, 7] (fun v i wr => ∃ (k : Nat) (acc : List Int), k ≤ e.sub.length ∧ i = .int .i64 k ∧ acc.length = k ∧ wr.ownsRow W0.heap.size 3 1 v k (acc.map (Value.int .i64)) ∧ joinT acc (Ex.typL l (e.sub.drop k)) = Ex.typL l e.sub ∧ Below W0.heap.size W0 wr) (fun _ i _ => e.sub.length - (intOf i).toNat)
  case atStart => exact ⟨0, [], Nat.zero_le _, rfl, rfl, World.ownsRow_nil _ _ _ _, hT.out, Below.refl _ _⟩
  case round =>
    obtain ⟨k, acc, hk, rfl, hacc, hown, hrem, hbel⟩ := hrel
    have hc := bcell hbel
    have hzr := hbel.size
    have hz1 : w.heap.size < wr.heap.size := by omega
    have HACC := Lib.hid hacc; clear hacc
    by_cases hlt : k < e.sub.length
    · have hx : e.sub[k]? = some e.sub[k] := List.getElem?_eq_getElem hlt
      have hmem : e.sub[k] ∈ e.sub := List.getElem_mem hlt
      have hd : e.sub.drop k = e.sub[k] :: e.sub.drop (k + 1) := List.drop_eq_getElem_cons hlt
      generalize e.sub[k] = x at hx hmem hd
      obtain ⟨b, off, A', cap', rfl, c0, c1, c2, c3, hs⟩ := (he.later hbel).get hx
      rw [hd] at hrem
      have hof' := fun W h => ih x hmem A' cap' W h
      unfold exV at hof'
      cases hfx : ((x.typ l).2 != 0)
      · have h0 : (x.typ l).2 = 0 := by simpa using hfx
        rw [joinT_step l acc x _ h0] at hrem
        have HR := Lib.hid hrem; clear hrem hd hx h0
        go_wp2_with (first | (go_at_call 84; refine (hof' _ (hs.later belA) (hl.later belA)).mono ?_; rintro r w1 ⟨rfl, hb1⟩; have hc1 := bcell hb1; have hz1 := hb1.size; (try simp at hz1); (try have hy1 := lt0 w w1); (try have hy2 := ltA w 1 w1); (try have hy3 := ltA w 2 w1); (try have hy4 := lt0 wr w1); (try have hy5 := ltA wr 1 w1)) | (at_builtin; refine wpList_app rfl (.tmp 33) (.tmp 35) 63 rfl W0.heap.size 3 (.int .i64 0) 1 8 Tryz.underlying63 intinfo rfl (by omega) u6 k (acc.map (Value.int .i64)) _ 1 [.int .i64 (x.typ l).1] rfl (by repeat (first | (with_reducible assumption) | refine own_alloc ?_ | refine own_bel ?_ (by with_reducible assumption) | refine own_drew ?_)) rfl rfl (fun j u hj => by rw [cell_new]; simpa using hj) (by simp [Value.oneCell']) (by omega) (by omega) (by first | omega | (simp; omega)) ?_; intro v2 w2 hown2 hb2; have hz2 := hb2.size; (try simp at hz2)))
        go_roundw
        case rel => exact ⟨k + 1, acc ++ [(x.typ l).1], by omega, by go_num, by have := HACC.out; simp [this], by rw [List.map_append]; exact hown2, HR.out, belA⟩
        case measure => simp [intOf]; omega
      · exfalso
        have h0 : (x.typ l).2 ≠ 0 := by simpa using hfx
        rw [joinT_stop l acc x _ h0] at hrem
        exact h0 (by have := HB.out; rw [← hrem] at this; exact this)
    · have hke : k = e.sub.length := by omega
      rw [hke, List.drop_length, Ex.typL, joinT, if_pos rfl, List.append_nil, HTS.out] at hrem
      have hacc : acc = [t0] := by injection hrem
      subst hacc
      have hk1 : k = 1 := by have := H1.out; omega
      have HK := Lib.hid hke
      clear hrem hke
      rw [hk1] at hown
      obtain ⟨g, gc, rfl, hg1, hg2, hg3, hg4, hcells⟩ := own_get hown (by omega)
      unfold maxLen at hg4
      have e0 : wr.cell? ⟨g, 0, none⟩ = some (.int .i64 t0) := hcells 0 _ rfl
      clear hcells hown hk1
      rcases ht0 with rfl | rfl <;> rcases hn12 with hn12 | hn12
      · have s1 : (e.n == 1) = true := by rw [hn12]; rfl
        have s2 : (e.n == 2) = false := by rw [hn12]; rfl
        have hv2 := HV.out
        rw [hn12, if_pos rfl] at hv2
        have HV2 := Lib.hid hv2
        clear hn12 hv2
        go_wp2_with fail
        go_ret2
        exact ⟨by rw [HV2.out]; try rfl, (by repeat (first | exact Below.refl _ _ | (with_reducible assumption) | refine Below.setCell ?_ (by first | (simp; done) | (simp; omega) | (show w.heap.size ≤ wr.heap.size; omega)) _ | refine bel_trans ?_ (by with_reducible assumption) | refine bel_trans ?_ (below_regrown _ _ _) | refine bel_drew ?_ | refine bel_drewN ?_ _ | refine bel_alloc ?_ _ | refine bel_grow ?_ (by with_reducible assumption) (by omega)))⟩
      · have s1 : (e.n == 1) = false := by rw [hn12]; rfl
        have s2 : (e.n == 2) = true := by rw [hn12]; rfl
        have hv2 := HV.out
        rw [hn12, if_neg (by omega)] at hv2
        have HV2 := Lib.hid hv2
        clear hn12 hv2
        go_wp2_with fail
        go_ret2
        exact ⟨by rw [HV2.out]; try rfl, (by repeat (first | exact Below.refl _ _ | (with_reducible assumption) | refine Below.setCell ?_ (by first | (simp; done) | (simp; omega) | (show w.heap.size ≤ wr.heap.size; omega)) _ | refine bel_trans ?_ (by with_reducible assumption) | refine bel_trans ?_ (below_regrown _ _ _) | refine bel_drew ?_ | refine bel_drewN ?_ _ | refine bel_alloc ?_ _ | refine bel_grow ?_ (by with_reducible assumption) (by omega)))⟩
      · have s1 : (e.n == 1) = true := by rw [hn12]; rfl
        have s2 : (e.n == 2) = false := by rw [hn12]; rfl
        have hv2 := HV.out
        rw [hn12, if_neg (by omega)] at hv2
        have HV2 := Lib.hid hv2
        clear hn12 hv2
        go_wp2_with fail
        go_ret2
        exact ⟨by rw [HV2.out]; try rfl, (by repeat (first | exact Below.refl _ _ | (with_reducible assumption) | refine Below.setCell ?_ (by first | (simp; done) | (simp; omega) | (show w.heap.size ≤ wr.heap.size; omega)) _ | refine bel_trans ?_ (by with_reducible assumption) | refine bel_trans ?_ (below_regrown _ _ _) | refine bel_drew ?_ | refine bel_drewN ?_ _ | refine bel_alloc ?_ _ | refine bel_grow ?_ (by with_reducible assumption) (by omega)))⟩
      · have s1 : (e.n == 1) = false := by rw [hn12]; rfl
        have s2 : (e.n == 2) = true := by rw [hn12]; rfl
        have hv2 := HV.out
        rw [hn12, if_pos rfl] at hv2
        have HV2 := Lib.hid hv2
        clear hn12 hv2
        go_wp2_with fail
        go_ret2
        exact ⟨by rw [HV2.out]; try rfl, (by repeat (first | exact Below.refl _ _ | (with_reducible assumption) | refine Below.setCell ?_ (by first | (simp; done) | (simp; omega) | (show w.heap.size ≤ wr.heap.size; omega)) _ | refine bel_trans ?_ (by with_reducible assumption) | refine bel_trans ?_ (below_regrown _ _ _) | refine bel_drew ?_ | refine bel_drewN ?_ _ | refine bel_alloc ?_ _ | refine bel_grow ?_ (by with_reducible assumption) (by omega)))⟩

end Go.Proofs.YtikmbkojnfmiaaaGreatDoorRRRR

/- Walk over the reference's of: when and unless. -/
namespace Go.Proofs.YtikmbkojnfmiaaaGreatDoorRRRR
open Go.RowKit Go.Sort

set_option maxHeartbeats 4000000 in
set_option maxRecDepth 100000 in
theorem rof_8 (l : List Va) (A : Option Addr) (cap : Nat) (e : Ex) (ih : ∀ x ∈ e.sub, RofP l A cap x) (Ae : Option Addr) (ce : Nat) (w : World) (he : SubsAt w e Ae ce) (hl : VarsAt w l A cap) (h3 : e.sub.length ≤ 3) (hk : e.kind = 8) (hnm : e.name.toList.isEmpty = false) (kk : Nat) (v : Va) (hrf : refFind l e.name = (kk : Int)) (hx : l[kk]? = some v) (t0 : Int) (hts : Ex.typL l e.sub = ([t0], 0)) (h1 : e.sub.length = 1) (ht0 : t0 = 1 ∨ t0 = 2) (hv : e.typ l = if v.type = 2 then (t0, 0) else (0, 20)) :
    Calls Tryz.prog 84 #[exV e Ae ce, .slice A l.length cap] w fun r w' => r = .returned (.tuple #[.int .i64 (e.typ l).1, .int .i64 (e.typ l).2]) ∧ Below w.heap.size w w' := by
  have hkl : kk < l.length := (List.getElem?_eq_some_iff.1 hx).1
  have hkl2 : (kk : Int) < (l.length : Int) := by omega
  have hll := hl.len
  unfold maxLen at hll
  obtain ⟨hll1, hll2⟩ := hll
  have hfind := fun W h => refFind_any l A cap e.name W (hl.later h)
  rw [hrf] at hfind
  have hl0 := hl
  obtain ⟨bv, ov, rfl, hbv, ⟨v0, v1, v2, v3⟩⟩ := hl.get hx
  have hbv0 : bv < w.heap.size := hbv
  have tkk : ¬ ((kk : Int) < 0) := by omega
  clear hrf hx hl0
  have q1 : (e.kind == 1) = false := by rw [hk]; rfl
  have q2 : (e.kind == 2) = false := by rw [hk]; rfl
  have q3 : (e.kind == 3) = false := by rw [hk]; rfl
  have q4 : (e.kind == 4) = false := by rw [hk]; rfl
  have q5 : (e.kind == 5) = false := by rw [hk]; rfl
  have q6 : (e.kind == 6) = false := by rw [hk]; rfl
  have q7 : (e.kind == 7) = false := by rw [hk]; rfl
  have q8 : (e.kind == 8) = true := by rw [hk]; rfl
  have hts2 : (Ex.typL l e.sub).2 = 0 := by rw [hts]
  have HB := Lib.hid hts2; clear hts2
  have HTS := Lib.hid hts; clear hts
  have H1 := Lib.hid h1; clear h1
  clear hk
  have HV := Lib.hid hv; clear hv
  have hlen := he.len
  unfold maxLen at hlen
  obtain ⟨hl1, hl2⟩ := hlen
  have hT := Lib.hid (show joinT [] (Ex.typL l (e.sub.drop 0)) = Ex.typL l e.sub from joinT_nil _ (typL_err l e.sub))
  unfold exV
  go_enter Tryz.func84, Tryz.ntmps84
  go_wp2_with fail
  refine wp_name fun W0 hW0 => ?_
  have hb0 : Below w.heap.size w W0 := by rw [hW0]; exact belA
  have hz0 : w.heap.size < W0.heap.size := by rw [hW0]; first | omega | (simp; done) | (simp; omega)
  have p0 : W0.cell? ⟨w.heap.size, 0, none⟩ = some (.int .i64 e.kind) := by rw [hW0]; go_simp
  have p1 : W0.cell? ⟨w.heap.size, 1, none⟩ = some (.int .i32 e.n) := by rw [hW0]; go_simp
  have p2 : W0.cell? ⟨w.heap.size, 2, none⟩ = some (.string e.name) := by rw [hW0]; go_simp
  have p3 : W0.cell? ⟨w.heap.size, 3, none⟩ = some (.slice Ae e.sub.length ce) := by rw [hW0]; go_simp
  clear hW0
  replace he := he.later hb0
  replace hl := hl.later hb0
  go_loopw [6, 7] (fun v i wr => ∃ (k : Nat) (acc : List Int), k ≤ e.sub.length ∧ i = .int .i64 k ∧ acc.length = k ∧ wr.ownsRow W0.heap.size 3 1 v k (acc.map (Value.int .i64)) ∧ joinT acc (Ex.typL l (e.sub.drop k)) = Ex.typL l e.sub ∧ Below W0.heap.size W0 wr) (fun _ i _ => e.sub.length - (intOf i).toNat)
  case atStart => exact ⟨0, [], Nat.zero_le _, rfl, rfl, World.ownsRow_nil _ _ _ _, hT.out, Below.refl _ _⟩
  case round =>
    obtain ⟨k, acc, hk, rfl, hacc, hown, hrem, hbel⟩ := hrel
    have hc := bcell hbel
    have hzr := hbel.size
    have hz1 : w.heap.size < wr.heap.size := by omega
    have HACC := Lib.hid hacc; clear hacc
    by_cases hlt : k < e.sub.length
    · have hx : e.sub[k]? = some e.sub[k] := List.getElem?_eq_getElem hlt
      have hmem : e.sub[k] ∈ e.sub := List.getElem_mem hlt
      have hd : e.sub.drop k = e.sub[k] :: e.sub.drop (k + 1) := List.drop_eq_getElem_cons hlt
      generalize e.sub[k] = x at hx hmem hd
      obtain ⟨b, off, A', cap', rfl, c0, c1, c2, c3, hs⟩ := (he.later hbel).get hx
      rw [hd] at hrem
      have hof' := fun W h => ih x hmem A' cap' W h
      unfold exV at hof'
      cases hfx : ((x.typ l).2 != 0)
      · have h0 : (x.typ l).2 = 0 := by simpa using hfx
        rw [joinT_step l acc x _ h0] at hrem
        have HR := Lib.hid hrem; clear hrem hd hx h0
        go_wp2_with (first | (go_at_call 84; refine (hof' _ (hs.later belA) (hl.later belA)).mono ?_; rintro r w1 ⟨rfl, hb1⟩; have hc1 := bcell hb1; have hz1 := hb1.size; (try simp at hz1); (try have hy1 := lt0 w w1); (try have hy2 := ltA w 1 w1); (try have hy3 := ltA w 2 w1); (try have hy4 := lt0 wr w1); (try have hy5 := ltA wr 1 w1)) | (at_builtin; refine wpList_app rfl (.tmp 33) (.tmp 35) 63 rfl W0.heap.size 3 (.int .i64 0) 1 8 Tryz.underlying63 intinfo rfl (by omega) u6 k (acc.map (Value.int .i64)) _ 1 [.int .i64 (x.typ l).1] rfl (by repeat (first | (with_reducible assumption) | refine own_alloc ?_ | refine own_bel ?_ (by with_reducible assumption) | refine own_drew ?_)) rfl rfl (fun j u hj => by rw [cell_new]; simpa using hj) (by simp [Value.oneCell']) (by omega) (by omega) (by first | omega | (simp; omega)) ?_; intro v2 w2 hown2 hb2; have hz2 := hb2.size; (try simp at hz2)))
        go_roundw
        case rel => exact ⟨k + 1, acc ++ [(x.typ l).1], by omega, by go_num, by have := HACC.out; simp [this], by rw [List.map_append]; exact hown2, HR.out, belA⟩
        case measure => simp [intOf]; omega
      · exfalso
        have h0 : (x.typ l).2 ≠ 0 := by simpa using hfx
        rw [joinT_stop l acc x _ h0] at hrem
        exact h0 (by have := HB.out; rw [← hrem] at this; exact this)
    · have hke : k = e.sub.length := by omega
      rw [hke, List.drop_length, Ex.typL, joinT, if_pos rfl, List.append_nil, HTS.out] at hrem
      have hacc : acc = [t0] := by injection hrem
      subst hacc
      have hk1 : k = 1 := by have := H1.out; omega
      have HK := Lib.hid hke
      clear hrem hke
      rw [hk1] at hown
      obtain ⟨g, gc, rfl, hg1, hg2, hg3, hg4, hcells⟩ := own_get hown (by omega)
      unfold maxLen at hg4
      have e0 : wr.cell? ⟨g, 0, none⟩ = some (.int .i64 t0) := hcells 0 _ rfl
      have hg5 : g < wr.heap.size + 1 := by omega
      clear hcells hown hk1
      have hbw : Below w.heap.size w wr := bel_trans hb0 hbel
      have hcw := bcell hbw
      have hbvr : bv < wr.heap.size := by omega
      have hbvr1 : bv < wr.heap.size + 1 := by omega
      have hzr1 : w.heap.size < wr.heap.size + 1 := by omega
      have v0' := (hcw _ _ hbv0).trans v0
      have v1' := (hcw _ _ hbv0).trans v1
      have v2' := (hcw _ _ hbv0).trans v2
      have v3' := (hcw _ _ hbv0).trans v3
      clear hcw v0 v1 v2 v3
      rcases ht0 with rfl | rfl <;> by_cases hvt : v.type = 2
      · have t2 : (v.type == 2) = true := by rw [hvt]; rfl
        have hv2 := HV.out
        rw [if_pos hvt] at hv2
        have HV2 := Lib.hid hv2
        clear hvt hv2
        go_wp2_with (first | (go_at_call 19; go_loud (refine (hfind _ belA).mono ?_; rintro r w1 ⟨rfl, hb1⟩; have hc1 := bcell hb1; have hf1 := bfrozen hb1; have hzf := hb1.size; (try simp at hzf); (try have hy1 := lt0 w w1); (try have hy2 := ltA w 1 w1); (try have hy3 := ltA w 2 w1); (try have hy4 := lt0 wr w1); (try have hy5 := ltA wr 1 w1); have hbv1 : bv < w1.heap.size := (by omega); (try have hg1' : g < w1.heap.size := (by omega)))))
        go_ret2
        exact ⟨by rw [HV2.out]; try rfl, (by repeat (first | exact Below.refl _ _ | (with_reducible assumption) | refine Below.setCell ?_ (by first | (simp; done) | (simp; omega) | (show w.heap.size ≤ wr.heap.size; omega)) _ | refine bel_trans ?_ (by with_reducible assumption) | refine bel_trans ?_ (below_regrown _ _ _) | refine bel_drew ?_ | refine bel_drewN ?_ _ | refine bel_alloc ?_ _ | refine bel_grow ?_ (by with_reducible assumption) (by omega)))⟩
      · have t2 : (v.type == 2) = false := by simpa using hvt
        have hv2 := HV.out
        rw [if_neg hvt] at hv2
        have HV2 := Lib.hid hv2
        clear hvt hv2
        go_wp2_with (first | (go_at_call 19; go_loud (refine (hfind _ belA).mono ?_; rintro r w1 ⟨rfl, hb1⟩; have hc1 := bcell hb1; have hf1 := bfrozen hb1; have hzf := hb1.size; (try simp at hzf); (try have hy1 := lt0 w w1); (try have hy2 := ltA w 1 w1); (try have hy3 := ltA w 2 w1); (try have hy4 := lt0 wr w1); (try have hy5 := ltA wr 1 w1); have hbv1 : bv < w1.heap.size := (by omega); (try have hg1' : g < w1.heap.size := (by omega)))))
        go_ret2
        exact ⟨by rw [HV2.out]; try rfl, (by repeat (first | exact Below.refl _ _ | (with_reducible assumption) | refine Below.setCell ?_ (by first | (simp; done) | (simp; omega) | (show w.heap.size ≤ wr.heap.size; omega)) _ | refine bel_trans ?_ (by with_reducible assumption) | refine bel_trans ?_ (below_regrown _ _ _) | refine bel_drew ?_ | refine bel_drewN ?_ _ | refine bel_alloc ?_ _ | refine bel_grow ?_ (by with_reducible assumption) (by omega)))⟩
      · have t2 : (v.type == 2) = true := by rw [hvt]; rfl
        have hv2 := HV.out
        rw [if_pos hvt] at hv2
        have HV2 := Lib.hid hv2
        clear hvt hv2
        go_wp2_with (first | (go_at_call 19; go_loud (refine (hfind _ belA).mono ?_; rintro r w1 ⟨rfl, hb1⟩; have hc1 := bcell hb1; have hf1 := bfrozen hb1; have hzf := hb1.size; (try simp at hzf); (try have hy1 := lt0 w w1); (try have hy2 := ltA w 1 w1); (try have hy3 := ltA w 2 w1); (try have hy4 := lt0 wr w1); (try have hy5 := ltA wr 1 w1); have hbv1 : bv < w1.heap.size := (by omega); (try have hg1' : g < w1.heap.size := (by omega)))))
        go_ret2
        exact ⟨by rw [HV2.out]; try rfl, (by repeat (first | exact Below.refl _ _ | (with_reducible assumption) | refine Below.setCell ?_ (by first | (simp; done) | (simp; omega) | (show w.heap.size ≤ wr.heap.size; omega)) _ | refine bel_trans ?_ (by with_reducible assumption) | refine bel_trans ?_ (below_regrown _ _ _) | refine bel_drew ?_ | refine bel_drewN ?_ _ | refine bel_alloc ?_ _ | refine bel_grow ?_ (by with_reducible assumption) (by omega)))⟩
      · have t2 : (v.type == 2) = false := by simpa using hvt
        have hv2 := HV.out
        rw [if_neg hvt] at hv2
        have HV2 := Lib.hid hv2
        clear hvt hv2
        go_wp2_with (first | (go_at_call 19; go_loud (refine (hfind _ belA).mono ?_; rintro r w1 ⟨rfl, hb1⟩; have hc1 := bcell hb1; have hf1 := bfrozen hb1; have hzf := hb1.size; (try simp at hzf); (try have hy1 := lt0 w w1); (try have hy2 := ltA w 1 w1); (try have hy3 := ltA w 2 w1); (try have hy4 := lt0 wr w1); (try have hy5 := ltA wr 1 w1); have hbv1 : bv < w1.heap.size := (by omega); (try have hg1' : g < w1.heap.size := (by omega)))))
        go_ret2
        exact ⟨by rw [HV2.out]; try rfl, (by repeat (first | exact Below.refl _ _ | (with_reducible assumption) | refine Below.setCell ?_ (by first | (simp; done) | (simp; omega) | (show w.heap.size ≤ wr.heap.size; omega)) _ | refine bel_trans ?_ (by with_reducible assumption) | refine bel_trans ?_ (below_regrown _ _ _) | refine bel_drew ?_ | refine bel_drewN ?_ _ | refine bel_alloc ?_ _ | refine bel_grow ?_ (by with_reducible assumption) (by omega)))⟩

set_option maxHeartbeats 4000000 in
set_option maxRecDepth 100000 in
theorem rof_9 (l : List Va) (A : Option Addr) (cap : Nat) (e : Ex) (ih : ∀ x ∈ e.sub, RofP l A cap x) (Ae : Option Addr) (ce : Nat) (w : World) (he : SubsAt w e Ae ce) (hl : VarsAt w l A cap) (h3 : e.sub.length ≤ 3) (hk : e.kind = 9) (hnm : e.name.toList.isEmpty = false) (kk : Nat) (v : Va) (hrf : refFind l e.name = (kk : Int)) (hx : l[kk]? = some v) (t0 : Int) (hts : Ex.typL l e.sub = ([t0], 0)) (h1 : e.sub.length = 1) (ht0 : t0 = 1 ∨ t0 = 2) (hv : e.typ l = if v.type = 2 then (t0, 0) else (0, 20)) :
    Calls Tryz.prog 84 #[exV e Ae ce, .slice A l.length cap] w fun r w' => r = .returned (.tuple #[.int .i64 (e.typ l).1, .int .i64 (e.typ l).2]) ∧ Below w.heap.size w w' := by
  have hkl : kk < l.length := (List.getElem?_eq_some_iff.1 hx).1
  have hkl2 : (kk : Int) < (l.length : Int) := by omega
  have hll := hl.len
  unfold maxLen at hll
  obtain ⟨hll1, hll2⟩ := hll
  have hfind := fun W h => refFind_any l A cap e.name W (hl.later h)
  rw [hrf] at hfind
  have hl0 := hl
  obtain ⟨bv, ov, rfl, hbv, ⟨v0, v1, v2, v3⟩⟩ := hl.get hx
  have hbv0 : bv < w.heap.size := hbv
  have tkk : ¬ ((kk : Int) < 0) := by omega
  clear hrf hx hl0
  have q1 : (e.kind == 1) = false := by rw [hk]; rfl
  have q2 : (e.kind == 2) = false := by rw [hk]; rfl
  have q3 : (e.kind == 3) = false := by rw [hk]; rfl
  have q4 : (e.kind == 4) = false := by rw [hk]; rfl
  have q5 : (e.kind == 5) = false := by rw [hk]; rfl
  have q6 : (e.kind == 6) = false := by rw [hk]; rfl
  have q7 : (e.kind == 7) = false := by rw [hk]; rfl
  have q8 : (e.kind == 8) = false := by rw [hk]; rfl
  have q9 : (e.kind == 9) = true := by rw [hk]; rfl
  have hts2 : (Ex.typL l e.sub).2 = 0 := by rw [hts]
  have HB := Lib.hid hts2; clear hts2
  have HTS := Lib.hid hts; clear hts
  have H1 := Lib.hid h1; clear h1
  clear hk
  have HV := Lib.hid hv; clear hv
  have hlen := he.len
  unfold maxLen at hlen
  obtain ⟨hl1, hl2⟩ := hlen
  have hT := Lib.hid (show joinT [] (Ex.typL l (e.sub.drop 0)) = Ex.typL l e.sub from joinT_nil _ (typL_err l e.sub))
  unfold exV
  go_enter Tryz.func84, Tryz.ntmps84
  go_wp2_with fail
  refine wp_name fun W0 hW0 => ?_
  have hb0 : Below w.heap.size w W0 := by rw [hW0]; exact belA
  have hz0 : w.heap.size < W0.heap.size := by rw [hW0]; first | omega | (simp; done) | (simp; omega)
  have p0 : W0.cell? ⟨w.heap.size, 0, none⟩ = some (.int .i64 e.kind) := by rw [hW0]; go_simp
  have p1 : W0.cell? ⟨w.heap.size, 1, none⟩ = some (.int .i32 e.n) := by rw [hW0]; go_simp
  have p2 : W0.cell? ⟨w.heap.size, 2, none⟩ = some (.string e.name) := by rw [hW0]; go_simp
  have p3 : W0.cell? ⟨w.heap.size, 3, none⟩ = some (.slice Ae e.sub.length ce) := by rw [hW0]; go_simp
  clear hW0
  replace he := he.later hb0
  replace hl := hl.later hb0
  go_loopw [6, 7] (fun v i wr => ∃ (k : Nat) (acc : List Int), k ≤ e.sub.length ∧ i = .int .i64 k ∧ acc.length = k ∧ wr.ownsRow W0.heap.size 3 1 v k (acc.map (Value.int .i64)) ∧ joinT acc (Ex.typL l (e.sub.drop k)) = Ex.typL l e.sub ∧ Below W0.heap.size W0 wr) (fun _ i _ => e.sub.length - (intOf i).toNat)
  case atStart => exact ⟨0, [], Nat.zero_le _, rfl, rfl, World.ownsRow_nil _ _ _ _, hT.out, Below.refl _ _⟩
  case round =>
    obtain ⟨k, acc, hk, rfl, hacc, hown, hrem, hbel⟩ := hrel
    have hc := bcell hbel
    have hzr := hbel.size
    have hz1 : w.heap.size < wr.heap.size := by omega
    have HACC := Lib.hid hacc; clear hacc
    by_cases hlt : k < e.sub.length
    · have hx : e.sub[k]? = some e.sub[k] := List.getElem?_eq_getElem hlt
      have hmem : e.sub[k] ∈ e.sub := List.getElem_mem hlt
      have hd : e.sub.drop k = e.sub[k] :: e.sub.drop (k + 1) := List.drop_eq_getElem_cons hlt
      generalize e.sub[k] = x at hx hmem hd
      obtain ⟨b, off, A', cap', rfl, c0, c1, c2, c3, hs⟩ := (he.later hbel).get hx
      rw [hd] at hrem
      have hof' := fun W h => ih x hmem A' cap' W h
      unfold exV at hof'
      cases hfx : ((x.typ l).2 != 0)
      · have h0 : (x.typ l).2 = 0 := by simpa using hfx
        rw [joinT_step l acc x _ h0] at hrem
        have HR := Lib.hid hrem; clear hrem hd hx h0
        go_wp2_with (first | (go_at_call 84; refine (hof' _ (hs.later belA) (hl.later belA)).mono ?_; rintro r w1 ⟨rfl, hb1⟩; have hc1 := bcell hb1; have hz1 := hb1.size; (try simp at hz1); (try have hy1 := lt0 w w1); (try have hy2 := ltA w 1 w1); (try have hy3 := ltA w 2 w1); (try have hy4 := lt0 wr w1); (try have hy5 := ltA wr 1 w1)) | (at_builtin; refine wpList_app rfl (.tmp 33) (.tmp 35) 63 rfl W0.heap.size 3 (.int .i64 0) 1 8 Tryz.underlying63 intinfo rfl (by omega) u6 k (acc.map (Value.int .i64)) _ 1 [.int .i64 (x.typ l).1] rfl (by repeat (first | (with_reducible assumption) | refine own_alloc ?_ | refine own_bel ?_ (by with_reducible assumption) | refine own_drew ?_)) rfl rfl (fun j u hj => by rw [cell_new]; simpa using hj) (by simp [Value.oneCell']) (by omega) (by omega) (by first | omega | (simp; omega)) ?_; intro v2 w2 hown2 hb2; have hz2 := hb2.size; (try simp at hz2)))
        go_roundw
        case rel => exact ⟨k + 1, acc ++ [(x.typ l).1], by omega, by go_num, by have := HACC.out; simp [this], by rw [List.map_append]; exact hown2, HR.out, belA⟩
        case measure => simp [intOf]; omega
      · exfalso
        have h0 : (x.typ l).2 ≠ 0 := by simpa using hfx
        rw [joinT_stop l acc x _ h0] at hrem
        exact h0 (by have := HB.out; rw [← hrem] at this; exact this)
    · have hke : k = e.sub.length := by omega
      rw [hke, List.drop_length, Ex.typL, joinT, if_pos rfl, List.append_nil, HTS.out] at hrem
      have hacc : acc = [t0] := by injection hrem
      subst hacc
      have hk1 : k = 1 := by have := H1.out; omega
      have HK := Lib.hid hke
      clear hrem hke
      rw [hk1] at hown
      obtain ⟨g, gc, rfl, hg1, hg2, hg3, hg4, hcells⟩ := own_get hown (by omega)
      unfold maxLen at hg4
      have e0 : wr.cell? ⟨g, 0, none⟩ = some (.int .i64 t0) := hcells 0 _ rfl
      have hg5 : g < wr.heap.size + 1 := by omega
      clear hcells hown hk1
      have hbw : Below w.heap.size w wr := bel_trans hb0 hbel
      have hcw := bcell hbw
      have hbvr : bv < wr.heap.size := by omega
      have hbvr1 : bv < wr.heap.size + 1 := by omega
      have hzr1 : w.heap.size < wr.heap.size + 1 := by omega
      have v0' := (hcw _ _ hbv0).trans v0
      have v1' := (hcw _ _ hbv0).trans v1
      have v2' := (hcw _ _ hbv0).trans v2
      have v3' := (hcw _ _ hbv0).trans v3
      clear hcw v0 v1 v2 v3
      rcases ht0 with rfl | rfl <;> by_cases hvt : v.type = 2
      · have t2 : (v.type == 2) = true := by rw [hvt]; rfl
        have hv2 := HV.out
        rw [if_pos hvt] at hv2
        have HV2 := Lib.hid hv2
        clear hvt hv2
        go_wp2_with (first | (go_at_call 19; go_loud (refine (hfind _ belA).mono ?_; rintro r w1 ⟨rfl, hb1⟩; have hc1 := bcell hb1; have hf1 := bfrozen hb1; have hzf := hb1.size; (try simp at hzf); (try have hy1 := lt0 w w1); (try have hy2 := ltA w 1 w1); (try have hy3 := ltA w 2 w1); (try have hy4 := lt0 wr w1); (try have hy5 := ltA wr 1 w1); have hbv1 : bv < w1.heap.size := (by omega); (try have hg1' : g < w1.heap.size := (by omega)))))
        go_ret2
        exact ⟨by rw [HV2.out]; try rfl, (by repeat (first | exact Below.refl _ _ | (with_reducible assumption) | refine Below.setCell ?_ (by first | (simp; done) | (simp; omega) | (show w.heap.size ≤ wr.heap.size; omega)) _ | refine bel_trans ?_ (by with_reducible assumption) | refine bel_trans ?_ (below_regrown _ _ _) | refine bel_drew ?_ | refine bel_drewN ?_ _ | refine bel_alloc ?_ _ | refine bel_grow ?_ (by with_reducible assumption) (by omega)))⟩
      · have t2 : (v.type == 2) = false := by simpa using hvt
        have hv2 := HV.out
        rw [if_neg hvt] at hv2
        have HV2 := Lib.hid hv2
        clear hvt hv2
        go_wp2_with (first | (go_at_call 19; go_loud (refine (hfind _ belA).mono ?_; rintro r w1 ⟨rfl, hb1⟩; have hc1 := bcell hb1; have hf1 := bfrozen hb1; have hzf := hb1.size; (try simp at hzf); (try have hy1 := lt0 w w1); (try have hy2 := ltA w 1 w1); (try have hy3 := ltA w 2 w1); (try have hy4 := lt0 wr w1); (try have hy5 := ltA wr 1 w1); have hbv1 : bv < w1.heap.size := (by omega); (try have hg1' : g < w1.heap.size := (by omega)))))
        go_ret2
        exact ⟨by rw [HV2.out]; try rfl, (by repeat (first | exact Below.refl _ _ | (with_reducible assumption) | refine Below.setCell ?_ (by first | (simp; done) | (simp; omega) | (show w.heap.size ≤ wr.heap.size; omega)) _ | refine bel_trans ?_ (by with_reducible assumption) | refine bel_trans ?_ (below_regrown _ _ _) | refine bel_drew ?_ | refine bel_drewN ?_ _ | refine bel_alloc ?_ _ | refine bel_grow ?_ (by with_reducible assumption) (by omega)))⟩
      · have t2 : (v.type == 2) = true := by rw [hvt]; rfl
        have hv2 := HV.out
        rw [if_pos hvt] at hv2
        have HV2 := Lib.hid hv2
        clear hvt hv2
        go_wp2_with (first | (go_at_call 19; go_loud (refine (hfind _ belA).mono ?_; rintro r w1 ⟨rfl, hb1⟩; have hc1 := bcell hb1; have hf1 := bfrozen hb1; have hzf := hb1.size; (try simp at hzf); (try have hy1 := lt0 w w1); (try have hy2 := ltA w 1 w1); (try have hy3 := ltA w 2 w1); (try have hy4 := lt0 wr w1); (try have hy5 := ltA wr 1 w1); have hbv1 : bv < w1.heap.size := (by omega); (try have hg1' : g < w1.heap.size := (by omega)))))
        go_ret2
        exact ⟨by rw [HV2.out]; try rfl, (by repeat (first | exact Below.refl _ _ | (with_reducible assumption) | refine Below.setCell ?_ (by first | (simp; done) | (simp; omega) | (show w.heap.size ≤ wr.heap.size; omega)) _ | refine bel_trans ?_ (by with_reducible assumption) | refine bel_trans ?_ (below_regrown _ _ _) | refine bel_drew ?_ | refine bel_drewN ?_ _ | refine bel_alloc ?_ _ | refine bel_grow ?_ (by with_reducible assumption) (by omega)))⟩
      · have t2 : (v.type == 2) = false := by simpa using hvt
        have hv2 := HV.out
        rw [if_neg hvt] at hv2
        have HV2 := Lib.hid hv2
        clear hvt hv2
        go_wp2_with (first | (go_at_call 19; go_loud (refine (hfind _ belA).mono ?_; rintro r w1 ⟨rfl, hb1⟩; have hc1 := bcell hb1; have hf1 := bfrozen hb1; have hzf := hb1.size; (try simp at hzf); (try have hy1 := lt0 w w1); (try have hy2 := ltA w 1 w1); (try have hy3 := ltA w 2 w1); (try have hy4 := lt0 wr w1); (try have hy5 := ltA wr 1 w1); have hbv1 : bv < w1.heap.size := (by omega); (try have hg1' : g < w1.heap.size := (by omega)))))
        go_ret2
        exact ⟨by rw [HV2.out]; try rfl, (by repeat (first | exact Below.refl _ _ | (with_reducible assumption) | refine Below.setCell ?_ (by first | (simp; done) | (simp; omega) | (show w.heap.size ≤ wr.heap.size; omega)) _ | refine bel_trans ?_ (by with_reducible assumption) | refine bel_trans ?_ (below_regrown _ _ _) | refine bel_drew ?_ | refine bel_drewN ?_ _ | refine bel_alloc ?_ _ | refine bel_grow ?_ (by with_reducible assumption) (by omega)))⟩

end Go.Proofs.YtikmbkojnfmiaaaGreatDoorRRRR

/- Walk over the reference's of: the arrow. -/
namespace Go.Proofs.YtikmbkojnfmiaaaGreatDoorRRRR
open Go.RowKit Go.Sort

set_option maxHeartbeats 4000000 in
set_option maxRecDepth 100000 in
theorem rof_7 (l : List Va) (A : Option Addr) (cap : Nat) (e : Ex) (ih : ∀ x ∈ e.sub, RofP l A cap x) (Ae : Option Addr) (ce : Nat) (w : World) (he : SubsAt w e Ae ce) (hl : VarsAt w l A cap) (h3 : e.sub.length ≤ 3) (hk : e.kind = 7) (hnm : e.name.toList.isEmpty = true) (t0 t1 : Int) (hts : Ex.typL l e.sub = ([t0, t1], 0)) (h1 : e.sub.length = 2) (ht0 : t0 = 1 ∨ t0 = 2) (ht1 : t1 = 1 ∨ t1 = 2) (hv : e.typ l = if t0 = t1 then (t0, 0) else (0, 20)) :
    Calls Tryz.prog 84 #[exV e Ae ce, .slice A l.length cap] w fun r w' => r = .returned (.tuple #[.int .i64 (e.typ l).1, .int .i64 (e.typ l).2]) ∧ Below w.heap.size w w' := by
  have q1 : (e.kind == 1) = false := by rw [hk]; rfl
  have q2 : (e.kind == 2) = false := by rw [hk]; rfl
  have q3 : (e.kind == 3) = false := by rw [hk]; rfl
  have q4 : (e.kind == 4) = false := by rw [hk]; rfl
  have q5 : (e.kind == 5) = false := by rw [hk]; rfl
  have q6 : (e.kind == 6) = false := by rw [hk]; rfl
  have q7 : (e.kind == 7) = true := by rw [hk]; rfl
  have hts2 : (Ex.typL l e.sub).2 = 0 := by rw [hts]
  have HB := Lib.hid hts2; clear hts2
  have HTS := Lib.hid hts; clear hts
  have H1 := Lib.hid h1; clear h1
  clear hk
  have HV := Lib.hid hv; clear hv
  have hlen := he.len
  unfold maxLen at hlen
  obtain ⟨hl1, hl2⟩ := hlen
  have hT := Lib.hid (show joinT [] (Ex.typL l (e.sub.drop 0)) = Ex.typL l e.sub from joinT_nil _ (typL_err l e.sub))
  unfold exV
  go_enter Tryz.func84, Tryz.ntmps84
  go_wp2_with fail
  refine wp_name fun W0 hW0 => ?_
  have hb0 : Below w.heap.size w W0 := by rw [hW0]; exact belA
  have hz0 : w.heap.size < W0.heap.size := by rw [hW0]; first | omega | (simp; done) | (simp; omega)
  have p0 : W0.cell? ⟨w.heap.size, 0, none⟩ = some (.int .i64 e.kind) := by rw [hW0]; go_simp
  have p1 : W0.cell? ⟨w.heap.size, 1, none⟩ = some (.int .i32 e.n) := by rw [hW0]; go_simp
  have p2 : W0.cell? ⟨w.heap.size, 2, none⟩ = some (.string e.name) := by rw [hW0]; go_simp
  have p3 : W0.cell? ⟨w.heap.size, 3, none⟩ = some (.slice Ae e.sub.length ce) := by rw [hW0]; go_simp
  clear hW0
  replace he := he.later hb0
  replace hl := hl.later hb0
  go_loopw [6, 7] (fun v i wr => ∃ (k : Nat) (acc : List Int), k ≤ e.sub.length ∧ i = .int .i64 k ∧ acc.length = k ∧ wr.ownsRow W0.heap.size 3 1 v k (acc.map (Value.int .i64)) ∧ joinT acc (Ex.typL l (e.sub.drop k)) = Ex.typL l e.sub ∧ Below W0.heap.size W0 wr) (fun _ i _ => e.sub.length - (intOf i).toNat)
  case atStart => exact ⟨0, [], Nat.zero_le _, rfl, rfl, World.ownsRow_nil _ _ _ _, hT.out, Below.refl _ _⟩
  case round =>
    obtain ⟨k, acc, hk, rfl, hacc, hown, hrem, hbel⟩ := hrel
    have hc := bcell hbel
    have hzr := hbel.size
    have hz1 : w.heap.size < wr.heap.size := by omega
    have HACC := Lib.hid hacc; clear hacc
    by_cases hlt : k < e.sub.length
    · have hx : e.sub[k]? = some e.sub[k] := List.getElem?_eq_getElem hlt
      have hmem : e.sub[k] ∈ e.sub := List.getElem_mem hlt
      have hd : e.sub.drop k = e.sub[k] :: e.sub.drop (k + 1) := List.drop_eq_getElem_cons hlt
      generalize e.sub[k] = x at hx hmem hd
      obtain ⟨b, off, A', cap', rfl, c0, c1, c2, c3, hs⟩ := (he.later hbel).get hx
      rw [hd] at hrem
      have hof' := fun W h => ih x hmem A' cap' W h
      unfold exV at hof'
      cases hfx : ((x.typ l).2 != 0)
      · have h0 : (x.typ l).2 = 0 := by simpa using hfx
        rw [joinT_step l acc x _ h0] at hrem
        have HR := Lib.hid hrem; clear hrem hd hx h0
        go_wp2_with (first | (go_at_call 84; refine (hof' _ (hs.later belA) (hl.later belA)).mono ?_; rintro r w1 ⟨rfl, hb1⟩; have hc1 := bcell hb1; have hz1 := hb1.size; (try simp at hz1); (try have hy1 := lt0 w w1); (try have hy2 := ltA w 1 w1); (try have hy3 := ltA w 2 w1); (try have hy4 := lt0 wr w1); (try have hy5 := ltA wr 1 w1)) | (at_builtin; refine wpList_app rfl (.tmp 33) (.tmp 35) 63 rfl W0.heap.size 3 (.int .i64 0) 1 8 Tryz.underlying63 intinfo rfl (by omega) u6 k (acc.map (Value.int .i64)) _ 1 [.int .i64 (x.typ l).1] rfl (by repeat (first | (with_reducible assumption) | refine own_alloc ?_ | refine own_bel ?_ (by with_reducible assumption) | refine own_drew ?_)) rfl rfl (fun j u hj => by rw [cell_new]; simpa using hj) (by simp [Value.oneCell']) (by omega) (by omega) (by first | omega | (simp; omega)) ?_; intro v2 w2 hown2 hb2; have hz2 := hb2.size; (try simp at hz2)))
        go_roundw
        case rel => exact ⟨k + 1, acc ++ [(x.typ l).1], by omega, by go_num, by have := HACC.out; simp [this], by rw [List.map_append]; exact hown2, HR.out, belA⟩
        case measure => simp [intOf]; omega
      · exfalso
        have h0 : (x.typ l).2 ≠ 0 := by simpa using hfx
        rw [joinT_stop l acc x _ h0] at hrem
        exact h0 (by have := HB.out; rw [← hrem] at this; exact this)
    · have hke : k = e.sub.length := by omega
      rw [hke, List.drop_length, Ex.typL, joinT, if_pos rfl, List.append_nil, HTS.out] at hrem
      have hacc : acc = [t0, t1] := by injection hrem
      subst hacc
      have hk1 : k = 2 := by have := H1.out; omega
      have HK := Lib.hid hke
      clear hrem hke
      rw [hk1] at hown
      obtain ⟨g, gc, rfl, hg1, hg2, hg3, hg4, hcells⟩ := own_get hown (by omega)
      unfold maxLen at hg4
      have e0 : wr.cell? ⟨g, 0, none⟩ = some (.int .i64 t0) := hcells 0 _ rfl
      have e1 : wr.cell? ⟨g, 1, none⟩ = some (.int .i64 t1) := hcells 1 _ rfl
      have hg5 : g < wr.heap.size + 1 := by omega
      have hn2 : (1 : Int) < ((2 : Nat) : Int) := by omega
      clear hcells hown hk1
      rcases ht0 with rfl | rfl <;> rcases ht1 with rfl | rfl
      · have hv2 := HV.out
        rw [if_pos rfl] at hv2
        have HV2 := Lib.hid hv2
        clear hv2
        go_wp2_with fail
        go_quiet ((go_at_call 98; exact Calls.quiet_of_same ((both_any _ _ _).mono fun _ _ h => ⟨h.1, h.2.symm⟩)))
        go_wp2_with fail
        go_ret2
        exact ⟨by rw [HV2.out]; try rfl, (by repeat (first | exact Below.refl _ _ | (with_reducible assumption) | refine Below.setCell ?_ (by first | (simp; done) | (simp; omega) | (show w.heap.size ≤ wr.heap.size; omega)) _ | refine bel_trans ?_ (by with_reducible assumption) | refine bel_trans ?_ (below_regrown _ _ _) | refine bel_drew ?_ | refine bel_drewN ?_ _ | refine bel_alloc ?_ _ | refine bel_grow ?_ (by with_reducible assumption) (by omega)))⟩
      · have hv2 := HV.out
        rw [if_neg (by omega)] at hv2
        have HV2 := Lib.hid hv2
        clear hv2
        go_wp2_with fail
        go_quiet ((go_at_call 98; exact Calls.quiet_of_same ((both_any _ _ _).mono fun _ _ h => ⟨h.1, h.2.symm⟩)))
        go_wp2_with fail
        go_ret2
        exact ⟨by rw [HV2.out]; try rfl, (by repeat (first | exact Below.refl _ _ | (with_reducible assumption) | refine Below.setCell ?_ (by first | (simp; done) | (simp; omega) | (show w.heap.size ≤ wr.heap.size; omega)) _ | refine bel_trans ?_ (by with_reducible assumption) | refine bel_trans ?_ (below_regrown _ _ _) | refine bel_drew ?_ | refine bel_drewN ?_ _ | refine bel_alloc ?_ _ | refine bel_grow ?_ (by with_reducible assumption) (by omega)))⟩
      · have hv2 := HV.out
        rw [if_neg (by omega)] at hv2
        have HV2 := Lib.hid hv2
        clear hv2
        go_wp2_with fail
        go_quiet ((go_at_call 98; exact Calls.quiet_of_same ((both_any _ _ _).mono fun _ _ h => ⟨h.1, h.2.symm⟩)))
        go_wp2_with fail
        go_ret2
        exact ⟨by rw [HV2.out]; try rfl, (by repeat (first | exact Below.refl _ _ | (with_reducible assumption) | refine Below.setCell ?_ (by first | (simp; done) | (simp; omega) | (show w.heap.size ≤ wr.heap.size; omega)) _ | refine bel_trans ?_ (by with_reducible assumption) | refine bel_trans ?_ (below_regrown _ _ _) | refine bel_drew ?_ | refine bel_drewN ?_ _ | refine bel_alloc ?_ _ | refine bel_grow ?_ (by with_reducible assumption) (by omega)))⟩
      · have hv2 := HV.out
        rw [if_pos rfl] at hv2
        have HV2 := Lib.hid hv2
        clear hv2
        go_wp2_with fail
        go_quiet ((go_at_call 98; exact Calls.quiet_of_same ((both_any _ _ _).mono fun _ _ h => ⟨h.1, h.2.symm⟩)))
        go_wp2_with fail
        go_ret2
        exact ⟨by rw [HV2.out]; try rfl, (by repeat (first | exact Below.refl _ _ | (with_reducible assumption) | refine Below.setCell ?_ (by first | (simp; done) | (simp; omega) | (show w.heap.size ≤ wr.heap.size; omega)) _ | refine bel_trans ?_ (by with_reducible assumption) | refine bel_trans ?_ (below_regrown _ _ _) | refine bel_drew ?_ | refine bel_drewN ?_ _ | refine bel_alloc ?_ _ | refine bel_grow ?_ (by with_reducible assumption) (by omega)))⟩

end Go.Proofs.YtikmbkojnfmiaaaGreatDoorRRRR
