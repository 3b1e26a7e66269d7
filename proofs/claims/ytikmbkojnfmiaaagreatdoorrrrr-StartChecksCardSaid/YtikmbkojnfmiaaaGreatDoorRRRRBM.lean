/- Walk over the reference's of: merge. -/
import Derived.Test.YtikmbkojnfmiaaaGreatDoorRRRRBL
import Derived.IntWalk
import Derived.Test.YtikmbkojnfmiaaaGreatDoorRRRRBE
import Derived.Test.YtikmbkojnfmiaaaGreatDoorRRRRWRefTree
import Derived.Test.YtikmbkojnfmiaaaGreatDoorRRRRBI
set_option linter.unusedVariables false
set_option linter.unusedSimpArgs false
set_option maxRecDepth 100000
namespace Go.Proofs.YtikmbkojnfmiaaaGreatDoorRRRR
open Go.RowKit Go.Sort

set_option maxHeartbeats 4000000 in
set_option maxRecDepth 100000 in
theorem rof_10 (l : List Va) (A : Option Addr) (cap : Nat) (e : Ex) (ih : ∀ x ∈ e.sub, RofP l A cap x) (Ae : Option Addr) (ce : Nat) (w : World) (he : SubsAt w e Ae ce) (hl : VarsAt w l A cap) (h3 : e.sub.length ≤ 3) (hk : e.kind = 10) (hnm : e.name.toList.isEmpty = false) (kk : Nat) (v : Va) (hrf : refFind l e.name = (kk : Int)) (hx : l[kk]? = some v) (t0 t1 : Int) (hts : Ex.typL l e.sub = ([t0, t1], 0)) (h1 : e.sub.length = 2) (ht0 : t0 = 1 ∨ t0 = 2) (ht1 : t1 = 1 ∨ t1 = 2) (hvt : v.type = 2) (hv : e.typ l = if t0 = t1 then (t0, 0) else (0, 20)) :
    Calls Tryz.prog 84 #[exV e Ae ce, .slice A l.length cap] w fun r w' => r = .returned (.tuple #[.int .i64 (e.typ l).1, .int .i64 (e.typ l).2]) ∧ Below w.heap.size w w' := by
  have hkl : kk < l.length := (List.getElem?_eq_some_iff.1 hx).1
  have hkl2 : (kk : Int) < (l.length : Int) := by omega
  have hll := hl.len
  unfold maxLen at hll
  obtain ⟨hll1, hll2⟩ := hll
  have hfind := fun W h => refFind_any l A cap e.name W (hl.later h)
  rw [hrf] at hfind
  have hl0 := hl
  obtain ⟨bv, ov, rfl, hbv, ⟨v0, v1, v2, v3⟩⟩ := hl.get hx
  have hbv0 : bv < w.heap.size := hbv
  have tkk : ¬ ((kk : Int) < 0) := by omega
  clear hrf hx hl0
  have q1 : (e.kind == 1) = false := by rw [hk]; rfl
  have q2 : (e.kind == 2) = false := by rw [hk]; rfl
  have q3 : (e.kind == 3) = false := by rw [hk]; rfl
  have q4 : (e.kind == 4) = false := by rw [hk]; rfl
  have q5 : (e.kind == 5) = false := by rw [hk]; rfl
  have q6 : (e.kind == 6) = false := by rw [hk]; rfl
  have q7 : (e.kind == 7) = false := by rw [hk]; rfl
  have q8 : (e.kind == 8) = false := by rw [hk]; rfl
  have q9 : (e.kind == 9) = false := by rw [hk]; rfl
  have q10 : (e.kind == 10) = true := by rw [hk]; rfl
  have t2 : (v.type == 2) = true := by rw [hvt]; rfl
  clear hvt
  have hts2 : (Ex.typL l e.sub).2 = 0 := by rw [hts]
  have HB := Lib.hid hts2; clear hts2
  have HTS := Lib.hid hts; clear hts
  have H1 := Lib.hid h1; clear h1
  clear hk
  have HV := Lib.hid hv; clear hv
  have hlen := he.len
  unfold maxLen at hlen
  obtain ⟨hl1, hl2⟩ := hlen
  have hT := Lib.hid (show joinT [] (Ex.typL l (e.sub.drop 0)) = Ex.typL l e.sub from joinT_nil _ (typL_err l e.sub))
  unfold exV
  go_enter Tryz.func84, Tryz.ntmps84
  go_wp2_with fail
  refine wp_name fun W0 hW0 => ?_
  have hb0 : Below w.heap.size w W0 := by rw [hW0]; exact belA
  have hz0 : w.heap.size < W0.heap.size := by rw [hW0]; first | omega | (simp; done) | (simp; omega)
  have p0 : W0.cell? ⟨w.heap.size, 0, none⟩ = some (.int .i64 e.kind) := by rw [hW0]; go_simp
  have p1 : W0.cell? ⟨w.heap.size, 1, none⟩ = some (.int .i32 e.n) := by rw [hW0]; go_simp
  have p2 : W0.cell? ⟨w.heap.size, 2, none⟩ = some (.string e.name) := by rw [hW0]; go_simp
  have p3 : W0.cell? ⟨w.heap.size, 3, none⟩ = some (.slice Ae e.sub.length ce) := by rw [hW0]; go_simp
  clear hW0
  replace he := he.later hb0
  replace hl := hl.later hb0
  go_loopw [6, 7] (fun v i wr => ∃ (k : Nat) (acc : List Int), k ≤ e.sub.length ∧ i = .int .i64 k ∧ acc.length = k ∧ wr.ownsRow W0.heap.size 3 1 v k (acc.map (Value.int .i64)) ∧ joinT acc (Ex.typL l (e.sub.drop k)) = Ex.typL l e.sub ∧ Below W0.heap.size W0 wr) (fun _ i _ => e.sub.length - (intOf i).toNat)
  case atStart => exact ⟨0, [], Nat.zero_le _, rfl, rfl, World.ownsRow_nil _ _ _ _, hT.out, Below.refl _ _⟩
  case round =>
    obtain ⟨k, acc, hk, rfl, hacc, hown, hrem, hbel⟩ := hrel
    have hc := bcell hbel
    have hzr := hbel.size
    have hz1 : w.heap.size < wr.heap.size := by omega
    have HACC := Lib.hid hacc; clear hacc
    by_cases hlt : k < e.sub.length
    · have hx : e.sub[k]? = some e.sub[k] := List.getElem?_eq_getElem hlt
      have hmem : e.sub[k] ∈ e.sub := List.getElem_mem hlt
      have hd : e.sub.drop k = e.sub[k] :: e.sub.drop (k + 1) := List.drop_eq_getElem_cons hlt
      generalize e.sub[k] = x at hx hmem hd
      obtain ⟨b, off, A', cap', rfl, c0, c1, c2, c3, hs⟩ := (he.later hbel).get hx
      rw [hd] at hrem
      have hof' := fun W h => ih x hmem A' cap' W h
      unfold exV at hof'
      cases hfx : ((x.typ l).2 != 0)
      · have h0 : (x.typ l).2 = 0 := by simpa using hfx
        rw [joinT_step l acc x _ h0] at hrem
        have HR := Lib.hid hrem; clear hrem hd hx h0
        go_wp2_with (first | (go_at_call 84; refine (hof' _ (hs.later belA) (hl.later belA)).mono ?_; rintro r w1 ⟨rfl, hb1⟩; have hc1 := bcell hb1; have hz1 := hb1.size; (try simp at hz1); (try have hy1 := lt0 w w1); (try have hy2 := ltA w 1 w1); (try have hy3 := ltA w 2 w1); (try have hy4 := lt0 wr w1); (try have hy5 := ltA wr 1 w1)) | (at_builtin; refine wpList_app rfl (.tmp 33) (.tmp 35) 63 rfl W0.heap.size 3 (.int .i64 0) 1 8 Tryz.underlying63 intinfo rfl (by omega) u6 k (acc.map (Value.int .i64)) _ 1 [.int .i64 (x.typ l).1] rfl (by repeat (first | (with_reducible assumption) | refine own_alloc ?_ | refine own_bel ?_ (by with_reducible assumption) | refine own_drew ?_)) rfl rfl (fun j u hj => by rw [cell_new]; simpa using hj) (by simp [Value.oneCell']) (by omega) (by omega) (by first | omega | (simp; omega)) ?_; intro v2 w2 hown2 hb2; have hz2 := hb2.size; (try simp at hz2)))
        go_roundw
        case rel => exact ⟨k + 1, acc ++ [(x.typ l).1], by omega, by go_num, by have := HACC.out; simp [this], by rw [List.map_append]; exact hown2, HR.out, belA⟩
        case measure => simp [intOf]; omega
      · exfalso
        have h0 : (x.typ l).2 ≠ 0 := by simpa using hfx
        rw [joinT_stop l acc x _ h0] at hrem
        exact h0 (by have := HB.out; rw [← hrem] at this; exact this)
    · have hke : k = e.sub.length := by omega
      rw [hke, List.drop_length, Ex.typL, joinT, if_pos rfl, List.append_nil, HTS.out] at hrem
      have hacc : acc = [t0, t1] := by injection hrem
      subst hacc
      have hk1 : k = 2 := by have := H1.out; omega
      have HK := Lib.hid hke
      clear hrem hke
      rw [hk1] at hown
      obtain ⟨g, gc, rfl, hg1, hg2, hg3, hg4, hcells⟩ := own_get hown (by omega)
      unfold maxLen at hg4
      have e0 : wr.cell? ⟨g, 0, none⟩ = some (.int .i64 t0) := hcells 0 _ rfl
      have e1 : wr.cell? ⟨g, 1, none⟩ = some (.int .i64 t1) := hcells 1 _ rfl
      have hg5 : g < wr.heap.size + 1 := by omega
      have hn1 : (1 : Int) < ((2 : Nat) : Int) := by omega
      clear hcells hown hk1
      have hbw : Below w.heap.size w wr := bel_trans hb0 hbel
      have hcw := bcell hbw
      have hbvr : bv < wr.heap.size := by omega
      have hbvr1 : bv < wr.heap.size + 1 := by omega
      have hzr1 : w.heap.size < wr.heap.size + 1 := by omega
      have v0' := (hcw _ _ hbv0).trans v0
      have v1' := (hcw _ _ hbv0).trans v1
      have v2' := (hcw _ _ hbv0).trans v2
      have v3' := (hcw _ _ hbv0).trans v3
      clear hcw v0 v1 v2 v3
      rcases ht0 with rfl | rfl <;> rcases ht1 with rfl | rfl
      · have hv2 := HV.out
        rw [if_pos rfl] at hv2
        have HV2 := Lib.hid hv2
        clear hv2
        go_wp2_with (first | (go_at_call 19; go_loud (refine (hfind _ belA).mono ?_; rintro r w1 ⟨rfl, hb1⟩; have hc1 := bcell hb1; have hf1 := bfrozen hb1; have hzf := hb1.size; (try simp at hzf); (try have hy1 := lt0 w w1); (try have hy2 := ltA w 1 w1); (try have hy3 := ltA w 2 w1); (try have hy4 := lt0 wr w1); (try have hy5 := ltA wr 1 w1); have hbv1 : bv < w1.heap.size := (by omega); (try have hg1' : g < w1.heap.size := (by omega)))))
        go_quiet ((go_at_call 98; exact Calls.quiet_of_same ((both_any _ _ _).mono fun _ _ h => ⟨h.1, h.2.symm⟩)))
        go_wp2_with fail
        go_ret2
        exact ⟨by rw [HV2.out]; try rfl, (by repeat (first | exact Below.refl _ _ | (with_reducible assumption) | refine Below.setCell ?_ (by first | (simp; done) | (simp; omega) | (show w.heap.size ≤ wr.heap.size; omega)) _ | refine bel_trans ?_ (by with_reducible assumption) | refine bel_trans ?_ (below_regrown _ _ _) | refine bel_drew ?_ | refine bel_drewN ?_ _ | refine bel_alloc ?_ _ | refine bel_grow ?_ (by with_reducible assumption) (by omega)))⟩
      · have hv2 := HV.out
        rw [if_neg (by omega)] at hv2
        have HV2 := Lib.hid hv2
        clear hv2
        go_wp2_with (first | (go_at_call 19; go_loud (refine (hfind _ belA).mono ?_; rintro r w1 ⟨rfl, hb1⟩; have hc1 := bcell hb1; have hf1 := bfrozen hb1; have hzf := hb1.size; (try simp at hzf); (try have hy1 := lt0 w w1); (try have hy2 := ltA w 1 w1); (try have hy3 := ltA w 2 w1); (try have hy4 := lt0 wr w1); (try have hy5 := ltA wr 1 w1); have hbv1 : bv < w1.heap.size := (by omega); (try have hg1' : g < w1.heap.size := (by omega)))))
        go_quiet ((go_at_call 98; exact Calls.quiet_of_same ((both_any _ _ _).mono fun _ _ h => ⟨h.1, h.2.symm⟩)))
        go_wp2_with fail
        go_ret2
        exact ⟨by rw [HV2.out]; try rfl, (by repeat (first | exact Below.refl _ _ | (with_reducible assumption) | refine Below.setCell ?_ (by first | (simp; done) | (simp; omega) | (show w.heap.size ≤ wr.heap.size; omega)) _ | refine bel_trans ?_ (by with_reducible assumption) | refine bel_trans ?_ (below_regrown _ _ _) | refine bel_drew ?_ | refine bel_drewN ?_ _ | refine bel_alloc ?_ _ | refine bel_grow ?_ (by with_reducible assumption) (by omega)))⟩
      · have hv2 := HV.out
        rw [if_neg (by omega)] at hv2
        have HV2 := Lib.hid hv2
        clear hv2
        go_wp2_with (first | (go_at_call 19; go_loud (refine (hfind _ belA).mono ?_; rintro r w1 ⟨rfl, hb1⟩; have hc1 := bcell hb1; have hf1 := bfrozen hb1; have hzf := hb1.size; (try simp at hzf); (try have hy1 := lt0 w w1); (try have hy2 := ltA w 1 w1); (try have hy3 := ltA w 2 w1); (try have hy4 := lt0 wr w1); (try have hy5 := ltA wr 1 w1); have hbv1 : bv < w1.heap.size := (by omega); (try have hg1' : g < w1.heap.size := (by omega)))))
        go_quiet ((go_at_call 98; exact Calls.quiet_of_same ((both_any _ _ _).mono fun _ _ h => ⟨h.1, h.2.symm⟩)))
        go_wp2_with fail
        go_ret2
        exact ⟨by rw [HV2.out]; try rfl, (by repeat (first | exact Below.refl _ _ | (with_reducible assumption) | refine Below.setCell ?_ (by first | (simp; done) | (simp; omega) | (show w.heap.size ≤ wr.heap.size; omega)) _ | refine bel_trans ?_ (by with_reducible assumption) | refine bel_trans ?_ (below_regrown _ _ _) | refine bel_drew ?_ | refine bel_drewN ?_ _ | refine bel_alloc ?_ _ | refine bel_grow ?_ (by with_reducible assumption) (by omega)))⟩
      · have hv2 := HV.out
        rw [if_pos rfl] at hv2
        have HV2 := Lib.hid hv2
        clear hv2
        go_wp2_with (first | (go_at_call 19; go_loud (refine (hfind _ belA).mono ?_; rintro r w1 ⟨rfl, hb1⟩; have hc1 := bcell hb1; have hf1 := bfrozen hb1; have hzf := hb1.size; (try simp at hzf); (try have hy1 := lt0 w w1); (try have hy2 := ltA w 1 w1); (try have hy3 := ltA w 2 w1); (try have hy4 := lt0 wr w1); (try have hy5 := ltA wr 1 w1); have hbv1 : bv < w1.heap.size := (by omega); (try have hg1' : g < w1.heap.size := (by omega)))))
        go_quiet ((go_at_call 98; exact Calls.quiet_of_same ((both_any _ _ _).mono fun _ _ h => ⟨h.1, h.2.symm⟩)))
        go_wp2_with fail
        go_ret2
        exact ⟨by rw [HV2.out]; try rfl, (by repeat (first | exact Below.refl _ _ | (with_reducible assumption) | refine Below.setCell ?_ (by first | (simp; done) | (simp; omega) | (show w.heap.size ≤ wr.heap.size; omega)) _ | refine bel_trans ?_ (by with_reducible assumption) | refine bel_trans ?_ (below_regrown _ _ _) | refine bel_drew ?_ | refine bel_drewN ?_ _ | refine bel_alloc ?_ _ | refine bel_grow ?_ (by with_reducible assumption) (by omega)))⟩

set_option maxHeartbeats 4000000 in
set_option maxRecDepth 100000 in
theorem rof_10n (l : List Va) (A : Option Addr) (cap : Nat) (e : Ex) (ih : ∀ x ∈ e.sub, RofP l A cap x) (Ae : Option Addr) (ce : Nat) (w : World) (he : SubsAt w e Ae ce) (hl : VarsAt w l A cap) (h3 : e.sub.length ≤ 3) (hk : e.kind = 10) (hnm : e.name.toList.isEmpty = false) (kk : Nat) (v : Va) (hrf : refFind l e.name = (kk : Int)) (hx : l[kk]? = some v) (t0 t1 : Int) (hts : Ex.typL l e.sub = ([t0, t1], 0)) (h1 : e.sub.length = 2) (ht0 : t0 = 1 ∨ t0 = 2) (ht1 : t1 = 1 ∨ t1 = 2) (hvt : v.type ≠ 2) (hv : e.typ l = (0, 20)) :
    Calls Tryz.prog 84 #[exV e Ae ce, .slice A l.length cap] w fun r w' => r = .returned (.tuple #[.int .i64 (e.typ l).1, .int .i64 (e.typ l).2]) ∧ Below w.heap.size w w' := by
  have hkl : kk < l.length := (List.getElem?_eq_some_iff.1 hx).1
  have hkl2 : (kk : Int) < (l.length : Int) := by omega
  have hll := hl.len
  unfold maxLen at hll
  obtain ⟨hll1, hll2⟩ := hll
  have hfind := fun W h => refFind_any l A cap e.name W (hl.later h)
  rw [hrf] at hfind
  have hl0 := hl
  obtain ⟨bv, ov, rfl, hbv, ⟨v0, v1, v2, v3⟩⟩ := hl.get hx
  have hbv0 : bv < w.heap.size := hbv
  have tkk : ¬ ((kk : Int) < 0) := by omega
  clear hrf hx hl0
  have q1 : (e.kind == 1) = false := by rw [hk]; rfl
  have q2 : (e.kind == 2) = false := by rw [hk]; rfl
  have q3 : (e.kind == 3) = false := by rw [hk]; rfl
  have q4 : (e.kind == 4) = false := by rw [hk]; rfl
  have q5 : (e.kind == 5) = false := by rw [hk]; rfl
  have q6 : (e.kind == 6) = false := by rw [hk]; rfl
  have q7 : (e.kind == 7) = false := by rw [hk]; rfl
  have q8 : (e.kind == 8) = false := by rw [hk]; rfl
  have q9 : (e.kind == 9) = false := by rw [hk]; rfl
  have q10 : (e.kind == 10) = true := by rw [hk]; rfl
  have t2 : (v.type == 2) = false := by simpa using hvt
  clear hvt
  have hts2 : (Ex.typL l e.sub).2 = 0 := by rw [hts]
  have HB := Lib.hid hts2; clear hts2
  have HTS := Lib.hid hts; clear hts
  have H1 := Lib.hid h1; clear h1
  clear hk
  have HV := Lib.hid hv; clear hv
  have hlen := he.len
  unfold maxLen at hlen
  obtain ⟨hl1, hl2⟩ := hlen
  have hT := Lib.hid (show joinT [] (Ex.typL l (e.sub.drop 0)) = Ex.typL l e.sub from joinT_nil _ (typL_err l e.sub))
  unfold exV
  go_enter Tryz.func84, Tryz.ntmps84
  go_wp2_with fail
  refine wp_name fun W0 hW0 => ?_
  have hb0 : Below w.heap.size w W0 := by rw [hW0]; exact belA
  have hz0 : w.heap.size < W0.heap.size := by rw [hW0]; first | omega | (simp; done) | (simp; omega)
  have p0 : W0.cell? ⟨w.heap.size, 0, none⟩ = some (.int .i64 e.kind) := by rw [hW0]; go_simp
  have p1 : W0.cell? ⟨w.heap.size, 1, none⟩ = some (.int .i32 e.n) := by rw [hW0]; go_simp
  have p2 : W0.cell? ⟨w.heap.size, 2, none⟩ = some (.string e.name) := by rw [hW0]; go_simp
  have p3 : W0.cell? ⟨w.heap.size, 3, none⟩ = some (.slice Ae e.sub.length ce) := by rw [hW0]; go_simp
  clear hW0
  replace he := he.later hb0
  replace hl := hl.later hb0
  go_loopw [6, 7] (fun v i wr => ∃ (k : Nat) (acc : List Int), k ≤ e.sub.length ∧ i = .int .i64 k ∧ acc.length = k ∧ wr.ownsRow W0.heap.size 3 1 v k (acc.map (Value.int .i64)) ∧ joinT acc (Ex.typL l (e.sub.drop k)) = Ex.typL l e.sub ∧ Below W0.heap.size W0 wr) (fun _ i _ => e.sub.length - (intOf i).toNat)
  case atStart => exact ⟨0, [], Nat.zero_le _, rfl, rfl, World.ownsRow_nil _ _ _ _, hT.out, Below.refl _ _⟩
  case round =>
    obtain ⟨k, acc, hk, rfl, hacc, hown, hrem, hbel⟩ := hrel
    have hc := bcell hbel
    have hzr := hbel.size
    have hz1 : w.heap.size < wr.heap.size := by omega
    have HACC := Lib.hid hacc; clear hacc
    by_cases hlt : k < e.sub.length
    · have hx : e.sub[k]? = some e.sub[k] := List.getElem?_eq_getElem hlt
      have hmem : e.sub[k] ∈ e.sub := List.getElem_mem hlt
      have hd : e.sub.drop k = e.sub[k] :: e.sub.drop (k + 1) := List.drop_eq_getElem_cons hlt
      generalize e.sub[k] = x at hx hmem hd
      obtain ⟨b, off, A', cap', rfl, c0, c1, c2, c3, hs⟩ := (he.later hbel).get hx
      rw [hd] at hrem
      have hof' := fun W h => ih x hmem A' cap' W h
      unfold exV at hof'
      cases hfx : ((x.typ l).2 != 0)
      · have h0 : (x.typ l).2 = 0 := by simpa using hfx
        rw [joinT_step l acc x _ h0] at hrem
        have HR := Lib.hid hrem; clear hrem hd hx h0
        go_wp2_with (first | (go_at_call 84; refine (hof' _ (hs.later belA) (hl.later belA)).mono ?_; rintro r w1 ⟨rfl, hb1⟩; have hc1 := bcell hb1; have hz1 := hb1.size; (try simp at hz1); (try have hy1 := lt0 w w1); (try have hy2 := ltA w 1 w1); (try have hy3 := ltA w 2 w1); (try have hy4 := lt0 wr w1); (try have hy5 := ltA wr 1 w1)) | (at_builtin; refine wpList_app rfl (.tmp 33) (.tmp 35) 63 rfl W0.heap.size 3 (.int .i64 0) 1 8 Tryz.underlying63 intinfo rfl (by omega) u6 k (acc.map (Value.int .i64)) _ 1 [.int .i64 (x.typ l).1] rfl (by repeat (first | (with_reducible assumption) | refine own_alloc ?_ | refine own_bel ?_ (by with_reducible assumption) | refine own_drew ?_)) rfl rfl (fun j u hj => by rw [cell_new]; simpa using hj) (by simp [Value.oneCell']) (by omega) (by omega) (by first | omega | (simp; omega)) ?_; intro v2 w2 hown2 hb2; have hz2 := hb2.size; (try simp at hz2)))
        go_roundw
        case rel => exact ⟨k + 1, acc ++ [(x.typ l).1], by omega, by go_num, by have := HACC.out; simp [this], by rw [List.map_append]; exact hown2, HR.out, belA⟩
        case measure => simp [intOf]; omega
      · exfalso
        have h0 : (x.typ l).2 ≠ 0 := by simpa using hfx
        rw [joinT_stop l acc x _ h0] at hrem
        exact h0 (by have := HB.out; rw [← hrem] at this; exact this)
    · have hke : k = e.sub.length := by omega
      rw [hke, List.drop_length, Ex.typL, joinT, if_pos rfl, List.append_nil, HTS.out] at hrem
      have hacc : acc = [t0, t1] := by injection hrem
      subst hacc
      have hk1 : k = 2 := by have := H1.out; omega
      have HK := Lib.hid hke
      clear hrem hke
      rw [hk1] at hown
      obtain ⟨g, gc, rfl, hg1, hg2, hg3, hg4, hcells⟩ := own_get hown (by omega)
      unfold maxLen at hg4
      have e0 : wr.cell? ⟨g, 0, none⟩ = some (.int .i64 t0) := hcells 0 _ rfl
      have e1 : wr.cell? ⟨g, 1, none⟩ = some (.int .i64 t1) := hcells 1 _ rfl
      have hg5 : g < wr.heap.size + 1 := by omega
      have hn1 : (1 : Int) < ((2 : Nat) : Int) := by omega
      clear hcells hown hk1
      have hbw : Below w.heap.size w wr := bel_trans hb0 hbel
      have hcw := bcell hbw
      have hbvr : bv < wr.heap.size := by omega
      have hbvr1 : bv < wr.heap.size + 1 := by omega
      have hzr1 : w.heap.size < wr.heap.size + 1 := by omega
      have v0' := (hcw _ _ hbv0).trans v0
      have v1' := (hcw _ _ hbv0).trans v1
      have v2' := (hcw _ _ hbv0).trans v2
      have v3' := (hcw _ _ hbv0).trans v3
      clear hcw v0 v1 v2 v3
      have HV2 := Lib.hid HV.out
      go_wp2_with (first | (go_at_call 19; go_loud (refine (hfind _ belA).mono ?_; rintro r w1 ⟨rfl, hb1⟩; have hc1 := bcell hb1; have hf1 := bfrozen hb1; have hzf := hb1.size; (try simp at hzf); (try have hy1 := lt0 w w1); (try have hy2 := ltA w 1 w1); (try have hy3 := ltA w 2 w1); (try have hy4 := lt0 wr w1); (try have hy5 := ltA wr 1 w1); have hbv1 : bv < w1.heap.size := (by omega); (try have hg1' : g < w1.heap.size := (by omega)))))
      go_ret2
      exact ⟨by rw [HV2.out]; try rfl, (by repeat (first | exact Below.refl _ _ | (with_reducible assumption) | refine Below.setCell ?_ (by first | (simp; done) | (simp; omega) | (show w.heap.size ≤ wr.heap.size; omega)) _ | refine bel_trans ?_ (by with_reducible assumption) | refine bel_trans ?_ (below_regrown _ _ _) | refine bel_drew ?_ | refine bel_drewN ?_ _ | refine bel_alloc ?_ _ | refine bel_grow ?_ (by with_reducible assumption) (by omega)))⟩

end Go.Proofs.YtikmbkojnfmiaaaGreatDoorRRRR

/- Walk over the reference's of: if. -/
namespace Go.Proofs.YtikmbkojnfmiaaaGreatDoorRRRR
open Go.RowKit Go.Sort

set_option maxHeartbeats 4000000 in
set_option maxRecDepth 100000 in
theorem rof_6 (l : List Va) (A : Option Addr) (cap : Nat) (e : Ex) (ih : ∀ x ∈ e.sub, RofP l A cap x) (Ae : Option Addr) (ce : Nat) (w : World) (he : SubsAt w e Ae ce) (hl : VarsAt w l A cap) (h3 : e.sub.length ≤ 3) (hk : e.kind = 6) (hnm : e.name.toList.isEmpty = true) (t1 t2 : Int) (hts : Ex.typL l e.sub = ([2, t1, t2], 0)) (h1 : e.sub.length = 3) (ht1 : t1 = 1 ∨ t1 = 2) (ht2 : t2 = 1 ∨ t2 = 2)  (hv : e.typ l = if t1 = t2 then (t1, 0) else (0, 20)) :
    Calls Tryz.prog 84 #[exV e Ae ce, .slice A l.length cap] w fun r w' => r = .returned (.tuple #[.int .i64 (e.typ l).1, .int .i64 (e.typ l).2]) ∧ Below w.heap.size w w' := by
  have q1 : (e.kind == 1) = false := by rw [hk]; rfl
  have q2 : (e.kind == 2) = false := by rw [hk]; rfl
  have q3 : (e.kind == 3) = false := by rw [hk]; rfl
  have q4 : (e.kind == 4) = false := by rw [hk]; rfl
  have q5 : (e.kind == 5) = false := by rw [hk]; rfl
  have q6 : (e.kind == 6) = true := by rw [hk]; rfl
  have hts2 : (Ex.typL l e.sub).2 = 0 := by rw [hts]
  have HB := Lib.hid hts2; clear hts2
  have HTS := Lib.hid hts; clear hts
  have H1 := Lib.hid h1; clear h1
  clear hk
  have HV := Lib.hid hv; clear hv
  have hlen := he.len
  unfold maxLen at hlen
  obtain ⟨hl1, hl2⟩ := hlen
  have hT := Lib.hid (show joinT [] (Ex.typL l (e.sub.drop 0)) = Ex.typL l e.sub from joinT_nil _ (typL_err l e.sub))
  unfold exV
  go_enter Tryz.func84, Tryz.ntmps84
  go_wp2_with fail
  refine wp_name fun W0 hW0 => ?_
  have hb0 : Below w.heap.size w W0 := by rw [hW0]; exact belA
  have hz0 : w.heap.size < W0.heap.size := by rw [hW0]; first | omega | (simp; done) | (simp; omega)
  have p0 : W0.cell? ⟨w.heap.size, 0, none⟩ = some (.int .i64 e.kind) := by rw [hW0]; go_simp
  have p1 : W0.cell? ⟨w.heap.size, 1, none⟩ = some (.int .i32 e.n) := by rw [hW0]; go_simp
  have p2 : W0.cell? ⟨w.heap.size, 2, none⟩ = some (.string e.name) := by rw [hW0]; go_simp
  have p3 : W0.cell? ⟨w.heap.size, 3, none⟩ = some (.slice Ae e.sub.length ce) := by rw [hW0]; go_simp
  clear hW0
  replace he := he.later hb0
  replace hl := hl.later hb0
  go_loopw [6, 7] (fun v i wr => ∃ (k : Nat) (acc : List Int), k ≤ e.sub.length ∧ i = .int .i64 k ∧ acc.length = k ∧ wr.ownsRow W0.heap.size 3 1 v k (acc.map (Value.int .i64)) ∧ joinT acc (Ex.typL l (e.sub.drop k)) = Ex.typL l e.sub ∧ Below W0.heap.size W0 wr) (fun _ i _ => e.sub.length - (intOf i).toNat)
  case atStart => exact ⟨0, [], Nat.zero_le _, rfl, rfl, World.ownsRow_nil _ _ _ _, hT.out, Below.refl _ _⟩
  case round =>
    obtain ⟨k, acc, hk, rfl, hacc, hown, hrem, hbel⟩ := hrel
    have hc := bcell hbel
    have hzr := hbel.size
    have hz1 : w.heap.size < wr.heap.size := by omega
    have HACC := Lib.hid hacc; clear hacc
    by_cases hlt : k < e.sub.length
    · have hx : e.sub[k]? = some e.sub[k] := List.getElem?_eq_getElem hlt
      have hmem : e.sub[k] ∈ e.sub := List.getElem_mem hlt
      have hd : e.sub.drop k = e.sub[k] :: e.sub.drop (k + 1) := List.drop_eq_getElem_cons hlt
      generalize e.sub[k] = x at hx hmem hd
      obtain ⟨b, off, A', cap', rfl, c0, c1, c2, c3, hs⟩ := (he.later hbel).get hx
      rw [hd] at hrem
      have hof' := fun W h => ih x hmem A' cap' W h
      unfold exV at hof'
      cases hfx : ((x.typ l).2 != 0)
      · have h0 : (x.typ l).2 = 0 := by simpa using hfx
        rw [joinT_step l acc x _ h0] at hrem
        have HR := Lib.hid hrem; clear hrem hd hx h0
        go_wp2_with (first | (go_at_call 84; refine (hof' _ (hs.later belA) (hl.later belA)).mono ?_; rintro r w1 ⟨rfl, hb1⟩; have hc1 := bcell hb1; have hz1 := hb1.size; (try simp at hz1); (try have hy1 := lt0 w w1); (try have hy2 := ltA w 1 w1); (try have hy3 := ltA w 2 w1); (try have hy4 := lt0 wr w1); (try have hy5 := ltA wr 1 w1)) | (at_builtin; refine wpList_app rfl (.tmp 33) (.tmp 35) 63 rfl W0.heap.size 3 (.int .i64 0) 1 8 Tryz.underlying63 intinfo rfl (by omega) u6 k (acc.map (Value.int .i64)) _ 1 [.int .i64 (x.typ l).1] rfl (by repeat (first | (with_reducible assumption) | refine own_alloc ?_ | refine own_bel ?_ (by with_reducible assumption) | refine own_drew ?_)) rfl rfl (fun j u hj => by rw [cell_new]; simpa using hj) (by simp [Value.oneCell']) (by omega) (by omega) (by first | omega | (simp; omega)) ?_; intro v2 w2 hown2 hb2; have hz2 := hb2.size; (try simp at hz2)))
        go_roundw
        case rel => exact ⟨k + 1, acc ++ [(x.typ l).1], by omega, by go_num, by have := HACC.out; simp [this], by rw [List.map_append]; exact hown2, HR.out, belA⟩
        case measure => simp [intOf]; omega
      · exfalso
        have h0 : (x.typ l).2 ≠ 0 := by simpa using hfx
        rw [joinT_stop l acc x _ h0] at hrem
        exact h0 (by have := HB.out; rw [← hrem] at this; exact this)
    · have hke : k = e.sub.length := by omega
      rw [hke, List.drop_length, Ex.typL, joinT, if_pos rfl, List.append_nil, HTS.out] at hrem
      have hacc : acc = [2, t1, t2] := by injection hrem
      subst hacc
      have hk1 : k = 3 := by have := H1.out; omega
      have HK := Lib.hid hke
      clear hrem hke
      rw [hk1] at hown
      obtain ⟨g, gc, rfl, hg1, hg2, hg3, hg4, hcells⟩ := own_get hown (by omega)
      unfold maxLen at hg4
      have e0 : wr.cell? ⟨g, 0, none⟩ = some (.int .i64 2) := hcells 0 _ rfl
      have e1 : wr.cell? ⟨g, 1, none⟩ = some (.int .i64 t1) := hcells 1 _ rfl
      have e2 : wr.cell? ⟨g, 2, none⟩ = some (.int .i64 t2) := hcells 2 _ rfl
      have hg5 : g < wr.heap.size + 1 := by omega
      have hn1 : (1 : Int) < ((3 : Nat) : Int) := by omega
      have hn2 : (2 : Int) < ((3 : Nat) : Int) := by omega
      clear hcells hown hk1
      rcases ht1 with rfl | rfl <;> rcases ht2 with rfl | rfl
      · have hv2 := HV.out
        rw [if_pos rfl] at hv2
        have HV2 := Lib.hid hv2
        clear hv2
        go_wp2_with fail
        go_quiet ((go_at_call 98; exact Calls.quiet_of_same ((both_any _ _ _).mono fun _ _ h => ⟨h.1, h.2.symm⟩)))
        go_wp2_with fail
        go_ret2
        exact ⟨by rw [HV2.out]; try rfl, (by repeat (first | exact Below.refl _ _ | (with_reducible assumption) | refine Below.setCell ?_ (by first | (simp; done) | (simp; omega) | (show w.heap.size ≤ wr.heap.size; omega)) _ | refine bel_trans ?_ (by with_reducible assumption) | refine bel_trans ?_ (below_regrown _ _ _) | refine bel_drew ?_ | refine bel_drewN ?_ _ | refine bel_alloc ?_ _ | refine bel_grow ?_ (by with_reducible assumption) (by omega)))⟩
      · have hv2 := HV.out
        rw [if_neg (by omega)] at hv2
        have HV2 := Lib.hid hv2
        clear hv2
        go_wp2_with fail
        go_quiet ((go_at_call 98; exact Calls.quiet_of_same ((both_any _ _ _).mono fun _ _ h => ⟨h.1, h.2.symm⟩)))
        go_wp2_with fail
        go_ret2
        exact ⟨by rw [HV2.out]; try rfl, (by repeat (first | exact Below.refl _ _ | (with_reducible assumption) | refine Below.setCell ?_ (by first | (simp; done) | (simp; omega) | (show w.heap.size ≤ wr.heap.size; omega)) _ | refine bel_trans ?_ (by with_reducible assumption) | refine bel_trans ?_ (below_regrown _ _ _) | refine bel_drew ?_ | refine bel_drewN ?_ _ | refine bel_alloc ?_ _ | refine bel_grow ?_ (by with_reducible assumption) (by omega)))⟩
      · have hv2 := HV.out
        rw [if_neg (by omega)] at hv2
        have HV2 := Lib.hid hv2
        clear hv2
        go_wp2_with fail
        go_quiet ((go_at_call 98; exact Calls.quiet_of_same ((both_any _ _ _).mono fun _ _ h => ⟨h.1, h.2.symm⟩)))
        go_wp2_with fail
        go_ret2
        exact ⟨by rw [HV2.out]; try rfl, (by repeat (first | exact Below.refl _ _ | (with_reducible assumption) | refine Below.setCell ?_ (by first | (simp; done) | (simp; omega) | (show w.heap.size ≤ wr.heap.size; omega)) _ | refine bel_trans ?_ (by with_reducible assumption) | refine bel_trans ?_ (below_regrown _ _ _) | refine bel_drew ?_ | refine bel_drewN ?_ _ | refine bel_alloc ?_ _ | refine bel_grow ?_ (by with_reducible assumption) (by omega)))⟩
      · have hv2 := HV.out
        rw [if_pos rfl] at hv2
        have HV2 := Lib.hid hv2
        clear hv2
        go_wp2_with fail
        go_quiet ((go_at_call 98; exact Calls.quiet_of_same ((both_any _ _ _).mono fun _ _ h => ⟨h.1, h.2.symm⟩)))
        go_wp2_with fail
        go_ret2
        exact ⟨by rw [HV2.out]; try rfl, (by repeat (first | exact Below.refl _ _ | (with_reducible assumption) | refine Below.setCell ?_ (by first | (simp; done) | (simp; omega) | (show w.heap.size ≤ wr.heap.size; omega)) _ | refine bel_trans ?_ (by with_reducible assumption) | refine bel_trans ?_ (below_regrown _ _ _) | refine bel_drew ?_ | refine bel_drewN ?_ _ | refine bel_alloc ?_ _ | refine bel_grow ?_ (by with_reducible assumption) (by omega)))⟩

set_option maxHeartbeats 4000000 in
set_option maxRecDepth 100000 in
theorem rof_6n (l : List Va) (A : Option Addr) (cap : Nat) (e : Ex) (ih : ∀ x ∈ e.sub, RofP l A cap x) (Ae : Option Addr) (ce : Nat) (w : World) (he : SubsAt w e Ae ce) (hl : VarsAt w l A cap) (h3 : e.sub.length ≤ 3) (hk : e.kind = 6) (hnm : e.name.toList.isEmpty = true) (t1 t2 : Int) (hts : Ex.typL l e.sub = ([1, t1, t2], 0)) (h1 : e.sub.length = 3) (ht1 : t1 = 1 ∨ t1 = 2) (ht2 : t2 = 1 ∨ t2 = 2)  (hv : e.typ l = (0, 20)) :
    Calls Tryz.prog 84 #[exV e Ae ce, .slice A l.length cap] w fun r w' => r = .returned (.tuple #[.int .i64 (e.typ l).1, .int .i64 (e.typ l).2]) ∧ Below w.heap.size w w' := by
  have q1 : (e.kind == 1) = false := by rw [hk]; rfl
  have q2 : (e.kind == 2) = false := by rw [hk]; rfl
  have q3 : (e.kind == 3) = false := by rw [hk]; rfl
  have q4 : (e.kind == 4) = false := by rw [hk]; rfl
  have q5 : (e.kind == 5) = false := by rw [hk]; rfl
  have q6 : (e.kind == 6) = true := by rw [hk]; rfl
  clear ht1 ht2
  have hts2 : (Ex.typL l e.sub).2 = 0 := by rw [hts]
  have HB := Lib.hid hts2; clear hts2
  have HTS := Lib.hid hts; clear hts
  have H1 := Lib.hid h1; clear h1
  clear hk
  have HV := Lib.hid hv; clear hv
  have hlen := he.len
  unfold maxLen at hlen
  obtain ⟨hl1, hl2⟩ := hlen
  have hT := Lib.hid (show joinT [] (Ex.typL l (e.sub.drop 0)) = Ex.typL l e.sub from joinT_nil _ (typL_err l e.sub))
  unfold exV
  go_enter Tryz.func84, Tryz.ntmps84
  go_wp2_with fail
  refine wp_name fun W0 hW0 => ?_
  have hb0 : Below w.heap.size w W0 := by rw [hW0]; exact belA
  have hz0 : w.heap.size < W0.heap.size := by rw [hW0]; first | omega | (simp; done) | (simp; omega)
  have p0 : W0.cell? ⟨w.heap.size, 0, none⟩ = some (.int .i64 e.kind) := by rw [hW0]; go_simp
  have p1 : W0.cell? ⟨w.heap.size, 1, none⟩ = some (.int .i32 e.n) := by rw [hW0]; go_simp
  have p2 : W0.cell? ⟨w.heap.size, 2, none⟩ = some (.string e.name) := by rw [hW0]; go_simp
  have p3 : W0.cell? ⟨w.heap.size, 3, none⟩ = some (.slice Ae e.sub.length ce) := by rw [hW0]; go_simp
  clear hW0
  replace he := he.later hb0
  replace hl := hl.later hb0
  go_loopw [6, 7] (fun v i wr => ∃ (k : Nat) (acc : List Int), k ≤ e.sub.length ∧ i = .int .i64 k ∧ acc.length = k ∧ wr.ownsRow W0.heap.size 3 1 v k (acc.map (Value.int .i64)) ∧ joinT acc (Ex.typL l (e.sub.drop k)) = Ex.typL l e.sub ∧ Below W0.heap.size W0 wr) (fun _ i _ => e.sub.length - (intOf i).toNat)
  case atStart => exact ⟨0, [], Nat.zero_le _, rfl, rfl, World.ownsRow_nil _ _ _ _, hT.out, Below.refl _ _⟩
  case round =>
    obtain ⟨k, acc, hk, rfl, hacc, hown, hrem, hbel⟩ := hrel
    have hc := bcell hbel
    have hzr := hbel.size
    have hz1 : w.heap.size < wr.heap.size := by omega
    have HACC := Lib.hid hacc; clear hacc
    by_cases hlt : k < e.sub.length
    · have hx : e.sub[k]? = some e.sub[k] := List.getElem?_eq_getElem hlt
      have hmem : e.sub[k] ∈ e.sub := List.getElem_mem hlt
      have hd : e.sub.drop k = e.sub[k] :: e.sub.drop (k + 1) := List.drop_eq_getElem_cons hlt
      generalize e.sub[k] = x at hx hmem hd
      obtain ⟨b, off, A', cap', rfl, c0, c1, c2, c3, hs⟩ := (he.later hbel).get hx
      rw [hd] at hrem
      have hof' := fun W h => ih x hmem A' cap' W h
      unfold exV at hof'
      cases hfx : ((x.typ l).2 != 0)
      · have h0 : (x.typ l).2 = 0 := by simpa using hfx
        rw [joinT_step l acc x _ h0] at hrem
        have HR := Lib.hid hrem; clear hrem hd hx h0
        go_wp2_with (first | (go_at_call 84; refine (hof' _ (hs.later belA) (hl.later belA)).mono ?_; rintro r w1 ⟨rfl, hb1⟩; have hc1 := bcell hb1; have hz1 := hb1.size; (try simp at hz1); (try have hy1 := lt0 w w1); (try have hy2 := ltA w 1 w1); (try have hy3 := ltA w 2 w1); (try have hy4 := lt0 wr w1); (try have hy5 := ltA wr 1 w1)) | (at_builtin; refine wpList_app rfl (.tmp 33) (.tmp 35) 63 rfl W0.heap.size 3 (.int .i64 0) 1 8 Tryz.underlying63 intinfo rfl (by omega) u6 k (acc.map (Value.int .i64)) _ 1 [.int .i64 (x.typ l).1] rfl (by repeat (first | (with_reducible assumption) | refine own_alloc ?_ | refine own_bel ?_ (by with_reducible assumption) | refine own_drew ?_)) rfl rfl (fun j u hj => by rw [cell_new]; simpa using hj) (by simp [Value.oneCell']) (by omega) (by omega) (by first | omega | (simp; omega)) ?_; intro v2 w2 hown2 hb2; have hz2 := hb2.size; (try simp at hz2)))
        go_roundw
        case rel => exact ⟨k + 1, acc ++ [(x.typ l).1], by omega, by go_num, by have := HACC.out; simp [this], by rw [List.map_append]; exact hown2, HR.out, belA⟩
        case measure => simp [intOf]; omega
      · exfalso
        have h0 : (x.typ l).2 ≠ 0 := by simpa using hfx
        rw [joinT_stop l acc x _ h0] at hrem
        exact h0 (by have := HB.out; rw [← hrem] at this; exact this)
    · have hke : k = e.sub.length := by omega
      rw [hke, List.drop_length, Ex.typL, joinT, if_pos rfl, List.append_nil, HTS.out] at hrem
      have hacc : acc = [1, t1, t2] := by injection hrem
      subst hacc
      have hk1 : k = 3 := by have := H1.out; omega
      have HK := Lib.hid hke
      clear hrem hke
      rw [hk1] at hown
      obtain ⟨g, gc, rfl, hg1, hg2, hg3, hg4, hcells⟩ := own_get hown (by omega)
      unfold maxLen at hg4
      have e0 : wr.cell? ⟨g, 0, none⟩ = some (.int .i64 1) := hcells 0 _ rfl
      have e1 : wr.cell? ⟨g, 1, none⟩ = some (.int .i64 t1) := hcells 1 _ rfl
      have e2 : wr.cell? ⟨g, 2, none⟩ = some (.int .i64 t2) := hcells 2 _ rfl
      have hg5 : g < wr.heap.size + 1 := by omega
      have hn1 : (1 : Int) < ((3 : Nat) : Int) := by omega
      have hn2 : (2 : Int) < ((3 : Nat) : Int) := by omega
      clear hcells hown hk1
      have HV2 := Lib.hid HV.out
      go_wp2_with fail
      go_ret2
      exact ⟨by rw [HV2.out]; try rfl, (by repeat (first | exact Below.refl _ _ | (with_reducible assumption) | refine Below.setCell ?_ (by first | (simp; done) | (simp; omega) | (show w.heap.size ≤ wr.heap.size; omega)) _ | refine bel_trans ?_ (by with_reducible assumption) | refine bel_trans ?_ (below_regrown _ _ _) | refine bel_drew ?_ | refine bel_drewN ?_ _ | refine bel_alloc ?_ _ | refine bel_grow ?_ (by with_reducible assumption) (by omega)))⟩

end Go.Proofs.YtikmbkojnfmiaaaGreatDoorRRRR

/- Walk over the reference's of: an operation of two values. -/
namespace Go.Proofs.YtikmbkojnfmiaaaGreatDoorRRRR
open Go.RowKit Go.Sort

set_option maxHeartbeats 4000000 in
set_option maxRecDepth 100000 in
theorem rof_5 (l : List Va) (A : Option Addr) (cap : Nat) (e : Ex) (ih : ∀ x ∈ e.sub, RofP l A cap x) (Ae : Option Addr) (ce : Nat) (w : World) (he : SubsAt w e Ae ce) (hl : VarsAt w l A cap) (h3 : e.sub.length ≤ 3) (hk : e.kind = 5) (hnm : e.name.toList.isEmpty = true) (t0 t1 : Int) (hts : Ex.typL l e.sub = ([t0, t1], 0)) (h1 : e.sub.length = 2) (ht0 : t0 = 1 ∨ t0 = 2) (ht1 : t1 = 1 ∨ t1 = 2) (hn1 : 1 ≤ e.n) (hn16 : e.n ≤ 16) (hv : e.typ l = endR (madeK e.n (bothK t0 t1))) :
    Calls Tryz.prog 84 #[exV e Ae ce, .slice A l.length cap] w fun r w' => r = .returned (.tuple #[.int .i64 (e.typ l).1, .int .i64 (e.typ l).2]) ∧ Below w.heap.size w w' := by
  have q1 : (e.kind == 1) = false := by rw [hk]; rfl
  have q2 : (e.kind == 2) = false := by rw [hk]; rfl
  have q3 : (e.kind == 3) = false := by rw [hk]; rfl
  have q4 : (e.kind == 4) = false := by rw [hk]; rfl
  have q5 : (e.kind == 5) = true := by rw [hk]; rfl
  clear ht0 ht1
  have hts2 : (Ex.typL l e.sub).2 = 0 := by rw [hts]
  have HB := Lib.hid hts2; clear hts2
  have HTS := Lib.hid hts; clear hts
  have H1 := Lib.hid h1; clear h1
  clear hk
  have HV := Lib.hid hv; clear hv
  have hlen := he.len
  unfold maxLen at hlen
  obtain ⟨hl1, hl2⟩ := hlen
  have hT := Lib.hid (show joinT [] (Ex.typL l (e.sub.drop 0)) = Ex.typL l e.sub from joinT_nil _ (typL_err l e.sub))
  unfold exV
  go_enter Tryz.func84, Tryz.ntmps84
  go_wp2_with fail
  refine wp_name fun W0 hW0 => ?_
  have hb0 : Below w.heap.size w W0 := by rw [hW0]; exact belA
  have hz0 : w.heap.size < W0.heap.size := by rw [hW0]; first | omega | (simp; done) | (simp; omega)
  have p0 : W0.cell? ⟨w.heap.size, 0, none⟩ = some (.int .i64 e.kind) := by rw [hW0]; go_simp
  have p1 : W0.cell? ⟨w.heap.size, 1, none⟩ = some (.int .i32 e.n) := by rw [hW0]; go_simp
  have p2 : W0.cell? ⟨w.heap.size, 2, none⟩ = some (.string e.name) := by rw [hW0]; go_simp
  have p3 : W0.cell? ⟨w.heap.size, 3, none⟩ = some (.slice Ae e.sub.length ce) := by rw [hW0]; go_simp
  clear hW0
  replace he := he.later hb0
  replace hl := hl.later hb0
  go_loopw [6, 7] (fun v i wr => ∃ (k : Nat) (acc : List Int), k ≤ e.sub.length ∧ i = .int .i64 k ∧ acc.length = k ∧ wr.ownsRow W0.heap.size 3 1 v k (acc.map (Value.int .i64)) ∧ joinT acc (Ex.typL l (e.sub.drop k)) = Ex.typL l e.sub ∧ Below W0.heap.size W0 wr) (fun _ i _ => e.sub.length - (intOf i).toNat)
  case atStart => exact ⟨0, [], Nat.zero_le _, rfl, rfl, World.ownsRow_nil _ _ _ _, hT.out, Below.refl _ _⟩
  case round =>
    obtain ⟨k, acc, hk, rfl, hacc, hown, hrem, hbel⟩ := hrel
    have hc := bcell hbel
    have hzr := hbel.size
    have hz1 : w.heap.size < wr.heap.size := by omega
    have HACC := Lib.hid hacc; clear hacc
    by_cases hlt : k < e.sub.length
    · have hx : e.sub[k]? = some e.sub[k] := List.getElem?_eq_getElem hlt
      have hmem : e.sub[k] ∈ e.sub := List.getElem_mem hlt
      have hd : e.sub.drop k = e.sub[k] :: e.sub.drop (k + 1) := List.drop_eq_getElem_cons hlt
      generalize e.sub[k] = x at hx hmem hd
      obtain ⟨b, off, A', cap', rfl, c0, c1, c2, c3, hs⟩ := (he.later hbel).get hx
      rw [hd] at hrem
      have hof' := fun W h => ih x hmem A' cap' W h
      unfold exV at hof'
      cases hfx : ((x.typ l).2 != 0)
      · have h0 : (x.typ l).2 = 0 := by simpa using hfx
        rw [joinT_step l acc x _ h0] at hrem
        have HR := Lib.hid hrem; clear hrem hd hx h0
        go_wp2_with (first | (go_at_call 84; refine (hof' _ (hs.later belA) (hl.later belA)).mono ?_; rintro r w1 ⟨rfl, hb1⟩; have hc1 := bcell hb1; have hz1 := hb1.size; (try simp at hz1); (try have hy1 := lt0 w w1); (try have hy2 := ltA w 1 w1); (try have hy3 := ltA w 2 w1); (try have hy4 := lt0 wr w1); (try have hy5 := ltA wr 1 w1)) | (at_builtin; refine wpList_app rfl (.tmp 33) (.tmp 35) 63 rfl W0.heap.size 3 (.int .i64 0) 1 8 Tryz.underlying63 intinfo rfl (by omega) u6 k (acc.map (Value.int .i64)) _ 1 [.int .i64 (x.typ l).1] rfl (by repeat (first | (with_reducible assumption) | refine own_alloc ?_ | refine own_bel ?_ (by with_reducible assumption) | refine own_drew ?_)) rfl rfl (fun j u hj => by rw [cell_new]; simpa using hj) (by simp [Value.oneCell']) (by omega) (by omega) (by first | omega | (simp; omega)) ?_; intro v2 w2 hown2 hb2; have hz2 := hb2.size; (try simp at hz2)))
        go_roundw
        case rel => exact ⟨k + 1, acc ++ [(x.typ l).1], by omega, by go_num, by have := HACC.out; simp [this], by rw [List.map_append]; exact hown2, HR.out, belA⟩
        case measure => simp [intOf]; omega
      · exfalso
        have h0 : (x.typ l).2 ≠ 0 := by simpa using hfx
        rw [joinT_stop l acc x _ h0] at hrem
        exact h0 (by have := HB.out; rw [← hrem] at this; exact this)
    · have hke : k = e.sub.length := by omega
      rw [hke, List.drop_length, Ex.typL, joinT, if_pos rfl, List.append_nil, HTS.out] at hrem
      have hacc : acc = [t0, t1] := by injection hrem
      subst hacc
      have hk1 : k = 2 := by have := H1.out; omega
      have HK := Lib.hid hke
      clear hrem hke
      rw [hk1] at hown
      obtain ⟨g, gc, rfl, hg1, hg2, hg3, hg4, hcells⟩ := own_get hown (by omega)
      unfold maxLen at hg4
      have e0 : wr.cell? ⟨g, 0, none⟩ = some (.int .i64 t0) := hcells 0 _ rfl
      have e1 : wr.cell? ⟨g, 1, none⟩ = some (.int .i64 t1) := hcells 1 _ rfl
      have hg5 : g < wr.heap.size + 1 := by omega
      have hn1 : (1 : Int) < ((2 : Nat) : Int) := by omega
      clear hcells hown hk1
      by_cases hm : madeK e.n (bothK t0 t1) = 1 ∨ madeK e.n (bothK t0 t1) = 2
      · have hv2 := HV.out
        unfold endR at hv2
        rw [if_pos hm] at hv2
        have HV2 := Lib.hid hv2
        clear hv2
        rcases hm with hm | hm
        · have m1 : (madeK e.n (bothK t0 t1) != 1) = false := by rw [hm]; rfl
          clear hm
          go_wp2_with fail
          have hwn : IntKind.i64.wrap e.n = e.n := IntWalk.i64_in _ (by omega)
          go_quiet (first | (go_at_call 98; exact Calls.quiet_of_same ((both_any _ _ _).mono fun _ _ h => ⟨h.1, h.2.symm⟩)) | (go_at_call 97; exact Calls.quiet_of_same ((made_any _ _ _).mono fun _ _ h => ⟨h.1, h.2.symm⟩)))
          clear hwn
          go_wp2_with fail
          go_ret2
          exact ⟨by rw [HV2.out]; try rfl, (by repeat (first | exact Below.refl _ _ | (with_reducible assumption) | refine Below.setCell ?_ (by first | (simp; done) | (simp; omega) | (show w.heap.size ≤ wr.heap.size; omega)) _ | refine bel_trans ?_ (by with_reducible assumption) | refine bel_trans ?_ (below_regrown _ _ _) | refine bel_drew ?_ | refine bel_drewN ?_ _ | refine bel_alloc ?_ _ | refine bel_grow ?_ (by with_reducible assumption) (by omega)))⟩
        · have m1 : (madeK e.n (bothK t0 t1) != 1) = true := by rw [hm]; rfl
          have m2 : (madeK e.n (bothK t0 t1) != 2) = false := by rw [hm]; rfl
          clear hm
          go_wp2_with fail
          have hwn : IntKind.i64.wrap e.n = e.n := IntWalk.i64_in _ (by omega)
          go_quiet (first | (go_at_call 98; exact Calls.quiet_of_same ((both_any _ _ _).mono fun _ _ h => ⟨h.1, h.2.symm⟩)) | (go_at_call 97; exact Calls.quiet_of_same ((made_any _ _ _).mono fun _ _ h => ⟨h.1, h.2.symm⟩)))
          clear hwn
          go_wp2_with fail
          go_ret2
          exact ⟨by rw [HV2.out]; try rfl, (by repeat (first | exact Below.refl _ _ | (with_reducible assumption) | refine Below.setCell ?_ (by first | (simp; done) | (simp; omega) | (show w.heap.size ≤ wr.heap.size; omega)) _ | refine bel_trans ?_ (by with_reducible assumption) | refine bel_trans ?_ (below_regrown _ _ _) | refine bel_drew ?_ | refine bel_drewN ?_ _ | refine bel_alloc ?_ _ | refine bel_grow ?_ (by with_reducible assumption) (by omega)))⟩
      · have hv2 := HV.out
        unfold endR at hv2
        rw [if_neg hm] at hv2
        have HV2 := Lib.hid hv2
        clear hv2
        have m1 : (madeK e.n (bothK t0 t1) != 1) = true := by simp; omega
        have m2 : (madeK e.n (bothK t0 t1) != 2) = true := by simp; omega
        clear hm
        go_wp2_with fail
        have hwn : IntKind.i64.wrap e.n = e.n := IntWalk.i64_in _ (by omega)
        go_quiet (first | (go_at_call 98; exact Calls.quiet_of_same ((both_any _ _ _).mono fun _ _ h => ⟨h.1, h.2.symm⟩)) | (go_at_call 97; exact Calls.quiet_of_same ((made_any _ _ _).mono fun _ _ h => ⟨h.1, h.2.symm⟩)))
        clear hwn
        go_wp2_with fail
        go_ret2
        exact ⟨by rw [HV2.out]; try rfl, (by repeat (first | exact Below.refl _ _ | (with_reducible assumption) | refine Below.setCell ?_ (by first | (simp; done) | (simp; omega) | (show w.heap.size ≤ wr.heap.size; omega)) _ | refine bel_trans ?_ (by with_reducible assumption) | refine bel_trans ?_ (below_regrown _ _ _) | refine bel_drew ?_ | refine bel_drewN ?_ _ | refine bel_alloc ?_ _ | refine bel_grow ?_ (by with_reducible assumption) (by omega)))⟩

end Go.Proofs.YtikmbkojnfmiaaaGreatDoorRRRR

/- Walk over the reference's of (joined). -/
namespace Go.Proofs.YtikmbkojnfmiaaaGreatDoorRRRR
open Go.RowKit Go.Sort

theorem endR_both {a b : Int} (ha : a = 1 ∨ a = 2) : endR (bothK a b) = if a = b then (a, 0) else (0, 20) := by
  unfold bothK endR
  by_cases h : a = b
  · rw [if_pos h, if_pos ha, if_pos h]
  · rw [if_neg h, if_neg (by omega), if_neg h]
theorem endR_12 {a : Int} (ha : a = 1 ∨ a = 2) : endR a = (a, 0) := by unfold endR; rw [if_pos ha]
theorem formed_two {e : Ex} (h : e.formed = true) (hk : e.kind = 5) : 1 ≤ e.n ∧ e.n ≤ 16 := by
  rw [Ex.formed_eq, Bool.and_eq_true] at h
  have h1 := h.1
  rw [formedH, hk] at h1
  simp [formK] at h1
  omega

theorem rof_any (e : Ex) : e.formed = true → ∀ (l : List Va) (A : Option Addr) (cap : Nat), RofP l A cap e := by
  induction e using Ex.ind with
  | h e ih0 =>
  intro hf l A cap Ae ce w he hl
  have ih : ∀ x ∈ e.sub, RofP l A cap x := fun x hx => ih0 x hx (Ex.formed_sub hf hx) l A cap
  have hlen := Ex.formed_kind hf
  have hl3 : e.sub.length ≤ 3 := by
    have hlen := hlen.1
    unfold formK at hlen
    repeat' split at hlen
    all_goals first | omega | (simp at hlen; omega)
  by_cases hbad : (Ex.typL l e.sub).2 = 0
  case neg => exact rof_bad l A cap e ih Ae ce w he hl hl3 hbad
  have hnames := formed_name hf
  have hts : (Ex.typL l e.sub).1.length = e.sub.length := typL_len l e.sub hbad
  have h12 := typL_12 l e.sub hbad
  have hpair : Ex.typL l e.sub = ((Ex.typL l e.sub).1, 0) := by rw [← hbad]
  have hty : e.typ l = typK l e.kind e.n e.name (Ex.typL l e.sub).1 := by rw [Ex.typ_eq, if_pos hbad]
  have hk1 := hlen.1
  have h4 := formed_un hf
  have h5 := formed_two hf
  generalize (Ex.typL l e.sub).1 = ts at hts h12 hpair hty
  have hend : ∀ named : Int, (e.name.toList.isEmpty = true ∨ (typeOfP l e.name).2 = true) → (typeOfP l e.name).1 = named → e.typ l = endR (kR e.kind e.n named ts) := by
    intro named hn hnm
    rw [hty, typK, if_neg (by rcases hn with hn | hn <;> simp [hn]), hnm]
    have hkk : 1 ≤ e.kind ∧ e.kind ≤ 10 := by rcases formed_kinds hf with hk | hk | hk | hk | hk | hk | hk | hk | hk | hk <;> omega
    refine kR_end _ _ _ _ h12 hkk ?_ ?_ ?_ ?_ ?_ ?_
    · intro hk; rw [hk] at hk1; exact ⟨h4 hk, by simp [formK] at hk1; omega⟩
    · intro hk; rw [hk] at hk1; exact ⟨(h5 hk).1, (h5 hk).2, by simp [formK] at hk1; omega⟩
    · intro hk; rw [hk] at hk1; simp [formK] at hk1; omega
    · intro hk; rw [hk] at hk1; simp [formK] at hk1; omega
    · rintro (hk | hk) <;> rw [hk] at hk1 <;> simp [formK] at hk1 <;> omega
    · intro hk; rw [hk] at hk1; simp [formK] at hk1; omega
  cases hnm : e.name.toList.isEmpty
  case false =>
    cases hfv : findV l e.name with
    | none =>
      refine rof_none l A cap e ih Ae ce w he hl hl3 hbad hnm hfv ?_
      rw [hty, typK, if_pos ⟨hnm, by unfold typeOfP; rw [hfv]⟩]
    | some j =>
      obtain ⟨kk, v, rfl, hx, _⟩ := findV_some hfv
      have hrf : refFind l e.name = (kk : Int) := by unfold refFind; rw [hfv]; rfl
      have hto : typeOfP l e.name = (v.type, true) := by unfold typeOfP; rw [hfv]; simp only [Int.toNat_natCast, hx]
      have hv := hend v.type (.inr (by rw [hto])) (by rw [hto])
      rcases formed_kinds hf with hk | hk | hk | hk | hk | hk | hk | hk | hk | hk <;> rw [hk] at hk1 hnames hv <;> simp [formK] at hk1 hnames
      · simp [hnames] at hnm
      · simp [hnames] at hnm
      · exact rof_3 l A cap e ih Ae ce w he hl (by rw [hk1]; rfl) hk hnm kk v hrf hx hv
      · simp [hnames] at hnm
      · simp [hnames] at hnm
      · simp [hnames] at hnm
      · simp [hnames] at hnm
      · obtain ⟨t0, rfl⟩ := list1 (l := ts) (by omega)
        refine rof_8 l A cap e ih Ae ce w he hl hl3 hk hnm kk v hrf hx t0 hpair (by omega) (h12 _ (by simp)) ?_
        rw [hv, kR]
        simp only [List.getD_cons_zero]
        by_cases h : v.type = 2
        · simp [h, endR_12 (h12 _ (by simp : t0 ∈ [t0]))]
        · simp [h, endR]
      · obtain ⟨t0, rfl⟩ := list1 (l := ts) (by omega)
        refine rof_9 l A cap e ih Ae ce w he hl hl3 hk hnm kk v hrf hx t0 hpair (by omega) (h12 _ (by simp)) ?_
        rw [hv, kR]
        simp only [List.getD_cons_zero]
        by_cases h : v.type = 2
        · simp [h, endR_12 (h12 _ (by simp : t0 ∈ [t0]))]
        · simp [h, endR]
      · obtain ⟨t0, t1, rfl⟩ := list2 (l := ts) (by omega)
        by_cases h : v.type = 2
        · refine rof_10 l A cap e ih Ae ce w he hl hl3 hk hnm kk v hrf hx t0 t1 hpair (by omega) (h12 _ (by simp)) (h12 _ (by simp)) h ?_
          rw [hv, ← endR_both (h12 _ (by simp))]
          simp [kR, h]
        · refine rof_10n l A cap e ih Ae ce w he hl hl3 hk hnm kk v hrf hx t0 t1 hpair (by omega) (h12 _ (by simp)) (h12 _ (by simp)) h ?_
          rw [hv]
          simp [kR, h, endR]
  case true =>
    have hv := hend _ (.inl hnm) rfl
    rcases formed_kinds hf with hk | hk | hk | hk | hk | hk | hk | hk | hk | hk <;> rw [hk] at hk1 hnames hv <;> simp [formK] at hk1 hnames
    · exact rof_12 l A cap e ih Ae ce w he hl (by rw [hk1]; rfl) (.inl hk) hnm (by rw [hv, hk]; rfl)
    · exact rof_12 l A cap e ih Ae ce w he hl (by rw [hk1]; rfl) (.inr hk) hnm (by rw [hv, hk]; rfl)
    · exact absurd (List.isEmpty_iff.1 hnm) hnames
    · obtain ⟨t0, rfl⟩ := list1 (l := ts) (by omega)
      have ht0 := h12 t0 (by simp)
      have hn := h4 hk
      refine rof_4 l A cap e ih Ae ce w he hl hl3 hk hnm t0 hpair (by omega) ht0 hn ?_
      rw [hv]
      rcases ht0 with rfl | rfl <;> rcases hn with hn | hn <;> simp [kR, endR, hn]
    · obtain ⟨t0, t1, rfl⟩ := list2 (l := ts) (by omega)
      refine rof_5 l A cap e ih Ae ce w he hl hl3 hk hnm t0 t1 hpair (by omega) (h12 _ (by simp)) (h12 _ (by simp)) (h5 hk).1 (h5 hk).2 ?_
      rw [hv]
      simp [kR]
    · obtain ⟨t0, t1, t2, rfl⟩ := list3 (l := ts) (by omega)
      have ht0 := h12 t0 (by simp)
      have ht1 := h12 t1 (by simp)
      have ht2 := h12 t2 (by simp)
      rcases ht0 with rfl | rfl
      · refine rof_6n l A cap e ih Ae ce w he hl hl3 hk hnm t1 t2 hpair (by omega) ht1 ht2 ?_
        rw [hv]
        simp [kR, endR]
      · refine rof_6 l A cap e ih Ae ce w he hl hl3 hk hnm t1 t2 hpair (by omega) ht1 ht2 ?_
        rw [hv, ← endR_both ht1]
        simp [kR]
    · obtain ⟨t0, t1, rfl⟩ := list2 (l := ts) (by omega)
      refine rof_7 l A cap e ih Ae ce w he hl hl3 hk hnm t0 t1 hpair (by omega) (h12 _ (by simp)) (h12 _ (by simp)) ?_
      rw [hv, ← endR_both (h12 _ (by simp))]
      simp [kR]
    · exact absurd (List.isEmpty_iff.1 hnm) hnames
    · exact absurd (List.isEmpty_iff.1 hnm) hnames
    · exact absurd (List.isEmpty_iff.1 hnm) hnames

end Go.Proofs.YtikmbkojnfmiaaaGreatDoorRRRR

/- Walk over the reference's Of. -/
namespace Go.Proofs.YtikmbkojnfmiaaaGreatDoorRRRR
open Go.RowKit Go.Sort

theorem formed_right {e : Ex} (hr : e.right = 0) : e.formed = true := (Ex.right_zero.1 hr).2.2

set_option maxHeartbeats 1000000 in
theorem refOf_any (e : Ex) (hok : e.OK) (Ae : Option Addr) (ce : Nat) (l : List Va) (A : Option Addr) (cap : Nat) (w : World) (he : SubsAt w e Ae ce) (hl : VarsAt w l A cap) :
    Calls Tryz.prog 62 #[exV e Ae ce, .slice A l.length cap] w fun r w' => r = .returned (.tuple #[.int .i64 (ofF e l).1, .int .i64 (ofF e l).2]) ∧ Below w.heap.size w w' := by
  have hright := fun W h => refRight_any e Ae ce W (he.later h) hok
  clear hok
  by_cases hr : e.right = 0
  · have hof := fun W h1 h2 => rof_any e (formed_right hr) l A cap Ae ce W h1 h2
    have hv : ofF e l = e.typ l := by unfold ofF; rw [if_neg (by omega)]
    have h1 : (e.right != 0) = false := by simpa using hr
    clear hr
    have HV := Lib.hid hv; clear hv
    unfold exV at *
    go_enter Tryz.func62, Tryz.ntmps62
    go_wp2_with (first | (go_at_call 50; refine (hright _ belA).mono ?_; rintro r w1 ⟨rfl, hb1⟩; have hc1 := bcell hb1; have hz1 := hb1.size; (try simp at hz1); (try have hy1 := lt0 w w1); (try have hy2 := ltA w 1 w1); (try have hy3 := ltA w 2 w1); (try have hy4 := lt0 wr w1); (try have hy5 := ltA wr 1 w1)) | (go_at_call 84; refine (hof _ (he.later belA) (hl.later belA)).mono ?_; rintro r wc ⟨rfl, hbc⟩))
    go_ret2
    exact ⟨by rw [HV.out]; try rfl, belA⟩
  · have hv : ofF e l = (0, e.right) := by unfold ofF; rw [if_pos hr]
    have h1 : (e.right != 0) = true := by simpa using hr
    clear hr
    have HV := Lib.hid hv; clear hv
    unfold exV at *
    go_enter Tryz.func62, Tryz.ntmps62
    go_wp2_with (first | (go_at_call 50; refine (hright _ belA).mono ?_; rintro r w1 ⟨rfl, hb1⟩; have hc1 := bcell hb1; have hz1 := hb1.size; (try simp at hz1); (try have hy1 := lt0 w w1); (try have hy2 := ltA w 1 w1); (try have hy3 := ltA w 2 w1); (try have hy4 := lt0 wr w1); (try have hy5 := ltA wr 1 w1)))
    go_ret2
    exact ⟨by rw [HV.out]; try rfl, belA⟩

end Go.Proofs.YtikmbkojnfmiaaaGreatDoorRRRR
