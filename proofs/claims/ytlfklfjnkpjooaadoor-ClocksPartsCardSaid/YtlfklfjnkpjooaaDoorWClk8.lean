/- Walk over the law ClocksParts: it answers true. -/
import Derived.Test.YtlfklfjnkpjooaaDoorBG
import Derived.Test.YtlfklfjnkpjooaaDoorBH
import Derived.WalkKit
import Derived.WalkSpells
import Derived.WalkLawsBesides
import Derived.Deep.QuietTactic
import Derived.BigQuiet
import Derived.Deep.Draws
import Derived.Lib.Hide
import Derived.Deep.LoopGhost
import Derived.StillTailTactics
import Derived.Deep.RegionHeld3
import Derived.Deep.RegionWith
import Derived.Lib.QuietBelow
set_option linter.unusedVariables false
set_option linter.unusedSimpArgs false
set_option maxRecDepth 100000
namespace Go.Proofs.YtlfklfjnkpjooaaDoor
open Go.RowKit Go.Sort

set_option maxHeartbeats 4000000 in
set_option maxRecDepth 100000 in
theorem clkParts_not (e : Ex) (Ae : Option Addr) (ce : Nat) (ck : Int) (cs : ByteArray) (l : List Va) (A : Option Addr) (cap : Nat) (w : World) (hg : Always w) (he : SubsAt w e Ae ce) (hl : VarsAt w l A cap) (hz : clkOf l e (ck, cs) ≠ 0) :
    Calls Tryd.prog 5 #[exV e Ae ce, .agg #[.int .i64 ck, .string cs], .slice A l.length cap] w fun r w' => r = .returned (.bool true) ∧ Below w.heap.size w w' := by
  have hsmall := fun W h => small_any l A cap e Ae ce W (he.later h) (hl.later h)
  have hof := fun (hn : l.length ≤ 200) W h => clkOf_any l A cap (by omega) e Ae ce ck cs W (hg.later h) (he.later h) (hl.later h)
  have hkn := fun W h => known15_any W (hg.later h)
  have t1 : (clkOf l e (ck, cs) != 0) = true := by simpa using hz
  clear hz
  generalize clkOf l e (ck, cs) = f at *
  unfold exV at *
  go_enter Tryd.func5, Tryd.ntmps5
  go_wp2_with (first | (go_at_call 18; go_loud (refine (hsmall _ (by repeat (first | exact Below.refl _ _ | (with_reducible assumption) | refine bel_trans ?_ (by with_reducible assumption) | refine bel_trans ?_ (below_regrown _ _ _) | refine bel_drew ?_ | refine bel_drewN ?_ _ | refine bel_alloc ?_ _ | refine bel_grow ?_ (by with_reducible assumption) (by omega)))).mono ?_; rintro r wl ⟨⟨bl, rfl, hlb⟩, hbl⟩; have hcl := bcell hbl; have hzl := hbl.size; (try simp at hzl); have hyl : w.heap.size < wl.heap.size := (by omega); have hyl1 : w.heap.size + 1 < wl.heap.size := (by omega); (try have hyl2 : w.heap.size + 2 < wl.heap.size := (by omega)); cases bl)) | (go_at_call 19; go_loud (refine (hof (by have := hlb (by trivial); omega) _ (by repeat (first | exact Below.refl _ _ | (with_reducible assumption) | refine bel_trans ?_ (by with_reducible assumption) | refine bel_trans ?_ (below_regrown _ _ _) | refine bel_drew ?_ | refine bel_drewN ?_ _ | refine bel_alloc ?_ _ | refine bel_grow ?_ (by with_reducible assumption) (by omega)))).mono ?_; rintro r wk ⟨rfl, hbk⟩; have hck := bcell hbk; have hzk := hbk.size; have hyk : w.heap.size < wk.heap.size := (by omega); have hyk1 : w.heap.size + 1 < wk.heap.size := (by omega); (try have hyk2 : w.heap.size + 2 < wk.heap.size := (by omega)))) | (go_at_call 13; refine (hkn _ (by repeat (first | exact Below.refl _ _ | (with_reducible assumption) | refine bel_trans ?_ (by with_reducible assumption) | refine bel_trans ?_ (below_regrown _ _ _) | refine bel_drew ?_ | refine bel_drewN ?_ _ | refine bel_alloc ?_ _ | refine bel_grow ?_ (by with_reducible assumption) (by omega)))).mono ?_; rintro r wn ⟨rfl, hbn⟩; have hcn := bcell hbn; have hzn := hbn.size))
  all_goals
    go_ret
    exact ⟨rfl, (by repeat (first | exact Below.refl _ _ | (with_reducible assumption) | refine bel_trans ?_ (by with_reducible assumption) | refine bel_trans ?_ (below_regrown _ _ _) | refine bel_drew ?_ | refine bel_drewN ?_ _ | refine bel_alloc ?_ _ | refine bel_grow ?_ (by with_reducible assumption) (by omega)))⟩

set_option maxHeartbeats 4000000 in
set_option maxRecDepth 100000 in
theorem clkParts_yes (e : Ex) (Ae : Option Addr) (ce : Nat) (ck : Int) (cs : ByteArray) (l : List Va) (A : Option Addr) (cap : Nat) (w : World) (hg : Always w) (he : SubsAt w e Ae ce) (hl : VarsAt w l A cap) (hz : clkOf l e (ck, cs) = 0) :
    Calls Tryd.prog 5 #[exV e Ae ce, .agg #[.int .i64 ck, .string cs], .slice A l.length cap] w fun r w' => r = .returned (.bool true) ∧ Below w.heap.size w w' := by
  have hsmall := fun W h => small_any l A cap e Ae ce W (he.later h) (hl.later h)
  have hof := fun (hn : l.length ≤ 200) W h => clkOf_any l A cap (by omega) e Ae ce ck cs W (hg.later h) (he.later h) (hl.later h)
  have hkn := fun W h => known15_any W (hg.later h)
  obtain ⟨p1, p2, p3, p4⟩ := parts_law hz
  rw [hz] at hof
  have HP1 := Lib.hid p1; clear p1
  have HP2 := Lib.hid p2; clear p2
  have HP3 := Lib.hid p3; clear p3
  have HP4 := Lib.hid p4; clear p4
  clear hz
  have hlen := he.len
  unfold maxLen at hlen
  obtain ⟨hlen1, hlen2⟩ := hlen
  unfold exV at *
  go_enter Tryd.func5, Tryd.ntmps5
  go_wp2_with (first | (go_at_call 18; go_loud (refine (hsmall _ (by repeat (first | exact Below.refl _ _ | (with_reducible assumption) | refine bel_trans ?_ (by with_reducible assumption) | refine bel_trans ?_ (below_regrown _ _ _) | refine bel_drew ?_ | refine bel_drewN ?_ _ | refine bel_alloc ?_ _ | refine bel_grow ?_ (by with_reducible assumption) (by omega)))).mono ?_; rintro r wl ⟨⟨bl, rfl, hlb⟩, hbl⟩; have hcl := bcell hbl; have hzl := hbl.size; (try simp at hzl); have hyl : w.heap.size < wl.heap.size := (by omega); have hyl1 : w.heap.size + 1 < wl.heap.size := (by omega); (try have hyl2 : w.heap.size + 2 < wl.heap.size := (by omega)); cases bl)) | (go_at_call 19; go_loud (refine (hof (by have := hlb (by trivial); omega) _ (by repeat (first | exact Below.refl _ _ | (with_reducible assumption) | refine bel_trans ?_ (by with_reducible assumption) | refine bel_trans ?_ (below_regrown _ _ _) | refine bel_drew ?_ | refine bel_drewN ?_ _ | refine bel_alloc ?_ _ | refine bel_grow ?_ (by with_reducible assumption) (by omega)))).mono ?_; rintro r wk ⟨rfl, hbk⟩; have hck := bcell hbk; have hzk := hbk.size; have hyk : w.heap.size < wk.heap.size := (by omega); have hyk1 : w.heap.size + 1 < wk.heap.size := (by omega); (try have hyk2 : w.heap.size + 2 < wk.heap.size := (by omega)))) | (go_at_call 13; refine (hkn _ (by repeat (first | exact Below.refl _ _ | (with_reducible assumption) | refine bel_trans ?_ (by with_reducible assumption) | refine bel_trans ?_ (below_regrown _ _ _) | refine bel_drew ?_ | refine bel_drewN ?_ _ | refine bel_alloc ?_ _ | refine bel_grow ?_ (by with_reducible assumption) (by omega)))).mono ?_; rintro r wn ⟨rfl, hbn⟩; have hcn := bcell hbn; have hzn := hbn.size))
  · go_ret
    exact ⟨rfl, (by repeat (first | exact Below.refl _ _ | (with_reducible assumption) | refine bel_trans ?_ (by with_reducible assumption) | refine bel_trans ?_ (below_regrown _ _ _) | refine bel_drew ?_ | refine bel_drewN ?_ _ | refine bel_alloc ?_ _ | refine bel_grow ?_ (by with_reducible assumption) (by omega)))⟩
  have hn : l.length ≤ 1000000 := by have := hlb (by trivial); omega
  clear hlb hsmall hof
  refine wp_name fun W0 hW0 => ?_
  have hb0 : Below w.heap.size w W0 := by rw [hW0]; exact (by repeat (first | exact Below.refl _ _ | (with_reducible assumption) | refine bel_trans ?_ (by with_reducible assumption) | refine bel_trans ?_ (below_regrown _ _ _) | refine bel_drew ?_ | refine bel_drewN ?_ _ | refine bel_alloc ?_ _ | refine bel_grow ?_ (by with_reducible assumption) (by omega)))
  have hz0 : w.heap.size < W0.heap.size := by rw [hW0]; omega
  have hz1 : w.heap.size + 1 < W0.heap.size := by rw [hW0]; omega
  have x0 : W0.cell? ⟨w.heap.size, 0, none⟩ = some (.int .i64 e.kind) := by rw [hW0]; go_simp
  have x2 : W0.cell? ⟨w.heap.size, 2, none⟩ = some (.string e.name) := by rw [hW0]; go_simp
  have x3 : W0.cell? ⟨w.heap.size, 3, none⟩ = some (.slice Ae e.sub.length ce) := by rw [hW0]; go_simp
  have y0 : W0.cell? ⟨w.heap.size + 1, 0, none⟩ = some (.int .i64 ck) := by rw [hW0]; go_simp
  have y1 : W0.cell? ⟨w.heap.size + 1, 1, none⟩ = some (.string cs) := by rw [hW0]; go_simp
  clear hW0
  replace hl := hl.later hb0
  replace he := he.later hb0
  replace hg := hg.later hb0
  go_loopw [7] (fun i wr => ∃ k : Nat, k ≤ e.sub.length ∧ i = .int .i64 k ∧ Below W0.heap.size W0 wr) (fun i _ => e.sub.length - (intOf i).toNat)
  case atStart => exact ⟨0, Nat.zero_le _, rfl, Below.refl _ _⟩
  case round =>
    obtain ⟨k, hk, rfl, hbel⟩ := hrel
    have hc := bcell hbel
    have hzr := hbel.size
    have hr1 : w.heap.size < wr.heap.size := by omega
    have hr2 : w.heap.size + 1 < wr.heap.size := by omega
    by_cases hlt : k < e.sub.length
    · have hx : e.sub[k]? = some e.sub[k] := List.getElem?_eq_getElem hlt
      have hmem : e.sub[k] ∈ e.sub := List.getElem_mem hlt
      have hd : e.sub.drop k = e.sub[k] :: e.sub.drop (k + 1) := List.drop_eq_getElem_cons hlt
      generalize e.sub[k] = x at hx hmem hd
      obtain ⟨b, off, A', cap', rfl, c0, c1, c2, c3, hs⟩ := (he.later hbel).get hx
      have hpc := HP1.out k x hx
      have hbx : b < wr.heap.size := block_lt_of_cell c0
      have hbx1 : b < wr.heap.size + 1 := by omega
      have hlr := hl.later hbel
      have hgr := hg.later hbel
      clear hd hx hmem
      unfold partC at hpc
      by_cases h8 : e.kind = 8
      · rw [if_pos (by omega)] at hpc
        have hofx := fun W h => clkOf_any l A cap hn x A' cap' 0 ⟨#[]⟩ W (hgr.later h) (hs.later h) (hlr.later h)
        rw [hpc] at hofx
        obtain ⟨u1, u2⟩ := (show ck = 1 ∧ cs.toList = e.name.toList from HP2.out h8)
        have t8 : (e.kind == 8) = true := by rw [h8]; rfl
        have s1 : (ck != 1) = false := by rw [u1]; rfl
        have s2 : (cs.toList == e.name.toList) = true := by rw [u2]; simp
        clear u1 u2 hpc h8
        unfold exV at hofx
        go_wp2_with fail
        refine wp_region_qb (by kernel_rfl) (by kernel_rfl) (fun hgq => ?_)
        repeat (quiet_step ((first | (go_at_call 19; exact Calls.regrown_of (hofx _ (by repeat (first | exact Below.refl _ _ | (with_reducible assumption) | refine bel_trans ?_ (by with_reducible assumption) | refine bel_trans ?_ (below_regrown _ _ _) | refine bel_drew ?_ | refine bel_drewN ?_ _ | refine bel_alloc ?_ _ | refine bel_grow ?_ (by with_reducible assumption) (by omega))))))))
        refine wpQuiet_nil ?_
        intro wq hwq
        replace hwq := bel_of_class hwq
        clear hgq
        have hcq := bcell hwq
        have hzq := hwq.size
        (try simp at hzq)
        (try have hyq1 : w.heap.size < wq.heap.size := by omega); (try have hyq2 : w.heap.size + 1 < wq.heap.size := by omega); (try have hyq3 : w.heap.size + 2 < wq.heap.size := by omega); (try have hyq4 : wr.heap.size < wq.heap.size := by omega)
        go_wp2_with fail
        go_roundw
        case rel => exact ⟨k + 1, by omega, by go_num, (by repeat (first | exact Below.refl _ _ | (with_reducible assumption) | refine bel_trans ?_ (by with_reducible assumption) | refine bel_trans ?_ (below_regrown _ _ _) | refine bel_drew ?_ | refine bel_drewN ?_ _ | refine bel_alloc ?_ _ | refine bel_grow ?_ (by with_reducible assumption) (by omega)))⟩
        case measure => simp [intOf]; omega
      by_cases h9 : e.kind = 9
      · rw [if_pos (by omega)] at hpc
        have hofx := fun W h => clkOf_any l A cap hn x A' cap' 0 ⟨#[]⟩ W (hgr.later h) (hs.later h) (hlr.later h)
        rw [hpc] at hofx
        obtain ⟨u1, u2⟩ := (show ck = 2 ∧ cs.toList = e.name.toList from HP3.out h9)
        have t8 : (e.kind == 8) = false := by rw [h9]; rfl
        have t9 : (e.kind == 9) = true := by rw [h9]; rfl
        have s1 : (ck != 2) = false := by rw [u1]; rfl
        have s2 : (cs.toList == e.name.toList) = true := by rw [u2]; simp
        clear u1 u2 hpc h8 h9
        unfold exV at hofx
        go_wp2_with fail
        refine wp_region_qb (by kernel_rfl) (by kernel_rfl) (fun hgq => ?_)
        repeat (quiet_step ((first | (go_at_call 19; exact Calls.regrown_of (hofx _ (by repeat (first | exact Below.refl _ _ | (with_reducible assumption) | refine bel_trans ?_ (by with_reducible assumption) | refine bel_trans ?_ (below_regrown _ _ _) | refine bel_drew ?_ | refine bel_drewN ?_ _ | refine bel_alloc ?_ _ | refine bel_grow ?_ (by with_reducible assumption) (by omega))))))))
        refine wpQuiet_nil ?_
        intro wq hwq
        replace hwq := bel_of_class hwq
        clear hgq
        have hcq := bcell hwq
        have hzq := hwq.size
        (try simp at hzq)
        (try have hyq1 : w.heap.size < wq.heap.size := by omega); (try have hyq2 : w.heap.size + 1 < wq.heap.size := by omega); (try have hyq3 : w.heap.size + 2 < wq.heap.size := by omega); (try have hyq4 : wr.heap.size < wq.heap.size := by omega)
        go_wp2_with fail
        go_roundw
        case rel => exact ⟨k + 1, by omega, by go_num, (by repeat (first | exact Below.refl _ _ | (with_reducible assumption) | refine bel_trans ?_ (by with_reducible assumption) | refine bel_trans ?_ (below_regrown _ _ _) | refine bel_drew ?_ | refine bel_drewN ?_ _ | refine bel_alloc ?_ _ | refine bel_grow ?_ (by with_reducible assumption) (by omega)))⟩
        case measure => simp [intOf]; omega
      rw [if_neg (by omega)] at hpc
      have t8 : (e.kind == 8) = false := by simpa using h8
      have t9 : (e.kind == 9) = false := by simpa using h9
      by_cases h10 : e.kind = 10
      · rw [if_pos h10] at hpc
        have u1 : ck = 0 := HP4.out h10
        have t10 : (e.kind == 10) = true := by rw [h10]; rfl
        have s1 : (ck != 0) = false := by rw [u1]; rfl
        clear u1 h8 h9 h10
        by_cases hk1 : k = 1
        · rw [if_pos hk1] at hpc
          have hofx := fun W h => clkOf_any l A cap hn x A' cap' 2 e.name W (hgr.later h) (hs.later h) (hlr.later h)
          rw [hpc] at hofx
          have s3 : ((k : Int) == 1) = true := by rw [hk1]; rfl
          clear hpc hk1
          unfold exV at hofx
          go_wp2_with fail
          refine wp_region_qb (by kernel_rfl) (by kernel_rfl) (fun hgq => ?_)
          repeat (quiet_step ((first | (go_at_call 19; exact Calls.regrown_of (hofx _ (by repeat (first | exact Below.refl _ _ | (with_reducible assumption) | refine bel_trans ?_ (by with_reducible assumption) | refine bel_trans ?_ (below_regrown _ _ _) | refine bel_drew ?_ | refine bel_drewN ?_ _ | refine bel_alloc ?_ _ | refine bel_grow ?_ (by with_reducible assumption) (by omega))))))))
          refine wpQuiet_nil ?_
          intro wq hwq
          replace hwq := bel_of_class hwq
          clear hgq
          have hcq := bcell hwq
          have hzq := hwq.size
          (try simp at hzq)
          (try have hyq1 : w.heap.size < wq.heap.size := by omega); (try have hyq2 : w.heap.size + 1 < wq.heap.size := by omega); (try have hyq3 : w.heap.size + 2 < wq.heap.size := by omega); (try have hyq4 : wr.heap.size < wq.heap.size := by omega)
          go_wp2_with fail
          go_roundw
          case rel => exact ⟨k + 1, by omega, by go_num, (by repeat (first | exact Below.refl _ _ | (with_reducible assumption) | refine bel_trans ?_ (by with_reducible assumption) | refine bel_trans ?_ (below_regrown _ _ _) | refine bel_drew ?_ | refine bel_drewN ?_ _ | refine bel_alloc ?_ _ | refine bel_grow ?_ (by with_reducible assumption) (by omega)))⟩
          case measure => simp [intOf]; omega
        · rw [if_neg hk1] at hpc
          have hofx := fun W h => clkOf_any l A cap hn x A' cap' 1 e.name W (hgr.later h) (hs.later h) (hlr.later h)
          rw [hpc] at hofx
          have s3 : ((k : Int) == 1) = false := by simp; omega
          clear hpc hk1
          unfold exV at hofx
          go_wp2_with fail
          refine wp_region_qb (by kernel_rfl) (by kernel_rfl) (fun hgq => ?_)
          repeat (quiet_step ((first | (go_at_call 19; exact Calls.regrown_of (hofx _ (by repeat (first | exact Below.refl _ _ | (with_reducible assumption) | refine bel_trans ?_ (by with_reducible assumption) | refine bel_trans ?_ (below_regrown _ _ _) | refine bel_drew ?_ | refine bel_drewN ?_ _ | refine bel_alloc ?_ _ | refine bel_grow ?_ (by with_reducible assumption) (by omega))))))))
          refine wpQuiet_nil ?_
          intro wq hwq
          replace hwq := bel_of_class hwq
          clear hgq
          have hcq := bcell hwq
          have hzq := hwq.size
          (try simp at hzq)
          (try have hyq1 : w.heap.size < wq.heap.size := by omega); (try have hyq2 : w.heap.size + 1 < wq.heap.size := by omega); (try have hyq3 : w.heap.size + 2 < wq.heap.size := by omega); (try have hyq4 : wr.heap.size < wq.heap.size := by omega)
          go_wp2_with fail
          go_roundw
          case rel => exact ⟨k + 1, by omega, by go_num, (by repeat (first | exact Below.refl _ _ | (with_reducible assumption) | refine bel_trans ?_ (by with_reducible assumption) | refine bel_trans ?_ (below_regrown _ _ _) | refine bel_drew ?_ | refine bel_drewN ?_ _ | refine bel_alloc ?_ _ | refine bel_grow ?_ (by with_reducible assumption) (by omega)))⟩
          case measure => simp [intOf]; omega
      · rw [if_neg h10] at hpc
        have hofx := fun W h => clkOf_any l A cap hn x A' cap' ck cs W (hgr.later h) (hs.later h) (hlr.later h)
        rw [hpc] at hofx
        have t10 : (e.kind == 10) = false := by simpa using h10
        clear hpc h8 h9 h10
        unfold exV at hofx
        go_wp2_with fail
        refine wp_region_qb (by kernel_rfl) (by kernel_rfl) (fun hgq => ?_)
        repeat (quiet_step ((first | (go_at_call 19; exact Calls.regrown_of (hofx _ (by repeat (first | exact Below.refl _ _ | (with_reducible assumption) | refine bel_trans ?_ (by with_reducible assumption) | refine bel_trans ?_ (below_regrown _ _ _) | refine bel_drew ?_ | refine bel_drewN ?_ _ | refine bel_alloc ?_ _ | refine bel_grow ?_ (by with_reducible assumption) (by omega))))))))
        refine wpQuiet_nil ?_
        intro wq hwq
        replace hwq := bel_of_class hwq
        clear hgq
        have hcq := bcell hwq
        have hzq := hwq.size
        (try simp at hzq)
        (try have hyq1 : w.heap.size < wq.heap.size := by omega); (try have hyq2 : w.heap.size + 1 < wq.heap.size := by omega); (try have hyq3 : w.heap.size + 2 < wq.heap.size := by omega); (try have hyq4 : wr.heap.size < wq.heap.size := by omega)
        go_wp2_with fail
        go_roundw
        case rel => exact ⟨k + 1, by omega, by go_num, (by repeat (first | exact Below.refl _ _ | (with_reducible assumption) | refine bel_trans ?_ (by with_reducible assumption) | refine bel_trans ?_ (below_regrown _ _ _) | refine bel_drew ?_ | refine bel_drewN ?_ _ | refine bel_alloc ?_ _ | refine bel_grow ?_ (by with_reducible assumption) (by omega)))⟩
        case measure => simp [intOf]; omega
    · clear hc
      have hgr := hg.later hbel
      have hc := bcell hbel
      obtain rfl : k = e.sub.length := by omega
      have hkn2 := fun W h => known15_any W (hgr.later h)
      clear hkn
      go_wp2_with (first | (go_at_call 13; refine (hkn2 _ (by repeat (first | exact Below.refl _ _ | (with_reducible assumption) | refine bel_trans ?_ (by with_reducible assumption) | refine bel_trans ?_ (below_regrown _ _ _) | refine bel_drew ?_ | refine bel_drewN ?_ _ | refine bel_alloc ?_ _ | refine bel_grow ?_ (by with_reducible assumption) (by omega)))).mono ?_; rintro r wn ⟨rfl, hbn⟩))
      go_ret
      exact ⟨rfl, (by repeat (first | exact Below.refl _ _ | (with_reducible assumption) | refine bel_trans ?_ (by with_reducible assumption) | refine bel_trans ?_ (below_regrown _ _ _) | refine bel_drew ?_ | refine bel_drewN ?_ _ | refine bel_alloc ?_ _ | refine bel_grow ?_ (by with_reducible assumption) (by omega)))⟩

theorem clkParts_any (e : Ex) (Ae : Option Addr) (ce : Nat) (ck : Int) (cs : ByteArray) (l : List Va) (A : Option Addr) (cap : Nat) (w : World) (hg : Always w) (he : SubsAt w e Ae ce) (hl : VarsAt w l A cap) :
    Calls Tryd.prog 5 #[exV e Ae ce, .agg #[.int .i64 ck, .string cs], .slice A l.length cap] w fun r w' => r = .returned (.bool true) ∧ Below w.heap.size w w' := by
  by_cases hz : clkOf l e (ck, cs) = 0
  · exact clkParts_yes e Ae ce ck cs l A cap w hg he hl hz
  · exact clkParts_not e Ae ce ck cs l A cap w hg he hl hz

end Go.Proofs.YtlfklfjnkpjooaaDoor
