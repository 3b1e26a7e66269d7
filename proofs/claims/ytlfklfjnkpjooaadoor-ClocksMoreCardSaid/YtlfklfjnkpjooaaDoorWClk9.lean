/- Walk over the law ClocksMore: it answers true. -/
import Derived.Test.YtlfklfjnkpjooaaDoorWFind
import Derived.Test.YtlfklfjnkpjooaaDoorBH
import Derived.Test.YtlfklfjnkpjooaaDoorBB
import Derived.WalkKit
import Derived.WalkSpells
import Derived.WalkLawsBesides
import Derived.Deep.QuietTactic
import Derived.BigQuiet
import Derived.Deep.Draws
import Derived.Lib.Hide
import Derived.Deep.LoopGhost
import Derived.StillTailTactics
import Derived.Deep.RegionHeld3
import Derived.Deep.RegionWith
import Derived.Lib.QuietBelow
set_option linter.unusedVariables false
set_option linter.unusedSimpArgs false
set_option maxRecDepth 100000
namespace Go.Proofs.YtlfklfjnkpjooaaDoor
open Go.RowKit Go.Sort

theorem vaC_one (x : Va) : ∀ u ∈ vaC x, u.oneCell' = true := by
  intro u hu
  simp [vaC] at hu
  rcases hu with rfl | rfl | rfl | rfl <;> rfl
theorem vasC_snoc (m : List Va) (x : Va) : vasC m ++ vaC x = vasC (m ++ [x]) := by simp [vasC]

set_option maxHeartbeats 1500000 in
set_option maxRecDepth 100000 in
theorem clkMore_not (e : Ex) (Ae : Option Addr) (ce : Nat) (ck : Int) (cs : ByteArray) (l : List Va) (A : Option Addr) (cap : Nat) (m : List Va) (B : Option Addr) (capm : Nat) (w : World) (hg : Always w) (he : SubsAt w e Ae ce) (hl : VarsAt w l A cap) (hz : clkOf l e (ck, cs) ≠ 0) :
    Calls Tryd.prog 6 #[exV e Ae ce, .agg #[.int .i64 ck, .string cs], .agg #[.slice A l.length cap, .slice B m.length capm]] w fun r w' => r = .returned (.bool true) ∧ Below w.heap.size w w' := by
  have hsmall := fun W h => small_any l A cap e Ae ce W (he.later h) (hl.later h)
  have hof := fun (hn : l.length ≤ 200) W h => clkOf_any l A cap (by omega) e Ae ce ck cs W (hg.later h) (he.later h) (hl.later h)
  have hkn := fun W h => known15_any W (hg.later h)
  have t1 : (clkOf l e (ck, cs) != 0) = true := by simpa using hz
  clear hz
  generalize clkOf l e (ck, cs) = f at *
  unfold exV at *
  by_cases hm : 200 < m.length
  · have tm : decide (200 < (m.length : Int)) = true := by simp; omega
    go_enter Tryd.func6, Tryd.ntmps6
    go_wp2_with (first | (go_at_call 18; go_loud (refine (hsmall _ (by repeat (first | exact Below.refl _ _ | (with_reducible assumption) | refine bel_trans ?_ (by with_reducible assumption) | refine bel_trans ?_ (below_regrown _ _ _) | refine bel_drew ?_ | refine bel_drewN ?_ _ | refine bel_alloc ?_ _ | refine bel_grow ?_ (by with_reducible assumption) (by omega)))).mono ?_; rintro r wl ⟨⟨bl, rfl, hlb⟩, hbl⟩; have hcl := bcell hbl; have hzl := hbl.size; (try simp at hzl); have hyl : w.heap.size < wl.heap.size := (by omega); have hyl1 : w.heap.size + 1 < wl.heap.size := (by omega); (try have hyl2 : w.heap.size + 2 < wl.heap.size := (by omega)); cases bl)) | (go_at_call 19; go_loud (refine (hof (by have := hlb (by trivial); omega) _ (by repeat (first | exact Below.refl _ _ | (with_reducible assumption) | refine bel_trans ?_ (by with_reducible assumption) | refine bel_trans ?_ (below_regrown _ _ _) | refine bel_drew ?_ | refine bel_drewN ?_ _ | refine bel_alloc ?_ _ | refine bel_grow ?_ (by with_reducible assumption) (by omega)))).mono ?_; rintro r wk ⟨rfl, hbk⟩; have hck := bcell hbk; have hzk := hbk.size; have hyk : w.heap.size < wk.heap.size := (by omega); have hyk1 : w.heap.size + 1 < wk.heap.size := (by omega); (try have hyk2 : w.heap.size + 2 < wk.heap.size := (by omega)))) | (go_at_call 13; refine (hkn _ (by repeat (first | exact Below.refl _ _ | (with_reducible assumption) | refine bel_trans ?_ (by with_reducible assumption) | refine bel_trans ?_ (below_regrown _ _ _) | refine bel_drew ?_ | refine bel_drewN ?_ _ | refine bel_alloc ?_ _ | refine bel_grow ?_ (by with_reducible assumption) (by omega)))).mono ?_; rintro r wn ⟨rfl, hbn⟩; have hcn := bcell hbn; have hzn := hbn.size))
    all_goals
      go_ret
      exact ⟨rfl, (by repeat (first | exact Below.refl _ _ | (with_reducible assumption) | refine bel_trans ?_ (by with_reducible assumption) | refine bel_trans ?_ (below_regrown _ _ _) | refine bel_drew ?_ | refine bel_drewN ?_ _ | refine bel_alloc ?_ _ | refine bel_grow ?_ (by with_reducible assumption) (by omega)))⟩
  · have tm : decide (200 < (m.length : Int)) = false := by simp; omega
    go_enter Tryd.func6, Tryd.ntmps6
    go_wp2_with (first | (go_at_call 18; go_loud (refine (hsmall _ (by repeat (first | exact Below.refl _ _ | (with_reducible assumption) | refine bel_trans ?_ (by with_reducible assumption) | refine bel_trans ?_ (below_regrown _ _ _) | refine bel_drew ?_ | refine bel_drewN ?_ _ | refine bel_alloc ?_ _ | refine bel_grow ?_ (by with_reducible assumption) (by omega)))).mono ?_; rintro r wl ⟨⟨bl, rfl, hlb⟩, hbl⟩; have hcl := bcell hbl; have hzl := hbl.size; (try simp at hzl); have hyl : w.heap.size < wl.heap.size := (by omega); have hyl1 : w.heap.size + 1 < wl.heap.size := (by omega); (try have hyl2 : w.heap.size + 2 < wl.heap.size := (by omega)); cases bl)) | (go_at_call 19; go_loud (refine (hof (by have := hlb (by trivial); omega) _ (by repeat (first | exact Below.refl _ _ | (with_reducible assumption) | refine bel_trans ?_ (by with_reducible assumption) | refine bel_trans ?_ (below_regrown _ _ _) | refine bel_drew ?_ | refine bel_drewN ?_ _ | refine bel_alloc ?_ _ | refine bel_grow ?_ (by with_reducible assumption) (by omega)))).mono ?_; rintro r wk ⟨rfl, hbk⟩; have hck := bcell hbk; have hzk := hbk.size; have hyk : w.heap.size < wk.heap.size := (by omega); have hyk1 : w.heap.size + 1 < wk.heap.size := (by omega); (try have hyk2 : w.heap.size + 2 < wk.heap.size := (by omega)))) | (go_at_call 13; refine (hkn _ (by repeat (first | exact Below.refl _ _ | (with_reducible assumption) | refine bel_trans ?_ (by with_reducible assumption) | refine bel_trans ?_ (below_regrown _ _ _) | refine bel_drew ?_ | refine bel_drewN ?_ _ | refine bel_alloc ?_ _ | refine bel_grow ?_ (by with_reducible assumption) (by omega)))).mono ?_; rintro r wn ⟨rfl, hbn⟩; have hcn := bcell hbn; have hzn := hbn.size))
    all_goals
      go_ret
      exact ⟨rfl, (by repeat (first | exact Below.refl _ _ | (with_reducible assumption) | refine bel_trans ?_ (by with_reducible assumption) | refine bel_trans ?_ (below_regrown _ _ _) | refine bel_drew ?_ | refine bel_drewN ?_ _ | refine bel_alloc ?_ _ | refine bel_grow ?_ (by with_reducible assumption) (by omega)))⟩

set_option maxHeartbeats 1500000 in
set_option maxRecDepth 100000 in
theorem clkMore_yes (e : Ex) (Ae : Option Addr) (ce : Nat) (ck : Int) (cs : ByteArray) (l : List Va) (A : Option Addr) (cap : Nat) (m : List Va) (B : Option Addr) (capm : Nat) (w : World) (hg : Always w) (he : SubsAt w e Ae ce) (hl : VarsAt w l A cap) (hml : VarsAt w m B capm) (hz : clkOf l e (ck, cs) = 0) :
    Calls Tryd.prog 6 #[exV e Ae ce, .agg #[.int .i64 ck, .string cs], .agg #[.slice A l.length cap, .slice B m.length capm]] w fun r w' => r = .returned (.bool true) ∧ Below w.heap.size w w' := by
  have hsmall := fun W h => small_any l A cap e Ae ce W (he.later h) (hl.later h)
  have hof := fun (hn : l.length ≤ 200) W h => clkOf_any l A cap (by omega) e Ae ce ck cs W (hg.later h) (he.later h) (hl.later h)
  have hkn := fun W h => known15_any W (hg.later h)
  have hmore := more_law (m := m) hz
  rw [hz] at hof
  have HM := Lib.hid hmore; clear hmore hz
  unfold exV at *
  by_cases hm : 200 < m.length
  · have tm : decide (200 < (m.length : Int)) = true := by simp; omega
    go_enter Tryd.func6, Tryd.ntmps6
    go_wp2_with (first | (go_at_call 18; go_loud (refine (hsmall _ (by repeat (first | exact Below.refl _ _ | (with_reducible assumption) | refine bel_trans ?_ (by with_reducible assumption) | refine bel_trans ?_ (below_regrown _ _ _) | refine bel_drew ?_ | refine bel_drewN ?_ _ | refine bel_alloc ?_ _ | refine bel_grow ?_ (by with_reducible assumption) (by omega)))).mono ?_; rintro r wl ⟨⟨bl, rfl, hlb⟩, hbl⟩; have hcl := bcell hbl; have hzl := hbl.size; (try simp at hzl); have hyl : w.heap.size < wl.heap.size := (by omega); have hyl1 : w.heap.size + 1 < wl.heap.size := (by omega); (try have hyl2 : w.heap.size + 2 < wl.heap.size := (by omega)); cases bl)) | (go_at_call 19; go_loud (refine (hof (by have := hlb (by trivial); omega) _ (by repeat (first | exact Below.refl _ _ | (with_reducible assumption) | refine bel_trans ?_ (by with_reducible assumption) | refine bel_trans ?_ (below_regrown _ _ _) | refine bel_drew ?_ | refine bel_drewN ?_ _ | refine bel_alloc ?_ _ | refine bel_grow ?_ (by with_reducible assumption) (by omega)))).mono ?_; rintro r wk ⟨rfl, hbk⟩; have hck := bcell hbk; have hzk := hbk.size; have hyk : w.heap.size < wk.heap.size := (by omega); have hyk1 : w.heap.size + 1 < wk.heap.size := (by omega); (try have hyk2 : w.heap.size + 2 < wk.heap.size := (by omega)))) | (go_at_call 13; refine (hkn _ (by repeat (first | exact Below.refl _ _ | (with_reducible assumption) | refine bel_trans ?_ (by with_reducible assumption) | refine bel_trans ?_ (below_regrown _ _ _) | refine bel_drew ?_ | refine bel_drewN ?_ _ | refine bel_alloc ?_ _ | refine bel_grow ?_ (by with_reducible assumption) (by omega)))).mono ?_; rintro r wn ⟨rfl, hbn⟩; have hcn := bcell hbn; have hzn := hbn.size))
    all_goals
      go_ret
      exact ⟨rfl, (by repeat (first | exact Below.refl _ _ | (with_reducible assumption) | refine bel_trans ?_ (by with_reducible assumption) | refine bel_trans ?_ (below_regrown _ _ _) | refine bel_drew ?_ | refine bel_drewN ?_ _ | refine bel_alloc ?_ _ | refine bel_grow ?_ (by with_reducible assumption) (by omega)))⟩
  have tm : decide (200 < (m.length : Int)) = false := by simp; omega
  go_enter Tryd.func6, Tryd.ntmps6
  go_wp2_with (first | (go_at_call 18; go_loud (refine (hsmall _ (by repeat (first | exact Below.refl _ _ | (with_reducible assumption) | refine bel_trans ?_ (by with_reducible assumption) | refine bel_trans ?_ (below_regrown _ _ _) | refine bel_drew ?_ | refine bel_drewN ?_ _ | refine bel_alloc ?_ _ | refine bel_grow ?_ (by with_reducible assumption) (by omega)))).mono ?_; rintro r wl ⟨⟨bl, rfl, hlb⟩, hbl⟩; have hcl := bcell hbl; have hzl := hbl.size; (try simp at hzl); have hyl : w.heap.size < wl.heap.size := (by omega); have hyl1 : w.heap.size + 1 < wl.heap.size := (by omega); (try have hyl2 : w.heap.size + 2 < wl.heap.size := (by omega)); cases bl)) | (go_at_call 19; go_loud (refine (hof (by have := hlb (by trivial); omega) _ (by repeat (first | exact Below.refl _ _ | (with_reducible assumption) | refine bel_trans ?_ (by with_reducible assumption) | refine bel_trans ?_ (below_regrown _ _ _) | refine bel_drew ?_ | refine bel_drewN ?_ _ | refine bel_alloc ?_ _ | refine bel_grow ?_ (by with_reducible assumption) (by omega)))).mono ?_; rintro r wk ⟨rfl, hbk⟩; have hck := bcell hbk; have hzk := hbk.size; have hyk : w.heap.size < wk.heap.size := (by omega); have hyk1 : w.heap.size + 1 < wk.heap.size := (by omega); (try have hyk2 : w.heap.size + 2 < wk.heap.size := (by omega)))) | (go_at_call 13; refine (hkn _ (by repeat (first | exact Below.refl _ _ | (with_reducible assumption) | refine bel_trans ?_ (by with_reducible assumption) | refine bel_trans ?_ (below_regrown _ _ _) | refine bel_drew ?_ | refine bel_drewN ?_ _ | refine bel_alloc ?_ _ | refine bel_grow ?_ (by with_reducible assumption) (by omega)))).mono ?_; rintro r wn ⟨rfl, hbn⟩; have hcn := bcell hbn; have hzn := hbn.size))
  · go_ret
    exact ⟨rfl, (by repeat (first | exact Below.refl _ _ | (with_reducible assumption) | refine bel_trans ?_ (by with_reducible assumption) | refine bel_trans ?_ (below_regrown _ _ _) | refine bel_drew ?_ | refine bel_drewN ?_ _ | refine bel_alloc ?_ _ | refine bel_grow ?_ (by with_reducible assumption) (by omega)))⟩
  have hn : l.length ≤ 200 := hlb (by trivial)
  clear hlb hsmall hof
  refine wp_name fun W0 hW0 => ?_
  have hb0 : Below w.heap.size w W0 := by rw [hW0]; exact (by repeat (first | exact Below.refl _ _ | (with_reducible assumption) | refine bel_trans ?_ (by with_reducible assumption) | refine bel_trans ?_ (below_regrown _ _ _) | refine bel_drew ?_ | refine bel_drewN ?_ _ | refine bel_alloc ?_ _ | refine bel_grow ?_ (by with_reducible assumption) (by omega)))
  have hz0 : w.heap.size < W0.heap.size := by rw [hW0]; omega
  have hz1 : w.heap.size + 1 < W0.heap.size := by rw [hW0]; omega
  have hz2 : w.heap.size + 1 + 1 < W0.heap.size := by rw [hW0]; omega
  have x0 : W0.cell? ⟨w.heap.size, 0, none⟩ = some (.int .i64 e.kind) := by rw [hW0]; go_simp
  have x1 : W0.cell? ⟨w.heap.size, 1, none⟩ = some (.int .i32 e.n) := by rw [hW0]; go_simp
  have x2 : W0.cell? ⟨w.heap.size, 2, none⟩ = some (.string e.name) := by rw [hW0]; go_simp
  have x3 : W0.cell? ⟨w.heap.size, 3, none⟩ = some (.slice Ae e.sub.length ce) := by rw [hW0]; go_simp
  have y0 : W0.cell? ⟨w.heap.size + 1, 0, none⟩ = some (.int .i64 ck) := by rw [hW0]; go_simp
  have y1 : W0.cell? ⟨w.heap.size + 1, 1, none⟩ = some (.string cs) := by rw [hW0]; go_simp
  have z0 : W0.cell? ⟨w.heap.size + 1 + 1, 0, none⟩ = some (.slice A l.length cap) := by rw [hW0]; go_simp
  have z1 : W0.cell? ⟨w.heap.size + 1 + 1, 1, none⟩ = some (.slice B m.length capm) := by rw [hW0]; go_simp
  clear hW0
  replace hl := hl.later hb0
  replace hml := hml.later hb0
  replace he := he.later hb0
  replace hg := hg.later hb0
  go_loopw [7, 8] (fun a i wr => ∃ (k : Nat) (r : List Va), k ≤ m.length ∧ i = .int .i64 k ∧ r.length ≤ k ∧ wr.ownsRow W0.heap.size 49 4 a r.length (vasC r) ∧ r ++ keepF l (m.drop k) = keepF l m ∧ Below W0.heap.size W0 wr) (fun _ i _ => m.length - (intOf i).toNat)
  case atStart => exact ⟨0, [], Nat.zero_le _, rfl, Nat.le_refl _, World.ownsRow_nil _ _ _ _, rfl, Below.refl _ _⟩
  case round =>
    obtain ⟨k, r, hk, rfl, hrk, hown, hrem, hbel⟩ := hrel
    have hc := bcell hbel
    have hzr := hbel.size
    have hr1 : w.heap.size < wr.heap.size := by omega
    have hr2 : w.heap.size + 1 < wr.heap.size := by omega
    have hr3 : w.heap.size + 1 + 1 < wr.heap.size := by omega
    by_cases hlt : k < m.length
    · have hx : m[k]? = some m[k] := List.getElem?_eq_getElem hlt
      have hd : m.drop k = m[k] :: m.drop (k + 1) := List.drop_eq_getElem_cons hlt
      generalize m[k] = x at hx hd
      obtain ⟨b, off, rfl, hbb, ⟨d0, d1, d2, d3⟩⟩ := (hml.later hbel).get hx
      rw [hd, keepF] at hrem
      have hfind := fun W h => refFind_any l A cap x.name W ((hl.later hbel).later h)
      clear hd hx
      cases hfv : findV l x.name with
      | none =>
        rw [if_pos hfv] at hrem
        have hrf : refFind l x.name = -1 := by unfold refFind; rw [hfv]; rfl
        rw [hrf] at hfind
        clear hfv hrf
        have HR := Lib.hid hrem; clear hrem
        go_wp2_with fail
        refine wp_region_qb (by kernel_rfl) (by kernel_rfl) (fun hgq => ?_)
        repeat (quiet_step ((first | (go_at_call 22; exact Calls.regrown_of (hfind _ (by repeat (first | exact Below.refl _ _ | (with_reducible assumption) | refine bel_trans ?_ (by with_reducible assumption) | refine bel_trans ?_ (below_regrown _ _ _) | refine bel_drew ?_ | refine bel_drewN ?_ _ | refine bel_alloc ?_ _ | refine bel_grow ?_ (by with_reducible assumption) (by omega))))))))
        refine wpQuiet_nil ?_
        intro wq hwq
        replace hwq := bel_of_class hwq
        clear hgq
        have hcq := bcell hwq
        have hzq := hwq.size
        (try simp at hzq)
        (try have hyq1 : w.heap.size < wq.heap.size := by omega); (try have hyq2 : w.heap.size + 1 < wq.heap.size := by omega); (try have hyq3 : w.heap.size + 2 < wq.heap.size := by omega); (try have hyq4 : wr.heap.size < wq.heap.size := by omega)
        have hyb : b < wq.heap.size := by omega
        have hyb1 : b < wq.heap.size + 1 := by omega
        have hy7 : w.heap.size + 1 + 1 < wq.heap.size := by omega
        go_wp2_with (at_builtin; refine wpList_app rfl (.tmp 46) (.tmp 52) 22 rfl W0.heap.size 49 _ 4 48 Tryd.underlying22 vainfo rfl (by omega) u7 r.length (vasC r) _ 1 (vaC x) rfl (by repeat (first | (with_reducible assumption) | refine own_alloc ?_ | refine own_bel ?_ (by with_reducible assumption) | refine own_drew ?_)) rfl rfl (fun j u hj => by rw [cell_new]; simpa [vaC] using hj) (vaC_one x) (by omega) (by omega) (by first | omega | (simp; omega)) ?_; intro v2 w2 hown2 hb2; have hz2' := hb2.size; (try simp at hz2'))
        go_roundw
        case rel => exact ⟨k + 1, r ++ [x], by omega, by go_num, by simp; omega, by simpa [vasC_snoc] using hown2, by have := HR.out; simpa using this, (by repeat (first | exact Below.refl _ _ | (with_reducible assumption) | refine bel_trans ?_ (by with_reducible assumption) | refine bel_trans ?_ (below_regrown _ _ _) | refine bel_drew ?_ | refine bel_drewN ?_ _ | refine bel_alloc ?_ _ | refine bel_grow ?_ (by with_reducible assumption) (by omega)))⟩
        case measure => simp [intOf]; omega
      | some j =>
        rw [if_neg (by rw [hfv]; simp)] at hrem
        obtain ⟨kk, _, rfl, _, _⟩ := findV_some hfv
        have hrf : refFind l x.name = (kk : Int) := by unfold refFind; rw [hfv]; rfl
        rw [hrf] at hfind
        clear hfv hrf
        have HR := Lib.hid hrem; clear hrem
        have t0 : ¬ ((kk : Int) < 0) := by omega
        go_wp2_with fail
        refine wp_region_qb (by kernel_rfl) (by kernel_rfl) (fun hgq => ?_)
        repeat (quiet_step ((first | (go_at_call 22; exact Calls.regrown_of (hfind _ (by repeat (first | exact Below.refl _ _ | (with_reducible assumption) | refine bel_trans ?_ (by with_reducible assumption) | refine bel_trans ?_ (below_regrown _ _ _) | refine bel_drew ?_ | refine bel_drewN ?_ _ | refine bel_alloc ?_ _ | refine bel_grow ?_ (by with_reducible assumption) (by omega))))))))
        refine wpQuiet_nil ?_
        intro wq hwq
        replace hwq := bel_of_class hwq
        clear hgq
        have hcq := bcell hwq
        have hzq := hwq.size
        (try simp at hzq)
        (try have hyq1 : w.heap.size < wq.heap.size := by omega); (try have hyq2 : w.heap.size + 1 < wq.heap.size := by omega); (try have hyq3 : w.heap.size + 2 < wq.heap.size := by omega); (try have hyq4 : wr.heap.size < wq.heap.size := by omega)
        go_wp2_with fail
        go_roundw
        case rel => exact ⟨k + 1, r, by omega, by go_num, by omega, (by repeat (first | (with_reducible assumption) | refine own_alloc ?_ | refine own_bel ?_ (by with_reducible assumption) | refine own_drew ?_)), HR.out, (by repeat (first | exact Below.refl _ _ | (with_reducible assumption) | refine bel_trans ?_ (by with_reducible assumption) | refine bel_trans ?_ (below_regrown _ _ _) | refine bel_drew ?_ | refine bel_drewN ?_ _ | refine bel_alloc ?_ _ | refine bel_grow ?_ (by with_reducible assumption) (by omega)))⟩
        case measure => simp [intOf]; omega
    · have hke : k = m.length := by omega
      rw [hke, List.drop_length, keepF, List.append_nil] at hrem
      have hcl := (hl.later hbel).cells
      have HR := Lib.hid hrem; clear hrem hke
      go_wp2_with (at_builtin; refine wpList_cat rfl (.tmp 54) (.tmp 56) 22 rfl W0.heap.size 49 _ 4 48 Tryd.underlying22 vainfo rfl (by omega) u7 r.length (vasC r) A l.length cap (vasC l) rfl hown rfl hcl (vasC_one _) (by omega) (by omega) (by omega) ?_; intro v2 w2 hown2 hb2; have hb2' : Below W0.heap.size W0 w2 := hbel.trans (hb2.mono (by omega)); have hc2 := bcell hb2'; have hz3 := hb2'.size; have q1 : w.heap.size < w2.heap.size := (by omega); have q2 : w.heap.size + 1 < w2.heap.size := (by omega); obtain ⟨A2, c2, rfl, _, _⟩ := own_slice hown2)
      have hll : r.length + l.length = (keepF l m ++ l).length := by rw [List.length_append, ← HR.out]
      have hvv : vasC r ++ vasC l = vasC (keepF l m ++ l) := by rw [← HR.out]; simp [vasC]
      rw [hll, hvv] at hown2
      have hvl := VarsAt.of_own hown2
      have hlm : (keepF l m ++ l).length ≤ 1000000 := by
        have := keepF_len l m
        rw [List.length_append]; omega
      have hof2 := fun W h => clkOf_any (keepF l m ++ l) A2 c2 hlm e Ae ce ck cs W ((hg.later hb2').later h) ((he.later hb2').later h) (hvl.later h)
      rw [HM.out] at hof2
      have hkn2 := fun W h => known15_any W ((hg.later hb2').later h)
      rw [hll]
      generalize (keepF l m ++ l) = ml at *
      clear hc hll hvv hkn
      unfold exV at hof2
      go_wp2_with (first | (go_at_call 19; go_loud (refine (hof2 _ (by repeat (first | exact Below.refl _ _ | (with_reducible assumption) | refine bel_trans ?_ (by with_reducible assumption) | refine bel_trans ?_ (below_regrown _ _ _) | refine bel_drew ?_ | refine bel_drewN ?_ _ | refine bel_alloc ?_ _ | refine bel_grow ?_ (by with_reducible assumption) (by omega)))).mono ?_; rintro r w3 ⟨rfl, hb3⟩)) | (go_at_call 13; refine (hkn2 _ (by repeat (first | exact Below.refl _ _ | (with_reducible assumption) | refine bel_trans ?_ (by with_reducible assumption) | refine bel_trans ?_ (below_regrown _ _ _) | refine bel_drew ?_ | refine bel_drewN ?_ _ | refine bel_alloc ?_ _ | refine bel_grow ?_ (by with_reducible assumption) (by omega)))).mono ?_; rintro r wn ⟨rfl, hbn⟩))
      go_ret
      exact ⟨rfl, bel_trans hb0 (by repeat (first | exact Below.refl _ _ | (with_reducible assumption) | refine bel_trans ?_ (by with_reducible assumption) | refine bel_trans ?_ (below_regrown _ _ _) | refine bel_drew ?_ | refine bel_drewN ?_ _ | refine bel_alloc ?_ _ | refine bel_grow ?_ (by with_reducible assumption) (by omega)))⟩

theorem clkMore_any (e : Ex) (Ae : Option Addr) (ce : Nat) (ck : Int) (cs : ByteArray) (l : List Va) (A : Option Addr) (cap : Nat) (m : List Va) (B : Option Addr) (capm : Nat) (w : World) (hg : Always w) (he : SubsAt w e Ae ce) (hl : VarsAt w l A cap) (hml : VarsAt w m B capm) :
    Calls Tryd.prog 6 #[exV e Ae ce, .agg #[.int .i64 ck, .string cs], .agg #[.slice A l.length cap, .slice B m.length capm]] w fun r w' => r = .returned (.bool true) ∧ Below w.heap.size w w' := by
  by_cases hz : clkOf l e (ck, cs) = 0
  · exact clkMore_yes e Ae ce ck cs l A cap m B capm w hg he hl hml hz
  · exact clkMore_not e Ae ce ck cs l A cap m B capm w hg he hl hz

end Go.Proofs.YtlfklfjnkpjooaaDoor
