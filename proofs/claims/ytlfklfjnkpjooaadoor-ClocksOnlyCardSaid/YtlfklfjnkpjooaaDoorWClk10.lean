/- Walks over the law ClocksOnly and its plain: it answers true. -/
import Derived.Test.YtlfklfjnkpjooaaDoorWRefTree
import Derived.Test.YtlfklfjnkpjooaaDoorBH
import Derived.WalkKit
import Derived.WalkSpells
import Derived.WalkLawsBesides
import Derived.Deep.QuietTactic
import Derived.BigQuiet
import Derived.Deep.Draws
import Derived.Lib.Hide
import Derived.Deep.LoopGhost
import Derived.StillTailTactics
import Derived.Deep.RegionHeld3
import Derived.Deep.RegionWith
import Derived.Lib.QuietBelow
set_option linter.unusedVariables false
set_option linter.unusedSimpArgs false
set_option maxRecDepth 100000
namespace Go.Proofs.YtlfklfjnkpjooaaDoor
open Go.RowKit Go.Sort

set_option maxHeartbeats 1000000 in
theorem plain_any (e : Ex) : ∀ (A : Option Addr) (cap : Nat) (w : World), SubsAt w e A cap →
    Calls Tryd.prog 21 #[exV e A cap] w fun r w' => r = .returned (.bool e.bare) ∧ Below w.heap.size w w' := by
  induction e using Ex.ind with
  | h e ih =>
  intro A cap w he
  have hl := he.len
  unfold maxLen at hl
  obtain ⟨hl1, hl2⟩ := hl
  have hv := Ex.bare_eq e
  unfold exV
  cases hse : e.name.toList.isEmpty
  · rw [hse, Bool.false_and] at hv
    have HV := Lib.hid hv; clear hv
    go_enter Tryd.func21, Tryd.ntmps21
    go_wp2_with fail
    go_ret
    exact ⟨ret_bool HV.out.symm, (by repeat (first | exact Below.refl _ _ | (with_reducible assumption) | refine bel_trans ?_ (by with_reducible assumption) | refine bel_trans ?_ (below_regrown _ _ _) | refine bel_drew ?_ | refine bel_drewN ?_ _ | refine bel_alloc ?_ _ | refine bel_grow ?_ (by with_reducible assumption) (by omega)))⟩
  · rw [hse, Bool.true_and] at hv
    have HV := Lib.hid hv; clear hv
    go_enter Tryd.func21, Tryd.ntmps21
    go_wp2_with fail
    refine wp_name fun W0 hW0 => ?_
    have hb0 : Below w.heap.size w W0 := by rw [hW0]; exact (by repeat (first | exact Below.refl _ _ | (with_reducible assumption) | refine bel_trans ?_ (by with_reducible assumption) | refine bel_trans ?_ (below_regrown _ _ _) | refine bel_drew ?_ | refine bel_drewN ?_ _ | refine bel_alloc ?_ _ | refine bel_grow ?_ (by with_reducible assumption) (by omega)))
    have hz0 : w.heap.size < W0.heap.size := by rw [hW0]; simp
    have p3 : W0.cell? ⟨w.heap.size, 3, none⟩ = some (.slice A e.sub.length cap) := by rw [hW0]; go_simp
    clear hW0
    replace he := he.later hb0
    go_loopw [3] (fun i wr => ∃ (k : Nat), k ≤ e.sub.length ∧ i = .int .i64 k ∧ Ex.bareL (e.sub.drop k) = e.bare ∧ Below W0.heap.size W0 wr) (fun i _ => e.sub.length - (intOf i).toNat)
    case atStart => exact ⟨0, Nat.zero_le _, rfl, by rw [HV.out]; rfl, Below.refl _ _⟩
    case round =>
      obtain ⟨k, hk, rfl, hrem, hbel⟩ := hrel
      have hc := bcell hbel
      have hzr := hbel.size
      have hr1 : w.heap.size < wr.heap.size := by omega
      by_cases hlt : k < e.sub.length
      · have hx : e.sub[k]? = some e.sub[k] := List.getElem?_eq_getElem hlt
        have hmem : e.sub[k] ∈ e.sub := List.getElem_mem hlt
        have hd : e.sub.drop k = e.sub[k] :: e.sub.drop (k + 1) := List.drop_eq_getElem_cons hlt
        generalize e.sub[k] = x at hx hmem hd
        obtain ⟨b, off, A', cap', rfl, c0, c1, c2, c3, hs⟩ := (he.later hbel).get hx
        rw [hd, Ex.bareL] at hrem
        have ihx := fun W h => ih x hmem A' cap' W h
        unfold exV at ihx
        cases hxb : x.bare
        · rw [hxb, Bool.false_and] at hrem
          rw [hxb] at ihx
          have HR := Lib.hid hrem; clear hrem hd hx hxb
          go_wp2_with (first | (go_at_call 21; refine (ihx _ (hs.later (by repeat (first | exact Below.refl _ _ | (with_reducible assumption) | refine bel_trans ?_ (by with_reducible assumption) | refine bel_trans ?_ (below_regrown _ _ _) | refine bel_drew ?_ | refine bel_drewN ?_ _ | refine bel_alloc ?_ _ | refine bel_grow ?_ (by with_reducible assumption) (by omega))))).mono ?_; rintro r w1 ⟨rfl, hb1⟩; have hc1 := bcell hb1; have hz1 := hb1.size; (try simp at hz1); (try have hy1 : w.heap.size < w1.heap.size := by omega); (try have hy2 : w.heap.size + 1 < w1.heap.size := by omega); (try have hy3 : w.heap.size + 2 < w1.heap.size := by omega); (try have hy4 : wr.heap.size < w1.heap.size := by omega); (try have hy5 : wr.heap.size + 1 < w1.heap.size := by omega)))
          go_ret
          exact ⟨ret_bool HR.out, (by repeat (first | exact Below.refl _ _ | (with_reducible assumption) | refine bel_trans ?_ (by with_reducible assumption) | refine bel_trans ?_ (below_regrown _ _ _) | refine bel_drew ?_ | refine bel_drewN ?_ _ | refine bel_alloc ?_ _ | refine bel_grow ?_ (by with_reducible assumption) (by omega)))⟩
        · rw [hxb, Bool.true_and] at hrem
          rw [hxb] at ihx
          have HR := Lib.hid hrem; clear hrem hd hx hxb
          go_wp2_with (first | (go_at_call 21; refine (ihx _ (hs.later (by repeat (first | exact Below.refl _ _ | (with_reducible assumption) | refine bel_trans ?_ (by with_reducible assumption) | refine bel_trans ?_ (below_regrown _ _ _) | refine bel_drew ?_ | refine bel_drewN ?_ _ | refine bel_alloc ?_ _ | refine bel_grow ?_ (by with_reducible assumption) (by omega))))).mono ?_; rintro r w1 ⟨rfl, hb1⟩; have hc1 := bcell hb1; have hz1 := hb1.size; (try simp at hz1); (try have hy1 : w.heap.size < w1.heap.size := by omega); (try have hy2 : w.heap.size + 1 < w1.heap.size := by omega); (try have hy3 : w.heap.size + 2 < w1.heap.size := by omega); (try have hy4 : wr.heap.size < w1.heap.size := by omega); (try have hy5 : wr.heap.size + 1 < w1.heap.size := by omega)))
          go_roundw
          case rel => exact ⟨k + 1, by omega, by go_num, HR.out, (by repeat (first | exact Below.refl _ _ | (with_reducible assumption) | refine bel_trans ?_ (by with_reducible assumption) | refine bel_trans ?_ (below_regrown _ _ _) | refine bel_drew ?_ | refine bel_drewN ?_ _ | refine bel_alloc ?_ _ | refine bel_grow ?_ (by with_reducible assumption) (by omega)))⟩
          case measure => simp [intOf]; omega
      · have hke : k = e.sub.length := by omega
        rw [hke, List.drop_length, Ex.bareL] at hrem
        have HR := Lib.hid hrem; clear hrem hke
        go_wp2_with fail
        go_ret
        exact ⟨ret_bool HR.out, (by repeat (first | exact Below.refl _ _ | (with_reducible assumption) | refine bel_trans ?_ (by with_reducible assumption) | refine bel_trans ?_ (below_regrown _ _ _) | refine bel_drew ?_ | refine bel_drewN ?_ _ | refine bel_alloc ?_ _ | refine bel_grow ?_ (by with_reducible assumption) (by omega)))⟩

/-- ClocksOnly, in plain Lean: its cases. -/
theorem only_law (l : List Va) (e : Ex) (c d : Int × ByteArray) :
    (e.right ≠ 0 → clkOf l e c ≠ 0 ∧ clkOf l e d ≠ 0) ∧ (e.right = 0 → e.bare = true → clkOf l e c = 0 ∧ clkOf l e d = 0) ∧
    (e.right = 0 → e.bare = false → ckEq c.1 c.2 d.1 d.2 = true ∨ clkOf l e c ≠ 0 ∨ clkOf l e d ≠ 0) := by
  refine ⟨fun h => ?_, fun h hb => ?_, fun h hb => ?_⟩
  · unfold clkOf; rw [if_pos h, if_pos h]; exact ⟨h, h⟩
  · have hf := (Ex.right_zero.1 h).2.2
    unfold clkOf
    rw [if_neg (by omega), if_neg (by omega)]
    exact ⟨clk_bare l e hf hb c, clk_bare l e hf hb d⟩
  · have hf := (Ex.right_zero.1 h).2.2
    unfold clkOf
    rw [if_neg (by omega), if_neg (by omega)]
    by_cases h1 : e.clk l c = 0
    · by_cases h2 : e.clk l d = 0
      · exact .inl (clk_two l e hf hb c d h1 h2)
      · exact .inr (.inr h2)
    · exact .inr (.inl h1)

set_option maxHeartbeats 4000000 in
set_option maxRecDepth 100000 in
theorem clkOnly_any (e : Ex) (Ae : Option Addr) (ce : Nat) (hok : e.OK) (ck : Int) (cs : ByteArray) (dk : Int) (ds : ByteArray) (l : List Va) (A : Option Addr) (cap : Nat) (w : World) (hg : Always w) (he : SubsAt w e Ae ce) (hl : VarsAt w l A cap) :
    Calls Tryd.prog 4 #[exV e Ae ce, .agg #[.int .i64 ck, .string cs, .int .i64 dk, .string ds], .slice A l.length cap] w fun r w' => r = .returned (.bool true) ∧ Below w.heap.size w w' := by
  have hsmall := fun W h => small_any l A cap e Ae ce W (he.later h) (hl.later h)
  have hofc := fun (hn : l.length ≤ 200) W h => clkOf_any l A cap (by omega) e Ae ce ck cs W (hg.later h) (he.later h) (hl.later h)
  have hofd := fun (hn : l.length ≤ 200) W h => clkOf_any l A cap (by omega) e Ae ce dk ds W (hg.later h) (he.later h) (hl.later h)
  have hkn := fun W h => known15_any W (hg.later h)
  have hright := fun W h => refRight_any e Ae ce W (he.later h) hok
  have hplain := fun W h => plain_any e Ae ce W (he.later h)
  have hgm := gmClock
  have hfq := fun w => eqClock ck cs dk ds w
  obtain ⟨q1, q2, q3⟩ := only_law l e (ck, cs) (dk, ds)
  clear hok
  unfold exV at *
  generalize clkOf l e (ck, cs) = fc at *
  generalize clkOf l e (dk, ds) = fd at *
  generalize ckEq ck cs dk ds = bq at *
  by_cases hr : e.right = 0
  · have tr : (e.right != 0) = false := by simpa using hr
    cases hb : e.bare
    · have q := q3 hr hb
      rw [hb] at hplain
      clear q1 q2 q3 hr hb
      generalize e.right = er at *
      rcases q with q | q | q
      · have q' : bq = true := q
        subst q'
        go_enter Tryd.func4, Tryd.ntmps4
        go_wp2_with (first | (go_at_call 18; go_loud (refine (hsmall _ (by repeat (first | exact Below.refl _ _ | (with_reducible assumption) | refine bel_trans ?_ (by with_reducible assumption) | refine bel_trans ?_ (below_regrown _ _ _) | refine bel_drew ?_ | refine bel_drewN ?_ _ | refine bel_alloc ?_ _ | refine bel_grow ?_ (by with_reducible assumption) (by omega)))).mono ?_; rintro r wl ⟨⟨bl, rfl, hlb⟩, hbl⟩; have hcl := bcell hbl; have hzl := hbl.size; (try simp at hzl); have hyl : w.heap.size < wl.heap.size := (by omega); have hyl1 : w.heap.size + 1 < wl.heap.size := (by omega); cases bl)) | (go_at_call_of 19 (Value.string cs); go_loud (refine (hofc (by have := hlb (by trivial); omega) _ (by repeat (first | exact Below.refl _ _ | (with_reducible assumption) | refine bel_trans ?_ (by with_reducible assumption) | refine bel_trans ?_ (below_regrown _ _ _) | refine bel_drew ?_ | refine bel_drewN ?_ _ | refine bel_alloc ?_ _ | refine bel_grow ?_ (by with_reducible assumption) (by omega)))).mono ?_; rintro r wc ⟨rfl, hbc⟩; have hcc := bcell hbc; have hzc := hbc.size; have hyc : w.heap.size < wc.heap.size := (by omega); have hyc1 : w.heap.size + 1 < wc.heap.size := (by omega))) | (go_at_call_of 19 (Value.string ds); go_loud (refine (hofd (by have := hlb (by trivial); omega) _ (by repeat (first | exact Below.refl _ _ | (with_reducible assumption) | refine bel_trans ?_ (by with_reducible assumption) | refine bel_trans ?_ (below_regrown _ _ _) | refine bel_drew ?_ | refine bel_drewN ?_ _ | refine bel_alloc ?_ _ | refine bel_grow ?_ (by with_reducible assumption) (by omega)))).mono ?_; rintro r wd ⟨rfl, hbd⟩; have hcd := bcell hbd; have hzd := hbd.size; have hyd : w.heap.size < wd.heap.size := (by omega); have hyd1 : w.heap.size + 1 < wd.heap.size := (by omega))) | (go_at_call 20; refine (hright _ (by repeat (first | exact Below.refl _ _ | (with_reducible assumption) | refine bel_trans ?_ (by with_reducible assumption) | refine bel_trans ?_ (below_regrown _ _ _) | refine bel_drew ?_ | refine bel_drewN ?_ _ | refine bel_alloc ?_ _ | refine bel_grow ?_ (by with_reducible assumption) (by omega)))).mono ?_; rintro r we ⟨rfl, hbe⟩; have hce := bcell hbe; have hze := hbe.size; have hye : w.heap.size < we.heap.size := (by omega); have hye1 : w.heap.size + 1 < we.heap.size := (by omega)) | (go_at_call 21; refine (hplain _ (by repeat (first | exact Below.refl _ _ | (with_reducible assumption) | refine bel_trans ?_ (by with_reducible assumption) | refine bel_trans ?_ (below_regrown _ _ _) | refine bel_drew ?_ | refine bel_drewN ?_ _ | refine bel_alloc ?_ _ | refine bel_grow ?_ (by with_reducible assumption) (by omega)))).mono ?_; rintro r wp ⟨rfl, hbp⟩; have hcp := bcell hbp; have hzp := hbp.size; have hyp : w.heap.size < wp.heap.size := (by omega); have hyp1 : w.heap.size + 1 < wp.heap.size := (by omega)) | (go_at_call 13; refine (hkn _ (by repeat (first | exact Below.refl _ _ | (with_reducible assumption) | refine bel_trans ?_ (by with_reducible assumption) | refine bel_trans ?_ (below_regrown _ _ _) | refine bel_drew ?_ | refine bel_drewN ?_ _ | refine bel_alloc ?_ _ | refine bel_grow ?_ (by with_reducible assumption) (by omega)))).mono ?_; rintro r wn ⟨rfl, hbn⟩))
        all_goals
          go_ret
          exact ⟨rfl, (by repeat (first | exact Below.refl _ _ | (with_reducible assumption) | refine bel_trans ?_ (by with_reducible assumption) | refine bel_trans ?_ (below_regrown _ _ _) | refine bel_drew ?_ | refine bel_drewN ?_ _ | refine bel_alloc ?_ _ | refine bel_grow ?_ (by with_reducible assumption) (by omega)))⟩
      · have tc : (fc != 0) = true := by simpa using q
        clear q
        go_enter Tryd.func4, Tryd.ntmps4
        go_wp2_with (first | (go_at_call 18; go_loud (refine (hsmall _ (by repeat (first | exact Below.refl _ _ | (with_reducible assumption) | refine bel_trans ?_ (by with_reducible assumption) | refine bel_trans ?_ (below_regrown _ _ _) | refine bel_drew ?_ | refine bel_drewN ?_ _ | refine bel_alloc ?_ _ | refine bel_grow ?_ (by with_reducible assumption) (by omega)))).mono ?_; rintro r wl ⟨⟨bl, rfl, hlb⟩, hbl⟩; have hcl := bcell hbl; have hzl := hbl.size; (try simp at hzl); have hyl : w.heap.size < wl.heap.size := (by omega); have hyl1 : w.heap.size + 1 < wl.heap.size := (by omega); cases bl)) | (go_at_call_of 19 (Value.string cs); go_loud (refine (hofc (by have := hlb (by trivial); omega) _ (by repeat (first | exact Below.refl _ _ | (with_reducible assumption) | refine bel_trans ?_ (by with_reducible assumption) | refine bel_trans ?_ (below_regrown _ _ _) | refine bel_drew ?_ | refine bel_drewN ?_ _ | refine bel_alloc ?_ _ | refine bel_grow ?_ (by with_reducible assumption) (by omega)))).mono ?_; rintro r wc ⟨rfl, hbc⟩; have hcc := bcell hbc; have hzc := hbc.size; have hyc : w.heap.size < wc.heap.size := (by omega); have hyc1 : w.heap.size + 1 < wc.heap.size := (by omega))) | (go_at_call_of 19 (Value.string ds); go_loud (refine (hofd (by have := hlb (by trivial); omega) _ (by repeat (first | exact Below.refl _ _ | (with_reducible assumption) | refine bel_trans ?_ (by with_reducible assumption) | refine bel_trans ?_ (below_regrown _ _ _) | refine bel_drew ?_ | refine bel_drewN ?_ _ | refine bel_alloc ?_ _ | refine bel_grow ?_ (by with_reducible assumption) (by omega)))).mono ?_; rintro r wd ⟨rfl, hbd⟩; have hcd := bcell hbd; have hzd := hbd.size; have hyd : w.heap.size < wd.heap.size := (by omega); have hyd1 : w.heap.size + 1 < wd.heap.size := (by omega))) | (go_at_call 20; refine (hright _ (by repeat (first | exact Below.refl _ _ | (with_reducible assumption) | refine bel_trans ?_ (by with_reducible assumption) | refine bel_trans ?_ (below_regrown _ _ _) | refine bel_drew ?_ | refine bel_drewN ?_ _ | refine bel_alloc ?_ _ | refine bel_grow ?_ (by with_reducible assumption) (by omega)))).mono ?_; rintro r we ⟨rfl, hbe⟩; have hce := bcell hbe; have hze := hbe.size; have hye : w.heap.size < we.heap.size := (by omega); have hye1 : w.heap.size + 1 < we.heap.size := (by omega)) | (go_at_call 21; refine (hplain _ (by repeat (first | exact Below.refl _ _ | (with_reducible assumption) | refine bel_trans ?_ (by with_reducible assumption) | refine bel_trans ?_ (below_regrown _ _ _) | refine bel_drew ?_ | refine bel_drewN ?_ _ | refine bel_alloc ?_ _ | refine bel_grow ?_ (by with_reducible assumption) (by omega)))).mono ?_; rintro r wp ⟨rfl, hbp⟩; have hcp := bcell hbp; have hzp := hbp.size; have hyp : w.heap.size < wp.heap.size := (by omega); have hyp1 : w.heap.size + 1 < wp.heap.size := (by omega)) | (go_at_call 13; refine (hkn _ (by repeat (first | exact Below.refl _ _ | (with_reducible assumption) | refine bel_trans ?_ (by with_reducible assumption) | refine bel_trans ?_ (below_regrown _ _ _) | refine bel_drew ?_ | refine bel_drewN ?_ _ | refine bel_alloc ?_ _ | refine bel_grow ?_ (by with_reducible assumption) (by omega)))).mono ?_; rintro r wn ⟨rfl, hbn⟩))
        all_goals
          go_ret
          exact ⟨rfl, (by repeat (first | exact Below.refl _ _ | (with_reducible assumption) | refine bel_trans ?_ (by with_reducible assumption) | refine bel_trans ?_ (below_regrown _ _ _) | refine bel_drew ?_ | refine bel_drewN ?_ _ | refine bel_alloc ?_ _ | refine bel_grow ?_ (by with_reducible assumption) (by omega)))⟩
      · have td : (fd != 0) = true := by simpa using q
        clear q
        go_enter Tryd.func4, Tryd.ntmps4
        go_wp2_with (first | (go_at_call 18; go_loud (refine (hsmall _ (by repeat (first | exact Below.refl _ _ | (with_reducible assumption) | refine bel_trans ?_ (by with_reducible assumption) | refine bel_trans ?_ (below_regrown _ _ _) | refine bel_drew ?_ | refine bel_drewN ?_ _ | refine bel_alloc ?_ _ | refine bel_grow ?_ (by with_reducible assumption) (by omega)))).mono ?_; rintro r wl ⟨⟨bl, rfl, hlb⟩, hbl⟩; have hcl := bcell hbl; have hzl := hbl.size; (try simp at hzl); have hyl : w.heap.size < wl.heap.size := (by omega); have hyl1 : w.heap.size + 1 < wl.heap.size := (by omega); cases bl)) | (go_at_call_of 19 (Value.string cs); go_loud (refine (hofc (by have := hlb (by trivial); omega) _ (by repeat (first | exact Below.refl _ _ | (with_reducible assumption) | refine bel_trans ?_ (by with_reducible assumption) | refine bel_trans ?_ (below_regrown _ _ _) | refine bel_drew ?_ | refine bel_drewN ?_ _ | refine bel_alloc ?_ _ | refine bel_grow ?_ (by with_reducible assumption) (by omega)))).mono ?_; rintro r wc ⟨rfl, hbc⟩; have hcc := bcell hbc; have hzc := hbc.size; have hyc : w.heap.size < wc.heap.size := (by omega); have hyc1 : w.heap.size + 1 < wc.heap.size := (by omega))) | (go_at_call_of 19 (Value.string ds); go_loud (refine (hofd (by have := hlb (by trivial); omega) _ (by repeat (first | exact Below.refl _ _ | (with_reducible assumption) | refine bel_trans ?_ (by with_reducible assumption) | refine bel_trans ?_ (below_regrown _ _ _) | refine bel_drew ?_ | refine bel_drewN ?_ _ | refine bel_alloc ?_ _ | refine bel_grow ?_ (by with_reducible assumption) (by omega)))).mono ?_; rintro r wd ⟨rfl, hbd⟩; have hcd := bcell hbd; have hzd := hbd.size; have hyd : w.heap.size < wd.heap.size := (by omega); have hyd1 : w.heap.size + 1 < wd.heap.size := (by omega))) | (go_at_call 20; refine (hright _ (by repeat (first | exact Below.refl _ _ | (with_reducible assumption) | refine bel_trans ?_ (by with_reducible assumption) | refine bel_trans ?_ (below_regrown _ _ _) | refine bel_drew ?_ | refine bel_drewN ?_ _ | refine bel_alloc ?_ _ | refine bel_grow ?_ (by with_reducible assumption) (by omega)))).mono ?_; rintro r we ⟨rfl, hbe⟩; have hce := bcell hbe; have hze := hbe.size; have hye : w.heap.size < we.heap.size := (by omega); have hye1 : w.heap.size + 1 < we.heap.size := (by omega)) | (go_at_call 21; refine (hplain _ (by repeat (first | exact Below.refl _ _ | (with_reducible assumption) | refine bel_trans ?_ (by with_reducible assumption) | refine bel_trans ?_ (below_regrown _ _ _) | refine bel_drew ?_ | refine bel_drewN ?_ _ | refine bel_alloc ?_ _ | refine bel_grow ?_ (by with_reducible assumption) (by omega)))).mono ?_; rintro r wp ⟨rfl, hbp⟩; have hcp := bcell hbp; have hzp := hbp.size; have hyp : w.heap.size < wp.heap.size := (by omega); have hyp1 : w.heap.size + 1 < wp.heap.size := (by omega)) | (go_at_call 13; refine (hkn _ (by repeat (first | exact Below.refl _ _ | (with_reducible assumption) | refine bel_trans ?_ (by with_reducible assumption) | refine bel_trans ?_ (below_regrown _ _ _) | refine bel_drew ?_ | refine bel_drewN ?_ _ | refine bel_alloc ?_ _ | refine bel_grow ?_ (by with_reducible assumption) (by omega)))).mono ?_; rintro r wn ⟨rfl, hbn⟩))
        all_goals
          go_ret
          exact ⟨rfl, (by repeat (first | exact Below.refl _ _ | (with_reducible assumption) | refine bel_trans ?_ (by with_reducible assumption) | refine bel_trans ?_ (below_regrown _ _ _) | refine bel_drew ?_ | refine bel_drewN ?_ _ | refine bel_alloc ?_ _ | refine bel_grow ?_ (by with_reducible assumption) (by omega)))⟩
    · obtain ⟨qc, qd⟩ := q2 hr hb
      rw [hb] at hplain
      have tc : (fc == 0) = true := by simpa using qc
      have td : (fd == 0) = true := by simpa using qd
      clear q1 q2 q3 hr hb qc qd
      generalize e.right = er at *
      go_enter Tryd.func4, Tryd.ntmps4
      go_wp2_with (first | (go_at_call 18; go_loud (refine (hsmall _ (by repeat (first | exact Below.refl _ _ | (with_reducible assumption) | refine bel_trans ?_ (by with_reducible assumption) | refine bel_trans ?_ (below_regrown _ _ _) | refine bel_drew ?_ | refine bel_drewN ?_ _ | refine bel_alloc ?_ _ | refine bel_grow ?_ (by with_reducible assumption) (by omega)))).mono ?_; rintro r wl ⟨⟨bl, rfl, hlb⟩, hbl⟩; have hcl := bcell hbl; have hzl := hbl.size; (try simp at hzl); have hyl : w.heap.size < wl.heap.size := (by omega); have hyl1 : w.heap.size + 1 < wl.heap.size := (by omega); cases bl)) | (go_at_call_of 19 (Value.string cs); go_loud (refine (hofc (by have := hlb (by trivial); omega) _ (by repeat (first | exact Below.refl _ _ | (with_reducible assumption) | refine bel_trans ?_ (by with_reducible assumption) | refine bel_trans ?_ (below_regrown _ _ _) | refine bel_drew ?_ | refine bel_drewN ?_ _ | refine bel_alloc ?_ _ | refine bel_grow ?_ (by with_reducible assumption) (by omega)))).mono ?_; rintro r wc ⟨rfl, hbc⟩; have hcc := bcell hbc; have hzc := hbc.size; have hyc : w.heap.size < wc.heap.size := (by omega); have hyc1 : w.heap.size + 1 < wc.heap.size := (by omega))) | (go_at_call_of 19 (Value.string ds); go_loud (refine (hofd (by have := hlb (by trivial); omega) _ (by repeat (first | exact Below.refl _ _ | (with_reducible assumption) | refine bel_trans ?_ (by with_reducible assumption) | refine bel_trans ?_ (below_regrown _ _ _) | refine bel_drew ?_ | refine bel_drewN ?_ _ | refine bel_alloc ?_ _ | refine bel_grow ?_ (by with_reducible assumption) (by omega)))).mono ?_; rintro r wd ⟨rfl, hbd⟩; have hcd := bcell hbd; have hzd := hbd.size; have hyd : w.heap.size < wd.heap.size := (by omega); have hyd1 : w.heap.size + 1 < wd.heap.size := (by omega))) | (go_at_call 20; refine (hright _ (by repeat (first | exact Below.refl _ _ | (with_reducible assumption) | refine bel_trans ?_ (by with_reducible assumption) | refine bel_trans ?_ (below_regrown _ _ _) | refine bel_drew ?_ | refine bel_drewN ?_ _ | refine bel_alloc ?_ _ | refine bel_grow ?_ (by with_reducible assumption) (by omega)))).mono ?_; rintro r we ⟨rfl, hbe⟩; have hce := bcell hbe; have hze := hbe.size; have hye : w.heap.size < we.heap.size := (by omega); have hye1 : w.heap.size + 1 < we.heap.size := (by omega)) | (go_at_call 21; refine (hplain _ (by repeat (first | exact Below.refl _ _ | (with_reducible assumption) | refine bel_trans ?_ (by with_reducible assumption) | refine bel_trans ?_ (below_regrown _ _ _) | refine bel_drew ?_ | refine bel_drewN ?_ _ | refine bel_alloc ?_ _ | refine bel_grow ?_ (by with_reducible assumption) (by omega)))).mono ?_; rintro r wp ⟨rfl, hbp⟩; have hcp := bcell hbp; have hzp := hbp.size; have hyp : w.heap.size < wp.heap.size := (by omega); have hyp1 : w.heap.size + 1 < wp.heap.size := (by omega)) | (go_at_call 13; refine (hkn _ (by repeat (first | exact Below.refl _ _ | (with_reducible assumption) | refine bel_trans ?_ (by with_reducible assumption) | refine bel_trans ?_ (below_regrown _ _ _) | refine bel_drew ?_ | refine bel_drewN ?_ _ | refine bel_alloc ?_ _ | refine bel_grow ?_ (by with_reducible assumption) (by omega)))).mono ?_; rintro r wn ⟨rfl, hbn⟩))
      all_goals
        go_ret
        exact ⟨rfl, (by repeat (first | exact Below.refl _ _ | (with_reducible assumption) | refine bel_trans ?_ (by with_reducible assumption) | refine bel_trans ?_ (below_regrown _ _ _) | refine bel_drew ?_ | refine bel_drewN ?_ _ | refine bel_alloc ?_ _ | refine bel_grow ?_ (by with_reducible assumption) (by omega)))⟩
  · obtain ⟨qc, qd⟩ := q1 hr
    have tr : (e.right != 0) = true := by simpa using hr
    have tc : (fc != 0) = true := by simpa using qc
    have td : (fd != 0) = true := by simpa using qd
    clear q1 q2 q3 hr qc qd
    generalize e.right = er at *
    go_enter Tryd.func4, Tryd.ntmps4
    go_wp2_with (first | (go_at_call 18; go_loud (refine (hsmall _ (by repeat (first | exact Below.refl _ _ | (with_reducible assumption) | refine bel_trans ?_ (by with_reducible assumption) | refine bel_trans ?_ (below_regrown _ _ _) | refine bel_drew ?_ | refine bel_drewN ?_ _ | refine bel_alloc ?_ _ | refine bel_grow ?_ (by with_reducible assumption) (by omega)))).mono ?_; rintro r wl ⟨⟨bl, rfl, hlb⟩, hbl⟩; have hcl := bcell hbl; have hzl := hbl.size; (try simp at hzl); have hyl : w.heap.size < wl.heap.size := (by omega); have hyl1 : w.heap.size + 1 < wl.heap.size := (by omega); cases bl)) | (go_at_call_of 19 (Value.string cs); go_loud (refine (hofc (by have := hlb (by trivial); omega) _ (by repeat (first | exact Below.refl _ _ | (with_reducible assumption) | refine bel_trans ?_ (by with_reducible assumption) | refine bel_trans ?_ (below_regrown _ _ _) | refine bel_drew ?_ | refine bel_drewN ?_ _ | refine bel_alloc ?_ _ | refine bel_grow ?_ (by with_reducible assumption) (by omega)))).mono ?_; rintro r wc ⟨rfl, hbc⟩; have hcc := bcell hbc; have hzc := hbc.size; have hyc : w.heap.size < wc.heap.size := (by omega); have hyc1 : w.heap.size + 1 < wc.heap.size := (by omega))) | (go_at_call_of 19 (Value.string ds); go_loud (refine (hofd (by have := hlb (by trivial); omega) _ (by repeat (first | exact Below.refl _ _ | (with_reducible assumption) | refine bel_trans ?_ (by with_reducible assumption) | refine bel_trans ?_ (below_regrown _ _ _) | refine bel_drew ?_ | refine bel_drewN ?_ _ | refine bel_alloc ?_ _ | refine bel_grow ?_ (by with_reducible assumption) (by omega)))).mono ?_; rintro r wd ⟨rfl, hbd⟩; have hcd := bcell hbd; have hzd := hbd.size; have hyd : w.heap.size < wd.heap.size := (by omega); have hyd1 : w.heap.size + 1 < wd.heap.size := (by omega))) | (go_at_call 20; refine (hright _ (by repeat (first | exact Below.refl _ _ | (with_reducible assumption) | refine bel_trans ?_ (by with_reducible assumption) | refine bel_trans ?_ (below_regrown _ _ _) | refine bel_drew ?_ | refine bel_drewN ?_ _ | refine bel_alloc ?_ _ | refine bel_grow ?_ (by with_reducible assumption) (by omega)))).mono ?_; rintro r we ⟨rfl, hbe⟩; have hce := bcell hbe; have hze := hbe.size; have hye : w.heap.size < we.heap.size := (by omega); have hye1 : w.heap.size + 1 < we.heap.size := (by omega)) | (go_at_call 21; refine (hplain _ (by repeat (first | exact Below.refl _ _ | (with_reducible assumption) | refine bel_trans ?_ (by with_reducible assumption) | refine bel_trans ?_ (below_regrown _ _ _) | refine bel_drew ?_ | refine bel_drewN ?_ _ | refine bel_alloc ?_ _ | refine bel_grow ?_ (by with_reducible assumption) (by omega)))).mono ?_; rintro r wp ⟨rfl, hbp⟩; have hcp := bcell hbp; have hzp := hbp.size; have hyp : w.heap.size < wp.heap.size := (by omega); have hyp1 : w.heap.size + 1 < wp.heap.size := (by omega)) | (go_at_call 13; refine (hkn _ (by repeat (first | exact Below.refl _ _ | (with_reducible assumption) | refine bel_trans ?_ (by with_reducible assumption) | refine bel_trans ?_ (below_regrown _ _ _) | refine bel_drew ?_ | refine bel_drewN ?_ _ | refine bel_alloc ?_ _ | refine bel_grow ?_ (by with_reducible assumption) (by omega)))).mono ?_; rintro r wn ⟨rfl, hbn⟩))
    all_goals
      go_ret
      exact ⟨rfl, (by repeat (first | exact Below.refl _ _ | (with_reducible assumption) | refine bel_trans ?_ (by with_reducible assumption) | refine bel_trans ?_ (below_regrown _ _ _) | refine bel_drew ?_ | refine bel_drewN ?_ _ | refine bel_alloc ?_ _ | refine bel_grow ?_ (by with_reducible assumption) (by omega)))⟩

end Go.Proofs.YtlfklfjnkpjooaaDoor
