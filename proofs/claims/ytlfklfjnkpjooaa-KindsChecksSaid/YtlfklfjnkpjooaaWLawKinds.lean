/- Walk over the law KindsChecks: it answers true. -/
import Derived.Laws.StructEq
import Derived.Test.YtlfklfjnkpjooaaBN
import Derived.Test.YtlfklfjnkpjooaaBJ
import Derived.Test.YtlfklfjnkpjooaaWRefSame
import Derived.Test.YtlfklfjnkpjooaaWLight2
import Derived.Test.YtlfklfjnkpjooaaWKnown
import Derived.Test.YtlfklfjnkpjooaaBF
import Derived.WalkKit
import Derived.WalkSpells
import Derived.WalkLawsBesides
import Derived.Deep.QuietTactic
import Derived.BigQuiet
import Derived.Deep.Draws
import Derived.Lib.Hide
import Derived.Deep.LoopGhost
import Derived.StillTailTactics
import Derived.Deep.RegionHeld3
import Derived.Deep.RegionWith
import Derived.Lib.QuietBelow
set_option linter.unusedVariables false
set_option linter.unusedSimpArgs false
set_option maxRecDepth 100000
namespace Go.Proofs.Ytlfklfjnkpjooaa
open Go.RowKit Go.Sort

theorem eqFaultSelf (a b c : Int) (w : World) : (Op.equalIn 10000 36 (.agg #[.int .i64 a, .int .i64 b, .int .i64 c]) (.agg #[.int .i64 a, .int .i64 b, .int .i64 c])).run Try.prog w = .ok true w := by
  have hS : Try.prog.underlying 36 = some (.struct (Try.prog.fieldsOf 36)) := by kernel_rfl
  have hp : Try.prog.stoodInHeld 36 = false := by kernel_rfl
  rw [show (10000 : Nat) = 9999 + 1 from rfl, run_equalIn_agg w 9999 36 _ _ hS hp]
  simp only [Program.fieldsOf, Try.underlying36]
  go_simp
theorem grown_trans {a b c : World} {row : Option Nat} (h1 : a.grownBy b row) (h2 : b.grownBy c row) : a.grownBy c row :=
  ⟨h2.os.trans h1.os, h2.tape.trans h1.tape, h2.output.trans h1.output, Nat.le_trans h1.size h2.size, fun k hk hne => (h2.block k (Nat.lt_of_lt_of_le hk h1.size) hne).trans (h1.block k hk hne)⟩
theorem grown_drewN {a : World} (n : Nat) (row : Option Nat) : a.grownBy (a.drewN n) row := ⟨rfl, rfl, rfl, Nat.le_refl _, fun _ _ _ => rfl⟩
theorem grown_refl (a : World) (row : Option Nat) : a.grownBy a row := ⟨rfl, rfl, rfl, Nat.le_refl _, fun _ _ _ => rfl⟩
theorem own_drewN {w : World} {base : Nat} {e : TypeId} {size n : Nat} {v : Value} {xs : List Value} (h : w.ownsRow base e size v n xs) (k : Nat) : (w.drewN k).ownsRow base e size v n xs := h

set_option maxHeartbeats 8000000 in
theorem kndChecks_any (p : Pr) (a : PrA) (w : World) (hp : PrAt w p a) (hok : PrOK p) :
    Calls Try.prog 3 #[prV p a] w fun r w' => r = .returned (.bool true) ∧ Below w.heap.size w w' := by
  have hlight := fun W h => lightS_any p a W (hp.later h)
  have hlent := Lib.hid (fun (n1 : p.ins.length ≤ 1000000) (n2 : p.outs.length ≤ 1000000) (n3 : p.locals.length ≤ 1000000) (n4 : p.eqs.length ≤ 1000000) (n5 : ∀ q ∈ p.eqs, q.first.size ≤ 1000000 ∧ q.e.size ≤ 1000000) W (h : Below w.heap.size w W) => lent_any p a W (hp.later h) n1 n2 n3 n4 n5)
  have hrchk := Lib.hid (fun (n1 : p.ins.length ≤ 1000000) (n2 : p.outs.length ≤ 1000000) (n3 : p.locals.length ≤ 1000000) (n4 : p.eqs.length ≤ 1000000) W (h : Below w.heap.size w W) => rcheck_any p a W (hp.later h) hok n1 n2 n3 n4)
  have hrvars := Lib.hid (fun (n1 : p.ins.length ≤ 1000000) (n2 : p.outs.length ≤ 1000000) (n3 : p.locals.length ≤ 1000000) W (h : Below w.heap.size w W) => refVars_any p a W (hp.later h) n1 n2 n3)
  have hchk := Lib.hid (fun (a' : PrA) (wt : World) (hpt : PrAt wt p a') (n1 : p.ins.length ≤ 1000000) (n2 : p.outs.length ≤ 1000000) (n3 : p.locals.length ≤ 1000000) (n4 : p.eqs.length ≤ 1000000) W (h : Below wt.heap.size wt W) => check_any p a' W (hpt.later h) n1 n2 n3 n4)
  have hvars := Lib.hid (fun (a' : PrA) (wt : World) (hpt : PrAt wt p a') (n1 : p.ins.length ≤ 1000000) (n2 : p.outs.length ≤ 1000000) (n3 : p.locals.length ≤ 1000000) W (h : Below wt.heap.size wt W) => vars_any p a' W (hpt.later h) n1 n2 n3)
  have hsam := Lib.hid (fun (a' : PrA) (wt : World) (hpt : PrAt wt p a') W (h : Below wt.heap.size wt W) (h2 : Below w.heap.size w W) => same_self p a' a W (hpt.later h) (hp.later h2))
  have hkn := fun W => known_any W
  have hfq := fun w => eqFaultSelf (checkF p).1 (checkF p).2.1 (checkF p).2.2 w
  have hgm : Try.prog.eqGuardType Try.prog.depth 36 = false := by kernel_rfl
  have hgv := gmVar
  clear hp hok
  obtain ⟨A1, c1, A2, c2, A3, c3, A4, c4⟩ := a
  unfold prV fV at *
  dsimp only at *
  generalize (checkF p).1 = f1 at *
  generalize (checkF p).2.1 = f2 at *
  generalize (checkF p).2.2 = f3 at *
  have hL24 : (varsOf p).length = p.ins.length + p.outs.length + p.locals.length := by simp [varsOf]; try omega
  generalize hL : varsOf p = L at *
  have HL := Lib.hid hL; clear hL
  go_enter Try.func3, Try.ntmps3
  go_wp2_with (first
    | (go_at_call 5; go_loud (refine (hlight _ (by repeat (first | exact Below.refl _ _ | (with_reducible assumption) | refine bel_trans ?_ (by with_reducible assumption) | refine bel_trans ?_ (below_regrown _ _ _) | refine bel_drew ?_ | refine bel_drewN ?_ _ | refine bel_alloc ?_ _ | refine bel_grow ?_ (by with_reducible assumption) (by omega)))).mono ?_; rintro r wl ⟨⟨bl, rfl, hlb⟩, hbl⟩; have hcl := bcell hbl; have hzl := hbl.size; (try simp at hzl); have hyl : w.heap.size < wl.heap.size := (by omega); cases bl))
    | (go_at_call 6; refine (hkn _).mono ?_; rintro r wn ⟨rfl, hbn⟩; have hcn := bcell hbn; have hzn := hbn.size)
    | (go_at_call 7; go_loud (have n1 : p.ins.length ≤ 60 := (by have := hlb (by trivial); omega); have n2 : p.outs.length ≤ 60 := (by have := hlb (by trivial); omega); have n3 : p.locals.length ≤ 60 := (by have := hlb (by trivial); omega); have n4 : p.eqs.length ≤ 60 := (by have := hlb (by trivial); omega); refine (hlent.out (by omega) (by omega) (by omega) (by omega) (hlb (by trivial)).2.2.2.2 _ (by repeat (first | exact Below.refl _ _ | (with_reducible assumption) | refine bel_trans ?_ (by with_reducible assumption) | refine bel_trans ?_ (below_regrown _ _ _) | refine bel_drew ?_ | refine bel_drewN ?_ _ | refine bel_alloc ?_ _ | refine bel_grow ?_ (by with_reducible assumption) (by omega)))).mono ?_; rintro r wt ⟨⟨⟨B1, k1, B2, k2, B3, k3, B4, k4⟩, rfl, hpt⟩, hbt⟩; have hct := bcell hbt; have hzt := hbt.size; have hyt : w.heap.size < wt.heap.size := (by omega); have hbw : Below w.heap.size w wt := (by repeat (first | exact Below.refl _ _ | (with_reducible assumption) | refine bel_trans ?_ (by with_reducible assumption) | refine bel_trans ?_ (below_regrown _ _ _) | refine bel_drew ?_ | refine bel_drewN ?_ _ | refine bel_alloc ?_ _ | refine bel_grow ?_ (by with_reducible assumption) (by omega))); have hchk' := hchk.out _ wt hpt (by omega) (by omega) (by omega) (by omega); have hvars' := hvars.out _ wt hpt (by omega) (by omega) (by omega); have hsam' := hsam.out _ wt hpt; have hrvars' := hrvars.out (by omega) (by omega) (by omega); have hrchk' := hrchk.out (by omega) (by omega) (by omega) (by omega); clear hchk hvars hsam hrchk hrvars hlent hlight hlb))
    | (go_at_call 8; go_loud (refine (hvars' _ (by repeat (first | exact Below.refl _ _ | (with_reducible assumption) | refine bel_trans ?_ (by with_reducible assumption) | refine bel_trans ?_ (below_regrown _ _ _) | refine bel_drew ?_ | refine bel_drewN ?_ _ | refine bel_alloc ?_ _ | refine bel_grow ?_ (by with_reducible assumption) (by omega)))).mono ?_; rintro r wv ⟨⟨A, cap, rfl, hown1⟩, hbv⟩; have hcv := bcell hbv; have hzv := hbv.size; (try simp at hzv); have hyv : w.heap.size < wv.heap.size := (by omega); have hyv1 : wt.heap.size < wv.heap.size := (by omega)))
    | (go_at_call 9; go_loud (refine (hrvars' _ (by repeat (first | exact Below.refl _ _ | (with_reducible assumption) | refine bel_trans ?_ (by with_reducible assumption) | refine bel_trans ?_ (below_regrown _ _ _) | refine bel_drew ?_ | refine bel_drewN ?_ _ | refine bel_alloc ?_ _ | refine bel_grow ?_ (by with_reducible assumption) (by omega)))).mono ?_; rintro r wu ⟨⟨M, capm, rfl, hown2⟩, hbu⟩; have hcu := bcell hbu; have hzu := hbu.size; (try simp at hzu); have hyu : w.heap.size < wu.heap.size := (by omega); have hyu1 : wt.heap.size < wu.heap.size := (by omega))))
  · go_ret
    exact ⟨rfl, (by repeat (first | exact Below.refl _ _ | (with_reducible assumption) | refine bel_trans ?_ (by with_reducible assumption) | refine bel_trans ?_ (below_regrown _ _ _) | refine bel_drew ?_ | refine bel_drewN ?_ _ | refine bel_alloc ?_ _ | refine bel_grow ?_ (by with_reducible assumption) (by omega)))⟩
  refine wp_name fun W0 hW0 => ?_
  have hbtu : Below wt.heap.size wt W0 := by rw [hW0]; exact (by repeat (first | exact Below.refl _ _ | (with_reducible assumption) | refine bel_trans ?_ (by with_reducible assumption) | refine bel_trans ?_ (below_regrown _ _ _) | refine bel_drew ?_ | refine bel_drewN ?_ _ | refine bel_alloc ?_ _ | refine bel_grow ?_ (by with_reducible assumption) (by omega)))
  have hbwu : Below w.heap.size w W0 := bel_trans hbw hbtu
  have hown1' : W0.ownsRow (wt.heap.size + 1) 33 4 (.slice A L.length cap) L.length (vasC L) := by rw [hW0]; have := own_bel hown1 hbu; simpa using this
  have hlt1 := hown1.lt
  have hoffM : Off wv.heap.size none W0 (fun V => VarsAt V L M capm) := by rw [hW0]; exact VarsAt.off_own' hown2
  have hz1 : wt.heap.size < W0.heap.size := by rw [hW0]; exact hyu1
  have hz0 : w.heap.size < W0.heap.size := by rw [hW0]; exact hyu
  have hzv0 : wv.heap.size ≤ W0.heap.size := by rw [hW0]; exact hzu
  have p0 : W0.cell? ⟨w.heap.size, 0, none⟩ = some (.string p.name) := by rw [hW0]; go_simp
  have p1 : W0.cell? ⟨w.heap.size, 1, none⟩ = some (.slice A1 p.ins.length c1) := by rw [hW0]; go_simp
  have p2 : W0.cell? ⟨w.heap.size, 2, none⟩ = some (.slice A2 p.outs.length c2) := by rw [hW0]; go_simp
  have p3 : W0.cell? ⟨w.heap.size, 3, none⟩ = some (.slice A3 p.locals.length c3) := by rw [hW0]; go_simp
  have p4 : W0.cell? ⟨w.heap.size, 4, none⟩ = some (.slice A4 p.eqs.length c4) := by rw [hW0]; go_simp
  have o0 : W0.cell? ⟨wt.heap.size, 0, none⟩ = some (.string p.name) := by rw [hW0]; go_simp
  have o1 : W0.cell? ⟨wt.heap.size, 1, none⟩ = some (.slice B1 p.ins.length k1) := by rw [hW0]; go_simp
  have o2 : W0.cell? ⟨wt.heap.size, 2, none⟩ = some (.slice B2 p.outs.length k2) := by rw [hW0]; go_simp
  have o3 : W0.cell? ⟨wt.heap.size, 3, none⟩ = some (.slice B3 p.locals.length k3) := by rw [hW0]; go_simp
  have o4 : W0.cell? ⟨wt.heap.size, 4, none⟩ = some (.slice B4 p.eqs.length k4) := by rw [hW0]; go_simp
  have hmM := hoffM.here.len
  unfold maxLen at hmM
  obtain ⟨hmM1, hmM2⟩ := hmM
  obtain ⟨A9, c9, hv9, hc91, hc92⟩ := own_slice hown1'
  injection hv9 with e91 e92 e93
  subst e91 e93
  unfold maxLen at hc92
  have HLT := Lib.hid hlt1
  have HOFF := Lib.hid hoffM
  clear hW0 hbt hct hbv hown1 hcv hbu hown2 hcu hlt1 hoffM hvars' hrvars' hcl hbl
  go_loopw [2, 6] (fun u i wr => ∃ (k : Nat) (xs : List Value), k ≤ L.length ∧ i = .int .i64 k ∧ u = .bool false ∧ wr.ownsRow (wt.heap.size + 1) 33 4 (.slice A L.length cap) L.length xs ∧ Hid (∀ j, 4 * k ≤ j → xs[j]? = (vasC L)[j]?) ∧ W0.grownBy wr (Value.slice A L.length cap).ownBlock) (fun _ i _ => L.length - (intOf i).toNat)
  case atStart => exact ⟨0, _, Nat.zero_le _, rfl, rfl, hown1', Lib.hid (fun _ _ => rfl), grown_refl _ _⟩
  case round =>
    obtain ⟨k, xs, hk, rfl, rfl, hownk, hxs, hgr⟩ := hrel
    have hgz := hgr.size
    by_cases hlt : k < L.length
    · have hx : L[k]? = some L[k] := List.getElem?_eq_getElem hlt
      generalize L[k] = x at hx
      obtain ⟨g, gc, hv, hg1, hg2, _, _, hcells⟩ := own_get hownk (by omega)
      injection hv with e1 e2 e3
      subst e1 e3
      have hat := fun (i : Nat) (u : Value) (hu : (vaC x)[i]? = some u) => hcells (k * 4 + i) u ((hxs.out (k * 4 + i) (by omega)).trans (vasC_at L k x hx i u hu))
      have e0 : wr.cell? ⟨g, k * 4, none⟩ = some (.string x.name) := hat 0 _ rfl
      have e1 : wr.cell? ⟨g, k * 4 + 1, none⟩ = some (.int .i64 x.type) := hat 1 _ rfl
      have e2 : wr.cell? ⟨g, k * 4 + 2, none⟩ = some (.int .i64 x.ck) := hat 2 _ rfl
      have e3 : wr.cell? ⟨g, k * 4 + 3, none⟩ = some (.string x.cn) := hat 3 _ rfl
      have hf0 : wr.frozen? ⟨g, k * 4, none⟩ = false := hownk.frozenAt _
      have hM : VarsAt wr L M capm := HOFF.out wr fun b h1 h2 _ => hgr.block b h2 fun he => by
        have := (HLT.out b he.symm).2
        omega
      obtain ⟨b2, off2, hA2, _, ⟨m0, m1, m2, m3⟩⟩ := hM.get hx
      subst hA2
      have hfqv := fun w => eqVarSelf x w
      have HOWN := Lib.hid hownk
      have HGR := Lib.hid hgr
      clear hx hat hcells hM hownk hgr
      go_wp2_with fail
      go_quiet (fail)
      go_wp2_with fail
      go_roundw
      case rel =>
        have hst := (own_drewN HOWN.out nq).stored (k * 4) (.string ⟨#[115, 112, 111, 105, 108, 116]⟩)
        exact ⟨k + 1, _, by omega, by go_num, rfl, hst.1, Lib.hid (fun j hj => by rw [List.getElem?_set_ne (by omega)]; exact hxs.out j (by omega)), grown_trans HGR.out (grown_trans (grown_drewN nq _) hst.2)⟩
      case measure => simp [intOf]; omega
    obtain rfl : k = L.length := by omega
    have hnb : ∀ b, b ≤ wt.heap.size → some b ≠ (Value.slice A L.length cap).ownBlock := fun b hb he => by
      have := (hownk.lt b he.symm).1
      omega
    have p0' : wr.cell? ⟨w.heap.size, 0, none⟩ = some (.string p.name) := cell_block (hgr.block w.heap.size (by omega) (hnb w.heap.size (by omega))) p0
    have p1' : wr.cell? ⟨w.heap.size, 1, none⟩ = some (.slice A1 p.ins.length c1) := cell_block (hgr.block w.heap.size (by omega) (hnb w.heap.size (by omega))) p1
    have p2' : wr.cell? ⟨w.heap.size, 2, none⟩ = some (.slice A2 p.outs.length c2) := cell_block (hgr.block w.heap.size (by omega) (hnb w.heap.size (by omega))) p2
    have p3' : wr.cell? ⟨w.heap.size, 3, none⟩ = some (.slice A3 p.locals.length c3) := cell_block (hgr.block w.heap.size (by omega) (hnb w.heap.size (by omega))) p3
    have p4' : wr.cell? ⟨w.heap.size, 4, none⟩ = some (.slice A4 p.eqs.length c4) := cell_block (hgr.block w.heap.size (by omega) (hnb w.heap.size (by omega))) p4
    have o0' : wr.cell? ⟨wt.heap.size, 0, none⟩ = some (.string p.name) := cell_block (hgr.block wt.heap.size (by omega) (hnb wt.heap.size (by omega))) o0
    have o1' : wr.cell? ⟨wt.heap.size, 1, none⟩ = some (.slice B1 p.ins.length k1) := cell_block (hgr.block wt.heap.size (by omega) (hnb wt.heap.size (by omega))) o1
    have o2' : wr.cell? ⟨wt.heap.size, 2, none⟩ = some (.slice B2 p.outs.length k2) := cell_block (hgr.block wt.heap.size (by omega) (hnb wt.heap.size (by omega))) o2
    have o3' : wr.cell? ⟨wt.heap.size, 3, none⟩ = some (.slice B3 p.locals.length k3) := cell_block (hgr.block wt.heap.size (by omega) (hnb wt.heap.size (by omega))) o3
    have o4' : wr.cell? ⟨wt.heap.size, 4, none⟩ = some (.slice B4 p.eqs.length k4) := cell_block (hgr.block wt.heap.size (by omega) (hnb wt.heap.size (by omega))) o4
    have hbtr : Below wt.heap.size wt wr := bel_grown hbtu hgr (fun b hb => by have := (hownk.lt b hb).1; omega) (by omega)
    have hbwr : Below w.heap.size w wr := bel_trans hbw hbtr
    have hr0 : w.heap.size < wr.heap.size := by omega
    have hr1 : wt.heap.size < wr.heap.size := by omega
    clear p0 p1 p2 p3 p4 o0 o1 o2 o3 o4 hnb hownk hgr hxs hbtu hbwu hbw
    go_wp2_with fail
    refine wp_region_qb (by kernel_rfl) (by kernel_rfl) (fun hgq => ?_)
    repeat (quiet_step ((first | (go_at_call 10; exact Calls.regrown_of (hchk' _ (by repeat (first | exact Below.refl _ _ | (with_reducible assumption) | refine bel_trans ?_ (by with_reducible assumption) | refine bel_trans ?_ (below_regrown _ _ _) | refine bel_drew ?_ | refine bel_drewN ?_ _ | refine bel_alloc ?_ _ | refine bel_grow ?_ (by with_reducible assumption) (by omega))))) | (go_at_call 11; exact Calls.regrown_of (hrchk' _ (by repeat (first | exact Below.refl _ _ | (with_reducible assumption) | refine bel_trans ?_ (by with_reducible assumption) | refine bel_trans ?_ (below_regrown _ _ _) | refine bel_drew ?_ | refine bel_drewN ?_ _ | refine bel_alloc ?_ _ | refine bel_grow ?_ (by with_reducible assumption) (by omega))))) | (go_at_call 12; exact Calls.regrown_of (hsam' _ (by repeat (first | exact Below.refl _ _ | (with_reducible assumption) | refine bel_trans ?_ (by with_reducible assumption) | refine bel_trans ?_ (below_regrown _ _ _) | refine bel_drew ?_ | refine bel_drewN ?_ _ | refine bel_alloc ?_ _ | refine bel_grow ?_ (by with_reducible assumption) (by omega))) (by repeat (first | exact Below.refl _ _ | (with_reducible assumption) | refine bel_trans ?_ (by with_reducible assumption) | refine bel_trans ?_ (below_regrown _ _ _) | refine bel_drew ?_ | refine bel_drewN ?_ _ | refine bel_alloc ?_ _ | refine bel_grow ?_ (by with_reducible assumption) (by omega))))) | (go_at_call 6; exact Calls.regrown_of (hkn _)))))
    refine wpQuiet_nil ?_
    intro wq hwq
    replace hwq := bel_of_class hwq
    clear hgq
    have hcq := bcell hwq
    have hzq := hwq.size
    (try simp at hzq)
    (try have hyq1 : w.heap.size < wq.heap.size := by omega); (try have hyq2 : w.heap.size + 1 < wq.heap.size := by omega); (try have hyq3 : w.heap.size + 2 < wq.heap.size := by omega); (try have hyq4 : wr.heap.size < wq.heap.size := by omega)
    go_wp2_with fail
    go_ret
    exact ⟨rfl, (by repeat (first | exact Below.refl _ _ | (with_reducible assumption) | refine bel_trans ?_ (by with_reducible assumption) | refine bel_trans ?_ (below_regrown _ _ _) | refine bel_drew ?_ | refine bel_drewN ?_ _ | refine bel_alloc ?_ _ | refine bel_grow ?_ (by with_reducible assumption) (by omega)))⟩

end Go.Proofs.Ytlfklfjnkpjooaa
