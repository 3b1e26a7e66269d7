/- Walk over the law's fixed calls (known) of gen. -/
import Derived.Test.YtknfcamdfdfoeaaDoorZ36
import Derived.Test.YtknfcamdfdfoeaaDoorZ07
set_option linter.unusedVariables false
set_option linter.unusedSimpArgs false
set_option maxRecDepth 100000
namespace Go.Proofs.YtknfcamdfdfoeaaDoor
open Go.RowKit Go.Sort

/-- The fixed program. -/
def pG : Pr := ⟨⟨#[102]⟩, [vK ⟨#[120]⟩], [vK ⟨#[121]⟩], [], [⟨⟨#[121]⟩, 0, zE, eK ⟨#[120]⟩⟩]⟩
theorem known19a : codeE pG = ([(6, 0), (3, 0), (2, 0), (3, 1), (2, 1), (7, 0)], (2, 0, 0, 1, 1), (0, 0, 0)) := by decide +kernel
theorem known19b : (imE pG 3).2 = (0, 0, 0) ∧ (imE pG 3).1.ver = 3 ∧ (imE pG 3).1.sf = 6 := by decide +kernel
theorem known19c : (imE pG 0).2 = (4, 0, 1) := by decide +kernel
theorem ok_known19 : PrOK pG := by
  have h1 : ∀ c, (⟨#[c]⟩ : ByteArray).size ≤ maxLen := fun c => by unfold maxLen; show 1 ≤ _; omega
  have h0 : (⟨#[]⟩ : ByteArray).size ≤ maxLen := by unfold maxLen; show 0 ≤ _; omega
  have i0 : I64 0 := by unfold I64; omega
  have i1 : I64 1 := by unfold I64; omega
  have i3 : I64 3 := by unfold I64; omega
  refine ⟨h1 _, fun v hv' => ?_, fun v hv' => ?_, fun v hv' => by simp [pG] at hv', fun q hq => ?_⟩
  · obtain rfl : v = vK ⟨#[120]⟩ := by simpa [pG] using hv'
    exact ⟨h1 _, i1, i0, h0⟩
  · obtain rfl : v = vK ⟨#[121]⟩ := by simpa [pG] using hv'
    exact ⟨h1 _, i1, i0, h0⟩
  · obtain rfl : q = ⟨⟨#[121]⟩, 0, zE, eK ⟨#[120]⟩⟩ := by simpa [pG] using hq
    exact ⟨h1 _, i0, ok_ex _ _ i0 h0, ok_ex _ _ i3 (h1 _)⟩
theorem eqs_one19 {W : World} {b : Nat} (c0 : W.cell? ⟨b, 0, none⟩ = some (.string ⟨#[121]⟩)) (c1 : W.cell? ⟨b, 1, none⟩ = some (.int .i64 0)) (c2 : W.cell? ⟨b, 2, none⟩ = some (.int .i64 0)) (c3 : W.cell? ⟨b, 3, none⟩ = some (.int .i32 0)) (c4 : W.cell? ⟨b, 4, none⟩ = some (.string ⟨#[]⟩)) (c5 : W.cell? ⟨b, 5, none⟩ = some (.slice none 0 0))
    (c6 : W.cell? ⟨b, 6, none⟩ = some (.int .i64 3)) (c7 : W.cell? ⟨b, 7, none⟩ = some (.int .i32 0)) (c8 : W.cell? ⟨b, 8, none⟩ = some (.string ⟨#[120]⟩)) (c9 : W.cell? ⟨b, 9, none⟩ = some (.slice none 0 0)) : EqsAt W [⟨⟨#[121]⟩, 0, zE, eK ⟨#[120]⟩⟩] (some ⟨b, 0, none⟩) 1 := by
  refine ⟨Nat.le_refl _, by unfold maxLen; omega, fun _ => ⟨b, 0, rfl, fun j q hj => ?_⟩⟩
  match j with
  | 0 => obtain rfl : (⟨⟨#[121]⟩, 0, zE, eK ⟨#[120]⟩⟩ : Qe) = q := by simpa using hj
         exact ⟨none, 0, none, 0, c0, c1, c2, c3, c4, c5, c6, c7, c8, c9, subs_nil _ _ _ _, subs_nil _ _ _ _⟩
  | j + 1 => simp at hj
theorem eqIns (a b : Int) (w : World) : (Op.equalIn 10000 62 (.agg #[.int .i64 a, .int .i32 b]) (.agg #[.int .i64 a, .int .i32 b])).run Tryd.prog w = .ok true w := by
  have hS : Tryd.prog.underlying 62 = some (.struct (Tryd.prog.fieldsOf 62)) := by kernel_rfl
  have hp : Tryd.prog.stoodInHeld 62 = false := by kernel_rfl
  rw [show (10000 : Nat) = 9999 + 1 from rfl, run_equalIn_agg w 9999 62 _ _ hS hp]
  simp only [Program.fieldsOf, Tryd.underlying62]
  go_simp
theorem eqFrame (a b c d e : Int) (w : World) : (Op.equalIn 10000 31 (.agg #[.int .i64 a, .int .i64 b, .int .i64 c, .int .i64 d, .int .i64 e]) (.agg #[.int .i64 a, .int .i64 b, .int .i64 c, .int .i64 d, .int .i64 e])).run Tryd.prog w = .ok true w := by
  have hS : Tryd.prog.underlying 31 = some (.struct (Tryd.prog.fieldsOf 31)) := by kernel_rfl
  have hp : Tryd.prog.stoodInHeld 31 = false := by kernel_rfl
  rw [show (10000 : Nat) = 9999 + 1 from rfl, run_equalIn_agg w 9999 31 _ _ hS hp]
  simp only [Program.fieldsOf, Tryd.underlying31]
  go_simp

set_option maxHeartbeats 4000000 in
theorem known19_any (w : World) (hg : Always w) : Calls Tryd.prog 5 #[] w fun r w' => r = .returned (.bool true) ∧ Below w.heap.size w w' := by
  have h1 := fun b1 b2 b3 W hg hp => code_any pG ⟨some ⟨b1, 0, none⟩, 1, some ⟨b2, 0, none⟩, 1, none, 0, some ⟨b3, 0, none⟩, 1⟩ W hg hp ok_known19 (by simp [pG]) (by simp [pG]) (by simp [pG]) (by simp [pG])
  have h2 := fun b1 b2 b3 W hg hp => genimage_any pG ⟨some ⟨b1, 0, none⟩, 1, some ⟨b2, 0, none⟩, 1, none, 0, some ⟨b3, 0, none⟩, 1⟩ 3 W hg hp ok_known19 (by simp [pG]) (by simp [pG]) (by simp [pG]) (by simp [pG]) (by omega)
  have h3 := fun b1 b2 b3 W hg hp => genimage_any pG ⟨some ⟨b1, 0, none⟩, 1, some ⟨b2, 0, none⟩, 1, none, 0, some ⟨b3, 0, none⟩, 1⟩ 0 W hg hp ok_known19 (by simp [pG]) (by simp [pG]) (by simp [pG]) (by simp [pG]) (by omega)
  rw [known19a] at h1
  obtain ⟨e1, e2, e3⟩ := known19b
  rw [e1] at h2
  rw [known19c] at h3
  generalize (imE pG 3).1 = M at *
  generalize (imE pG 0).1 = M0 at *
  obtain ⟨mv, mf, me, ⟨ma, mb, mc, md, mg⟩, mfirst, mstep, mmove, msf, mmf⟩ := M
  obtain ⟨mv0, mf0, me0, ⟨ma0, mb0, mc0, md0, mg0⟩, mfirst0, mstep0, mmove0, msf0, mmf0⟩ := M0
  dsimp only at e2 e3
  subst e2 e3
  have hpat := fun (b1 b2 b3 : Nat) (W : World) (x1 : VarsAt W [vK ⟨#[120]⟩] (some ⟨b1, 0, none⟩) 1) (x2 : VarsAt W [vK ⟨#[121]⟩] (some ⟨b2, 0, none⟩) 1) (x3 : EqsAt W [⟨⟨#[121]⟩, 0, zE, eK ⟨#[120]⟩⟩] (some ⟨b3, 0, none⟩) 1) =>
    (⟨x1, x2, vars_nil _, x3⟩ : PrAt W pG ⟨some ⟨b1, 0, none⟩, 1, some ⟨b2, 0, none⟩, 1, none, 0, some ⟨b3, 0, none⟩, 1⟩)
  have HPAT := Lib.hid hpat
  unfold prV fV at h1 h2 h3
  unfold frT at h1
  unfold imV at h2 h3
  dsimp only [pG, vK, List.length_cons, List.length_nil] at h1 h2 h3
  have hfq1 := fun w => eqFaultSelf16 0 0 0 w
  have hfq2 := fun w => eqFaultSelf16 4 0 1 w
  have hiq := fun w => eqIns 3 1 w
  have hfr := fun w => eqFrame 2 0 0 1 1 w
  have hgm : Tryd.prog.eqGuardType Tryd.prog.depth 34 = false := by kernel_rfl
  have hgm2 : Tryd.prog.eqGuardType Tryd.prog.depth 62 = false := by kernel_rfl
  have hgm3 : Tryd.prog.eqGuardType Tryd.prog.depth 31 = false := by kernel_rfl
  clear e1 hpat
  go_enter Tryd.func5, Tryd.ntmps5
  go_upto_region 3 with fail
  refine wp_name fun V hV => ?_
  have hbV : Below w.heap.size w V := by rw [hV]; exact belA
  have p0 : V.cell? ⟨w.heap.size + 1 + 1 + 1 + 1, 0, none⟩ = some (.string ⟨#[102]⟩) := by rw [hV]; go_simp
  have p1 : V.cell? ⟨w.heap.size + 1 + 1 + 1 + 1, 1, none⟩ = some (.slice (some ⟨w.heap.size + 1, 0, none⟩) 1 1) := by rw [hV]; go_simp
  have p2 : V.cell? ⟨w.heap.size + 1 + 1 + 1 + 1, 2, none⟩ = some (.slice (some ⟨w.heap.size + 1 + 1, 0, none⟩) 1 1) := by rw [hV]; go_simp
  have p3 : V.cell? ⟨w.heap.size + 1 + 1 + 1 + 1, 3, none⟩ = some (.slice none 0 0) := by rw [hV]; go_simp
  have p4 : V.cell? ⟨w.heap.size + 1 + 1 + 1 + 1, 4, none⟩ = some (.slice (some ⟨w.heap.size + 1 + 1 + 1, 0, none⟩) 1 1) := by rw [hV]; go_simp
  have hp : PrAt V pG ⟨some ⟨w.heap.size + 1, 0, none⟩, 1, some ⟨w.heap.size + 1 + 1, 0, none⟩, 1, none, 0, some ⟨w.heap.size + 1 + 1 + 1, 0, none⟩, 1⟩ := by
    rw [hV]
    exact HPAT.out _ _ _ _ (vars_one (by go_simp) (by go_simp) (by go_simp) (by go_simp)) (vars_one (by go_simp) (by go_simp) (by go_simp) (by go_simp)) (eqs_one19 (by go_simp) (by go_simp) (by go_simp) (by go_simp) (by go_simp) (by go_simp) (by go_simp) (by go_simp) (by go_simp) (by go_simp))
  have H1 := Lib.hid (fun W (hb : Below V.heap.size V W) => h1 _ _ _ W (hg.later (bel_trans hbV hb)) (hp.later hb))
  have H2 := Lib.hid (fun W (hb : Below V.heap.size V W) => h2 _ _ _ W (hg.later (bel_trans hbV hb)) (hp.later hb))
  have H3 := Lib.hid (fun W (hb : Below V.heap.size V W) => h3 _ _ _ W (hg.later (bel_trans hbV hb)) (hp.later hb))
  have hzV : w.heap.size + 5 ≤ V.heap.size := by rw [hV]; simp
  clear hV hp h1 h2 h3 HPAT
  go_upto_region 4 with (go_at_call 6; go_loud (refine (H1.out _ (Below.refl _ _)).mono ?_; rintro r w1 ⟨⟨A, cap, rfl, hat, -⟩, hb1⟩))
  obtain ⟨b, off, rfl, hbb, y0, y1⟩ := hat.get (k := 3) (x := (3, 1)) rfl
  refine wp_name fun V1 hV1 => ?_
  have hbx : Below w1.heap.size w1 V1 := by rw [hV1]; exact bel_alloc (bel_alloc (Below.refl _ _) _) _
  have hbV1 : Below V.heap.size V V1 := bel_trans hb1 hbx
  have k0 : V1.cell? ⟨w1.heap.size, 0, none⟩ = some (.int .i64 2) := by rw [hV1]; go_simp
  have k1 : V1.cell? ⟨w1.heap.size, 1, none⟩ = some (.int .i64 0) := by rw [hV1]; go_simp
  have k2 : V1.cell? ⟨w1.heap.size, 2, none⟩ = some (.int .i64 0) := by rw [hV1]; go_simp
  have k3 : V1.cell? ⟨w1.heap.size, 3, none⟩ = some (.int .i64 1) := by rw [hV1]; go_simp
  have k4 : V1.cell? ⟨w1.heap.size, 4, none⟩ = some (.int .i64 1) := by rw [hV1]; go_simp
  have s0 : V1.cell? ⟨w1.heap.size + 1, 0, none⟩ = some (.int .i64 0) := by rw [hV1]; go_simp
  have s1 : V1.cell? ⟨w1.heap.size + 1, 1, none⟩ = some (.int .i64 0) := by rw [hV1]; go_simp
  have s2 : V1.cell? ⟨w1.heap.size + 1, 2, none⟩ = some (.int .i64 0) := by rw [hV1]; go_simp
  replace y0 := bel_cell hbx y0
  replace y1 := bel_cell hbx y1
  replace p0 := bel_cell hbV1 p0
  replace p1 := bel_cell hbV1 p1
  replace p2 := bel_cell hbV1 p2
  replace p3 := bel_cell hbV1 p3
  replace p4 := bel_cell hbV1 p4
  clear hV1 hbx hat hb1 H1
  go_upto_region 5 with (go_at_call 8; go_loud (refine (H2.out _ hbV1).mono ?_; rintro r w2 ⟨⟨ia, rfl, -⟩, hb2⟩))
  refine wp_name fun V2 hV2 => ?_
  have hbx : Below w2.heap.size w2 V2 := by rw [hV2]; exact bel_alloc (bel_alloc (Below.refl _ _) _) _
  have hbV2 : Below V1.heap.size V1 V2 := bel_trans hb2 hbx
  have i0 : V2.cell? ⟨w2.heap.size, 0, none⟩ = some (.int .u32 3) := by rw [hV2]; go_simp
  have i11 : V2.cell? ⟨w2.heap.size, 11, none⟩ = some (.int .i64 6) := by rw [hV2]; go_simp
  have q0 : V2.cell? ⟨w2.heap.size + 1, 0, none⟩ = some (.int .i64 0) := by rw [hV2]; go_simp
  have q1 : V2.cell? ⟨w2.heap.size + 1, 1, none⟩ = some (.int .i64 0) := by rw [hV2]; go_simp
  have q2 : V2.cell? ⟨w2.heap.size + 1, 2, none⟩ = some (.int .i64 0) := by rw [hV2]; go_simp
  replace y0 := bel_cell hbV2 y0
  replace y1 := bel_cell hbV2 y1
  replace k0 := bel_cell hbV2 k0
  replace k1 := bel_cell hbV2 k1
  replace k2 := bel_cell hbV2 k2
  replace k3 := bel_cell hbV2 k3
  replace k4 := bel_cell hbV2 k4
  replace s0 := bel_cell hbV2 s0
  replace s1 := bel_cell hbV2 s1
  replace s2 := bel_cell hbV2 s2
  replace p0 := bel_cell hbV2 p0
  replace p1 := bel_cell hbV2 p1
  replace p2 := bel_cell hbV2 p2
  replace p3 := bel_cell hbV2 p3
  replace p4 := bel_cell hbV2 p4
  clear hV2 hbx hb2 H2
  go_upto_region 6 with (go_at_call 8; go_loud (refine (H3.out _ (bel_trans hbV1 hbV2)).mono ?_; rintro r w3 ⟨⟨ib, rfl, -⟩, hb3⟩))
  refine wp_name fun V3 hV3 => ?_
  have hbx : Below w3.heap.size w3 V3 := by rw [hV3]; exact bel_alloc (bel_alloc (Below.refl _ _) _) _
  have hbV3 : Below V2.heap.size V2 V3 := bel_trans hb3 hbx
  have x0 : V3.cell? ⟨w3.heap.size + 1, 0, none⟩ = some (.int .i64 4) := by rw [hV3]; go_simp
  have x1 : V3.cell? ⟨w3.heap.size + 1, 1, none⟩ = some (.int .i64 0) := by rw [hV3]; go_simp
  have x2 : V3.cell? ⟨w3.heap.size + 1, 2, none⟩ = some (.int .i64 1) := by rw [hV3]; go_simp
  replace y0 := bel_cell hbV3 y0
  replace y1 := bel_cell hbV3 y1
  replace k0 := bel_cell hbV3 k0
  replace k1 := bel_cell hbV3 k1
  replace k2 := bel_cell hbV3 k2
  replace k3 := bel_cell hbV3 k3
  replace k4 := bel_cell hbV3 k4
  replace s0 := bel_cell hbV3 s0
  replace s1 := bel_cell hbV3 s1
  replace s2 := bel_cell hbV3 s2
  replace i0 := bel_cell hbV3 i0
  replace i11 := bel_cell hbV3 i11
  replace q0 := bel_cell hbV3 q0
  replace q1 := bel_cell hbV3 q1
  replace q2 := bel_cell hbV3 q2
  have hbE := bel_trans hbV (bel_trans hbV1 (bel_trans hbV2 hbV3))
  clear hV3 hbx hb3 H3 p0 p1 p2 p3 p4 hbV hbV1 hbV2 hbV3
  go_wp2_with fail
  go_ret
  exact ⟨rfl, hbE⟩
end Go.Proofs.YtknfcamdfdfoeaaDoor

/- Walk over the reference's Light, with the sizes of expressions. -/
namespace Go.Proofs.YtknfcamdfdfoeaaDoor
open Go.RowKit Go.Sort

/-- What Light says. -/
def LightS (p : Pr) (r : Ending) : Prop := ∃ b, r = .returned (.bool b) ∧ (b = true → p.ins.length ≤ 60 ∧ p.outs.length ≤ 60 ∧ p.locals.length ≤ 60 ∧ p.eqs.length ≤ 60 ∧ ∀ q ∈ p.eqs, q.first.size ≤ 1000000 ∧ q.e.size ≤ 1000000)
theorem LightS.no (p : Pr) : LightS p (.returned (.bool false)) := ⟨false, rfl, by simp⟩
theorem LightS.yes {p : Pr} (h1 : p.ins.length ≤ 60) (h2 : p.outs.length ≤ 60) (h3 : p.locals.length ≤ 60) (h4 : p.eqs.length ≤ 60) (h5 : ∀ q ∈ p.eqs, q.first.count 300 < 300 ∧ q.e.count 300 < 300) : LightS p (.returned (.bool true)) := ⟨true, rfl, fun _ => ⟨h1, h2, h3, h4, fun q hq => by
  obtain ⟨c1, c2⟩ := h5 q hq
  have := Ex.count_size q.first 300 c1
  have := Ex.count_size q.e 300 c2
  omega⟩⟩

set_option maxHeartbeats 4000000 in
theorem lightS_any (p : Pr) (a : PrA) (w : World) (hp : PrAt w p a) :
    Calls Tryd.prog 4 #[prV p a] w fun r w' => LightS p r ∧ Below w.heap.size w w' := by
  have hp4 := hp.eqs
  have hq1 := hp.ins.len
  have hq2 := hp.outs.len
  have hq3 := hp.locals.len
  have hq4 := hp.eqs.len
  obtain ⟨A1, c1, A2, c2, A3, c3, A4, c4⟩ := a
  unfold maxLen at hq1 hq2 hq3 hq4
  unfold prV
  dsimp only at *
  obtain ⟨hq11, hq12⟩ := hq1
  obtain ⟨hq21, hq22⟩ := hq2
  obtain ⟨hq31, hq32⟩ := hq3
  obtain ⟨hq41, hq42⟩ := hq4
  by_cases g1 : 60 < p.ins.length
  · clear hp4
    go_enter Tryd.func4, Tryd.ntmps4
    go_wp2_with fail
    go_ret
    exact ⟨LightS.no _, belA⟩
  by_cases g2 : 60 < p.outs.length
  · clear hp4
    go_enter Tryd.func4, Tryd.ntmps4
    go_wp2_with fail
    go_ret
    exact ⟨LightS.no _, belA⟩
  by_cases g3 : 60 < p.locals.length
  · clear hp4
    go_enter Tryd.func4, Tryd.ntmps4
    go_wp2_with fail
    go_ret
    exact ⟨LightS.no _, belA⟩
  by_cases g4 : 60 < p.eqs.length
  · clear hp4
    go_enter Tryd.func4, Tryd.ntmps4
    go_wp2_with fail
    go_ret
    exact ⟨LightS.no _, belA⟩
  by_cases g5 : 2000 < p.name.size
  · clear hp4
    go_enter Tryd.func4, Tryd.ntmps4
    go_wp2_with fail
    go_ret
    exact ⟨LightS.no _, belA⟩
  clear hp
  go_enter Tryd.func4, Tryd.ntmps4
  go_wp2_with fail
  refine wp_name fun W0 hW0 => ?_
  have hb0 : Below w.heap.size w W0 := by rw [hW0]; exact belA
  have hz0 : w.heap.size < W0.heap.size := by rw [hW0]; simp
  have p4 : W0.cell? ⟨w.heap.size, 4, none⟩ = some (.slice A4 p.eqs.length c4) := by rw [hW0]; go_simp
  clear hW0
  replace hp4 := hp4.later hb0
  go_loopw [3, 4] (fun m i wr => ∃ (k : Nat) (m' : Int), k ≤ p.eqs.length ∧ i = .int .i64 k ∧ m = .int .i64 m' ∧ 0 ≤ m' ∧ m' ≤ 600 * (k : Int) ∧ Hid (∀ y ∈ p.eqs.take k, y.first.count 300 < 300 ∧ y.e.count 300 < 300) ∧ Below W0.heap.size W0 wr) (fun _ i _ => p.eqs.length - (intOf i).toNat)
  case atStart => exact ⟨0, 0, Nat.zero_le _, rfl, rfl, by omega, by omega, Lib.hid (fun y hy => by simp at hy), Below.refl _ _⟩
  case round =>
    obtain ⟨k, m', hk, rfl, rfl, h0, h1, HS, hbel⟩ := hrel
    have hc := bcell hbel
    have hzr := hbel.size
    have hr1 : w.heap.size < wr.heap.size := by omega
    by_cases hlt : k < p.eqs.length
    · have hx : p.eqs[k]? = some p.eqs[k] := List.getElem?_eq_getElem hlt
      have hd : p.eqs.drop k = p.eqs[k] :: p.eqs.drop (k + 1) := List.drop_eq_getElem_cons hlt
      generalize p.eqs[k] = q at hx hd
      obtain ⟨b, off, B1, n1, B2, n2, rfl, hbb, ⟨g0, g1, g2, g3, g4, g5, g6, g7, g8, g9, s1, s2⟩⟩ := (hp4.later hbel).get hx
      have hc1 := Ex.count_bd q.first 300
      have hc2 := Ex.count_bd q.e 300
      have hp1 := fun W h => parts_any q.first B1 n1 300 W (s1.later h) (by omega) (by omega)
      have hp2 := fun W h => parts_any q.e B2 n2 300 W (s2.later h) (by omega) (by omega)
      unfold exV at hp1 hp2
      have HK := Lib.hid (show q.first.count 300 < 300 → q.e.count 300 < 300 → ∀ y ∈ p.eqs.take (k + 1), y.first.count 300 < 300 ∧ y.e.count 300 < 300 from fun g1 g2 y hy => by
        rw [List.take_add_one, hx] at hy
        simp only [Option.toList, List.mem_append, List.mem_singleton] at hy
        rcases hy with hy | rfl
        · exact HS.out y hy
        · exact ⟨g1, g2⟩)
      clear hd hx
      generalize q.first.count 300 = x1 at *
      generalize q.e.count 300 = x2 at *
      by_cases t1 : 3000 < m' + x2 + x1
      · go_wp2_with fail
        refine wp_region_qb (by kernel_rfl) (by kernel_rfl) (fun hgq => ?_)
        repeat (quiet_step ((first | (go_at_call_of 11 B1; exact Calls.regrown_of (hp1 _ belA)) | (go_at_call_of 11 B2; exact Calls.regrown_of (hp2 _ belA)))))
        refine wpQuiet_nil ?_
        intro wq hwq
        replace hwq := bel_of_class hwq
        clear hgq
        have hcq := bcell hwq
        have hzq := hwq.size
        (try simp at hzq)
        (try have hyq1 := lt0 w wq); (try have hyq2 := ltA w 1 wq); (try have hyq3 := ltA w 2 wq); (try have hyq4 := lt0 wr wq)
        have hyq : w.heap.size < wq.heap.size := by omega
        have hyqb : b < wq.heap.size := by omega
        go_wp2_with (first | (go_at_call_of 11 B1; refine (hp1 _ belA).mono ?_; rintro r wa ⟨rfl, hba⟩; have hca := bcell hba; have hza := hba.size; have hya : w.heap.size < wa.heap.size := (by omega)) | (go_at_call_of 11 B2; refine (hp2 _ belA).mono ?_; rintro r wb ⟨rfl, hbb⟩; have hcb := bcell hbb; have hzb := hbb.size; have hyb : w.heap.size < wb.heap.size := (by omega)))
        go_ret
        exact ⟨LightS.no _, belA⟩
      by_cases t2 : x2 ≥ 300
      · go_wp2_with fail
        refine wp_region_qb (by kernel_rfl) (by kernel_rfl) (fun hgq => ?_)
        repeat (quiet_step ((first | (go_at_call_of 11 B1; exact Calls.regrown_of (hp1 _ belA)) | (go_at_call_of 11 B2; exact Calls.regrown_of (hp2 _ belA)))))
        refine wpQuiet_nil ?_
        intro wq hwq
        replace hwq := bel_of_class hwq
        clear hgq
        have hcq := bcell hwq
        have hzq := hwq.size
        (try simp at hzq)
        (try have hyq1 := lt0 w wq); (try have hyq2 := ltA w 1 wq); (try have hyq3 := ltA w 2 wq); (try have hyq4 := lt0 wr wq)
        have hyq : w.heap.size < wq.heap.size := by omega
        have hyqb : b < wq.heap.size := by omega
        go_wp2_with (first | (go_at_call_of 11 B1; refine (hp1 _ belA).mono ?_; rintro r wa ⟨rfl, hba⟩; have hca := bcell hba; have hza := hba.size; have hya : w.heap.size < wa.heap.size := (by omega)) | (go_at_call_of 11 B2; refine (hp2 _ belA).mono ?_; rintro r wb ⟨rfl, hbb⟩; have hcb := bcell hbb; have hzb := hbb.size; have hyb : w.heap.size < wb.heap.size := (by omega)))
        go_ret
        exact ⟨LightS.no _, belA⟩
      by_cases t3 : x1 ≥ 300
      · go_wp2_with fail
        refine wp_region_qb (by kernel_rfl) (by kernel_rfl) (fun hgq => ?_)
        repeat (quiet_step ((first | (go_at_call_of 11 B1; exact Calls.regrown_of (hp1 _ belA)) | (go_at_call_of 11 B2; exact Calls.regrown_of (hp2 _ belA)))))
        refine wpQuiet_nil ?_
        intro wq hwq
        replace hwq := bel_of_class hwq
        clear hgq
        have hcq := bcell hwq
        have hzq := hwq.size
        (try simp at hzq)
        (try have hyq1 := lt0 w wq); (try have hyq2 := ltA w 1 wq); (try have hyq3 := ltA w 2 wq); (try have hyq4 := lt0 wr wq)
        have hyq : w.heap.size < wq.heap.size := by omega
        have hyqb : b < wq.heap.size := by omega
        go_wp2_with (first | (go_at_call_of 11 B1; refine (hp1 _ belA).mono ?_; rintro r wa ⟨rfl, hba⟩; have hca := bcell hba; have hza := hba.size; have hya : w.heap.size < wa.heap.size := (by omega)) | (go_at_call_of 11 B2; refine (hp2 _ belA).mono ?_; rintro r wb ⟨rfl, hbb⟩; have hcb := bcell hbb; have hzb := hbb.size; have hyb : w.heap.size < wb.heap.size := (by omega)))
        go_ret
        exact ⟨LightS.no _, belA⟩
      go_wp2_with fail
      refine wp_region_qb (by kernel_rfl) (by kernel_rfl) (fun hgq => ?_)
      repeat (quiet_step ((first | (go_at_call_of 11 B1; exact Calls.regrown_of (hp1 _ belA)) | (go_at_call_of 11 B2; exact Calls.regrown_of (hp2 _ belA)))))
      refine wpQuiet_nil ?_
      intro wq hwq
      replace hwq := bel_of_class hwq
      clear hgq
      have hcq := bcell hwq
      have hzq := hwq.size
      (try simp at hzq)
      (try have hyq1 := lt0 w wq); (try have hyq2 := ltA w 1 wq); (try have hyq3 := ltA w 2 wq); (try have hyq4 := lt0 wr wq)
      have hyq : w.heap.size < wq.heap.size := by omega
      have hyqb : b < wq.heap.size := by omega
      go_wp2_with (first | (go_at_call_of 11 B1; refine (hp1 _ belA).mono ?_; rintro r wa ⟨rfl, hba⟩; have hca := bcell hba; have hza := hba.size; have hya : w.heap.size < wa.heap.size := (by omega)) | (go_at_call_of 11 B2; refine (hp2 _ belA).mono ?_; rintro r wb ⟨rfl, hbb⟩; have hcb := bcell hbb; have hzb := hbb.size; have hyb : w.heap.size < wb.heap.size := (by omega)))
      go_roundw
      case rel => exact ⟨k + 1, m' + x2 + x1, by omega, by go_num, by go_num, by omega, by omega, Lib.hid (HK.out (by omega) (by omega)), belA⟩
      case measure => simp [intOf]; omega
    obtain rfl : k = p.eqs.length := by omega
    go_wp2_with fail
    go_ret
    exact ⟨LightS.yes (by omega) (by omega) (by omega) (by omega) (by have := HS.out; rwa [List.take_length] at this), belA⟩

end Go.Proofs.YtknfcamdfdfoeaaDoor

/- Walk over the law GenAccepted: it answers true. -/
namespace Go.Proofs.YtknfcamdfdfoeaaDoor
open Go.RowKit Go.Sort

theorem eqFault43 (w : World) : (Op.equalIn 10000 34 (.agg #[.int .i64 4, .int .i64 0, .int .i64 3]) (.agg #[.int .i64 4, .int .i64 0, .int .i64 1])).run Tryd.prog w = .ok false w := by
  have hS : Tryd.prog.underlying 34 = some (.struct (Tryd.prog.fieldsOf 34)) := by kernel_rfl
  have hp : Tryd.prog.stoodInHeld 34 = false := by kernel_rfl
  rw [show (10000 : Nat) = 9999 + 1 from rfl, run_equalIn_agg w 9999 34 _ _ hS hp]
  simp only [Program.fieldsOf, Tryd.underlying34]
  go_simp
theorem code_faulty {p : Pr} (h : (codeE p).2.2 ≠ (0, 0, 0)) : codeE p = ([], (0, 0, 0, 0, 0), (codeE p).2.2) := by
  unfold codeE at h ⊢
  by_cases hc : (cellsE p).2 = (0, 0, 0)
  · rw [if_pos hc] at h ⊢
    by_cases h6 : 600 < (codeL p).length
    · rw [if_pos h6]
    · rw [if_neg h6] at h
      exact absurd rfl h
  · rw [if_neg hc]

set_option maxHeartbeats 4000000 in
theorem acc_fault (p : Pr) (a : PrA) (v : Int) (w : World) (hg : Always w) (hp : PrAt w p a) (hok : PrOK p) (hf : (codeE p).2.2 ≠ (0, 0, 0)) :
    Calls Tryd.prog 3 #[prV p a, .int .u32 v] w fun r w' => r = .returned (.bool true) ∧ Below w.heap.size w w' := by
  have hlight := fun W h => lightS_any p a W (hp.later h)
  have hcode := fun (n1 : p.ins.length ≤ 1000000) (n2 : p.outs.length ≤ 1000000) (n3 : p.locals.length ≤ 1000000) (n4 : p.eqs.length ≤ 1000000) W (h : Below w.heap.size w W) => code_any p a W (hg.later h) (hp.later h) hok n1 n2 n3 n4
  have hkn := fun W h => known19_any W (hg.later h)
  have hgm : Tryd.prog.eqGuardType Tryd.prog.depth 34 = false := by kernel_rfl
  have hgm3 : Tryd.prog.eqGuardType Tryd.prog.depth 31 = false := by kernel_rfl
  have hne : ((codeE p).2.2.1 == 0 && (codeE p).2.2.2.1 == 0 && (codeE p).2.2.2.2 == 0) = false := by
    rw [Bool.eq_false_iff]
    intro h
    simp only [Bool.and_eq_true, beq_iff_eq] at h
    exact hf (Prod.ext h.1.1 (Prod.ext h.1.2 h.2))
  have hfq : ∀ w, (Op.equalIn 10000 34 (.agg #[.int .i64 (codeE p).2.2.1, .int .i64 (codeE p).2.2.2.1, .int .i64 (codeE p).2.2.2.2]) (.agg #[.int .i64 0, .int .i64 0, .int .i64 0])).run Tryd.prog w = .ok false w := fun w => by rw [eqFault, hne]
  have hfr := fun w => eqFrame 0 0 0 0 0 w
  have hcf := code_faulty hf
  rw [hcf] at hcode
  obtain ⟨A1, c1, A2, c2, A3, c3, A4, c4⟩ := a
  unfold prV fV frT at *
  dsimp only [List.length_nil] at *
  clear hcf
  generalize (codeE p).2.2.1 = k1 at *
  generalize (codeE p).2.2.2.1 = k2 at *
  generalize (codeE p).2.2.2.2 = k3 at *
  have HCODE := Lib.hid hcode
  clear hg hp hok hf hne hcode
  go_enter Tryd.func3, Tryd.ntmps3
  go_upto_region 4 with (first | (go_at_call 4; go_loud (refine (hlight _ belA).mono ?_; rintro r wl ⟨⟨bl, rfl, hlb⟩, hbl⟩; have hcl := bcell hbl; have hzl := hbl.size; (try simp at hzl); have hyl : w.heap.size < wl.heap.size := (by omega); cases bl)) | (go_at_call 6; go_loud (have hlb2 := hlb (by trivial); clear hlb; have n1 : p.ins.length ≤ 1000000 := (by omega); have n2 : p.outs.length ≤ 1000000 := (by omega); have n3 : p.locals.length ≤ 1000000 := (by omega); have n4 : p.eqs.length ≤ 1000000 := (by omega); refine (HCODE.out n1 n2 n3 n4 _ belA).mono ?_; rintro r wk ⟨⟨A, cap, rfl, hat, -⟩, hbk⟩; clear hlb2)) | (go_at_call 5; go_loud (refine (hkn _ belA).mono ?_; rintro r wn ⟨rfl, hbn⟩)))
  · go_ret
    exact ⟨rfl, belA⟩
  refine wp_name fun V hV => ?_
  have hbx : Below wk.heap.size wk V := by rw [hV]; exact bel_alloc (bel_alloc (Below.refl _ _) _) _
  have hbw : Below w.heap.size w wk := bel_trans (show Below w.heap.size w wl from belA) hbk
  have hbV := bel_trans hbw hbx
  have k0 : V.cell? ⟨wk.heap.size, 0, none⟩ = some (.int .i64 0) := by rw [hV]; go_simp
  have k1' : V.cell? ⟨wk.heap.size, 1, none⟩ = some (.int .i64 0) := by rw [hV]; go_simp
  have k2' : V.cell? ⟨wk.heap.size, 2, none⟩ = some (.int .i64 0) := by rw [hV]; go_simp
  have k3' : V.cell? ⟨wk.heap.size, 3, none⟩ = some (.int .i64 0) := by rw [hV]; go_simp
  have k4' : V.cell? ⟨wk.heap.size, 4, none⟩ = some (.int .i64 0) := by rw [hV]; go_simp
  have s0 : V.cell? ⟨wk.heap.size + 1, 0, none⟩ = some (.int .i64 k1) := by rw [hV]; go_simp
  have s1 : V.cell? ⟨wk.heap.size + 1, 1, none⟩ = some (.int .i64 k2) := by rw [hV]; go_simp
  have s2 : V.cell? ⟨wk.heap.size + 1, 2, none⟩ = some (.int .i64 k3) := by rw [hV]; go_simp
  clear hV hbx hbw hcl hbk hbl
  go_wp2_with (first | (go_at_call 5; go_loud (refine (hkn _ hbV).mono ?_; rintro r wn ⟨rfl, hbn⟩)))
  go_ret
  exact ⟨rfl, bel_trans hbV hbn⟩

set_option maxHeartbeats 4000000 in
theorem acc_image (p : Pr) (a : PrA) (v : Int) (w : World) (hg : Always w) (hp : PrAt w p a) (hok : PrOK p) (hv : 0 ≤ v ∧ v < 4294967296) (hf : (codeE p).2.2 = (0, 0, 0)) (hi : v = 0 ∧ imE p v = (Im.zero, (4, 0, 1)) ∨ imE p v = (Im.zero, (4, 0, 3))) :
    Calls Tryd.prog 3 #[prV p a, .int .u32 v] w fun r w' => r = .returned (.bool true) ∧ Below w.heap.size w w' := by
  have hlight := fun W h => lightS_any p a W (hp.later h)
  have hcode := fun (n1 : p.ins.length ≤ 1000000) (n2 : p.outs.length ≤ 1000000) (n3 : p.locals.length ≤ 1000000) (n4 : p.eqs.length ≤ 1000000) W (h : Below w.heap.size w W) => code_any p a W (hg.later h) (hp.later h) hok n1 n2 n3 n4
  have hkn := fun W h => known19_any W (hg.later h)
  have hgm : Tryd.prog.eqGuardType Tryd.prog.depth 34 = false := by kernel_rfl
  have hgm3 : Tryd.prog.eqGuardType Tryd.prog.depth 31 = false := by kernel_rfl
  obtain ⟨hS, hb16, h600, hce⟩ := code_fine hf
  have hcln := clean_of hS
  have hjz := code_judged hcln hb16 h600
  have hjok := judgeF_ok hjz
  have hN := code_i32 hcln hok hb16
  rw [hce] at hcode
  have hjud := fun A cap W h => judge_any (codeL p) A cap (frOf p) W h hN
  rw [show frV (frOf p) = .agg #[.int .i64 (varsOf p).length, .int .i64 (cellsL p).length, .int .i64 (cellsL p).length, .int .i64 p.ins.length, .int .i64 p.outs.length] from rfl] at hjud
  unfold judgeV at hjud
  rw [hjz] at hjud
  have hfq : ∀ w, (Op.equalIn 10000 34 (.agg #[.int .i64 0, .int .i64 0, .int .i64 0]) (.agg #[.int .i64 0, .int .i64 0, .int .i64 0])).run Tryd.prog w = .ok true w := fun w => by rw [eqFault]; rfl
  obtain ⟨-, -, -, hj1, hj2, hj3, hj4⟩ := hjok
  have hgi := fun (n1 : p.ins.length ≤ 1000000) (n2 : p.outs.length ≤ 1000000) (n3 : p.locals.length ≤ 1000000) (n4 : p.eqs.length ≤ 1000000) W (h : Below w.heap.size w W) => genimage_any p a v W (hg.later h) (hp.later h) hok n1 n2 n3 n4 hv
  have hq1 : ∀ w, (Op.equalIn 10000 34 (.agg #[.int .i64 4, .int .i64 0, .int .i64 1]) (.agg #[.int .i64 0, .int .i64 0, .int .i64 0])).run Tryd.prog w = .ok false w := fun w => by rw [eqFault]; rfl
  have hq3 : ∀ w, (Op.equalIn 10000 34 (.agg #[.int .i64 4, .int .i64 0, .int .i64 3]) (.agg #[.int .i64 0, .int .i64 0, .int .i64 0])).run Tryd.prog w = .ok false w := fun w => by rw [eqFault]; rfl
  have hq2 := fun w => eqFaultSelf16 4 0 1 w
  have hq4 := fun w => eqFaultSelf16 4 0 3 w
  have hq5 : ∀ w, (Op.equalIn 10000 34 (.agg #[.int .i64 4, .int .i64 0, .int .i64 3]) (.agg #[.int .i64 4, .int .i64 0, .int .i64 1])).run Tryd.prog w = .ok false w := fun w => eqFault43 w
  obtain ⟨A1, c1, A2, c2, A3, c3, A4, c4⟩ := a
  unfold prV fV frT at *
  dsimp only at *
  clear hg hp hok hf hce hcln hjz hN hb16 h600 hS
  generalize judgeF (codeL p) (frOf p) = J at *
  generalize codeL p = cl at *
  generalize hnv : (varsOf p).length = nv at *
  generalize hnc : (cellsL p).length = nc at *
  clear hnv hnc
  rcases hi with ⟨rfl, hi⟩ | hi
  · rw [hi] at hgi
    have HCODE := Lib.hid hcode
    have HJUD := Lib.hid hjud
    have HGI := Lib.hid hgi
    clear hcode hjud hgi hi
    unfold imV Im.zero Fr.zero at HGI
    go_enter Tryd.func3, Tryd.ntmps3
    go_upto_region 4 with (first | (go_at_call 4; go_loud (refine (hlight _ belA).mono ?_; rintro r wl ⟨⟨bl, rfl, hlb⟩, hbl⟩; have hcl := bcell hbl; have hzl := hbl.size; (try simp at hzl); have hyl : w.heap.size < wl.heap.size := (by omega); cases bl)) | (go_at_call 6; go_loud (have hlb2 := hlb (by trivial); clear hlb; have n1 : p.ins.length ≤ 1000000 := (by omega); have n2 : p.outs.length ≤ 1000000 := (by omega); have n3 : p.locals.length ≤ 1000000 := (by omega); have n4 : p.eqs.length ≤ 1000000 := (by omega); refine (HCODE.out n1 n2 n3 n4 _ belA).mono ?_; rintro r wk ⟨⟨A, cap, rfl, hat, -⟩, hbk⟩; clear hlb2)) | (go_at_call 5; go_loud (refine (hkn _ belA).mono ?_; rintro r wn ⟨rfl, hbn⟩)))
    · go_ret
      exact ⟨rfl, belA⟩
    refine wp_name fun V hV => ?_
    have hbx : Below wk.heap.size wk V := by rw [hV]; exact bel_alloc (bel_alloc (Below.refl _ _) _) _
    have hbw : Below w.heap.size w wk := bel_trans (show Below w.heap.size w wl from belA) hbk
    have hbV := bel_trans hbw hbx
    have k0 : V.cell? ⟨wk.heap.size, 0, none⟩ = some (.int .i64 nv) := by rw [hV]; go_simp
    have k1 : V.cell? ⟨wk.heap.size, 1, none⟩ = some (.int .i64 nc) := by rw [hV]; go_simp
    have k2 : V.cell? ⟨wk.heap.size, 2, none⟩ = some (.int .i64 nc) := by rw [hV]; go_simp
    have k3 : V.cell? ⟨wk.heap.size, 3, none⟩ = some (.int .i64 p.ins.length) := by rw [hV]; go_simp
    have k4 : V.cell? ⟨wk.heap.size, 4, none⟩ = some (.int .i64 p.outs.length) := by rw [hV]; go_simp
    have s0 : V.cell? ⟨wk.heap.size + 1, 0, none⟩ = some (.int .i64 0) := by rw [hV]; go_simp
    have s1 : V.cell? ⟨wk.heap.size + 1, 1, none⟩ = some (.int .i64 0) := by rw [hV]; go_simp
    have s2 : V.cell? ⟨wk.heap.size + 1, 2, none⟩ = some (.int .i64 0) := by rw [hV]; go_simp
    have p0 : V.cell? ⟨w.heap.size, 0, none⟩ = some (.string p.name) := bel_cell hbx (bel_cell hbk (bel_cell hbl (by go_simp)))
    have p1 : V.cell? ⟨w.heap.size, 1, none⟩ = some (.slice A1 p.ins.length c1) := bel_cell hbx (bel_cell hbk (bel_cell hbl (by go_simp)))
    have p2 : V.cell? ⟨w.heap.size, 2, none⟩ = some (.slice A2 p.outs.length c2) := bel_cell hbx (bel_cell hbk (bel_cell hbl (by go_simp)))
    have p3 : V.cell? ⟨w.heap.size, 3, none⟩ = some (.slice A3 p.locals.length c3) := bel_cell hbx (bel_cell hbk (bel_cell hbl (by go_simp)))
    have p4 : V.cell? ⟨w.heap.size, 4, none⟩ = some (.slice A4 p.eqs.length c4) := bel_cell hbx (bel_cell hbk (bel_cell hbl (by go_simp)))
    have HAT := Lib.hid (hat.later hbx)
    clear hV hbx hbk hbl hcl hat hzl
    go_upto_region 7 with (go_at_call 7; go_loud (refine (HJUD.out A cap _ HAT.out).mono ?_; rintro r wj ⟨rfl, hbj⟩))
    refine wp_name fun V2 hV2 => ?_
    have hbx2 : Below wj.heap.size wj V2 := by rw [hV2]; exact bel_alloc (Below.refl _ _) _
    have hb2 : Below V.heap.size V V2 := bel_trans hbj hbx2
    have r0 : V2.cell? ⟨wj.heap.size, 0, none⟩ = some (.int .i64 J.1.1) := by rw [hV2]; go_simp
    have r1 : V2.cell? ⟨wj.heap.size, 1, none⟩ = some (.int .i64 J.1.2) := by rw [hV2]; go_simp
    replace p0 := bel_cell hb2 p0
    replace p1 := bel_cell hb2 p1
    replace p2 := bel_cell hb2 p2
    replace p3 := bel_cell hb2 p3
    replace p4 := bel_cell hb2 p4
    have hbV2 := bel_trans hbV hb2
    clear hV2 hbx2 hbj HJUD k0 k1 k2 k3 k4 s0 s1 s2 hb2 hbV hbw
    go_upto_region 10 with (go_at_call 8; go_loud (refine (HGI.out n1 n2 n3 n4 _ hbV2).mono ?_; rintro r wi ⟨⟨⟨B1, d1, B2, d2, B3, d3⟩, rfl, him⟩, hbi⟩))
    refine wp_name fun V3 hV3 => ?_
    have hbx3 : Below wi.heap.size wi V3 := by rw [hV3]; exact bel_alloc (bel_alloc (Below.refl _ _) _) _
    have hb3 : Below V2.heap.size V2 V3 := bel_trans hbi hbx3
    replace r0 := bel_cell hb3 r0
    replace r1 := bel_cell hb3 r1
    have hbV3 := bel_trans hbV2 hb3
    have HIM := Lib.hid (him.later hbx3)
    have s0 : V3.cell? ⟨wi.heap.size + 1, 0, none⟩ = some (.int .i64 4) := by rw [hV3]; go_simp
    have s1 : V3.cell? ⟨wi.heap.size + 1, 1, none⟩ = some (.int .i64 0) := by rw [hV3]; go_simp
    have s2 : V3.cell? ⟨wi.heap.size + 1, 2, none⟩ = some (.int .i64 1) := by rw [hV3]; go_simp
    clear hV3 hbx3 hbi hb3 him
    go_wp2_with (first | (go_at_call 5; go_loud (refine (hkn _ hbV3).mono ?_; rintro r wn ⟨rfl, hbn⟩)))
    go_ret
    exact ⟨rfl, bel_trans hbV3 hbn⟩
  · rw [hi] at hgi
    have HCODE := Lib.hid hcode
    have HJUD := Lib.hid hjud
    have HGI := Lib.hid hgi
    clear hcode hjud hgi hi
    unfold imV Im.zero Fr.zero at HGI
    go_enter Tryd.func3, Tryd.ntmps3
    go_upto_region 4 with (first | (go_at_call 4; go_loud (refine (hlight _ belA).mono ?_; rintro r wl ⟨⟨bl, rfl, hlb⟩, hbl⟩; have hcl := bcell hbl; have hzl := hbl.size; (try simp at hzl); have hyl : w.heap.size < wl.heap.size := (by omega); cases bl)) | (go_at_call 6; go_loud (have hlb2 := hlb (by trivial); clear hlb; have n1 : p.ins.length ≤ 1000000 := (by omega); have n2 : p.outs.length ≤ 1000000 := (by omega); have n3 : p.locals.length ≤ 1000000 := (by omega); have n4 : p.eqs.length ≤ 1000000 := (by omega); refine (HCODE.out n1 n2 n3 n4 _ belA).mono ?_; rintro r wk ⟨⟨A, cap, rfl, hat, -⟩, hbk⟩; clear hlb2)) | (go_at_call 5; go_loud (refine (hkn _ belA).mono ?_; rintro r wn ⟨rfl, hbn⟩)))
    · go_ret
      exact ⟨rfl, belA⟩
    refine wp_name fun V hV => ?_
    have hbx : Below wk.heap.size wk V := by rw [hV]; exact bel_alloc (bel_alloc (Below.refl _ _) _) _
    have hbw : Below w.heap.size w wk := bel_trans (show Below w.heap.size w wl from belA) hbk
    have hbV := bel_trans hbw hbx
    have k0 : V.cell? ⟨wk.heap.size, 0, none⟩ = some (.int .i64 nv) := by rw [hV]; go_simp
    have k1 : V.cell? ⟨wk.heap.size, 1, none⟩ = some (.int .i64 nc) := by rw [hV]; go_simp
    have k2 : V.cell? ⟨wk.heap.size, 2, none⟩ = some (.int .i64 nc) := by rw [hV]; go_simp
    have k3 : V.cell? ⟨wk.heap.size, 3, none⟩ = some (.int .i64 p.ins.length) := by rw [hV]; go_simp
    have k4 : V.cell? ⟨wk.heap.size, 4, none⟩ = some (.int .i64 p.outs.length) := by rw [hV]; go_simp
    have s0 : V.cell? ⟨wk.heap.size + 1, 0, none⟩ = some (.int .i64 0) := by rw [hV]; go_simp
    have s1 : V.cell? ⟨wk.heap.size + 1, 1, none⟩ = some (.int .i64 0) := by rw [hV]; go_simp
    have s2 : V.cell? ⟨wk.heap.size + 1, 2, none⟩ = some (.int .i64 0) := by rw [hV]; go_simp
    have p0 : V.cell? ⟨w.heap.size, 0, none⟩ = some (.string p.name) := bel_cell hbx (bel_cell hbk (bel_cell hbl (by go_simp)))
    have p1 : V.cell? ⟨w.heap.size, 1, none⟩ = some (.slice A1 p.ins.length c1) := bel_cell hbx (bel_cell hbk (bel_cell hbl (by go_simp)))
    have p2 : V.cell? ⟨w.heap.size, 2, none⟩ = some (.slice A2 p.outs.length c2) := bel_cell hbx (bel_cell hbk (bel_cell hbl (by go_simp)))
    have p3 : V.cell? ⟨w.heap.size, 3, none⟩ = some (.slice A3 p.locals.length c3) := bel_cell hbx (bel_cell hbk (bel_cell hbl (by go_simp)))
    have p4 : V.cell? ⟨w.heap.size, 4, none⟩ = some (.slice A4 p.eqs.length c4) := bel_cell hbx (bel_cell hbk (bel_cell hbl (by go_simp)))
    have HAT := Lib.hid (hat.later hbx)
    clear hV hbx hbk hbl hcl hat hzl
    go_upto_region 7 with (go_at_call 7; go_loud (refine (HJUD.out A cap _ HAT.out).mono ?_; rintro r wj ⟨rfl, hbj⟩))
    refine wp_name fun V2 hV2 => ?_
    have hbx2 : Below wj.heap.size wj V2 := by rw [hV2]; exact bel_alloc (Below.refl _ _) _
    have hb2 : Below V.heap.size V V2 := bel_trans hbj hbx2
    have r0 : V2.cell? ⟨wj.heap.size, 0, none⟩ = some (.int .i64 J.1.1) := by rw [hV2]; go_simp
    have r1 : V2.cell? ⟨wj.heap.size, 1, none⟩ = some (.int .i64 J.1.2) := by rw [hV2]; go_simp
    replace p0 := bel_cell hb2 p0
    replace p1 := bel_cell hb2 p1
    replace p2 := bel_cell hb2 p2
    replace p3 := bel_cell hb2 p3
    replace p4 := bel_cell hb2 p4
    have hbV2 := bel_trans hbV hb2
    clear hV2 hbx2 hbj HJUD k0 k1 k2 k3 k4 s0 s1 s2 hb2 hbV hbw
    go_upto_region 10 with (go_at_call 8; go_loud (refine (HGI.out n1 n2 n3 n4 _ hbV2).mono ?_; rintro r wi ⟨⟨⟨B1, d1, B2, d2, B3, d3⟩, rfl, him⟩, hbi⟩))
    refine wp_name fun V3 hV3 => ?_
    have hbx3 : Below wi.heap.size wi V3 := by rw [hV3]; exact bel_alloc (bel_alloc (Below.refl _ _) _) _
    have hb3 : Below V2.heap.size V2 V3 := bel_trans hbi hbx3
    replace r0 := bel_cell hb3 r0
    replace r1 := bel_cell hb3 r1
    have hbV3 := bel_trans hbV2 hb3
    have HIM := Lib.hid (him.later hbx3)
    have s0 : V3.cell? ⟨wi.heap.size + 1, 0, none⟩ = some (.int .i64 4) := by rw [hV3]; go_simp
    have s1 : V3.cell? ⟨wi.heap.size + 1, 1, none⟩ = some (.int .i64 0) := by rw [hV3]; go_simp
    have s2 : V3.cell? ⟨wi.heap.size + 1, 2, none⟩ = some (.int .i64 3) := by rw [hV3]; go_simp
    clear hV3 hbx3 hbi hb3 him
    go_wp2_with (first | (go_at_call 5; go_loud (refine (hkn _ hbV3).mono ?_; rintro r wn ⟨rfl, hbn⟩)))
    go_ret
    exact ⟨rfl, bel_trans hbV3 hbn⟩

set_option maxHeartbeats 4000000 in
theorem acc_good (p : Pr) (a : PrA) (v : Int) (w : World) (hg : Always w) (hp : PrAt w p a) (hok : PrOK p) (hv : 0 ≤ v ∧ v < 4294967296) (hf : (codeE p).2.2 = (0, 0, 0)) (hi : imE p v = (imOf p v, (0, 0, 0))) (he : encE (imOf p v) = (bytesF (imOf p v), 0)) (hw : (imOf p v).wrong = 0) :
    Calls Tryd.prog 3 #[prV p a, .int .u32 v] w fun r w' => r = .returned (.bool true) ∧ Below w.heap.size w w' := by
  have hlight := fun W h => lightS_any p a W (hp.later h)
  have hcode := fun (n1 : p.ins.length ≤ 1000000) (n2 : p.outs.length ≤ 1000000) (n3 : p.locals.length ≤ 1000000) (n4 : p.eqs.length ≤ 1000000) W (h : Below w.heap.size w W) => code_any p a W (hg.later h) (hp.later h) hok n1 n2 n3 n4
  have hkn := fun W h => known19_any W (hg.later h)
  have hgm : Tryd.prog.eqGuardType Tryd.prog.depth 34 = false := by kernel_rfl
  have hgm3 : Tryd.prog.eqGuardType Tryd.prog.depth 31 = false := by kernel_rfl
  obtain ⟨hS, hb16, h600, hce⟩ := code_fine hf
  have hcln := clean_of hS
  have hjz := code_judged hcln hb16 h600
  have hjok := judgeF_ok hjz
  have hN := code_i32 hcln hok hb16
  rw [hce] at hcode
  have hjud := fun A cap W h => judge_any (codeL p) A cap (frOf p) W h hN
  rw [show frV (frOf p) = .agg #[.int .i64 (varsOf p).length, .int .i64 (cellsL p).length, .int .i64 (cellsL p).length, .int .i64 p.ins.length, .int .i64 p.outs.length] from rfl] at hjud
  unfold judgeV at hjud
  rw [hjz] at hjud
  have hfq : ∀ w, (Op.equalIn 10000 34 (.agg #[.int .i64 0, .int .i64 0, .int .i64 0]) (.agg #[.int .i64 0, .int .i64 0, .int .i64 0])).run Tryd.prog w = .ok true w := fun w => by rw [eqFault]; rfl
  obtain ⟨-, -, -, hj1, hj2, hj3, hj4⟩ := hjok
  have hgi := fun (n1 : p.ins.length ≤ 1000000) (n2 : p.outs.length ≤ 1000000) (n3 : p.locals.length ≤ 1000000) (n4 : p.eqs.length ≤ 1000000) W (h : Below w.heap.size w W) => genimage_any p a v W (hg.later h) (hp.later h) hok n1 n2 n3 n4 hv
  have himok : ImOK (imOf p v) := ⟨hv, by unfold imOf; dsimp only; omega, first_i32 hok, hN, fun i hi => by cases hi⟩
  have hval : ∀ (B1 : Option Addr) (d1 : Nat) (B2 : Option Addr) (d2 : Nat) (B3 : Option Addr) (d3 : Nat), imV (imOf p v) ⟨B1, d1, B2, d2, B3, d3⟩ = .agg #[.int .u32 v, .int .u32 0, .int .i64 0, .int .i64 (varsOf p).length, .int .i64 (cellsL p).length, .int .i64 (cellsL p).length, .int .i64 p.ins.length, .int .i64 p.outs.length, .slice B1 (cellsL p).length d1, .slice B2 (codeL p).length d2, .slice B3 0 d3, .int .i64 (judgeF (codeL p) (frOf p)).1.2, .int .i64 0] := fun B1 d1 B2 d2 B3 d3 => by
    unfold imV imOf frOf
    simp
  have henc := fun (B1 : Option Addr) (d1 : Nat) (B2 : Option Addr) (d2 : Nat) (B3 : Option Addr) (d3 : Nat) W h => imencode_any (imOf p v) ⟨B1, d1, B2, d2, B3, d3⟩ W h himok
  have hchk := fun (B1 : Option Addr) (d1 : Nat) (B2 : Option Addr) (d2 : Nat) (B3 : Option Addr) (d3 : Nat) W h => imcheck_any (imOf p v) ⟨B1, d1, B2, d2, B3, d3⟩ W h himok
  rw [he] at henc
  rw [hw] at hchk
  rw [hi] at hgi
  have hbl : 0 < (bytesF (imOf p v)).length := by rw [bytesF_len]; omega
  have hgi2 := fun (n1 : p.ins.length ≤ 1000000) (n2 : p.outs.length ≤ 1000000) (n3 : p.locals.length ≤ 1000000) (n4 : p.eqs.length ≤ 1000000) W (h : Below w.heap.size w W) => (hgi n1 n2 n3 n4 W h).mono (fun r w' (h : (∃ ia, r = .returned (.tuple #[imV (imOf p v) ia, fV (0, 0, 0)]) ∧ ImAt w' (imOf p v) ia) ∧ Below W.heap.size W w') =>
    (show (∃ B1 d1 B2 d2 B3 d3, r = .returned (.tuple #[imV (imOf p v) ⟨B1, d1, B2, d2, B3, d3⟩, fV (0, 0, 0)]) ∧ ImAt w' (imOf p v) ⟨B1, d1, B2, d2, B3, d3⟩) ∧ Below W.heap.size W w' by
      obtain ⟨⟨⟨B1, d1, B2, d2, B3, d3⟩, h1, h2⟩, h3⟩ := h
      exact ⟨⟨B1, d1, B2, d2, B3, d3, h1, h2⟩, h3⟩))
  simp only [hval] at hgi2 henc hchk
  obtain ⟨A1, c1, A2, c2, A3, c3, A4, c4⟩ := a
  unfold prV fV frT at *
  dsimp only at *
  clear hg hp hok hf hce hcln hjz hN hb16 h600 hS himok hgi hi he hw hval
  generalize judgeF (codeL p) (frOf p) = J at *
  generalize hM : imOf p v = M at *
  generalize codeL p = cl at *
  generalize hnv : (varsOf p).length = nv at *
  generalize hnc : (cellsL p).length = nc at *
  generalize (bytesF M).length = nb at *
  clear hnv hnc hM
  have tb : (0 : Int) < (nb : Int) := by omega
  have HCODE := Lib.hid hcode
  have HJUD := Lib.hid hjud
  have HGI := Lib.hid hgi2
  have HENC := Lib.hid henc
  have HCHK := Lib.hid hchk
  clear hcode hjud hgi2 henc hchk
  go_enter Tryd.func3, Tryd.ntmps3
  go_upto_region 4 with (first | (go_at_call 4; go_loud (refine (hlight _ belA).mono ?_; rintro r wl ⟨⟨bl, rfl, hlb⟩, hbl⟩; have hcl := bcell hbl; have hzl := hbl.size; (try simp at hzl); have hyl : w.heap.size < wl.heap.size := (by omega); cases bl)) | (go_at_call 6; go_loud (have hlb2 := hlb (by trivial); clear hlb; have n1 : p.ins.length ≤ 1000000 := (by omega); have n2 : p.outs.length ≤ 1000000 := (by omega); have n3 : p.locals.length ≤ 1000000 := (by omega); have n4 : p.eqs.length ≤ 1000000 := (by omega); refine (HCODE.out n1 n2 n3 n4 _ belA).mono ?_; rintro r wk ⟨⟨A, cap, rfl, hat, -⟩, hbk⟩; clear hlb2)) | (go_at_call 5; go_loud (refine (hkn _ belA).mono ?_; rintro r wn ⟨rfl, hbn⟩)))
  · go_ret
    exact ⟨rfl, belA⟩
  refine wp_name fun V hV => ?_
  have hbx : Below wk.heap.size wk V := by rw [hV]; exact bel_alloc (bel_alloc (Below.refl _ _) _) _
  have hbw : Below w.heap.size w wk := bel_trans (show Below w.heap.size w wl from belA) hbk
  have hbV := bel_trans hbw hbx
  have k0 : V.cell? ⟨wk.heap.size, 0, none⟩ = some (.int .i64 nv) := by rw [hV]; go_simp
  have k1 : V.cell? ⟨wk.heap.size, 1, none⟩ = some (.int .i64 nc) := by rw [hV]; go_simp
  have k2 : V.cell? ⟨wk.heap.size, 2, none⟩ = some (.int .i64 nc) := by rw [hV]; go_simp
  have k3 : V.cell? ⟨wk.heap.size, 3, none⟩ = some (.int .i64 p.ins.length) := by rw [hV]; go_simp
  have k4 : V.cell? ⟨wk.heap.size, 4, none⟩ = some (.int .i64 p.outs.length) := by rw [hV]; go_simp
  have s0 : V.cell? ⟨wk.heap.size + 1, 0, none⟩ = some (.int .i64 0) := by rw [hV]; go_simp
  have s1 : V.cell? ⟨wk.heap.size + 1, 1, none⟩ = some (.int .i64 0) := by rw [hV]; go_simp
  have s2 : V.cell? ⟨wk.heap.size + 1, 2, none⟩ = some (.int .i64 0) := by rw [hV]; go_simp
  have p0 : V.cell? ⟨w.heap.size, 0, none⟩ = some (.string p.name) := bel_cell hbx (bel_cell hbk (bel_cell hbl (by go_simp)))
  have p1 : V.cell? ⟨w.heap.size, 1, none⟩ = some (.slice A1 p.ins.length c1) := bel_cell hbx (bel_cell hbk (bel_cell hbl (by go_simp)))
  have p2 : V.cell? ⟨w.heap.size, 2, none⟩ = some (.slice A2 p.outs.length c2) := bel_cell hbx (bel_cell hbk (bel_cell hbl (by go_simp)))
  have p3 : V.cell? ⟨w.heap.size, 3, none⟩ = some (.slice A3 p.locals.length c3) := bel_cell hbx (bel_cell hbk (bel_cell hbl (by go_simp)))
  have p4 : V.cell? ⟨w.heap.size, 4, none⟩ = some (.slice A4 p.eqs.length c4) := bel_cell hbx (bel_cell hbk (bel_cell hbl (by go_simp)))
  have HAT := Lib.hid (hat.later hbx)
  clear hV hbx hbk hbl hcl hat hzl
  go_upto_region 7 with (go_at_call 7; go_loud (refine (HJUD.out A cap _ HAT.out).mono ?_; rintro r wj ⟨rfl, hbj⟩))
  refine wp_name fun V2 hV2 => ?_
  have hbx2 : Below wj.heap.size wj V2 := by rw [hV2]; exact bel_alloc (Below.refl _ _) _
  have hb2 : Below V.heap.size V V2 := bel_trans hbj hbx2
  have r0 : V2.cell? ⟨wj.heap.size, 0, none⟩ = some (.int .i64 J.1.1) := by rw [hV2]; go_simp
  have r1 : V2.cell? ⟨wj.heap.size, 1, none⟩ = some (.int .i64 J.1.2) := by rw [hV2]; go_simp
  replace p0 := bel_cell hb2 p0
  replace p1 := bel_cell hb2 p1
  replace p2 := bel_cell hb2 p2
  replace p3 := bel_cell hb2 p3
  replace p4 := bel_cell hb2 p4
  have hbV2 := bel_trans hbV hb2
  clear hV2 hbx2 hbj HJUD k0 k1 k2 k3 k4 s0 s1 s2 hb2 hbV hbw
  go_upto_region 10 with (go_at_call 8; go_loud (refine (HGI.out n1 n2 n3 n4 _ hbV2).mono ?_; rintro r wi ⟨⟨B1, d1, B2, d2, B3, d3, rfl, him⟩, hbi⟩))
  refine wp_name fun V3 hV3 => ?_
  have hbx3 : Below wi.heap.size wi V3 := by rw [hV3]; exact bel_alloc (bel_alloc (Below.refl _ _) _) _
  have hb3 : Below V2.heap.size V2 V3 := bel_trans hbi hbx3
  replace r0 := bel_cell hb3 r0
  replace r1 := bel_cell hb3 r1
  have hbV3 := bel_trans hbV2 hb3
  have HIM := Lib.hid (him.later hbx3)
  have i0 : V3.cell? ⟨wi.heap.size, 0, none⟩ = some (.int .u32 v) := by rw [hV3]; go_simp
  have i1 : V3.cell? ⟨wi.heap.size, 1, none⟩ = some (.int .u32 0) := by rw [hV3]; go_simp
  have i2 : V3.cell? ⟨wi.heap.size, 2, none⟩ = some (.int .i64 0) := by rw [hV3]; go_simp
  have i3 : V3.cell? ⟨wi.heap.size, 3, none⟩ = some (.int .i64 nv) := by rw [hV3]; go_simp
  have i4 : V3.cell? ⟨wi.heap.size, 4, none⟩ = some (.int .i64 nc) := by rw [hV3]; go_simp
  have i5 : V3.cell? ⟨wi.heap.size, 5, none⟩ = some (.int .i64 nc) := by rw [hV3]; go_simp
  have i6 : V3.cell? ⟨wi.heap.size, 6, none⟩ = some (.int .i64 p.ins.length) := by rw [hV3]; go_simp
  have i7 : V3.cell? ⟨wi.heap.size, 7, none⟩ = some (.int .i64 p.outs.length) := by rw [hV3]; go_simp
  have i8 : V3.cell? ⟨wi.heap.size, 8, none⟩ = some (.slice B1 nc d1) := by rw [hV3]; go_simp
  have i9 : V3.cell? ⟨wi.heap.size, 9, none⟩ = some (.slice B2 cl.length d2) := by rw [hV3]; go_simp
  have i10 : V3.cell? ⟨wi.heap.size, 10, none⟩ = some (.slice B3 0 d3) := by rw [hV3]; go_simp
  have i11 : V3.cell? ⟨wi.heap.size, 11, none⟩ = some (.int .i64 J.1.2) := by rw [hV3]; go_simp
  have i12 : V3.cell? ⟨wi.heap.size, 12, none⟩ = some (.int .i64 0) := by rw [hV3]; go_simp
  have s0 : V3.cell? ⟨wi.heap.size + 1, 0, none⟩ = some (.int .i64 0) := by rw [hV3]; go_simp
  have s1 : V3.cell? ⟨wi.heap.size + 1, 1, none⟩ = some (.int .i64 0) := by rw [hV3]; go_simp
  have s2 : V3.cell? ⟨wi.heap.size + 1, 2, none⟩ = some (.int .i64 0) := by rw [hV3]; go_simp
  clear hV3 hbx3 hbi hb3 him
  go_upto_region 13 with (first | (go_at_call 9; go_loud (refine (HENC.out _ _ _ _ _ _ _ HIM.out).mono ?_; rintro r we ⟨⟨Ae, ce, rfl⟩, hbe⟩)))
  refine wp_name fun V4 hV4 => ?_
  have hb4 : Below V3.heap.size V3 V4 := by rw [hV4]; exact hbe
  have hbV4 := bel_trans hbV3 hb4
  have HIM4 := Lib.hid (HIM.out.later hb4)
  replace i0 := bel_cell hb4 i0
  replace i1 := bel_cell hb4 i1
  replace i2 := bel_cell hb4 i2
  replace i3 := bel_cell hb4 i3
  replace i4 := bel_cell hb4 i4
  replace i5 := bel_cell hb4 i5
  replace i6 := bel_cell hb4 i6
  replace i7 := bel_cell hb4 i7
  replace i8 := bel_cell hb4 i8
  replace i9 := bel_cell hb4 i9
  replace i10 := bel_cell hb4 i10
  replace i11 := bel_cell hb4 i11
  replace i12 := bel_cell hb4 i12
  replace r1 := bel_cell hb4 r1
  clear hV4 hbe hb4
  go_wp2_with (first | (go_at_call 10; go_loud (refine (HCHK.out _ _ _ _ _ _ _ HIM4.out).mono ?_; rintro r wc ⟨rfl, hbc⟩; have u0 := bel_cell hbc i0; have u11 := bel_cell hbc i11; have v1 := bel_cell hbc r1)) | (go_at_call 5; go_loud (refine (hkn _ (bel_trans hbV4 hbc)).mono ?_; rintro r wn ⟨rfl, hbn⟩)))
  go_ret
  exact ⟨rfl, bel_trans (bel_trans hbV4 hbc) hbn⟩

theorem acc_any (p : Pr) (a : PrA) (v : Int) (w : World) (hg : Always w) (hp : PrAt w p a) (hok : PrOK p) (hv : 0 ≤ v ∧ v < 4294967296) :
    Calls Tryd.prog 3 #[prV p a, .int .u32 v] w fun r w' => r = .returned (.bool true) ∧ Below w.heap.size w w' := by
  by_cases hf : (codeE p).2.2 = (0, 0, 0)
  · obtain ⟨hS, hb16, h600, _⟩ := code_fine hf
    by_cases h0 : v = 0
    · exact acc_image p a v w hg hp hok hv hf (.inl ⟨h0, by unfold imE; rw [if_neg (fun h => h hf), if_pos h0]⟩)
    · have hw := image_right (clean_of hS) hb16 h600 (v := v) (by omega)
      by_cases hb : 2016 < (bytesF (imOf p v)).length
      · have he : encE (imOf p v) = ([], 3) := by unfold encE; rw [if_neg (fun h => h hw), if_pos hb]
        exact acc_image p a v w hg hp hok hv hf (.inr (by unfold imE; rw [if_neg (fun h => h hf), if_neg h0, he]; rfl))
      · have he : encE (imOf p v) = (bytesF (imOf p v), 0) := by unfold encE; rw [if_neg (fun h => h hw), if_neg hb]
        exact acc_good p a v w hg hp hok hv hf (by unfold imE; rw [if_neg (fun h => h hf), if_neg h0, he]; rfl) he hw
  · exact acc_fault p a v w hg hp hok hf
end Go.Proofs.YtknfcamdfdfoeaaDoor
