/- Walk over judge.Check. -/
import Derived.Test.YtknfcamdfdfoeaaDoorZ33
import Derived.Test.YtknfcamdfdfoeaaDoorZ31
import Derived.Test.YtknfcamdfdfoeaaDoorZ30
import Derived.Test.YtknfcamdfdfoeaaDoorZ32
import Derived.Lib.SmallJoins
set_option linter.unusedVariables false
set_option linter.unusedSimpArgs false
set_option maxRecDepth 100000
namespace Go.Proofs.YtknfcamdfdfoeaaDoor
open Go.RowKit Go.Sort

theorem made_cell (W : World) (z : Array Value) (n : Nat) (t : TypeId) (o : Nat) (ho : o < n) : (W.alloc (.cells (madeCells z n) t)).cell? ⟨W.heap.size, o, none⟩ = some (z[o % z.size]!) := by
  rw [cell_new]
  unfold madeCells
  rw [Array.getElem?_map, Array.getElem?_range, if_pos ho]
  rfl
theorem made_pl (W : World) (n : Nat) (t : TypeId) : PlAt (W.alloc (.cells (madeCells #[.bool false, .int .i64 0, .int .i64 0] (n * 3)) t)) W.heap.size (List.replicate n Pl.no) := by
  refine ⟨fun k p hk => ?_, fun o => by go_simp⟩
  rw [List.getElem?_replicate] at hk
  split at hk
  · injection hk with hk
    subst hk
    refine ⟨?_, ?_, ?_⟩
    · rw [made_cell _ _ _ _ _ (by omega)]
      simp only [List.size_toArray, List.length_cons, List.length_nil, show k * 3 % (0 + 1 + 1 + 1) = 0 by omega]
      rfl
    · rw [made_cell _ _ _ _ _ (by omega)]
      simp only [List.size_toArray, List.length_cons, List.length_nil, show (k * 3 + 1) % (0 + 1 + 1 + 1) = 1 by omega]
      rfl
    · rw [made_cell _ _ _ _ _ (by omega)]
      simp only [List.size_toArray, List.length_cons, List.length_nil, show (k * 3 + 2) % (0 + 1 + 1 + 1) = 2 by omega]
      rfl
  · cases hk
theorem places_set (n : Nat) : (List.replicate (n + 1) Pl.no).set 0 ⟨true, 0, 0⟩ = placesF n := by rw [List.replicate_succ]; rfl

theorem InsAt.get {w : World} {l : List (Int × Int)} {A : Option Addr} {cap : Nat} (h : InsAt w l A cap) {k : Nat} {x : Int × Int} (hk : l[k]? = some x) :
    ∃ b off, A = some ⟨b, off, none⟩ ∧ b < w.heap.size ∧ w.cell? ⟨b, off + k * 2, none⟩ = some (.int .i64 x.1) ∧ w.cell? ⟨b, off + k * 2 + 1, none⟩ = some (.int .i32 x.2) := by
  have hlt := (List.getElem?_eq_some_iff.1 hk).1
  obtain ⟨b, off, hA, hc⟩ := h.2.2.2 (by omega)
  obtain ⟨h1, h2⟩ := cdC_at l k x hk
  have c1 := hc _ _ h1
  have c2 := hc _ _ h2
  rw [show off + (k * 2 + 1) = off + k * 2 + 1 by omega] at c2
  exact ⟨b, off, hA, block_lt_of_cell c1, c1, c2⟩
/-- What stays as it is while the code is gone through. -/
structure JudI (w : World) (B n : Nat) (f : Fr) (wr : World) : Prop where
  b : Below w.heap.size w wr
  z : w.heap.size + 2 ≤ B ∧ B + 2 ≤ wr.heap.size
  k : wr.cell? ⟨w.heap.size, 0, none⟩ = some (.int .i64 f.s) ∧ wr.cell? ⟨w.heap.size, 1, none⟩ = some (.int .i64 f.o) ∧ wr.cell? ⟨w.heap.size, 2, none⟩ = some (.int .i64 f.n) ∧ wr.cell? ⟨w.heap.size, 3, none⟩ = some (.int .i64 f.i) ∧ wr.cell? ⟨w.heap.size, 4, none⟩ = some (.int .i64 f.u)
  r : wr.cell? ⟨w.heap.size + 1, 0, none⟩ = some (.int .i64 0) ∧ wr.cell? ⟨w.heap.size + 1, 1, none⟩ = some (.int .i64 0) ∧ wr.frozen? ⟨w.heap.size + 1, 0, none⟩ = false ∧ wr.frozen? ⟨w.heap.size + 1, 1, none⟩ = false
  x : wr.cell? ⟨B + 1, 0, none⟩ = some (.slice (some ⟨B, 0, none⟩) (n + 1) (n + 1)) ∧ wr.cell? ⟨B + 1, 2, none⟩ = some (.int .i64 0)
  fx : ∀ o, wr.frozen? ⟨B + 1, o, none⟩ = false
theorem JudI.later {w : World} {B n : Nat} {f : Fr} {W W' : World} (h : JudI w B n f W) (hb : Below W.heap.size W W') : JudI w B n f W' := by
  have hz := h.z
  exact ⟨bel_trans h.b hb, ⟨hz.1, by have := hb.size; omega⟩, ⟨bel_cell hb h.k.1, bel_cell hb h.k.2.1, bel_cell hb h.k.2.2.1, bel_cell hb h.k.2.2.2.1, bel_cell hb h.k.2.2.2.2⟩,
    ⟨bel_cell hb h.r.1, bel_cell hb h.r.2.1, (bfrozen hb _ _ (by omega)).trans h.r.2.2.1, (bfrozen hb _ _ (by omega)).trans h.r.2.2.2⟩, ⟨bel_cell hb h.x.1, bel_cell hb h.x.2⟩, fun o => (bfrozen hb _ _ (by omega)).trans (h.fx o)⟩
theorem JudI.kept {w : World} {B n : Nat} {f : Fr} {W W' : World} (h : JudI w B n f W) (hk : Kept (fun b => b = B ∨ b = B + 1) W W') (x0 : W'.cell? ⟨B + 1, 0, none⟩ = W.cell? ⟨B + 1, 0, none⟩) (x2 : W'.cell? ⟨B + 1, 2, none⟩ = W.cell? ⟨B + 1, 2, none⟩) (fz : ∀ o, W'.frozen? ⟨B + 1, o, none⟩ = W.frozen? ⟨B + 1, o, none⟩) : JudI w B n f W' := by
  have hz := h.z
  have hw := h.b.size
  have c := fun (b o : Nat) (v : Value) (hb : ¬ (b = B ∨ b = B + 1)) hc => hk.cell (b := b) (o := o) (v := v) hb hc
  have fr := fun (b o : Nat) (hl : b < W.heap.size) (hb : ¬ (b = B ∨ b = B + 1)) => World.frozen?_of_block (a := ⟨b, o, none⟩) (hk.block b hl hb)
  exact ⟨hk.below h.b (fun j hj => by omega), ⟨hz.1, by have := hk.size; omega⟩, ⟨c _ _ _ (by omega) h.k.1, c _ _ _ (by omega) h.k.2.1, c _ _ _ (by omega) h.k.2.2.1, c _ _ _ (by omega) h.k.2.2.2.1, c _ _ _ (by omega) h.k.2.2.2.2⟩,
    ⟨c _ _ _ (by omega) h.r.1, c _ _ _ (by omega) h.r.2.1, (fr _ _ (by omega) (by omega)).trans h.r.2.2.1, (fr _ _ (by omega) (by omega)).trans h.r.2.2.2⟩, ⟨x0.trans h.x.1, x2.trans h.x.2⟩, fun o => (fz o).trans (h.fx o)⟩
/-- What Check answers. -/
def judgeV (J : (Int × Int) × Int × Int) : Value := .tuple #[.agg #[.int .i64 J.1.1, .int .i64 J.1.2], .int .i64 J.2.1, .int .i64 J.2.2]
set_option maxHeartbeats 4000000 in
theorem judge_any (c : List (Int × Int)) (A : Option Addr) (cap : Nat) (f : Fr) (w : World) (hc : InsAt w c A cap) (hN : ∀ i ∈ c, I32 i.2) :
    Calls Tryd.prog 7 #[.slice A c.length cap, frV f] w fun r w' => r = .returned (judgeV (judgeF c f)) ∧ Below w.heap.size w w' := by
  have hframe := fun W => frame_any f W
  obtain ⟨J, hJ⟩ : ∃ J, J = judgeF c f := ⟨_, rfl⟩
  rw [← hJ]
  unfold judgeF at hJ
  have hcl := hc.1
  have hcm := hc.2.1
  unfold maxLen at hcm
  unfold judgeV
  by_cases hg : f.good = false
  · rw [if_pos hg] at hJ
    rw [hg] at hframe
    simp only [Bool.false_eq_true, if_false] at hframe
    subst hJ
    unfold frV at *
    clear hg hN hc
    go_enter Tryd.func7, Tryd.ntmps7
    go_wp2_with (first | (go_at_call 19; refine (hframe _).mono ?_; rintro r w1 ⟨rfl, hb1⟩; have hz1 : w.heap.size + 2 ≤ w1.heap.size := (by have := hb1.size; simpa using this); have g0 : w1.cell? ⟨w.heap.size + 1, 0, none⟩ = some (.int .i64 0) := bel_cell hb1 (by go_simp); have g1 : w1.cell? ⟨w.heap.size + 1, 1, none⟩ = some (.int .i64 0) := bel_cell hb1 (by go_simp); have f0 : w1.frozen? ⟨w.heap.size + 1, 0, none⟩ = false := (bfrozen hb1 _ _ (by simp)).trans (by go_simp); have f1 : w1.frozen? ⟨w.heap.size + 1, 1, none⟩ = false := (bfrozen hb1 _ _ (by simp)).trans (by go_simp); have hbw : Below w.heap.size w w1 := belA))
    refine bodyPost_ret (v := .tuple #[.agg #[.int .i64 0, .int .i64 0], .int .i64 1, .int .i64 0]) (by simp [results, Tryd.results7, go_sem, *]) rfl ⟨rfl, ?_⟩
    exact Below.setCell (Below.setCell hbw (show w.heap.size ≤ w.heap.size + 1 by omega) _) (show w.heap.size ≤ w.heap.size + 1 by omega) _
  rw [if_neg hg] at hJ
  rw [show f.good = true by simpa using hg] at hframe
  simp only [if_true] at hframe
  clear hg
  by_cases hbig : 600 < c.length
  · rw [if_pos hbig] at hJ
    subst hJ
    have tb : (600 : Int) < (c.length : Int) := by omega
    unfold frV at *
    clear hN hc
    go_enter Tryd.func7, Tryd.ntmps7
    go_wp2_with (first | (go_at_call 19; refine (hframe _).mono ?_; rintro r w1 ⟨rfl, hb1⟩; have hz1 : w.heap.size + 2 ≤ w1.heap.size := (by have := hb1.size; simpa using this); have g0 : w1.cell? ⟨w.heap.size + 1, 0, none⟩ = some (.int .i64 0) := bel_cell hb1 (by go_simp); have g1 : w1.cell? ⟨w.heap.size + 1, 1, none⟩ = some (.int .i64 0) := bel_cell hb1 (by go_simp); have f0 : w1.frozen? ⟨w.heap.size + 1, 0, none⟩ = false := (bfrozen hb1 _ _ (by simp)).trans (by go_simp); have f1 : w1.frozen? ⟨w.heap.size + 1, 1, none⟩ = false := (bfrozen hb1 _ _ (by simp)).trans (by go_simp); have hbw : Below w.heap.size w w1 := belA))
    refine bodyPost_ret (v := .tuple #[.agg #[.int .i64 0, .int .i64 0], .int .i64 3, .int .i64 0]) (by simp [results, Tryd.results7, go_sem, *]) rfl ⟨rfl, ?_⟩
    exact Below.setCell (Below.setCell hbw (show w.heap.size ≤ w.heap.size + 1 by omega) _) (show w.heap.size ≤ w.heap.size + 1 by omega) _
  rw [if_neg hbig] at hJ
  have tb : ¬ (600 : Int) < (c.length : Int) := by omega
  have HC := Lib.hid hc
  have HN := Lib.hid hN
  have HJ := Lib.hid hJ
  clear hc hN hJ
  have hmk := fun W : World => run_make (P := Tryd.prog) W 84 88 (Tryd.prog.info? 88).get! (.agg #[.bool false, .int .i64 0, .int .i64 0]) Tryd.underlying84 (by kernel_rfl) (by kernel_rfl) .i64 .i64 ((c.length : Int) + 1) ((c.length : Int) + 1) (by omega) (by omega) (by rw [show (Tryd.prog.info? 88).get!.bytes = 24 by kernel_rfl]; omega) (by omega)
  rw [show (Tryd.prog.info? 88).get!.size = 3 by kernel_rfl] at hmk
  simp only [show ((c.length : Int) + 1).toNat = c.length + 1 by omega] at hmk
  unfold frV at *
  go_enter Tryd.func7, Tryd.ntmps7
  go_upto_region 7 with (first | (go_at_call 19; refine (hframe _).mono ?_; rintro r w1 ⟨rfl, hb1⟩; have hz1 : w.heap.size + 2 ≤ w1.heap.size := (by have := hb1.size; simpa using this); have g0 : w1.cell? ⟨w.heap.size + 1, 0, none⟩ = some (.int .i64 0) := bel_cell hb1 (by go_simp); have g1 : w1.cell? ⟨w.heap.size + 1, 1, none⟩ = some (.int .i64 0) := bel_cell hb1 (by go_simp); have f0 : w1.frozen? ⟨w.heap.size + 1, 0, none⟩ = false := (bfrozen hb1 _ _ (by simp)).trans (by go_simp); have f1 : w1.frozen? ⟨w.heap.size + 1, 1, none⟩ = false := (bfrozen hb1 _ _ (by simp)).trans (by go_simp); have hbw : Below w.heap.size w w1 := belA))
  refine wp_name fun V hV => ?_
  have hbV : Below w1.heap.size w1 V := by rw [hV]; exact bel_alloc (bel_alloc (Below.refl _ _) _) _
  have hbW := bel_trans hbw hbV
  have hpV : PlAt V w1.heap.size (List.replicate (c.length + 1) Pl.no) := by rw [hV]; exact (made_pl w1 (c.length + 1) 88).later (by simp) (bel_alloc (Below.refl _ _) _)
  have x0 : V.cell? ⟨w1.heap.size + 1, 0, none⟩ = some (.slice (some ⟨w1.heap.size, 0, none⟩) (c.length + 1) (c.length + 1)) := by rw [hV]; go_simp
  have x1 : V.cell? ⟨w1.heap.size + 1, 1, none⟩ = some (.int .i64 0) := by rw [hV]; go_simp
  have x2 : V.cell? ⟨w1.heap.size + 1, 2, none⟩ = some (.int .i64 0) := by rw [hV]; go_simp
  have fx : ∀ o, V.frozen? ⟨w1.heap.size + 1, o, none⟩ = false := by intro o; rw [hV]; go_simp
  have k0 : V.cell? ⟨w.heap.size, 0, none⟩ = some (.int .i64 f.s) := bel_cell hbV (bel_cell hb1 (by go_simp))
  have k1 : V.cell? ⟨w.heap.size, 1, none⟩ = some (.int .i64 f.o) := bel_cell hbV (bel_cell hb1 (by go_simp))
  have k2 : V.cell? ⟨w.heap.size, 2, none⟩ = some (.int .i64 f.n) := bel_cell hbV (bel_cell hb1 (by go_simp))
  have k3 : V.cell? ⟨w.heap.size, 3, none⟩ = some (.int .i64 f.i) := bel_cell hbV (bel_cell hb1 (by go_simp))
  have k4 : V.cell? ⟨w.heap.size, 4, none⟩ = some (.int .i64 f.u) := bel_cell hbV (bel_cell hb1 (by go_simp))
  have hs0 : (List.replicate (c.length + 1) Pl.no)[0]? = some Pl.no := by rw [List.replicate_succ]; rfl
  obtain ⟨p0, p1, p2⟩ := hpV.cell 0 Pl.no hs0
  have hfp := hpV.fz 0
  have hzV : w1.heap.size + 2 ≤ V.heap.size := by rw [hV]; simp
  have HPV := Lib.hid hpV
  clear hV hpV hmk
  go_wp2_with fail
  refine wp_name fun V2 hV2 => ?_
  have hpl : PlAt V2 w1.heap.size (placesF c.length) := by
    rw [hV2, ← places_set]
    exact HPV.out.set (p := ⟨true, 0, 0⟩) (fun o ho => sc_off _ _ _ _ _ (by omega)) (World.cell?_setCell_same _ _ _ p0) ((sc_off _ _ _ _ _ (by decide)).trans p1) ((sc_off _ _ _ _ _ (by decide)).trans p2) (fun o => World.frozen?_setCell ..)
  have hb2 : Below w.heap.size w V2 := by rw [hV2]; exact Below.setCell hbW (show w.heap.size ≤ w1.heap.size by omega) _
  have hzV2 : w1.heap.size + 2 ≤ V2.heap.size := by rw [hV2]; simpa using hzV
  have x0' : V2.cell? ⟨w1.heap.size + 1, 0, none⟩ = some (.slice (some ⟨w1.heap.size, 0, none⟩) (c.length + 1) (c.length + 1)) := by rw [hV2, sc_blk _ _ _ _ _ _ (by omega)]; exact x0
  have x1' : V2.cell? ⟨w1.heap.size + 1, 1, none⟩ = some (.int .i64 0) := by rw [hV2, sc_blk _ _ _ _ _ _ (by omega)]; exact x1
  have x2' : V2.cell? ⟨w1.heap.size + 1, 2, none⟩ = some (.int .i64 0) := by rw [hV2, sc_blk _ _ _ _ _ _ (by omega)]; exact x2
  have fx' : ∀ o, V2.frozen? ⟨w1.heap.size + 1, o, none⟩ = false := fun o => by rw [hV2, World.frozen?_setCell]; exact fx o
  have hk0 : Kept (fun b => b = w1.heap.size ∨ b = w1.heap.size + 1) V V2 := by rw [hV2]; exact (Kept.refl V).setCell (.inl rfl) _ _
  have k0' := hk0.cell (b := w.heap.size) (by omega) k0
  have k1' := hk0.cell (b := w.heap.size) (by omega) k1
  have k2' := hk0.cell (b := w.heap.size) (by omega) k2
  have k3' := hk0.cell (b := w.heap.size) (by omega) k3
  have k4' := hk0.cell (b := w.heap.size) (by omega) k4
  have r0' := hk0.cell (b := w.heap.size + 1) (by omega) (bel_cell hbV g0)
  have r1' := hk0.cell (b := w.heap.size + 1) (by omega) (bel_cell hbV g1)
  have s0' : V2.frozen? ⟨w.heap.size + 1, 0, none⟩ = false := by rw [hV2, World.frozen?_setCell]; exact (bfrozen hbV _ _ (by omega)).trans f0
  have s1' : V2.frozen? ⟨w.heap.size + 1, 1, none⟩ = false := by rw [hV2, World.frozen?_setCell]; exact (bfrozen hbV _ _ (by omega)).trans f1
  have hst : JudI w w1.heap.size c.length f V2 := ⟨hb2, ⟨by omega, hzV2⟩, ⟨k0', k1', k2', k3', k4'⟩, ⟨r0', r1', s0', s1'⟩, ⟨x0', x2'⟩, fx'⟩
  have HST := Lib.hid hst
  have HPL := Lib.hid hpl
  clear hst hpl hV2 x0 x1 x2 fx k0 k1 k2 k3 k4 p0 p1 p2 hfp HPV hk0 hs0 g0 g1 f0 f1 hbV hbW hb1 k0' k1' k2' k3' k4' r0' r1' s0' s1' x0' x2' fx' hb2 hzV2 hzV hbw hframe
  generalize w1.heap.size = B at *
  go_loopw [37] (fun i wr => ∃ (k : Nat) (ps : List Pl) (dep : Int), k ≤ c.length ∧ i = .int .i64 k ∧ Hid (PlOK k c.length dep ps) ∧ Hid (goJ f c.length k (c.drop k) ps dep = J) ∧ Hid (PlAt wr B ps) ∧ wr.cell? ⟨B + 1, 1, none⟩ = some (.int .i64 dep) ∧ Hid (JudI w B c.length f wr)) (fun i _ => c.length - (intOf i).toNat)
  case atStart => exact ⟨0, placesF c.length, 0, Nat.zero_le _, rfl, Lib.hid (PlOK.start _), Lib.hid HJ.out.symm, HPL, x1', HST⟩
  case round =>
    obtain ⟨k, ps, dep, hk, rfl, hok, hgo, hpl, x1, hst⟩ := hrel
    obtain ⟨hbel, ⟨hz1', hz2'⟩, ⟨k0, k1, k2, k3, k4⟩, ⟨r0, r1, s0, s1⟩, ⟨x0, x2⟩, fx⟩ := id hst.out
    have hyw : w.heap.size < wr.heap.size := by omega
    have hyw1 : w.heap.size + 1 < wr.heap.size := by omega
    have hyB : B < wr.heap.size := by omega
    have hyB1 : B + 1 < wr.heap.size := by omega
    by_cases hlt : k < c.length
    · have hx : c[k]? = some c[k] := List.getElem?_eq_getElem hlt
      have hdr : c.drop k = c[k] :: c.drop (k + 1) := List.drop_eq_getElem_cons hlt
      have hI := HN.out c[k] (List.getElem_mem hlt)
      generalize c[k] = x at hx hdr hI
      obtain ⟨op, N⟩ := x
      obtain ⟨b, off, hA, hbb, y0, y1⟩ := (HC.out.later hbel).get hx
      subst hA
      have hg := hgo.out
      rw [hdr, goJ] at hg
      have hlen := hok.out.len
      have hone := fun W' (hb : Below wr.heap.size wr W') => judgeOne_any (B + 1) B ps dep k c.length op N f W' (by omega) (by rw [hlen]; exact bel_cell hb x0) (bel_cell hb x1) ((bfrozen hb _ _ (by omega)).trans (fx 1)) (hpl.out.later (by omega) hb) (by have := hb.size; omega) hok.out hlt (by omega) hI
      have hok2 := hok.out.one (f := f) (at_ := k) (i := (op, N))
      dsimp only at y0 y1
      unfold frV at hone
      generalize oneF f k (op, N) ps dep = res at *
      have HONE := Lib.hid hone
      clear hone hx hdr hlen hI
      by_cases he : res.1 = 0
      · rw [if_neg (by omega)] at hg
        obtain ⟨e, ps2, dep2⟩ := res
        dsimp only at *
        subst he
        have HG := Lib.hid hg
        have HOK2 := Lib.hid (hok2 rfl)
        clear hgo HJ HPL HST hok hok2 hpl x1' hg
        go_wp2_with (go_at_call 20; go_loud (refine (HONE.out _ belA).mono ?_; rintro r w3 ⟨rfl, hp3, hk3, hx3, hx4, hz3⟩; have hj3 := (hst.out.later (show Below wr.heap.size wr _ from belA)).kept hk3 hx3 hx4 hz3; obtain ⟨hp4, hx5⟩ := hp3 rfl))
        go_roundw
        case rel => exact ⟨k + 1, ps2, dep2, by omega, by go_num, HOK2, HG, Lib.hid hp4, hx5, Lib.hid hj3⟩
        case measure => simp [intOf]; omega
      · rw [if_pos he] at hg
        subst hg
        have HE := Lib.hid he
        have te : (res.1 != 0) = true := by simpa using he
        clear he hgo HJ HPL HST hok hok2 hpl x1'
        go_wp2_with (go_at_call 20; go_loud (refine (HONE.out _ belA).mono ?_; rintro r w3 ⟨rfl, -, hk3, hx3, hx4, hz3⟩; have hj3 := (hst.out.later (show Below wr.heap.size wr _ from belA)).kept hk3 hx3 hx4 hz3; obtain ⟨hbel3, -, -, ⟨r03, r13, s03, s13⟩, -, -⟩ := id hj3))
        refine bodyPost_ret (v := .tuple #[.agg #[.int .i64 0, .int .i64 0], .int .i64 res.1, .int .i64 k]) (by simp [results, Tryd.results7, go_sem, *]) rfl ⟨rfl, ?_⟩
        exact Below.setCell (Below.setCell hbel3 (show w.heap.size ≤ w.heap.size + 1 by omega) _) (show w.heap.size ≤ w.heap.size + 1 by omega) _
    · obtain rfl : k = c.length := by omega
      have hg := hgo.out
      rw [List.drop_length, goJ] at hg
      have hlen := hok.out.len
      have hx : ps[c.length]? = some ps[c.length] := List.getElem?_eq_getElem (by omega)
      generalize ps[c.length] = p at hx
      rw [getD_pl hx] at hg
      obtain ⟨b0, b1, b2⟩ := hpl.out.cell c.length p hx
      have fx2 := fx 2
      clear hlen hx hgo HJ HPL HST hok hpl x1' HC HN
      by_cases hd : p.d = 0
      · rw [if_neg (by omega)] at hg
        subst hg
        have td : (p.d != 0) = false := by simpa using hd
        obtain ⟨pm, pd, pf⟩ := p
        dsimp only at *
        subst hd
        go_wp2_with fail
        refine bodyPost_ret (v := .tuple #[.agg #[.int .i64 dep, .int .i64 pf], .int .i64 0, .int .i64 0]) (by simp [results, Tryd.results7, go_sem, *]) rfl ⟨rfl, ?_⟩
        exact bel_alloc (Below.setCell (Below.setCell (Below.setCell hbel (show w.heap.size ≤ B + 1 by omega) _) (show w.heap.size ≤ w.heap.size + 1 by omega) _) (show w.heap.size ≤ w.heap.size + 1 by omega) _) _
      · rw [if_pos (by omega)] at hg
        subst hg
        have td : (p.d != 0) = true := by simpa using hd
        clear hd
        go_wp2_with fail
        refine bodyPost_ret (v := .tuple #[.agg #[.int .i64 0, .int .i64 0], .int .i64 12, .int .i64 c.length]) (by simp [results, Tryd.results7, go_sem, *]) rfl ⟨rfl, ?_⟩
        exact bel_alloc (Below.setCell (Below.setCell hbel (show w.heap.size ≤ w.heap.size + 1 by omega) _) (show w.heap.size ≤ w.heap.size + 1 by omega) _) _
end Go.Proofs.YtknfcamdfdfoeaaDoor

/- Walk over isa.Encode. -/
namespace Go.Proofs.YtknfcamdfdfoeaaDoor
open Go.RowKit Go.Sort

theorem right_op {op N : Int} (h : rightF (op, N) = 0) : 1 ≤ op ∧ op ≤ 11 := by
  unfold rightF at h
  dsimp only at h
  by_cases h0 : insW op = 0
  · rw [if_pos h0] at h; exact absurd h (by decide)
  unfold insW at h0
  repeat' split at h0
  all_goals omega
theorem insBL_take {c : List (Int × Int)} {k : Nat} {x : Int × Int} (h : c[k]? = some x) : insBL (c.take (k + 1)) = insBL (c.take k) ++ insB1 x := by
  rw [List.take_add_one, h]
  exact insBL_snoc _ _
set_option maxHeartbeats 4000000 in
theorem iencode_any (c : List (Int × Int)) (A : Option Addr) (cap : Nat) (w : World) (hc : InsAt w c A cap) (hl : c.length ≤ 600) (hr : ∀ i ∈ c, rightF i = 0) (hN : ∀ i ∈ c, I32 i.2) :
    Calls Tryd.prog 42 #[.slice A c.length cap] w (BytesR w (insBL c)) := by
  unfold BytesR
  have hcm := hc.2.1
  have hcl := hc.1
  unfold maxLen at hcm
  have tb : ¬ (600 : Int) < (c.length : Int) := by omega
  have HC := Lib.hid hc
  have HN := Lib.hid hN
  have HRR := Lib.hid hr
  clear hc hN hr
  go_enter Tryd.func42, Tryd.ntmps42
  go_wp2_with fail
  go_loopw [4, 14] (fun v i wr => ∃ k : Nat, k ≤ c.length ∧ i = .int .i64 k ∧ wr.ownsRow w.heap.size 5 1 v (insBL (c.take k)).length (byU (insBL (c.take k))) ∧ Below w.heap.size w wr) (fun _ i _ => c.length - (intOf i).toNat)
  case atStart => exact ⟨0, Nat.zero_le _, rfl, World.ownsRow_nil _ _ _ _, Below.refl _ _⟩
  case round =>
    obtain ⟨k, hk, rfl, hown, hbel⟩ := hrel
    have hz := hbel.size
    by_cases hlt : k < c.length
    · have hx : c[k]? = some c[k] := List.getElem?_eq_getElem hlt
      have hI := HN.out c[k] (List.getElem_mem hlt)
      have hR := HRR.out c[k] (List.getElem_mem hlt)
      generalize c[k] = x at hx hI hR
      obtain ⟨op, N⟩ := x
      obtain ⟨b, off, rfl, hbb, y0, y1⟩ := (HC.out.later hbel).get hx
      have htk := insBL_take hx
      have hl1 := insBL_len (c.take k)
      have hl2 := insB1_len (op, N)
      rw [List.length_take] at hl1
      have hby := fun W => ibytes_any op N W hR hI (right_op hR)
      unfold BytesR at hby
      have HTK := Lib.hid htk
      dsimp only at y0 y1
      generalize insB1 (op, N) = bs at *
      generalize hin : insBL (c.take k) = ins at *
      clear htk hx hI hR hin
      go_wp2_with (first
        | (go_at_call 54; refine (hby _).mono ?_; rintro r w2 ⟨⟨v2, rfl, hown2⟩, hb2⟩; obtain ⟨A2, c2, rfl, hat⟩ := CelAt.of_own hown2)
        | (at_builtin; go_loud (refine wpList_cat rfl (.tmp 26) (.tmp 27) 46 rfl w.heap.size 5 _ 1 1 Tryd.underlying46 u8info rfl (by omega) _ ins.length (byU ins) A2 bs.length c2 (byU bs) rfl (own_bel (own_alloc hown) hb2) rfl hat.2.2 (byU_one _) (by omega) (by omega) (by have := hb2.size; simp at this; omega) ?_; intro v3 w3 hown3 hb3)))
      go_roundw
      case rel => exact ⟨k + 1, by omega, by go_num, by rw [HTK.out, byU_app, List.length_append]; exact hown3, (bel_trans hbel (bel_trans (bel_alloc (Below.refl _ _) _) hb2)).trans hb3⟩
      case measure => simp [intOf]; omega
    · obtain rfl : k = c.length := by omega
      rw [List.take_length] at hown
      go_wp2_with fail
      go_ret2
      exact ⟨⟨_, rfl, hown⟩, hbel⟩
end Go.Proofs.YtknfcamdfdfoeaaDoor

/- Walks over image's moves, bound, and over what lay puts down. -/
namespace Go.Proofs.YtknfcamdfdfoeaaDoor
open Go.RowKit Go.Sort

/-- Where an image's lists lie. -/
structure ImA where
  A1 : Option Addr
  c1 : Nat
  A2 : Option Addr
  c2 : Nat
  A3 : Option Addr
  c3 : Nat
def imV (m : Im) (a : ImA) : Value := .agg #[.int .u32 m.ver, .int .u32 m.fro, .int .i64 m.eld, .int .i64 m.fr.s, .int .i64 m.fr.o, .int .i64 m.fr.n, .int .i64 m.fr.i, .int .i64 m.fr.u, .slice a.A1 m.first.length a.c1, .slice a.A2 m.step.length a.c2, .slice a.A3 m.move.length a.c3, .int .i64 m.sf, .int .i64 m.mf]
structure ImAt (W : World) (m : Im) (a : ImA) : Prop where
  first : CelAt W (nuI m.first) m.first.length a.A1 a.c1
  step : InsAt W m.step a.A2 a.c2
  move : InsAt W m.move a.A3 a.c3
theorem ImAt.later {W W' : World} {m : Im} {a : ImA} (h : ImAt W m a) (hb : Below W.heap.size W W') : ImAt W' m a := ⟨h.first.later hb, h.step.later hb, h.move.later hb⟩
/-- An image's numbers are numbers of their kinds. -/
structure ImOK (m : Im) : Prop where
  ver : 0 ≤ m.ver ∧ m.ver < 4294967296
  fro : 0 ≤ m.fro ∧ m.fro < 4294967296
  first : ∀ x ∈ m.first, I32 x
  step : ∀ i ∈ m.step, I32 i.2
  move : ∀ i ∈ m.move, I32 i.2

set_option maxHeartbeats 1000000 in
theorem moves_any (m : Im) (a : ImA) (w : World) : Calls Tryd.prog 24 #[imV m a] w fun r w' => r = .returned (frV m.moves) ∧ Below w.heap.size w w' := by
  unfold imV frV Im.moves
  dsimp only
  go_enter Tryd.func24, Tryd.ntmps24
  go_wp2_with fail
  refine bodyPost_ret (v := .agg #[.int .i64 0, .int .i64 m.eld, .int .i64 m.fr.n, .int .i64 0, .int .i64 0]) (by simp [results, Tryd.results24, go_sem, *]) rfl ⟨rfl, ?_⟩
  exact belS

set_option maxHeartbeats 2000000 in
theorem bound_any (c : List (Int × Int)) (A : Option Addr) (cap : Nat) (f : Fr) (fuel : Int) (w : World) (hc : InsAt w c A cap) (hN : ∀ i ∈ c, I32 i.2) :
    Calls Tryd.prog 23 #[.slice A c.length cap, frV f, .int .i64 fuel] w fun r w' => r = .returned (.int .i64 (boundF c f fuel)) ∧ Below w.heap.size w w' := by
  have hj := fun W h => judge_any c A cap f W (hc.later h) hN
  obtain ⟨R, hR⟩ : ∃ R, R = boundF c f fuel := ⟨_, rfl⟩
  rw [← hR]
  unfold boundF at hR
  unfold judgeV frV at *
  clear hc hN
  generalize (judgeF c f).1.1 = dep at *
  generalize (judgeF c f).1.2 = fu at *
  generalize (judgeF c f).2.1 = e at *
  generalize (judgeF c f).2.2 = at_ at *
  by_cases h0 : e = 0
  · subst h0
    by_cases hf : fu = fuel
    · rw [if_neg (by simp [hf])] at hR
      have tf : (fu != fuel) = false := by simpa using hf
      have HR := Lib.hid hR
      clear hR hf
      go_enter Tryd.func23, Tryd.ntmps23
      go_wp2_with (go_at_call 7; refine (hj _ belA).mono ?_; rintro r w1 ⟨rfl, hb1⟩)
      go_ret
      exact ⟨ret_int HR.out.symm, belA⟩
    · rw [if_pos ⟨rfl, hf⟩] at hR
      have tf : (fu != fuel) = true := by simpa using hf
      have HR := Lib.hid hR
      clear hR hf
      go_enter Tryd.func23, Tryd.ntmps23
      go_wp2_with (go_at_call 7; refine (hj _ belA).mono ?_; rintro r w1 ⟨rfl, hb1⟩)
      go_ret
      exact ⟨ret_int HR.out.symm, belA⟩
  · rw [if_neg (fun h => h0 h.1)] at hR
    have te : (e == 0) = false := by simpa using h0
    have HR := Lib.hid hR
    clear hR h0
    go_enter Tryd.func23, Tryd.ntmps23
    go_wp2_with (go_at_call 7; refine (hj _ belA).mono ?_; rintro r w1 ⟨rfl, hb1⟩)
    go_ret
    exact ⟨ret_int HR.out.symm, belA⟩

theorem CelAt.own2 {w : World} {base : Nat} {e : TypeId} {xs : List Value} {n cap : Nat} {A : Option Addr} (h : w.ownsRow base e 1 (.slice A n cap) n xs) : CelAt w xs n A cap := by
  obtain ⟨A2, c2, hv, hc⟩ := CelAt.of_own h
  injection hv with e1 e2 e3
  subst e1 e3
  exact hc
/-- The bytes that were put down so far lie at the variable gb; gk: all went well. -/
structure LayS (W : World) (gb gk : Nat) (l : List Int) : Prop where
  b : ∃ A cap, W.cell? ⟨gb, 0, none⟩ = some (.slice A l.length cap) ∧ CelAt W (byU l) l.length A cap
  fz : W.frozen? ⟨gb, 0, none⟩ = false
  ok : W.cell? ⟨gk, 0, none⟩ = some (.bool true)
  ne : gb ≠ gk
theorem LayS.lt {W : World} {gb gk : Nat} {l : List Int} (h : LayS W gb gk l) : gb < W.heap.size ∧ gk < W.heap.size := by
  obtain ⟨A, cap, h1, _⟩ := h.b
  exact ⟨block_lt_of_cell h1, block_lt_of_cell h.ok⟩
theorem LayS.later {W W' : World} {gb gk : Nat} {l : List Int} (h : LayS W gb gk l) (hb : Below W.heap.size W W') : LayS W' gb gk l := by
  obtain ⟨A, cap, h1, h2⟩ := h.b
  exact ⟨⟨A, cap, bel_cell hb h1, h2.later hb⟩, (bfrozen hb _ _ h.lt.1).trans h.fz, bel_cell hb h.ok, h.ne⟩
/-- What a put leaves behind. -/
def LayR (W : World) (gb gk : Nat) (l : List Int) (r : Ending) (w' : World) : Prop := r = .returned (.tuple #[]) ∧ LayS w' gb gk l ∧ Kept (fun k => k = gb) W w'

set_option maxHeartbeats 2000000 in
theorem lay1_any (gb gk : Nat) (l bs : List Int) (width : Int) (n : Nat) (W : World) (h : LayS W gb gk l)
    (hput : ∀ (A : Option Addr) (cap : Nat) (W : World), CelAt W (byU l) l.length A cap → Calls Tryd.prog 37 #[.slice A l.length cap, .int .i64 width, .int .u64 n] W (BytesR W (l ++ bs))) :
    Calls Tryd.prog 36 #[.int .i64 width, .int .u64 n, .pointer (some ⟨gb, 0, none⟩), .pointer (some ⟨gk, 0, none⟩)] W (LayR W gb gk (l ++ bs)) := by
  obtain ⟨⟨A, cap, b0, hc⟩, fz, ok, ne⟩ := h
  have hlt := block_lt_of_cell b0
  have hcall := fun W' hb => hput A cap W' (hc.later hb)
  clear hput hc
  generalize l ++ bs = l2 at *
  unfold BytesR at hcall
  go_enter Tryd.func36, Tryd.ntmps36
  go_wp2_with (go_at_call 37; go_loud (refine (hcall _ belA).mono ?_; rintro r w2 ⟨⟨v, rfl, hown⟩, hb2⟩; obtain ⟨A2, c2, rfl, hat⟩ := CelAt.of_own hown; have b0' := bel_cell hb2 b0; have fz' := (bfrozen hb2 gb 0 hlt).trans fz; have ok' := bel_cell hb2 ok))
  go_end0
  refine ⟨rfl, ⟨⟨A2, c2, World.cell?_setCell_same _ _ _ b0', ?_⟩, (World.frozen?_setCell ..).trans fz', (sc_blk _ _ _ _ _ _ (Ne.symm ne)).trans ok', ne⟩, (Kept.bel (S := fun k => k = gb) hb2).setCell rfl _ _⟩
  exact CelAt.own2 (own_apart hown (fun b hb he => by have := (hown.lt b hb).1; omega) _ _)
set_option maxHeartbeats 2000000 in
theorem lay2_any (gb gk : Nat) (l x : List Int) (A2 : Option Addr) (cap2 : Nat) (W : World) (h : LayS W gb gk l) (hx : CelAt W (byU x) x.length A2 cap2) (hl : l.length ≤ 100000) (hn : x.length ≤ 65535) :
    Calls Tryd.prog 38 #[.slice A2 x.length cap2, .int .i64 0, .pointer (some ⟨gb, 0, none⟩), .pointer (some ⟨gk, 0, none⟩)] W (LayR W gb gk (l ++ runB x)) := by
  obtain ⟨⟨A, cap, b0, hc⟩, fz, ok, ne⟩ := h
  have hlt := block_lt_of_cell b0
  have hcall := fun W' (hb : Below W.heap.size W W') => oputrun_any l x A cap A2 cap2 W' (hc.later hb) (hx.later hb) hl hn
  clear hc hx
  generalize l ++ runB x = l2 at *
  unfold BytesR at hcall
  go_enter Tryd.func38, Tryd.ntmps38
  go_wp2_with (go_at_call 39; go_loud (refine (hcall _ belA).mono ?_; rintro r w2 ⟨⟨v, rfl, hown⟩, hb2⟩; obtain ⟨A2, c2, rfl, hat⟩ := CelAt.of_own hown; have b0' := bel_cell hb2 b0; have fz' := (bfrozen hb2 gb 0 hlt).trans fz; have ok' := bel_cell hb2 ok))
  go_end0
  refine ⟨rfl, ⟨⟨A2, c2, World.cell?_setCell_same _ _ _ b0', ?_⟩, (World.frozen?_setCell ..).trans fz', (sc_blk _ _ _ _ _ _ (Ne.symm ne)).trans ok', ne⟩, (Kept.bel (S := fun k => k = gb) hb2).setCell rfl _ _⟩
  exact CelAt.own2 (own_apart hown (fun b hb he => by have := (hown.lt b hb).1; omega) _ _)
end Go.Proofs.YtknfcamdfdfoeaaDoor

/- Walk over image.lay. -/
namespace Go.Proofs.YtknfcamdfdfoeaaDoor
open Go.RowKit Go.Sort

/-- lay's memory while it puts down. -/
structure LayI (w : World) (m : Im) (a : ImA) (l : List Int) (W : World) : Prop where
  bel : Below w.heap.size w W
  st : LayS W (w.heap.size + 1 + 1) (w.heap.size + 1 + 1 + 1) l
  im : ImAt W m a
  c0 : W.cell? ⟨w.heap.size, 0, none⟩ = some (.int .u32 m.ver)
  c1 : W.cell? ⟨w.heap.size, 1, none⟩ = some (.int .u32 m.fro)
  c2 : W.cell? ⟨w.heap.size, 2, none⟩ = some (.int .i64 m.eld)
  c3 : W.cell? ⟨w.heap.size, 3, none⟩ = some (.int .i64 m.fr.s)
  c5 : W.cell? ⟨w.heap.size, 5, none⟩ = some (.int .i64 m.fr.n)
  c6 : W.cell? ⟨w.heap.size, 6, none⟩ = some (.int .i64 m.fr.i)
  c7 : W.cell? ⟨w.heap.size, 7, none⟩ = some (.int .i64 m.fr.u)
  c8 : W.cell? ⟨w.heap.size, 8, none⟩ = some (.slice a.A1 m.first.length a.c1)
  c9 : W.cell? ⟨w.heap.size, 9, none⟩ = some (.slice a.A2 m.step.length a.c2)
  c10 : W.cell? ⟨w.heap.size, 10, none⟩ = some (.slice a.A3 m.move.length a.c3)
  c11 : W.cell? ⟨w.heap.size, 11, none⟩ = some (.int .i64 m.sf)
  c12 : W.cell? ⟨w.heap.size, 12, none⟩ = some (.int .i64 m.mf)
theorem LayI.later {w : World} {m : Im} {a : ImA} {l : List Int} {W W' : World} (h : LayI w m a l W) (hb : Below W.heap.size W W') : LayI w m a l W' :=
  ⟨bel_trans h.bel hb, h.st.later hb, h.im.later hb, bel_cell hb h.c0, bel_cell hb h.c1, bel_cell hb h.c2, bel_cell hb h.c3, bel_cell hb h.c5, bel_cell hb h.c6, bel_cell hb h.c7, bel_cell hb h.c8, bel_cell hb h.c9, bel_cell hb h.c10, bel_cell hb h.c11, bel_cell hb h.c12⟩
theorem LayI.put {w : World} {m : Im} {a : ImA} {l l2 : List Int} {W W' : World} (h0 : ImAt w m a) (h : LayI w m a l W) (hs : LayS W' (w.heap.size + 1 + 1) (w.heap.size + 1 + 1 + 1) l2) (hk : Kept (fun k => k = w.heap.size + 1 + 1) W W') : LayI w m a l2 W' := by
  have hb : Below w.heap.size w W' := hk.below h.bel (fun j hj => by omega)
  have c := fun (o : Nat) (v : Value) hc => hk.cell (b := w.heap.size) (o := o) (v := v) (by omega) hc
  exact ⟨hb, hs, h0.later hb, c _ _ h.c0, c _ _ h.c1, c _ _ h.c2, c _ _ h.c3, c _ _ h.c5, c _ _ h.c6, c _ _ h.c7, c _ _ h.c8, c _ _ h.c9, c _ _ h.c10, c _ _ h.c11, c _ _ h.c12⟩
theorem u64_same {n : Int} (h0 : 0 ≤ n) (h1 : n < 18446744073709551616) : IntKind.u64.wrap n = n := by
  simp [IntKind.wrap, IntKind.bits, IntKind.signed]; omega
/-- A put of a number. -/
theorem put_at {w : World} {m : Im} {a : ImA} {l : List Int} {W : World} (h0 : ImAt w m a) (h : LayI w m a l W) (hl : l.length ≤ 100000) (width : Nat) (wi : Int) (hwi : wi = width) (hw : width = 1 ∨ width = 2 ∨ width = 4) (x : Int) (hx0 : 0 ≤ x) (hx : x < 256 ^ width) :
    Calls Tryd.prog 36 #[.int .i64 wi, .int .u64 x, .pointer (some ⟨w.heap.size + 1 + 1, 0, none⟩), .pointer (some ⟨w.heap.size + 1 + 1 + 1, 0, none⟩)] W fun r w' => r = .returned (.tuple #[]) ∧ LayI w m a (l ++ leB width x.toNat) w' ∧ Kept (fun k => k = w.heap.size + 1 + 1) W w' := by
  have hxx : ((x.toNat : Nat) : Int) = x := by omega
  have h2 := lay1_any (w.heap.size + 1 + 1) (w.heap.size + 1 + 1 + 1) l (leB width x.toNat) width x.toNat W h.st (fun A cap W' hc => by
    rcases hw with rfl | rfl | rfl
    · exact oput1_any l A cap x.toNat W' hc hl (by omega)
    · exact oput2_any l A cap x.toNat W' hc hl (by omega)
    · exact oput4_any l A cap x.toNat W' hc hl (by omega))
  rw [hxx, ← hwi] at h2
  refine h2.mono ?_
  rintro r w' ⟨hr, hs, hk⟩
  exact ⟨hr, h.put h0 hs hk, hk⟩
theorem run_at {w : World} {m : Im} {a : ImA} {l x : List Int} {A2 : Option Addr} {cap2 : Nat} {W : World} (h0 : ImAt w m a) (h : LayI w m a l W) (hx : CelAt W (byU x) x.length A2 cap2) (hl : l.length ≤ 100000) (hn : x.length ≤ 65535) :
    Calls Tryd.prog 38 #[.slice A2 x.length cap2, .int .i64 0, .pointer (some ⟨w.heap.size + 1 + 1, 0, none⟩), .pointer (some ⟨w.heap.size + 1 + 1 + 1, 0, none⟩)] W fun r w' => r = .returned (.tuple #[]) ∧ LayI w m a (l ++ runB x) w' ∧ Kept (fun k => k = w.heap.size + 1 + 1) W w' := by
  refine (lay2_any (w.heap.size + 1 + 1) (w.heap.size + 1 + 1 + 1) l x A2 cap2 W h.st hx hl hn).mono ?_
  rintro r w' ⟨hr, hs, hk⟩
  exact ⟨hr, h.put h0 hs hk, hk⟩

set_option maxHeartbeats 1500000 in
theorem imlay_any (m : Im) (a : ImA) (w : World) (hm : ImAt w m a) (hok : ImOK m) (hr : m.Right) :
    Calls Tryd.prog 22 #[imV m a] w fun r w' => (∃ A cap, r = .returned (.tuple #[.slice A (bytesF m).length cap, .bool true]) ∧ CelAt w' (byU (bytesF m)) (bytesF m).length A cap) ∧ Below w.heap.size w w' := by
  have hmf : ∀ (fn : Fn) (first cap : Array Value) (w : World), (Instr.makeFunc fn first cap).run Tryd.prog w = .ok (.func fn first cap) w := fun _ _ _ _ => rfl
  have hkc := Lib.run_convert_bytes_const (P := Tryd.prog) (w.alloc (.cells #[.int .u32 m.ver, .int .u32 m.fro, .int .i64 m.eld, .int .i64 m.fr.s, .int .i64 m.fr.o, .int .i64 m.fr.n, .int .i64 m.fr.i, .int .i64 m.fr.u, .slice a.A1 m.first.length a.c1, .slice a.A2 m.step.length a.c2, .slice a.A3 m.move.length a.c3, .int .i64 m.sf, .int .i64 m.mf] 43)) 46 5 #[.int .u8 77, .int .u8 73, .int .u8 68, .int .u8 83] 4 4 Tryd.underlying46 Tryd.underlying5
  rw [show (w.alloc (.cells #[.int .u32 m.ver, .int .u32 m.fro, .int .i64 m.eld, .int .i64 m.fr.s, .int .i64 m.fr.o, .int .i64 m.fr.n, .int .i64 m.fr.i, .int .i64 m.fr.u, .slice a.A1 m.first.length a.c1, .slice a.A2 m.step.length a.c2, .slice a.A3 m.move.length a.c3, .int .i64 m.sf, .int .i64 m.mf] 43)).heap.size = w.heap.size + 1 by simp] at hkc
  have hgood := Fr.good_iff.1 hr.fr
  obtain ⟨⟨gs1, gs2⟩, ⟨go1, go2⟩, ⟨gn1, gn2⟩, ⟨gi1, gi2⟩, gu1, gu2⟩ := hgood
  have hv1 : IntKind.u64.wrap m.ver = m.ver := u64_same hok.ver.1 (by have := hok.ver.2; omega)
  have hv2 : IntKind.u64.wrap m.fro = m.fro := u64_same hok.fro.1 (by have := hok.fro.2; omega)
  have hv3 : IntKind.u64.wrap m.sf = m.sf := u64_same hr.step.2.2.1 (by have := hr.step.2.2.2; omega)
  have hv4 : IntKind.u64.wrap m.mf = m.mf := u64_same hr.move.2.2.1 (by have := hr.move.2.2.2; omega)
  have HM := Lib.hid hm
  have HOK := Lib.hid hok
  have HR := Lib.hid hr
  clear hm hok hr
  obtain ⟨A1, c1, A2, c2, A3, c3⟩ := a
  unfold imV
  dsimp only at *
  go_enter Tryd.func22, Tryd.ntmps22
  go_upto_region 4 with fail
  refine wp_name fun W0 hW0 => ?_
  have hi0 : LayI w m ⟨A1, c1, A2, c2, A3, c3⟩ [77, 73, 68, 83] W0 := by
    refine ⟨?_, ⟨⟨some ⟨w.heap.size + 1, 0, none⟩, 4, ?_, ?_⟩, ?_, ?_, by omega⟩, ?_, ?_, ?_, ?_, ?_, ?_, ?_, ?_, ?_, ?_, ?_, ?_, ?_⟩
    · rw [hW0]; exact belA
    · rw [hW0]; go_simp
    · refine ⟨Nat.le_refl _, by unfold maxLen; omega, rfl, fun _ => ⟨w.heap.size + 1, 0, rfl, fun j u hj => ?_⟩⟩
      have hjl := (List.getElem?_eq_some_iff.1 hj).1
      rw [byU_len] at hjl
      rw [hW0]
      simp only [List.length_cons, List.length_nil] at hjl
      rcases (by omega : j = 0 ∨ j = 1 ∨ j = 2 ∨ j = 3) with rfl | rfl | rfl | rfl <;> (simp [byU] at hj; subst hj; go_simp; rw [Go.Joins.cell_alloc_mark_at _ _ _ _ _ _ (by simp)]; rfl)
    · rw [hW0]; go_simp
    · rw [hW0]; go_simp
    · exact HM.out.later (by rw [hW0]; exact belA)
    all_goals (rw [hW0]; go_simp)
  have HI0 := Lib.hid hi0
  have HZ0 := hi0.bel.size
  have d0 := hi0.c0
  have d1 := hi0.c1
  clear hi0 hW0 hkc hmf
  generalize hl0 : ([77, 73, 68, 83] : List Int) = l0 at *
  have hn0 : l0.length = 4 := by rw [← hl0]; rfl
  go_upto_region 6 with (first
    | (have hX := HI1; go_at_call 36; go_loud (refine (put_at HM.out HI1.out (by rw [List.length_append, leB_len]; omega) 4 4 rfl (.inr (.inr rfl)) m.fro HOK.out.fro.1 HOK.out.fro.2).mono ?_; rintro r W2 ⟨rfl, hi2, hz2⟩))
    | (go_at_call 36; go_loud (refine (put_at HM.out HI0.out (by omega) 4 4 rfl (.inr (.inr rfl)) m.ver HOK.out.ver.1 HOK.out.ver.2).mono ?_; rintro r W1 ⟨rfl, hi1, hz1⟩; have HI1 := Lib.hid hi1; have d1' := hi1.c1; clear hi1)))
  have e2 := hi2.c2
  have e3 := hi2.c3
  have e5 := hi2.c5
  have e6 := hi2.c6
  have e7 := hi2.c7
  have HI2 := Lib.hid hi2
  clear hi2 d0 d1 d1' HI0 HI1
  have hn2 : (l0 ++ leB 4 m.ver.toNat ++ leB 4 m.fro.toNat).length = 12 := by simp [leB_len, hn0]
  generalize hl2 : l0 ++ leB 4 m.ver.toNat ++ leB 4 m.fro.toNat = l2 at *
  have hes : ∀ x ∈ [m.eld, m.fr.s, m.fr.n, m.fr.i, m.fr.u], 0 ≤ x ∧ x < 256 := by
    have := HR.out.eld
    intro x hx
    simp only [List.mem_cons, List.not_mem_nil, or_false] at hx
    omega
  go_wp2_with fail
  refine wp_name fun V hV => ?_
  have hbV : Below W2.heap.size W2 V := by rw [hV]; exact bel_alloc (Below.refl _ _) _
  have hiV := HI2.out.later hbV
  have hcells : ∀ (k : Nat) (x : Int), [m.eld, m.fr.s, m.fr.n, m.fr.i, m.fr.u][k]? = some x → V.cell? ⟨W2.heap.size, k, none⟩ = some (.int .i64 x) := by
    intro k x hx
    have hkl := (List.getElem?_eq_some_iff.1 hx).1
    simp only [List.length_cons, List.length_nil] at hkl
    rw [hV]
    rcases (by omega : k = 0 ∨ k = 1 ∨ k = 2 ∨ k = 3 ∨ k = 4) with rfl | rfl | rfl | rfl | rfl <;> (simp at hx; subst hx; go_simp)
  have hg5 : w.heap.size + 1 + 1 < W2.heap.size := by have := HI2.out.st.lt; omega
  have hg6 : W2.heap.size < V.heap.size := by rw [hV]; simp
  have HCV := Lib.hid hcells
  have HIV := Lib.hid hiV
  have HES := Lib.hid hes
  have hel : [m.eld, m.fr.s, m.fr.n, m.fr.i, m.fr.u].length = 5 := rfl
  clear hV hbV hiV hcells hes e2 e3 e5 e6 e7 HI2
  generalize hesl : [m.eld, m.fr.s, m.fr.n, m.fr.i, m.fr.u] = es at *
  generalize W2.heap.size = g at *
  go_loopw [43] (fun i wr => ∃ k : Nat, k ≤ 5 ∧ i = .int .i64 k ∧ Hid (LayI w m ⟨A1, c1, A2, c2, A3, c3⟩ (l2 ++ (es.take k).flatMap (fun x => leB 1 x.toNat)) wr) ∧ Hid (∀ (k : Nat) (x : Int), es[k]? = some x → wr.cell? ⟨g, k, none⟩ = some (.int .i64 x)) ∧ g < wr.heap.size) (fun i _ => 5 - (intOf i).toNat)
  case atStart => exact ⟨0, by omega, rfl, Lib.hid (by simpa using HIV.out), HCV, hg6⟩
  case round =>
    obtain ⟨k, hk, rfl, hi, hcs, hgz⟩ := hrel
    by_cases hlt : k < 5
    · have hx : es[k]? = some es[k] := List.getElem?_eq_getElem (by omega)
      have hb := HES.out es[k] (List.getElem_mem (by omega))
      have htk : es.take (k + 1) = es.take k ++ [es[k]] := by rw [List.take_succ_eq_append_getElem (by omega)]
      generalize es[k] = x at hx hb htk
      have c0 := hcs.out k x hx
      have hlen : (l2 ++ (es.take k).flatMap (fun x => leB 1 x.toNat)).length ≤ 100 := by
        have : ((es.take k).flatMap (fun x => leB 1 x.toNat)).length = (es.take k).length := by
          generalize es.take k = q
          induction q with
          | nil => rfl
          | cons y q ih => rw [List.flatMap_cons, List.length_append, ih, leB_len, List.length_cons]; omega
        rw [List.length_append, this, List.length_take]; omega
      have hnx : l2 ++ (es.take (k + 1)).flatMap (fun x => leB 1 x.toNat) = (l2 ++ (es.take k).flatMap (fun x => leB 1 x.toNat)) ++ leB 1 x.toNat := by
        rw [htk, List.flatMap_append, List.append_assoc]; simp
      have HNX := Lib.hid hnx
      obtain ⟨hb0, hb1⟩ := hb
      have hv5 : IntKind.u64.wrap x = x := u64_same hb0 (by omega)
      have HPUT := Lib.hid (put_at HM.out hi.out (by omega) 1 1 rfl (.inl rfl) x hb0 (by omega))
      have hkc : (k : Int) < 5 := by omega
      clear hx htk hnx hlen
      go_wp2_with (go_at_call 36; go_loud (refine HPUT.out.mono ?_; rintro r W3 ⟨rfl, hi3, hk3⟩))
      go_roundw
      case rel => exact ⟨k + 1, by omega, by go_num, Lib.hid (by rw [HNX.out]; exact hi3), Lib.hid (fun j y hy => hk3.cell (b := g) (by omega) (hcs.out j y hy)), Nat.lt_of_lt_of_le hgz hk3.size⟩
      case measure => simp [intOf]; omega
    · obtain rfl : k = 5 := by omega
      have hi5 := hi.out
      rw [show es.take 5 = es from List.take_of_length_le (by omega)] at hi5
      have f11 := hi5.c11
      have f12 := hi5.c12
      have hn5 : (l2 ++ es.flatMap (fun x => leB 1 x.toNat)).length = 17 := by rw [List.length_append, hn2, ← hesl]; simp [leB_len]
      generalize hl5 : l2 ++ es.flatMap (fun x => leB 1 x.toNat) = l5 at *
      have HI5 := Lib.hid hi5
      clear hi hcs hi5 HCV HIV HES
      go_upto_region 14 with (first
        | (have hX := HI6; go_at_call 36; go_loud (refine (put_at HM.out HI6.out (by rw [List.length_append, leB_len]; omega) 2 2 rfl (.inr (.inl rfl)) m.mf HR.out.move.2.2.1 (by have := HR.out.move.2.2.2; omega)).mono ?_; rintro r W7 ⟨rfl, hi7, hk7⟩))
        | (go_at_call 36; go_loud (refine (put_at HM.out HI5.out (by omega) 2 2 rfl (.inr (.inl rfl)) m.sf HR.out.step.2.2.1 (by have := HR.out.step.2.2.2; omega)).mono ?_; rintro r W6 ⟨rfl, hi6, hz6⟩; have HI6 := Lib.hid hi6; have f12' := hi6.c12; clear hi6)))
      have f8 : W7.cell? ⟨w.heap.size, 8, none⟩ = some (.slice A1 m.first.length c1) := hi7.c8
      have HI7 := Lib.hid hi7
      have hn7 : (l5 ++ leB 2 m.sf.toNat ++ leB 2 m.mf.toNat).length = 21 := by simp [leB_len, hn5]
      generalize hl7 : l5 ++ leB 2 m.sf.toNat ++ leB 2 m.mf.toNat = l7 at *
      clear hi7 f11 f12 f12' HI5 HI6 hk7
      have hfl : m.first.length ≤ 16 := by have h1 := HR.out.old; have h2 := gn2; omega
      have hc1 := HM.out.first.1
      have hc2 := HM.out.first.2.1
      unfold maxLen at hc2
      go_wp2_with fail
      refine wp_name fun V7 hV7 => ?_
      have HI8 : Hid (LayI w m ⟨A1, c1, A2, c2, A3, c3⟩ l7 V7) := by rw [hV7]; exact HI7
      clear hV7 HI7 f8
      go_loopw [10, 65] (fun v i wr => ∃ k : Nat, k ≤ m.first.length ∧ i = .int .i64 k ∧ wr.ownsRow V7.heap.size 26 1 v k (wdU ((m.first.map plainN).take k)) ∧ Below V7.heap.size V7 wr) (fun _ i _ => m.first.length - (intOf i).toNat)
      case atStart => exact ⟨0, Nat.zero_le _, rfl, World.ownsRow_nil _ _ _ _, Below.refl _ _⟩
      case round =>
        obtain ⟨k, hk, rfl, hown, hbel⟩ := hrel
        have hzr := hbel.size
        obtain ⟨Ao, co, rfl, ho1, ho2⟩ := own_slice hown
        unfold maxLen at ho2
        by_cases hlt : k < m.first.length
        · have hx : m.first[k]? = some m.first[k] := List.getElem?_eq_getElem hlt
          have htk : (m.first.map plainN).take (k + 1) = (m.first.map plainN).take k ++ [plainN m.first[k]] := by rw [List.take_succ_eq_append_getElem (by simpa using hlt), List.getElem_map]
          generalize m.first[k] = x at hx htk
          obtain ⟨b, off, rfl, hbb, y0⟩ := (show CelAt wr (nuI m.first) m.first.length A1 c1 from HI8.out.im.first.later hbel).get (nuI_get hx)
          have hpl := fun W => oplain_any x W
          have HTK := Lib.hid htk
          generalize plainN x = px at *
          clear htk hx
          go_wp2_with (first
            | (go_at_call 40; refine (hpl _).mono ?_; rintro r w1 ⟨rfl, rfl⟩)
            | (at_builtin; refine wpList_app rfl (.tmp 69) (.tmp 72) 125 rfl V7.heap.size 26 _ 1 4 Tryd.underlying125 u32info rfl (by omega) (.slice Ao k co) k (wdU ((m.first.map plainN).take k)) _ 1 [.int .u32 (px : Nat)] rfl (by repeat (first | (with_reducible assumption) | refine own_alloc ?_ | refine own_bel ?_ (by with_reducible assumption) | refine own_drew ?_)) rfl rfl (fun j u hj => by rw [cell_new]; simpa using hj) (by simp [Value.oneCell']) (by omega) (by omega) (by first | omega | (simp; omega)) ?_; intro v2 w2 hown2 hb2; have hz2 := hb2.size; (try simp at hz2)))
          go_roundw
          case rel => exact ⟨k + 1, by omega, by go_num, by rw [HTK.out, wdU_app]; exact hown2, (bel_alloc hbel _).trans hb2⟩
          case measure => simp [intOf]; omega
        · obtain rfl : k = m.first.length := by omega
          have hlm : (m.first.map plainN).length = m.first.length := List.length_map _
          rw [← hlm, List.take_length, hlm] at hown
          have hatw : CelAt wr (wdU (m.first.map plainN)) m.first.length Ao co := CelAt.own2 hown
          have hBy := fun W (h : Below wr.heap.size wr W) => obytes_any (m.first.map plainN) Ao co W (by rw [hlm]; exact hatw.later h) (by omega) (fun x hx => by obtain ⟨y, _, rfl⟩ := List.mem_map.1 hx; exact plainN_lt y)
          rw [hlm] at hBy
          have hwb : wordsL (m.first.map plainN) = wordsB m.first := by unfold wordsL wordsB; rw [List.flatMap_map]
          rw [hwb] at hBy
          have hwl : (wordsB m.first).length ≤ 64 := by rw [wordsB_len]; omega
          generalize hwv : wordsB m.first = wv at *
          have hI9 := HI8.out.later hbel
          have HI9 := Lib.hid hI9
          clear hown hatw hlm hwb hI9
          go_upto_region 20 with (first
            | (go_at_call 41; go_loud (refine (hBy _ (Below.refl _ _)).mono ?_; rintro r Wb ⟨⟨v, rfl, hownb⟩, hbb⟩; obtain ⟨Ab, cb, rfl, hatb⟩ := CelAt.of_own hownb))
            | (go_at_call 38; go_loud (refine (run_at HM.out (HI9.out.later hbb) hatb (by omega) (by omega)).mono ?_; rintro r W9 ⟨rfl, hi9, hk9⟩)))
          have f9 : W9.cell? ⟨w.heap.size, 9, none⟩ = some (.slice A2 m.step.length c2) := hi9.c9
          have hrl : ∀ x : List Int, (runB x).length = 2 + x.length := fun x => by unfold runB; rw [List.length_append, leB_len]
          have hn9 : (l7 ++ runB wv).length ≤ 200 := by rw [List.length_append, hrl]; omega
          generalize hl9 : l7 ++ runB wv = l9 at *
          have HI10 := Lib.hid hi9
          have hwvH := Lib.hid hwv
          have hrlH := Lib.hid hrl
          have hl9H := Lib.hid hl9
          clear hwv hrl hl9
          have hst := insBL_len m.step
          have hsl := HR.out.step.1
          have hmo := insBL_len m.move
          have hml := HR.out.move.1
          clear hi9 hBy hatb hk9 HI9 HI8
          go_upto_region 21 with (first
            | (go_at_call 42; go_loud (refine (iencode_any m.step A2 c2 _ HI10.out.im.step hsl HR.out.step.2.1 HOK.out.step).mono ?_; rintro r Wc ⟨⟨v, rfl, hownb⟩, hbc⟩; obtain ⟨Ac, cc, rfl, hatc⟩ := CelAt.of_own hownb))
            | (go_at_call 38; go_loud (refine (run_at HM.out (HI10.out.later hbc) hatc (by omega) (by omega)).mono ?_; rintro r W10 ⟨rfl, hi10, hk10⟩)))
          have f10 : W10.cell? ⟨w.heap.size, 10, none⟩ = some (.slice A3 m.move.length c3) := hi10.c10
          have hn10 : (l9 ++ runB (insBL m.step)).length ≤ 4000 := by rw [List.length_append, hrlH.out]; omega
          generalize hl10 : l9 ++ runB (insBL m.step) = l10 at *
          have hl10H := Lib.hid hl10
          clear hl10
          have HI11 := Lib.hid hi10
          clear hi10 hatc hk10 HI10 f9
          go_upto_region 22 with (first
            | (go_at_call 42; go_loud (refine (iencode_any m.move A3 c3 _ HI11.out.im.move hml HR.out.move.2.1 HOK.out.move).mono ?_; rintro r Wd ⟨⟨v, rfl, hownb⟩, hbd⟩; obtain ⟨Ad, cd, rfl, hatd⟩ := CelAt.of_own hownb))
            | (go_at_call 38; go_loud (refine (run_at HM.out (HI11.out.later hbd) hatd (by omega) (by omega)).mono ?_; rintro r W11 ⟨rfl, hi11, hk11⟩)))
          have hbytes : l10 ++ runB (insBL m.move) = bytesF m := by
            unfold bytesF imHead
            rw [← hl10H.out, ← hl9H.out, ← hwvH.out, ← hl7, ← hl5, ← hl2, ← hl0, ← hesl]
            simp [List.append_assoc]
          rw [hbytes] at hi11
          obtain ⟨hbe, ⟨⟨Ae, ce, g0, hce⟩, -, g1, -⟩, -⟩ := hi11
          have HCE := Lib.hid hce
          clear hce hk11 HI11 f10 hatd hbytes
          go_quiet (fail)
          go_wp2_with fail
          go_ret2
          refine ⟨⟨_, _, rfl, HCE.out.later ?_⟩, bel_trans hbe ?_⟩ <;> exact belA
end Go.Proofs.YtknfcamdfdfoeaaDoor
