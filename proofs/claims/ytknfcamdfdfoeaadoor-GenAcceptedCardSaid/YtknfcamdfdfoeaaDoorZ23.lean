/- Walk over gen's lay. -/
import Derived.Test.YtknfcamdfdfoeaaDoorZ04
import Derived.Test.YtknfcamdfdfoeaaDoorZ21
import Derived.Test.YtknfcamdfdfoeaaDoorZ22
import Derived.Test.YtknfcamdfdfoeaaDoorZ09
import Derived.Test.YtknfcamdfdfoeaaDoorZ08
import Derived.BigRegion
import Derived.Test.YtknfcamdfdfoeaaDoorZ02
set_option linter.unusedVariables false
set_option linter.unusedSimpArgs false
set_option maxRecDepth 100000
namespace Go.Proofs.YtknfcamdfdfoeaaDoor
open Go.RowKit Go.Sort Go.Maps Go.ChangeMaps Go.WideMaps

/-- Cells' cells. -/
def cesC (l : List Ce) : List Value := l.flatMap fun c => [.string c.name, .int .i64 c.ck, .string c.cn, .int .i32 c.first]
theorem cesC_len : ∀ l : List Ce, (cesC l).length = l.length * 4
  | [] => rfl
  | x :: l => by
    have := cesC_len l
    unfold cesC at this ⊢
    rw [List.flatMap_cons, List.length_append, this, List.length_cons]
    simp; omega
theorem cesC_at : ∀ (l : List Ce) (k : Nat) (x : Ce), l[k]? = some x → (cesC l)[k * 4]? = some (.string x.name) ∧ (cesC l)[k * 4 + 1]? = some (.int .i64 x.ck) ∧ (cesC l)[k * 4 + 2]? = some (.string x.cn) ∧ (cesC l)[k * 4 + 3]? = some (.int .i32 x.first)
  | [], k, x, h => by simp at h
  | y :: l, 0, x, h => by simp at h; subst h; exact ⟨rfl, rfl, rfl, rfl⟩
  | y :: l, k + 1, x, h => by
    have hat := cesC_at l k x (by simpa using h)
    have e : cesC (y :: l) = [.string y.name, .int .i64 y.ck, .string y.cn, .int .i32 y.first] ++ cesC l := rfl
    have e2 : ∀ j, (cesC (y :: l))[(k + 1) * 4 + j]? = (cesC l)[k * 4 + j]? := fun j => by
      rw [e, List.getElem?_append_right (by simp; omega)]
      congr 1
      simp; omega
    exact ⟨by have := e2 0; simp only [Nat.add_zero] at this; rw [this]; exact hat.1, by rw [e2 1]; exact hat.2.1, by rw [e2 2]; exact hat.2.2.1, by rw [e2 3]; exact hat.2.2.2⟩
def CesAt (w : World) (l : List Ce) (A : Option Addr) (cap : Nat) : Prop := l.length ≤ cap ∧ cap ≤ maxLen ∧ CellsAt w A l.length 4 (cesC l)
theorem CesAt.later {w w' : World} {l : List Ce} {A : Option Addr} {cap : Nat} (h : CesAt w l A cap) (hb : Below w.heap.size w w') : CesAt w' l A cap := ⟨h.1, h.2.1, cells_later h.2.2 hb⟩

theorem setBlock_other (W : World) (b i : Nat) (o : Obj) (h : i ≠ b) : (setBlock W b o).heap[i]? = W.heap[i]? := by
  unfold setBlock
  simp [Array.getElem?_setIfInBounds, h.symm, h]
theorem setBlock_same (W : World) (b : Nat) (o : Obj) (h : b < W.heap.size) : (setBlock W b o).heap[b]? = some o := by
  unfold setBlock
  simp [Array.getElem?_setIfInBounds, h]
theorem setBlock_size (W : World) (b : Nat) (o : Obj) : (setBlock W b o).heap.size = W.heap.size := by simp [setBlock]
theorem setBlock_cell (W : World) (b i j : Nat) (o : Obj) (h : i ≠ b) : (setBlock W b o).cell? ⟨i, j, none⟩ = W.cell? ⟨i, j, none⟩ := World.cell?_of_block (setBlock_other W b i o h)
theorem setBlock_grown (W : World) (b : Nat) (o : Obj) : W.grownBy (setBlock W b o) (some b) := ⟨rfl, rfl, rfl, by simp [setBlock], fun i _ hi => setBlock_other W b i o (fun e => hi (by rw [e]))⟩
theorem i32_wf {n : Int} (h : I32 n) : (Lit.int .i32 n).wf = true := by
  unfold I32 at h
  simp [Lit.wf, IntKind.min, IntKind.max, IntKind.signed, IntKind.bits]; omega
def okI (i : Int) : Prop := (Lit.int .i32 i).wf = true
end Go.Proofs.YtknfcamdfdfoeaaDoor

/- Walk over gen's lay. -/
namespace Go.Proofs.YtknfcamdfdfoeaaDoor
open Go.RowKit Go.Sort Go.Maps Go.ChangeMaps Go.WideMaps

/-- What lay leaves. -/
structure LayAt (W : World) (X Bs Bt Bf : Nat) (L : List Va) (cs : List Ce) (A : Option Addr) (cap : Nat) : Prop where
  c0 : W.cell? ⟨X, 0, none⟩ = some (.map (some Bs))
  c1 : W.cell? ⟨X, 1, none⟩ = some (.map (some Bt))
  c2 : W.cell? ⟨X, 2, none⟩ = some (.map (some Bf))
  c3 : W.cell? ⟨X, 3, none⟩ = some (.slice A cs.length cap)
  slots : MapE Tryd.prog 9 (plainElem Tryd.prog 21) okS klS okI (Lit.int .i32) 0 W Bs L.length (slotM L) L.length
  clks : MapE Tryd.prog 9 clkR okS klS okC klC (0, ⟨#[]⟩) W Bt L.length (clkM2 L) L.length
  flags : ∃ c, MapE Tryd.prog 58 (plainElem Tryd.prog 21) okC klC okI (Lit.int .i32) 0 W Bf cs.length (flagM cs) c

theorem exit_name {Q : Exit → Act → World → Prop} {e : Exit} {a : Act} {W : World} (h : ∀ W0, W0 = W → Q e a W0) : Q e a W := h W rfl
theorem zeroClk (w : World) : (zeroValue 58).run Tryd.prog w = .ok (kvC (0, ⟨#[]⟩)) w := by kernel_rfl

set_option maxHeartbeats 8000000 in
theorem lay_any (p : Pr) (a : PrA) (cs : List Ce) (A : Option Addr) (cap : Nat) (w : World) (hp : PrAt w p a) (hcs : CesAt w cs A cap) (n1 : p.ins.length ≤ 1000000) (n2 : p.outs.length ≤ 1000000) (n3 : p.locals.length ≤ 1000000) (n4 : cs.length ≤ 1000000)
    (hs : ∀ v ∈ varsOf p, okS v.name ∧ okC (v.ck, v.cn)) (hn : ((varsOf p).map (·.name)).Nodup) (hcl : ∀ c ∈ cs, okC (c.ck, c.cn)) :
    Calls Tryd.prog 13 #[prV p a, .slice A cs.length cap] w fun r w' => (∃ X Bs Bt Bf, r = .returned (.pointer (some ⟨X, 0, none⟩)) ∧ LayAt w' X Bs Bt Bf (varsOf p) cs A cap) ∧ Below w.heap.size w w' := by
  have hvars := fun W h => vars_any p a W (hp.later h) n1 n2 n3
  have hL3 : (varsOf p).length ≤ 3000000 := by simp [varsOf]; omega
  obtain ⟨A1, c1, A2, c2, A3, c3, A4, c4⟩ := a
  obtain ⟨hcs1, hcs2, _⟩ := id hcs
  unfold maxLen at hcs2
  unfold prV at *
  dsimp only at *
  have hmm := @run_makeMap Tryd.prog
  generalize hL : varsOf p = L at *
  clear hL
  have HS := Lib.hid hs; clear hs
  have HN := Lib.hid hn; clear hn
  have HCL := Lib.hid hcl; clear hcl
  have HCS := Lib.hid hcs; clear hcs hp
  go_enter Tryd.func13, Tryd.ntmps13
  go_wp2_with (first | (go_at_call 26; go_loud (refine (hvars _ belA).mono ?_; rintro r wb ⟨⟨Av, cv, rfl, hown⟩, hbb⟩; have hcb := bcell hbb; have hzb := hbb.size; (try simp at hzb); have hva := VarsAt.of_own hown)))
  refine wp_name fun W0 hW0 => ?_
  have hb0 : Below w.heap.size w W0 := by rw [hW0]; exact belA
  have hz0 : w.heap.size + 5 ≤ W0.heap.size := by rw [hW0]; exact hzb
  have p0 : W0.cell? ⟨w.heap.size + 4, 0, none⟩ = some (.map (some (w.heap.size + 1))) := by rw [hW0]; go_simp
  have p1 : W0.cell? ⟨w.heap.size + 4, 1, none⟩ = some (.map (some (w.heap.size + 2))) := by rw [hW0]; go_simp
  have p2 : W0.cell? ⟨w.heap.size + 4, 2, none⟩ = some (.map (some (w.heap.size + 3))) := by rw [hW0]; go_simp
  have p3 : W0.cell? ⟨w.heap.size + 4, 3, none⟩ = some (.slice A cs.length cap) := by rw [hW0]; go_simp
  have hva0 : Off (w.heap.size + 5) none W0 (fun W => VarsAt W L Av cv) := by rw [hW0]; have := VarsAt.off_own' hown; simpa using this
  have hms : MapE Tryd.prog 9 (plainElem Tryd.prog 21) okS klS okI (Lit.int .i32) 0 W0 (w.heap.size + 1) 0 (fun _ => none) 0 := by
    rw [hW0]
    refine MapE.bel ?_ hbb
    have h1 := MapE.made (P := Tryd.prog) (k := 9) (R := plainElem Tryd.prog 21) (ok := okS) (kl := klS) (okv := okI) (vl := Lit.int .i32) (z := (0 : Int)) (i32_wf (by unfold I32; omega)) (w.alloc (.cells #[.string p.name, .slice A1 p.ins.length c1, .slice A2 p.outs.length c2, .slice A3 p.locals.length c3, .slice A4 p.eqs.length c4] 25))
    have h2 := h1.bel (bel_alloc (bel_alloc (bel_alloc (Below.refl _ _) (.map #[] 0)) (.map #[] 0)) (.cells #[.map (some (w.heap.size + 1)), .map (some (w.heap.size + 1 + 1)), .map (some (w.heap.size + 1 + 1 + 1)), .slice A cs.length cap] 74))
    simpa using h2
  have hmt : MapE Tryd.prog 9 clkR okS klS okC klC (0, ⟨#[]⟩) W0 (w.heap.size + 2) 0 (fun _ => none) 0 := by
    rw [hW0]
    refine MapE.bel ?_ hbb
    have h1 := MapE.made (P := Tryd.prog) (k := 9) (R := clkR) (ok := okS) (kl := klS) (okv := okC) (vl := klC) (z := ((0 : Int), (⟨#[]⟩ : ByteArray))) ⟨by unfold I64; omega, by decide⟩ ((w.alloc (.cells #[.string p.name, .slice A1 p.ins.length c1, .slice A2 p.outs.length c2, .slice A3 p.locals.length c3, .slice A4 p.eqs.length c4] 25)).alloc (.map #[] 0))
    have h2 := h1.bel (bel_alloc (bel_alloc (Below.refl _ _) (.map #[] 0)) (.cells #[.map (some (w.heap.size + 1)), .map (some (w.heap.size + 1 + 1)), .map (some (w.heap.size + 1 + 1 + 1)), .slice A cs.length cap] 74))
    simpa using h2
  have hmf : MapE Tryd.prog 58 (plainElem Tryd.prog 21) okC klC okI (Lit.int .i32) 0 W0 (w.heap.size + 3) 0 (fun _ => none) 0 := by
    rw [hW0]
    refine MapE.bel ?_ hbb
    have h1 := MapE.made (P := Tryd.prog) (k := 58) (R := plainElem Tryd.prog 21) (ok := okC) (kl := klC) (okv := okI) (vl := Lit.int .i32) (z := (0 : Int)) (i32_wf (by unfold I32; omega)) (((w.alloc (.cells #[.string p.name, .slice A1 p.ins.length c1, .slice A2 p.outs.length c2, .slice A3 p.locals.length c3, .slice A4 p.eqs.length c4] 25)).alloc (.map #[] 0)).alloc (.map #[] 0))
    have h2 := h1.bel (bel_alloc (Below.refl _ _) (.cells #[.map (some (w.heap.size + 1)), .map (some (w.heap.size + 1 + 1)), .map (some (w.heap.size + 1 + 1 + 1)), .slice A cs.length cap] 74))
    simpa using h2
  have hcs0 := HCS.out.later hb0
  have hll := hva0.here.len
  unfold maxLen at hll
  obtain ⟨hll1, hll2⟩ := hll
  clear hW0 hown hva hcb hbb hzb hvars hmm
  have HF0 := Lib.hid hmf
  have HC0 := Lib.hid hcs0
  clear hmf hcs0
  go_loopw [19] (fun i wr => ∃ k : Nat, k ≤ L.length ∧ i = .int .i64 k ∧ Hid (MapE Tryd.prog 9 (plainElem Tryd.prog 21) okS klS okI (Lit.int .i32) 0 wr (w.heap.size + 1) k (slotM (L.take k)) k) ∧
      Hid (MapE Tryd.prog 9 clkR okS klS okC klC (0, ⟨#[]⟩) wr (w.heap.size + 2) k (clkM2 (L.take k)) k) ∧ Hid (Chg (w.heap.size + 1) (w.heap.size + 2) none W0 wr)) (fun i _ => L.length - (intOf i).toNat)
  case atStart => exact ⟨0, Nat.zero_le _, rfl, Lib.hid hms, Lib.hid hmt, Lib.hid (Chg.bel (Below.refl _ _))⟩
  case round =>
    obtain ⟨k, hk, rfl, hms', hmt', hch⟩ := hrel
    have hzc := hch.out.size
    have q0 : wr.cell? ⟨w.heap.size + 4, 0, none⟩ = some (.map (some (w.heap.size + 1))) := cell_block (hch.out.block (w.heap.size + 4) (by omega) (by omega) (by omega) (by simp)) p0
    have q1 : wr.cell? ⟨w.heap.size + 4, 1, none⟩ = some (.map (some (w.heap.size + 2))) := cell_block (hch.out.block (w.heap.size + 4) (by omega) (by omega) (by omega) (by simp)) p1
    by_cases hlt : k < L.length
    · have hx : L[k]? = some L[k] := List.getElem?_eq_getElem hlt
      have hmem : L[k] ∈ L := List.getElem_mem hlt
      have htk : L.take (k + 1) = L.take k ++ [L[k]] := by rw [List.take_succ_eq_append_getElem hlt]
      generalize L[k] = x at hx hmem htk
      have hvr : VarsAt wr L Av cv := hva0 wr fun b h1 h2 _ => hch.out.block b h2 (by omega) (by omega) (by simp)
      obtain ⟨b, off, rfl, hbb, ⟨d0, d1, d2, d3⟩⟩ := hvr.get hx
      have hsx := HS.out x hmem
      have HNW := Lib.hid (names_new HN.out hx)
      have HTK := Lib.hid htk
      have hkw : IntKind.i32.wrap (k : Int) = (k : Int) := w32_same (by unfold I32; omega)
      clear hx hmem htk hvr p0 p1 p2 p3 hms hmt
      go_wp2_with fail
      refine wp_name fun W1 hW1 => ?_
      have hb1 : Below wr.heap.size wr W1 := by rw [hW1]; exact belA
      have hz1 : wr.heap.size + 1 = W1.heap.size := by rw [hW1]; simp
      have x0 : W1.cell? ⟨wr.heap.size, 0, none⟩ = some (.string x.name) := by rw [hW1]; go_simp
      have x2 : W1.cell? ⟨wr.heap.size, 2, none⟩ = some (.int .i64 x.ck) := by rw [hW1]; go_simp
      have x3 : W1.cell? ⟨wr.heap.size, 3, none⟩ = some (.string x.cn) := by rw [hW1]; go_simp
      have c0 := bel_cell hb1 q0
      have c1 := bel_cell hb1 q1
      have hB1 : w.heap.size + 1 < W1.heap.size := by omega
      have hB2 : w.heap.size + 2 < W1.heap.size := by omega
      obtain ⟨v0, st, o0, o1, o2, h0, hme, hes, hup, hfs⟩ := MapE.steps (keyS Tryd.underlying9) (string_law Tryd.underlying9) (valInt Tryd.underlying21) Tryd.underlying70 (fun u => zeroI32 u) (hms'.out.bel hb1) hsx.1 (by omega) (v := (k : Int)) (i32_wf (by unfold I32; omega))
      obtain ⟨v1, st1, u0, u1, u2, g0, gme, ges, gup, gfs⟩ := MapE.steps (keyS Tryd.underlying9) (string_law Tryd.underlying9) valClk Tryd.underlying71 (fun u => zeroClk u) (hmt'.out.bel hb1) hsx.1 (by omega) (v := (x.ck, x.cn)) hsx.2
      unfold kvC at ges
      dsimp only at hes ges
      have a1 := hme W1.drew h0
      have b1 := gme W1.drew g0
      have a2 := hme (setBlock W1.drew (w.heap.size + 2) u1) ((setBlock_other _ _ _ _ (by omega)).trans h0)
      have b2 := gme (setBlock W1.drew (w.heap.size + 1) o1) ((setBlock_other _ _ _ _ (by omega)).trans g0)
      have kA1 : (setBlock (setBlock W1.drew (w.heap.size + 1) o1) (w.heap.size + 2) u1).heap[w.heap.size + 1]? = some o1 := (setBlock_other _ _ _ _ (by omega)).trans (setBlock_same _ _ _ hB1)
      have kA2 : (setBlock (setBlock W1.drew (w.heap.size + 1) o1) (w.heap.size + 2) u1).heap[w.heap.size + 2]? = some u1 := setBlock_same _ _ _ (by rw [setBlock_size]; exact hB2)
      have kB2 : (setBlock (setBlock W1.drew (w.heap.size + 2) u1) (w.heap.size + 1) o1).heap[w.heap.size + 2]? = some u1 := (setBlock_other _ _ _ _ (by omega)).trans (setBlock_same _ _ _ hB2)
      have kB1 : (setBlock (setBlock W1.drew (w.heap.size + 2) u1) (w.heap.size + 1) o1).heap[w.heap.size + 1]? = some o1 := setBlock_same _ _ _ (by rw [setBlock_size]; exact hB1)
      have s1 := hes _ kA1
      have s2 := ges _ kA2
      have s3 := hes _ kB1
      have s4 := ges _ kB2
      have s5 := hes (setBlock (setBlock (setBlock W1.drew (w.heap.size + 1) o1) (w.heap.size + 2) u1) (w.heap.size + 2) u2) ((setBlock_other _ _ _ _ (by omega)).trans kA1)
      have s6 := ges (setBlock (setBlock (setBlock W1.drew (w.heap.size + 1) o1) (w.heap.size + 2) u1) (w.heap.size + 1) o2) ((setBlock_other _ _ _ _ (by omega)).trans kA2)
      have s7 := hes (setBlock (setBlock (setBlock W1.drew (w.heap.size + 2) u1) (w.heap.size + 1) o1) (w.heap.size + 2) u2) ((setBlock_other _ _ _ _ (by omega)).trans kB1)
      have s8 := ges (setBlock (setBlock (setBlock W1.drew (w.heap.size + 2) u1) (w.heap.size + 1) o1) (w.heap.size + 1) o2) ((setBlock_other _ _ _ _ (by omega)).trans kB2)
      have m1 : (setBlock W1.drew (w.heap.size + 1) o1).heap[w.heap.size + 1]? = some o1 := setBlock_same _ _ _ hB1
      have m2 : (setBlock W1.drew (w.heap.size + 2) u1).heap[w.heap.size + 2]? = some u1 := setBlock_same _ _ _ hB2
      have s9 := hes _ m1
      have s10 := ges _ m2
      have m3 : (setBlock (setBlock W1.drew (w.heap.size + 1) o1) (w.heap.size + 1) o2).heap[w.heap.size + 2]? = some u0 := (setBlock_other _ _ _ _ (by omega)).trans ((setBlock_other _ _ _ _ (by omega)).trans g0)
      have m4 : (setBlock (setBlock W1.drew (w.heap.size + 2) u1) (w.heap.size + 2) u2).heap[w.heap.size + 1]? = some o0 := (setBlock_other _ _ _ _ (by omega)).trans ((setBlock_other _ _ _ _ (by omega)).trans h0)
      have s11 := gme _ m3
      have s12 := hme _ m4
      have s13 := ges (setBlock (setBlock (setBlock W1.drew (w.heap.size + 1) o1) (w.heap.size + 1) o2) (w.heap.size + 2) u1) (setBlock_same _ _ _ (by rw [setBlock_size, setBlock_size]; exact hB2))
      have s14 := hes (setBlock (setBlock (setBlock W1.drew (w.heap.size + 2) u1) (w.heap.size + 2) u2) (w.heap.size + 1) o1) (setBlock_same _ _ _ (by rw [setBlock_size, setBlock_size]; exact hB1))
      have HS1 := Lib.hid (fun (w' : World) (hw : ∀ b o, b ≠ w.heap.size + 1 → b ≠ w.heap.size + 2 → w'.cell? ⟨b, o, none⟩ = W1.cell? ⟨b, o, none⟩) =>
        (⟨(hw _ _ (by omega) (by omega)).trans c0, (hw _ _ (by omega) (by omega)).trans c1, (hw _ _ (by omega) (by omega)).trans x0, (hw _ _ (by omega) (by omega)).trans x2, (hw _ _ (by omega) (by omega)).trans x3⟩ :
          w'.cell? ⟨w.heap.size + 4, 0, none⟩ = some (.map (some (w.heap.size + 1))) ∧ w'.cell? ⟨w.heap.size + 4, 1, none⟩ = some (.map (some (w.heap.size + 2))) ∧ w'.cell? ⟨wr.heap.size, 0, none⟩ = some (.string x.name) ∧ w'.cell? ⟨wr.heap.size, 2, none⟩ = some (.int .i64 x.ck) ∧ w'.cell? ⟨wr.heap.size, 3, none⟩ = some (.string x.cn)))
      have HFS := Lib.hid hfs
      have GFS := Lib.hid gfs
      clear hme hes gme ges hup gup h0 g0 m1 m2 m3 m4 kA1 kA2 kB1 kB2 hfs gfs hW1 q0 q1 d0 d1 d2 d3
      go_region_held3 (fun w' => w'.cell? ⟨w.heap.size + 4, 0, none⟩ = some (.map (some (w.heap.size + 1))) ∧ w'.cell? ⟨w.heap.size + 4, 1, none⟩ = some (.map (some (w.heap.size + 2))) ∧ w'.cell? ⟨wr.heap.size, 0, none⟩ = some (.string x.name) ∧ w'.cell? ⟨wr.heap.size, 2, none⟩ = some (.int .i64 x.ck) ∧ w'.cell? ⟨wr.heap.size, 3, none⟩ = some (.string x.cn))
        (exact HS1.out _ (fun b o n1 n2 => by (repeat (first | rw [setBlock_cell _ _ _ _ _ n1] | rw [setBlock_cell _ _ _ _ _ n2])); first | done | rfl)) (fail)
      all_goals
        refine exit_name fun W2 hW2 => ?_
        have k1 : W2.heap[w.heap.size + 1]? = some o2 := by
          rw [hW2]
          repeat (first | exact setBlock_same _ _ _ (by simp only [setBlock_size]; exact hB1) | refine (setBlock_other _ _ _ _ (by omega)).trans ?_)
        have k2 : W2.heap[w.heap.size + 2]? = some u2 := by
          rw [hW2]
          repeat (first | exact setBlock_same _ _ _ (by simp only [setBlock_size]; exact hB2) | refine (setBlock_other _ _ _ _ (by omega)).trans ?_)
        have hc2 : Chg (w.heap.size + 1) (w.heap.size + 2) none W1 W2 := by
          rw [hW2]
          refine ⟨rfl, rfl, rfl, ?_, fun j hj n1 n2 _ => ?_⟩
          · simp only [setBlock_size]; exact Nat.le_refl _
          · repeat (refine (setBlock_other _ _ _ _ (by assumption)).trans ?_)
            rfl
        have hz2 := hc2.size
        have hnone := slotM_none x.name (L.take k) HNW.out
        have hnone2 := clkM2_none x.name (L.take k) HNW.out
        have r1 := HFS.out W2 k1 (slotM (L.take (k + 1))) (by rw [HTK.out, slotM_snoc, if_pos rfl, List.length_take]; congr 2; omega) (fun y _ hy => by rw [HTK.out, slotM_snoc, if_neg (fun he => hy (by ext1; exact he))])
        have r2 := GFS.out W2 k2 (clkM2 (L.take (k + 1))) (by rw [HTK.out, clkM2_snoc, if_pos rfl]) (fun y _ hy => by rw [HTK.out, clkM2_snoc, if_neg (fun he => hy (by ext1; exact he))])
        rw [hnone] at r1
        rw [hnone2] at r2
        have R1 := Lib.hid r1
        have R2 := Lib.hid r2
        have R3 := Lib.hid ((hch.out.trans (Chg.bel hb1) (.inl rfl)).trans hc2 (.inl rfl))
        clear hW2 k1 k2 hc2 hnone hnone2 r1 r2 a1 a2 b1 b2 s1 s2 s3 s4 s5 s6 s7 s8 s9 s10 s11 s12 s13 s14
        go_wp2_with fail
        go_roundw
        case rel => exact ⟨k + 1, by omega, by go_num, R1, R2, R3⟩
        case measure => simp [intOf]; omega
    · obtain rfl : k = L.length := by omega
      obtain ⟨Wa, rfl⟩ : ∃ Wa, Wa = wr := ⟨wr, rfl⟩
      have hs1 := hms'.out
      have ht1 := hmt'.out
      rw [List.take_length] at hs1 ht1
      have HS1 := Lib.hid hs1
      have HT1 := Lib.hid ht1
      have HF1 := Lib.hid (HF0.out.keep1 (hch.out.block (w.heap.size + 3) (by omega) (by omega) (by omega) (by simp)))
      have q2 : Wa.cell? ⟨w.heap.size + 4, 2, none⟩ = some (.map (some (w.heap.size + 3))) := cell_block (hch.out.block (w.heap.size + 4) (by omega) (by omega) (by omega) (by simp)) p2
      have q3 : Wa.cell? ⟨w.heap.size + 4, 3, none⟩ = some (.slice A cs.length cap) := cell_block (hch.out.block (w.heap.size + 4) (by omega) (by omega) (by omega) (by simp)) p3
      have hbw : Below w.heap.size w Wa := chg_below (base := 0) hb0 hch.out (by omega) (by omega) (by simp)
      clear hs1 ht1 hms hmt p0 p1 p2 p3 hva0 hms' hmt'
      go_wp2_with fail
      go_loopw [47] (fun i wr => ∃ (k c : Nat), k ≤ cs.length ∧ i = .int .i64 k ∧ Hid (MapE Tryd.prog 58 (plainElem Tryd.prog 21) okC klC okI (Lit.int .i32) 0 wr (w.heap.size + 3) k (flagM (cs.take k)) c) ∧ Hid (Wa.grownBy wr (some (w.heap.size + 3)))) (fun i _ => cs.length - (intOf i).toNat)
      case atStart => exact ⟨0, 0, Nat.zero_le _, rfl, HF1, Lib.hid ⟨rfl, rfl, rfl, Nat.le_refl _, fun _ _ _ => rfl⟩⟩
      case round =>
        obtain ⟨k, c, hk2, rfl, hmf', hgr⟩ := hrel
        have hzg := hgr.out.size
        have hbr : Below w.heap.size w wr := bel_grown hbw hgr.out (fun b hb => by injection hb with hb; omega) (by omega)
        have z2 : wr.cell? ⟨w.heap.size + 4, 2, none⟩ = some (.map (some (w.heap.size + 3))) := cell_block (hgr.out.block (w.heap.size + 4) (by omega) (by intro he; injection he with he; omega)) q2
        by_cases hlt2 : k < cs.length
        · have hx : cs[k]? = some cs[k] := List.getElem?_eq_getElem hlt2
          have hmem : cs[k] ∈ cs := List.getElem_mem hlt2
          have htk : cs.take (k + 1) = cs.take k ++ [cs[k]] := by rw [List.take_succ_eq_append_getElem hlt2]
          generalize cs[k] = x at hx hmem htk
          obtain ⟨b, off, rfl, hcc⟩ := (HCS.out.later hbr).2.2.2 (by omega)
          have hat := cesC_at cs k x hx
          have d0 : wr.cell? ⟨b, off + k * 4, none⟩ = some (.string x.name) := hcc _ _ hat.1
          have d1 : wr.cell? ⟨b, off + k * 4 + 1, none⟩ = some (.int .i64 x.ck) := hcc _ _ hat.2.1
          have d2 : wr.cell? ⟨b, off + k * 4 + 2, none⟩ = some (.string x.cn) := hcc _ _ hat.2.2.1
          have d3 : wr.cell? ⟨b, off + k * 4 + 3, none⟩ = some (.int .i32 x.first) := hcc _ _ hat.2.2.2
          have hsx := HCL.out x hmem
          have HTK := Lib.hid htk
          have hkw : IntKind.i32.wrap (k : Int) = (k : Int) := w32_same (by unfold I32; omega)
          clear hx hmem htk hcc hat q2 q3
          cases hnm : x.name.toList.isEmpty
          · have R1 := Lib.hid (hmf'.out.same (g := flagM (cs.take (k + 1))) (fun d _ => by rw [HTK.out, flagM_snoc, if_neg (fun he => by rw [hnm] at he; cases he.1)]))
            go_wp2_with fail
            go_roundw
            case rel => exact ⟨k + 1, c, by omega, by go_num, Lib.hid ((R1.out.keep1 (by rw [heap_alloc_old _ _ (by omega)])).more (by omega)), Lib.hid (grownT hgr.out (World.grownBy_alloc wr _ _))⟩
            case measure => simp [intOf]; omega
          · go_wp2_with fail
            refine wp_name fun W1 hW1 => ?_
            have hb1 : Below wr.heap.size wr W1 := by rw [hW1]; exact belA
            have hz1 : wr.heap.size + 1 = W1.heap.size := by rw [hW1]; simp
            have x1 : W1.cell? ⟨wr.heap.size, 1, none⟩ = some (.int .i64 x.ck) := by rw [hW1]; go_simp
            have x2 : W1.cell? ⟨wr.heap.size, 2, none⟩ = some (.string x.cn) := by rw [hW1]; go_simp
            have c2' := bel_cell hb1 z2
            have hB3 : w.heap.size + 3 < W1.heap.size := by omega
            obtain ⟨v0, st, o0, o1, o2, h0, hme, hes, hup, hfs⟩ := MapE.steps keyC keyC_law (valInt Tryd.underlying21) Tryd.underlying72 (fun u => zeroI32 u) (hmf'.out.bel hb1) hsx (by omega) (v := (k : Int)) (i32_wf (by unfold I32; omega))
            unfold kvC at hup
            dsimp only at hup
            have a1 := hup W1.drew h0
            have HFS := Lib.hid hfs
            have HS2 := Lib.hid (fun (w' : World) (hw : ∀ b o, b ≠ w.heap.size + 3 → w'.cell? ⟨b, o, none⟩ = W1.cell? ⟨b, o, none⟩) =>
              (⟨(hw _ _ (by omega)).trans c2', (hw _ _ (by omega)).trans x1, (hw _ _ (by omega)).trans x2⟩ :
                w'.cell? ⟨w.heap.size + 4, 2, none⟩ = some (.map (some (w.heap.size + 3))) ∧ w'.cell? ⟨wr.heap.size, 1, none⟩ = some (.int .i64 x.ck) ∧ w'.cell? ⟨wr.heap.size, 2, none⟩ = some (.string x.cn)))
            clear hme hes hup h0 hfs hW1 z2 d0 d1 d2 d3
            go_region_held3 (fun w' => w'.cell? ⟨w.heap.size + 4, 2, none⟩ = some (.map (some (w.heap.size + 3))) ∧ w'.cell? ⟨wr.heap.size, 1, none⟩ = some (.int .i64 x.ck) ∧ w'.cell? ⟨wr.heap.size, 2, none⟩ = some (.string x.cn))
              (exact HS2.out _ (fun b o n1 => by (repeat (rw [setBlock_cell _ _ _ _ _ n1])); first | done | rfl)) (fail)
            all_goals
              refine exit_name fun W2 hW2 => ?_
              have k1 : W2.heap[w.heap.size + 3]? = some o2 := by rw [hW2]; exact setBlock_same _ _ _ hB3
              have hg2 : W1.grownBy W2 (some (w.heap.size + 3)) := by rw [hW2]; exact grownT (grow_bel (bel_drew (Below.refl _ _))) (setBlock_grown W1.drew _ _)
              have hz2 := hg2.size
              have r1 := HFS.out W2 k1 (flagM (cs.take (k + 1))) (by rw [HTK.out, flagM_snoc, if_pos ⟨hnm, rfl, rfl⟩, List.length_take]; congr 2; omega) (fun y _ hy => by rw [HTK.out, flagM_snoc, if_neg (fun he => hy (Prod.ext he.2.1 (by ext1; exact he.2.2)))])
              have R1 := Lib.hid r1
              have R2 := Lib.hid (grownT hgr.out (grownT (grow_bel hb1) hg2))
              clear hW2 k1 hg2 r1 a1
              go_wp2_with fail
              go_roundw
              case rel => exact ⟨k + 1, _, by omega, by go_num, R1, R2⟩
              case measure => simp [intOf]; omega
        · obtain rfl : k = cs.length := by omega
          have hf1 := hmf'.out
          rw [List.take_length] at hf1
          have z0 : wr.cell? ⟨w.heap.size + 4, 0, none⟩ = some (.map (some (w.heap.size + 1))) := cell_block (hgr.out.block (w.heap.size + 4) (by omega) (by intro he; injection he with he; omega)) q0
          have z1 : wr.cell? ⟨w.heap.size + 4, 1, none⟩ = some (.map (some (w.heap.size + 2))) := cell_block (hgr.out.block (w.heap.size + 4) (by omega) (by intro he; injection he with he; omega)) q1
          have z3 : wr.cell? ⟨w.heap.size + 4, 3, none⟩ = some (.slice A cs.length cap) := cell_block (hgr.out.block (w.heap.size + 4) (by omega) (by intro he; injection he with he; omega)) q3
          have R0 := HS1.out.keep1 (hgr.out.block (w.heap.size + 1) (by omega) (by intro he; injection he with he; omega))
          have R1 := HT1.out.keep1 (hgr.out.block (w.heap.size + 2) (by omega) (by intro he; injection he with he; omega))
          have HR := Lib.hid (⟨z0, z1, z2, z3, R0, R1, ⟨c, hf1⟩⟩ : LayAt wr (w.heap.size + 4) (w.heap.size + 1) (w.heap.size + 2) (w.heap.size + 3) L cs A cap)
          clear hf1 z0 z1 z2 z3 R0 R1 q0 q1 q2 q3 hmf'
          go_wp2_with fail
          go_ret
          exact ⟨⟨_, _, _, _, rfl, HR.out⟩, hbr⟩
end Go.Proofs.YtknfcamdfdfoeaaDoor

/- Walks over gen's expr and its closure: the closure. -/
namespace Go.Proofs.YtknfcamdfdfoeaaDoor
open Go.RowKit Go.Sort Go.Maps

/-- The contract of gen's expr at an expression. -/
def ExprP (X Bs Bf : Nat) (sl : ByteArray → Int) (fl : Int × ByteArray → Int) (x : Ex) : Prop := ∀ (A : Option Addr) (cap : Nat) (ck : Int) (cs : ByteArray) (w : World), PlanAt w X Bs Bf sl fl → SubsAt w x A cap → okC (ck, cs) →
  Calls Tryd.prog 17 #[.pointer (some ⟨X, 0, none⟩), exV x A cap, .agg #[.int .i64 ck, .string cs]] w (CodeAt w (x.gen sl fl (ck, cs)))

/-- What the closure holds: the plan, the expression's parts, the clock. -/
structure HeldAt (W : World) (bp be bc X : Nat) (A : Option Addr) (len cap : Nat) (ck : Int) (cs : ByteArray) : Prop where
  p0 : W.cell? ⟨bp, 0, none⟩ = some (.pointer (some ⟨X, 0, none⟩))
  e3 : W.cell? ⟨be, 3, none⟩ = some (.slice A len cap)
  k0 : W.cell? ⟨bc, 0, none⟩ = some (.int .i64 ck)
  k1 : W.cell? ⟨bc, 1, none⟩ = some (.string cs)
theorem HeldAt.later {W W' : World} {bp be bc X : Nat} {A : Option Addr} {len cap : Nat} {ck : Int} {cs : ByteArray} (h : HeldAt W bp be bc X A len cap ck cs) (hb : Below W.heap.size W W') : HeldAt W' bp be bc X A len cap ck cs :=
  ⟨bel_cell hb h.p0, bel_cell hb h.e3, bel_cell hb h.k0, bel_cell hb h.k1⟩

set_option maxHeartbeats 4000000 in
theorem part_any (X Bs Bf : Nat) (sl : ByteArray → Int) (fl : Int × ByteArray → Int) (e x : Ex) (i : Nat) (hx : e.sub[i]? = some x) (ih : ExprP X Bs Bf sl fl x) (bp be bc : Nat) (A : Option Addr) (cap : Nat) (ck : Int) (cs : ByteArray) (w : World)
    (hh : HeldAt w bp be bc X A e.sub.length cap ck cs) (hp : PlanAt w X Bs Bf sl fl) (he : SubsAt w e A cap) (hc : okC (ck, cs)) :
    Calls Tryd.prog 27 #[.int .i64 i, .pointer (some ⟨bp, 0, none⟩), .pointer (some ⟨be, 0, none⟩), .pointer (some ⟨bc, 0, none⟩)] w (CodeAt w (x.gen sl fl (ck, cs))) := by
  obtain ⟨p0, e3, k0, k1⟩ := hh
  have hlt : i < e.sub.length := (List.getElem?_eq_some_iff.1 hx).1
  obtain ⟨hl1, hl2⟩ := he.len
  unfold maxLen at hl2
  obtain ⟨b, off, A', cap', rfl, c0, c1, c2, c3, hs⟩ := he.get hx
  have hbp := block_lt_of_cell p0
  have hbe := block_lt_of_cell e3
  have hbc := block_lt_of_cell k0
  have hbb := block_lt_of_cell c0
  have hih := ih A' cap' ck cs w.drew (hp.later (bel_drew (Below.refl _ _))) (hs.later (bel_drew (Below.refl _ _))) hc
  unfold exV at hih
  have HIH := Lib.hid hih
  clear hx he hs hih ih hp hc
  go_enter Tryd.func27, Tryd.ntmps27
  go_wp2_with fail
  go_region_law (go_simp; go_wp2_with (go_at_call 17; go_loud (refine HIH.out.mono ?_; rintro r w1 ⟨⟨A1, c1', rfl, hi1⟩, hb1⟩)))
  all_goals
    go_wp2_with fail
    go_ret
    exact ⟨⟨_, _, rfl, hi1⟩, (bel_drew (Below.refl _ _)).trans (hb1.mono (by simp))⟩
end Go.Proofs.YtknfcamdfdfoeaaDoor

/- Walks over gen's expr: variables, literals, delays by a number. -/
namespace Go.Proofs.YtknfcamdfdfoeaaDoor
open Go.RowKit Go.Sort Go.Maps

theorem PlanAt.drew {W : World} {X Bs Bf : Nat} {sl : ByteArray → Int} {fl : Int × ByteArray → Int} (h : PlanAt W X Bs Bf sl fl) : PlanAt W.drew X Bs Bf sl fl := h.later (bel_drew (Below.refl _ _))

/-- The closure at the part i. -/
theorem part_at {X Bs Bf : Nat} {sl : ByteArray → Int} {fl : Int × ByteArray → Int} {e x : Ex} {i : Nat} (hx : e.sub[i]? = some x) (ih : ∀ x ∈ e.sub, ExprP X Bs Bf sl fl x) {bp be bc : Nat} {A : Option Addr} {cap : Nat} {ck : Int} {cs : ByteArray} {w0 : World}
    (hh : HeldAt w0 bp be bc X A e.sub.length cap ck cs) (hp : PlanAt w0 X Bs Bf sl fl) (he : SubsAt w0 e A cap) (hc : okC (ck, cs)) : Hid (∀ w, Below w0.heap.size w0 w →
    Calls Tryd.prog 27 #[.int .i64 i, .pointer (some ⟨bp, 0, none⟩), .pointer (some ⟨be, 0, none⟩), .pointer (some ⟨bc, 0, none⟩)] w (CodeAt w (x.gen sl fl (ck, cs)))) :=
  Lib.hid fun w hb => part_any X Bs Bf sl fl e x i hx (ih x (List.mem_of_getElem? hx)) bp be bc A cap ck cs w (hh.later hb) (hp.later hb) (he.later hb) hc

section
variable (X Bs Bf : Nat) (sl : ByteArray → Int) (fl : Int × ByteArray → Int) (e : Ex)

set_option maxHeartbeats 4000000 in
theorem expr3 (hk : e.kind = 3) (hok : okS e.name) : ExprP X Bs Bf sl fl e := by
  intro A cap ck cs w hp he hc
  obtain ⟨hl1, hl2⟩ := he.len
  unfold maxLen at hl2
  have hv : e.gen sl fl (ck, cs) = [(2, sl e.name)] := by rw [Ex.gen_eq]; unfold genK; simp [hk]
  rw [hv]
  have t3 : (e.kind == 3) = true := by simpa using hk
  have HP := Lib.hid hp
  unfold exV
  clear hk hv hp he hc
  have hmf : ∀ (fn : Fn) (first cap : Array Value) (w : World), (Instr.makeFunc fn first cap).run Tryd.prog w = .ok (.func fn first cap) w := fun _ _ _ _ => rfl
  go_enter Tryd.func17, Tryd.ntmps17
  go_wp2_with fail
  refine wp_name fun W0 hW0 => ?_
  have hb0 : Below w.heap.size w W0 := by rw [hW0]; exact belA
  have hz0 : W0.heap.size = w.heap.size + 3 := by rw [hW0]; simp
  have p0 : W0.cell? ⟨w.heap.size, 0, none⟩ = some (.pointer (some ⟨X, 0, none⟩)) := by rw [hW0]; go_simp
  have e0 : W0.cell? ⟨w.heap.size + 1, 0, none⟩ = some (.int .i64 e.kind) := by rw [hW0]; go_simp
  have e1 : W0.cell? ⟨w.heap.size + 1, 1, none⟩ = some (.int .i32 e.n) := by rw [hW0]; go_simp
  have e2 : W0.cell? ⟨w.heap.size + 1, 2, none⟩ = some (.string e.name) := by rw [hW0]; go_simp
  have e3 : W0.cell? ⟨w.heap.size + 1, 3, none⟩ = some (.slice A e.sub.length cap) := by rw [hW0]; go_simp
  have k0 : W0.cell? ⟨w.heap.size + 2, 0, none⟩ = some (.int .i64 ck) := by rw [hW0]; go_simp
  have k1 : W0.cell? ⟨w.heap.size + 2, 1, none⟩ = some (.string cs) := by rw [hW0]; go_simp
  have hy0 : w.heap.size < W0.heap.size := by omega
  have hy1 : w.heap.size + 1 < W0.heap.size := by omega
  have hy2 : w.heap.size + 2 < W0.heap.size := by omega
  have hz : w.heap.size ≤ W0.heap.size := by omega
  clear hW0 hmf hz0
  have hp0 := HP.out.later hb0
  obtain ⟨c0, c2, ⟨n, f, c, hm, hf⟩, _⟩ := hp0
  have hX : X < W0.heap.size := block_lt_of_cell c0
  have hlk := run_lkG (w := W0.drew) (keyS Tryd.underlying9) (x := .string e.name) Tryd.underlying70 Tryd.underlying21 (zeroI32 _) rfl hm.drew hok (hf _ hok)
  clear hm hf
  go_region_law (go_simp; go_wp2_with (go_at_call_of 15 (Value.int IntKind.i64 2); go_loud (refine (one_any _ _ _).mono ?_; rintro r w1 ⟨⟨rfl, hown1⟩, hb1⟩; have hi1 := InsAt.one hown1; have hz1 := hb1.size; clear hown1)))
  all_goals
    go_wp2_with fail
    go_ret
    exact ⟨⟨_, _, rfl, by simpa using hi1⟩, hb0.trans (Below.mono ((bel_drew (Below.refl _ _)).trans (hb1.mono (by simp))) (by omega))⟩

set_option maxHeartbeats 4000000 in
theorem expr4 (hk : e.kind = 4) (hs : 0 < e.sub.length) (hsz : e.size ≤ 200000) (ih : ∀ x ∈ e.sub, ExprP X Bs Bf sl fl x) : ExprP X Bs Bf sl fl e := by
  intro A cap ck cs w hp he hc
  obtain ⟨hl1, hl2⟩ := he.len
  unfold maxLen at hl2
  have hx : e.sub[0]? = some e.sub[0] := List.getElem?_eq_getElem hs
  generalize e.sub[0] = x at hx
  have hw : withC e.kind e.name (ck, cs) 0 = (ck, cs) := by unfold withC; simp [hk]
  have hv : e.gen sl fl (ck, cs) = x.gen sl fl (ck, cs) ++ [(8, e.n)] := by
    rw [Ex.gen_eq, genK, if_neg (by omega), if_pos hk, Ex.genL_get sl fl e.kind e.name (ck, cs) e.sub 0 0 x hx, hw]
  have hgl := Ex.gen_len sl fl e (ck, cs)
  rw [hv] at hgl ⊢
  have t3 : (e.kind == 3) = false := by simp [hk]
  have t4 : (e.kind == 4) = true := by simpa using hk
  have HP := Lib.hid hp
  have HE := Lib.hid he
  have HX := Lib.hid hx
  have HC := Lib.hid hc
  unfold exV
  have HG := Lib.hid hgl
  clear hk hv hp he hc hw hx hgl
  have hmf : ∀ (fn : Fn) (first cap : Array Value) (w : World), (Instr.makeFunc fn first cap).run Tryd.prog w = .ok (.func fn first cap) w := fun _ _ _ _ => rfl
  go_enter Tryd.func17, Tryd.ntmps17
  go_wp2_with fail
  refine wp_name fun W0 hW0 => ?_
  have hb0 : Below w.heap.size w W0 := by rw [hW0]; exact belA
  have hz0 : W0.heap.size = w.heap.size + 3 := by rw [hW0]; simp
  have p0 : W0.cell? ⟨w.heap.size, 0, none⟩ = some (.pointer (some ⟨X, 0, none⟩)) := by rw [hW0]; go_simp
  have e0 : W0.cell? ⟨w.heap.size + 1, 0, none⟩ = some (.int .i64 e.kind) := by rw [hW0]; go_simp
  have e1 : W0.cell? ⟨w.heap.size + 1, 1, none⟩ = some (.int .i32 e.n) := by rw [hW0]; go_simp
  have e2 : W0.cell? ⟨w.heap.size + 1, 2, none⟩ = some (.string e.name) := by rw [hW0]; go_simp
  have e3 : W0.cell? ⟨w.heap.size + 1, 3, none⟩ = some (.slice A e.sub.length cap) := by rw [hW0]; go_simp
  have k0 : W0.cell? ⟨w.heap.size + 2, 0, none⟩ = some (.int .i64 ck) := by rw [hW0]; go_simp
  have k1 : W0.cell? ⟨w.heap.size + 2, 1, none⟩ = some (.string cs) := by rw [hW0]; go_simp
  have hy0 : w.heap.size < W0.heap.size := by omega
  have hy1 : w.heap.size + 1 < W0.heap.size := by omega
  have hy2 : w.heap.size + 2 < W0.heap.size := by omega
  have hz : w.heap.size ≤ W0.heap.size := by omega
  clear hW0 hmf hz0
  have hp0 := part_at HX.out ih ⟨p0, e3, k0, k1⟩ (HP.out.later hb0) (HE.out.later hb0) HC.out
  have hrow := Lib.hid (fun (g : List (Int × Int)) (hg : g.length ≤ 700000) (A1 : Option Addr) (c1 g2 : Nat) (W : World) (hi1 : InsAt W g A1 c1) (hi2 : InsAt W [(8, e.n)] (some ⟨g2, 0, none⟩) 1) (t : TypeId) =>
    row_any [⟨g, A1, c1⟩, ⟨[(8, e.n)], some ⟨g2, 0, none⟩, 1⟩] (some ⟨W.heap.size, 0, none⟩) 2
      (W.alloc (.cells #[.slice A1 g.length c1, .slice (some ⟨g2, 0, none⟩) 1 1] t))
      (pieces_new rfl fun x hx => by
        simp only [List.mem_cons, List.not_mem_nil, or_false] at hx
        rcases hx with rfl | rfl
        · exact hi1
        · exact hi2)
      (by simp [flatP]; omega) (by simp))
  have hgx : (x.gen sl fl (ck, cs)).length ≤ 700000 := by have := HG.out; rw [List.length_append] at this; omega
  have hfl : ∀ (A1 : Option Addr) (c1 g2 : Nat), flatP [⟨x.gen sl fl (ck, cs), A1, c1⟩, ⟨[(8, e.n)], some ⟨g2, 0, none⟩, 1⟩] = x.gen sl fl (ck, cs) ++ [(8, e.n)] := fun _ _ _ => by simp [flatP]
  have HFL := Lib.hid hfl
  clear hfl
  generalize x.gen sl fl (ck, cs) = g at *
  go_region_law (go_simp; go_wp2_with (first
    | (go_at_call_of 27 (Value.int IntKind.i64 0); go_loud (refine (hp0.out _ belA).mono ?_; rintro r w1 ⟨⟨A1, c1, rfl, hi1⟩, hb1⟩; have d1 := bel_cell hb1 (cel_drew e1); have hz1 := hb1.size))
    | (go_at_call_of 15 (Value.int IntKind.i64 8); go_loud (refine (one_any _ _ _).mono ?_; rintro r w2 ⟨⟨rfl, hown2⟩, hb2⟩; have hi2 := InsAt.one hown2; have hz2 := hb2.size; have d2 := bel_cell hb2 d1; clear hown2))
    | (go_at_call 14; go_loud (refine (hrow.out g hgx _ _ _ w2 (hi1.later hb2) hi2 _).mono ?_; rw [HFL.out]; intro r w4 hcode; obtain ⟨⟨A4, c4, rfl, hat4⟩, hb4⟩ := hcode.at.less (bel_alloc (hb0.trans (Below.mono (Below.trans (bel_drew (Below.refl _ _)) (Below.trans (hb1.mono (by simp)) (hb2.mono hz1))) (by first | omega | simpa using hz))) _); clear hcode))))
  all_goals
    go_wp2_with fail
    go_ret
    exact ⟨⟨A4, c4, by rw [List.length_append]; rfl, hat4⟩, hb4⟩
end
end Go.Proofs.YtknfcamdfdfoeaaDoor
