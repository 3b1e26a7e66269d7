/- Walk over the law StartFixed: it answers true. -/
import Derived.Test.YtikmbkojnfmiaaaDoorRRRRRep9
import Derived.Test.YtikmbkojnfmiaaaDoorRRRRCE
import Derived.Test.YtikmbkojnfmiaaaDoorRRRRCD
import Derived.Test.YtikmbkojnfmiaaaDoorRRRRWFind
import Derived.Test.YtikmbkojnfmiaaaDoorRRRRBU
import Derived.Test.YtikmbkojnfmiaaaDoorRRRRBJ
import Derived.Test.YtikmbkojnfmiaaaDoorRRRRBY
import Derived.Test.YtikmbkojnfmiaaaDoorRRRRWRefVars
set_option linter.unusedVariables false
set_option linter.unusedSimpArgs false
set_option maxRecDepth 100000
namespace Go.Proofs.YtikmbkojnfmiaaaDoorRRRR
open Go.RowKit Go.Sort

theorem fix_ok {p : Pr} (h : PrOK p) : PrOK (fixP p) := by
  refine ⟨h.name, h.ins, h.outs, h.locals, fun q hq => ?_⟩
  obtain ⟨x, hx, rfl⟩ := List.mem_map.1 hq
  have hxo := h.eqs x hx
  unfold fixQ
  split
  · exact hxo
  · have i0 : I64 1 := by unfold I64; omega
    have hs : (⟨#[]⟩ : ByteArray).size ≤ maxLen := by unfold maxLen; show 0 ≤ _; omega
    refine ⟨hxo.1, i0, ?_, hxo.2.2.2⟩
    unfold zeroX
    refine ok_ex _ _ ?_ hs
    split <;> (unfold I64; omega)
theorem truth_cases (L : List Va) (s : ByteArray) : (refFind L s = -1 ∧ truthV L s = false) ∨ ∃ (k : Nat) (v : Va), refFind L s = (k : Int) ∧ L[k]? = some v ∧ truthV L s = (v.type == 2) := by
  unfold refFind truthV
  cases hf : findV L s with
  | none => exact .inl ⟨rfl, rfl⟩
  | some j =>
    obtain ⟨k, v, rfl, hk, _⟩ := findV_some hf
    refine .inr ⟨k, v, rfl, hk, ?_⟩
    dsimp only
    rw [Int.toNat_natCast, hk]
theorem falses_of {V : List Bool} (h : ∀ x ∈ V, x = false) {k : Nat} (hk : k < V.length) : V[k]? = some false := by
  rw [List.getElem?_eq_getElem hk, h _ (List.getElem_mem hk)]
theorem fix_falses (p : Pr) : ∀ x ∈ looseV (fixP p), x = false := by
  intro x hx
  unfold looseV at hx
  split at hx
  · rw [fix_loose] at hx
    obtain ⟨v, _, rfl⟩ := List.mem_map.1 hx
    exact inL_nil _
  · cases hx
theorem vars_cell {w : World} {l : List Va} {b off cap k : Nat} {v : Va} (h : VarsAt w l (some ⟨b, off, none⟩) cap) (hk : l[k]? = some v) : VarCells w b (off + k * 4) v := by
  obtain ⟨b', off', hA, _, hc⟩ := h.get hk
  injection hA with hA
  injection hA with h1 h2
  subst h1 h2
  exact hc


set_option maxHeartbeats 16000000 in
theorem fixed_any (p : Pr) (a : PrA) (w : World) (hg : Always w) (hp : PrAt w p a) (hok : PrOK p) :
    Calls Tryd.prog 3 #[prV p a] w fun r w' => r = .returned (.bool true) ∧ Below w.heap.size w w' := by
  have hlight := fun W h => lightS_any p a W (hp.later h)
  have hlent := Lib.hid (fun (n1 : p.ins.length ≤ 1000000) (n2 : p.outs.length ≤ 1000000) (n3 : p.locals.length ≤ 1000000) (n4 : p.eqs.length ≤ 1000000) (n5 : ∀ q ∈ p.eqs, q.first.size ≤ 1000000 ∧ q.e.size ≤ 1000000) W (h : Below w.heap.size w W) (hz : w.heap.size < W.heap.size) => (lent_own p a W (hp.later h) n1 n2 n3 n4 n5).mono (fun r w' (h : (∃ a' base ls, r = .returned (prV p a') ∧ PrAt w' p a' ∧ LentOwn W.heap.size base ls w' p a') ∧ Below W.heap.size W w') => (⟨h.1.imp fun a' h1 => h1.imp fun base h2 => h2.imp fun ls h3 => ⟨h3.1, h3.2.1, h3.2.2.less hz⟩, h.2⟩ : (∃ a' base ls, r = .returned (prV p a') ∧ PrAt w' p a' ∧ LentOwn (w.heap.size + 1) base ls w' p a') ∧ Below W.heap.size W w')))
  have hvars := Lib.hid (fun (n1 : p.ins.length ≤ 1000000) (n2 : p.outs.length ≤ 1000000) (n3 : p.locals.length ≤ 1000000) W (h : Below w.heap.size w W) => refVars_any p a W (hp.later h) n1 n2 n3)
  have hord := Lib.hid (fun (a' : PrA) (W : World) (h : Below w.heap.size w W) (hpt : PrAt W (fixP p) a') (n1 : p.ins.length ≤ 1000000) (n2 : p.outs.length ≤ 1000000) (n3 : p.locals.length ≤ 1000000) (n4 : (fixP p).eqs.length ≤ 1000000) => order_any (fixP p) a' W (hg.later h) hpt (fix_ok hok) n1 n2 n3 n4)
  have hloo := Lib.hid (fun (a' : PrA) (W : World) (h : Below w.heap.size w W) (hpt : PrAt W (fixP p) a') (n1 : p.ins.length ≤ 1000000) (n2 : p.outs.length ≤ 1000000) (n3 : p.locals.length ≤ 1000000) (n4 : (fixP p).eqs.length ≤ 1000000) => loose_any (fixP p) a' W (hg.later h) hpt (fix_ok hok) n1 n2 n3 n4)
  have hchk := Lib.hid (fun (a' : PrA) (W : World) (h : Below w.heap.size w W) (hpt : PrAt W (fixP p) a') (n1 : p.ins.length ≤ 1000000) (n2 : p.outs.length ≤ 1000000) (n3 : p.locals.length ≤ 1000000) (n4 : (fixP p).eqs.length ≤ 1000000) => scheck_any (fixP p) a' W (hg.later h) hpt (fix_ok hok) n1 n2 n3 n4)
  rw [fix_start] at hchk
  have hfal := fix_falses p
  have hkn := fun W h => known17_any W (hg.later h)
  have hgm : Tryd.prog.eqGuardType Tryd.prog.depth 43 = false := by kernel_rfl
  clear hg hok hp
  obtain ⟨A1, c1, A2, c2, A3, c3, A4, c4⟩ := a
  unfold prV fV at *
  dsimp only at *
  generalize (orderE (fixP p)).2 = F at *
  obtain ⟨f1, f2, f3⟩ := F
  generalize (orderE (fixP p)).1 = OL at *
  generalize looseV (fixP p) = V at *
  dsimp only at *
  have hfq := fun w => eqFaultSelf16 f1 f2 f3 w
  have HFAL := Lib.hid hfal
  have HFQ := Lib.hid hfq
  clear hfal hfq
  go_enter Tryd.func3, Tryd.ntmps3
  go_wp2_with (first
    | (go_at_call 6; go_loud (refine (hlight _ belA).mono ?_; rintro r wl ⟨⟨bl, rfl, hlb⟩, hbl⟩; have hcl := bcell hbl; have hzl := hbl.size; (try simp at hzl); have hyl : w.heap.size < wl.heap.size := (by omega); cases bl))
    | (go_at_call 8; go_loud (have hlb2 := hlb (by trivial); clear hlb; have n1 : p.ins.length ≤ 1000000 := (by omega); have n2 : p.outs.length ≤ 1000000 := (by omega); have n3 : p.locals.length ≤ 1000000 := (by omega); have n4 : p.eqs.length ≤ 1000000 := (by omega); refine (hlent.out n1 n2 n3 n4 hlb2.2.2.2.2 _ belA (by first | exact hyl | (simp; omega))).mono ?_; rintro r wt ⟨⟨⟨B1, k1, B2, k2, B3, k3, B4, k4⟩, base, ls, rfl, hpt, hown⟩, hbt⟩; have hct := bcell hbt; have hft := bfrozen hbt; have hzt := hbt.size; have hyt : w.heap.size < wt.heap.size := (by omega); have hyt2 : w.heap.size < wt.heap.size + 1 := (by omega); have HB4 := Lib.hid hown; have HPT := Lib.hid hpt; clear hlent hlight hlb2 hown hpt))
    | (go_at_call 9; go_loud (refine (hvars.out n1 n2 n3 _ belA).mono ?_; rintro r wv ⟨⟨Av, cv, rfl, hrow⟩, hbv⟩; have hva := VarsAt.off_own' hrow; have hcv := bcell hbv; have hfv := bfrozen hbv; have hzv : wt.heap.size + 1 ≤ wv.heap.size := (by have := hbv.size; simpa using this); have hyv : w.heap.size < wv.heap.size := (by omega); have hyvo : wt.heap.size < wv.heap.size := (by omega); clear hrow))
    | (go_at_call 7; refine (hkn _ belA).mono ?_; rintro r wn ⟨rfl, hbn⟩; have hcn := bcell hbn; have hzn := hbn.size))
  · go_ret
    exact ⟨rfl, belA⟩
  refine wp_name fun W0 hW0 => ?_
  have hb0 : Below w.heap.size w W0 := by rw [hW0]; (repeat refine bel_drew ?_); exact belS
  have hbt0 : Below wt.heap.size wt W0 := by rw [hW0]; (repeat refine bel_drew ?_); exact belS
  have hz0 : wt.heap.size < W0.heap.size := by rw [hW0]; first | exact hyvo | (simp; omega)
  have hva0 : Off (wt.heap.size + 1) none W0 (fun W => VarsAt W (varsOf p) Av cv) := by rw [hW0]; have := hva; simpa using this
  have y0 : W0.cell? ⟨wt.heap.size, 0, none⟩ = some (.string p.name) := by rw [hW0]; go_simp
  have y1 : W0.cell? ⟨wt.heap.size, 1, none⟩ = some (.slice B1 p.ins.length k1) := by rw [hW0]; go_simp
  have y2 : W0.cell? ⟨wt.heap.size, 2, none⟩ = some (.slice B2 p.outs.length k2) := by rw [hW0]; go_simp
  have y3 : W0.cell? ⟨wt.heap.size, 3, none⟩ = some (.slice B3 p.locals.length k3) := by rw [hW0]; go_simp
  have y4 : W0.cell? ⟨wt.heap.size, 4, none⟩ = some (.slice B4 p.eqs.length k4) := by rw [hW0]; go_simp
  clear hW0 hct hft hzt hcv hfv hzv hva hcl hzl hyl hbl hbv hyv hyvo hvars hyt2
  have hown := HB4.out
  have hw1 : w.heap.size + 1 ≤ base := hown.low
  have hw2 : base ≤ wt.heap.size := hown.high
  have hg0 : ∃ g, w.heap.size ≤ g ∧ g < wt.heap.size ∧ (g = w.heap.size ∨ base ≤ g) ∧ (0 < p.eqs.length → B4 = some ⟨g, 0, none⟩ ∧ FixAt W0 W0 g base (fixL (varsOf p) 0 p.eqs) ls) := by
    rcases Nat.eq_zero_or_pos p.eqs.length with h0 | h0
    · exact ⟨w.heap.size, Nat.le_refl _, by omega, .inl rfl, fun h => absurd h (by omega)⟩
    · obtain ⟨g, cap, hv, hg1, hg2, _, _, _⟩ := own_get hown.own h0
      injection hv with e1 e2 e3
      subst e1 e3
      refine ⟨g, by omega, hg2, .inr hg1, fun _ => ⟨rfl, ?_⟩⟩
      rw [fixL_zero]
      refine ⟨hown.len, (RowCells.of_own hown.own h0).same (hbt0.block g hg2), fun j => (hbt0.frozen (p := ⟨g, j, none⟩) hg2).trans (hown.own.frozenAt j), fun j q a hq ha => (hown.off j q a hq ha).grow (fun k _ hk _ => hbt0.block k hk) hbt0.size (.inl rfl), grown_bel (Below.refl _ _)⟩
  obtain ⟨g, hg1, hg2, hg3, hg4⟩ := hg0
  have HG4 := Lib.hid hg4
  clear hown hg4
  go_loopw [5] (fun i wr => ∃ (k : Nat) (ls : List ((Option Addr × Nat) × (Option Addr × Nat))), k ≤ p.eqs.length ∧ i = .int .i64 k ∧ Hid (Below w.heap.size w wr) ∧ Hid (W0.grownBy wr (some g)) ∧ Hid (0 < p.eqs.length → B4 = some ⟨g, 0, none⟩ ∧ FixAt W0 wr g base (fixL (varsOf p) k p.eqs) ls)) (fun i _ => p.eqs.length - (intOf i).toNat)
  case atStart => exact ⟨0, ls, Nat.zero_le _, rfl, Lib.hid hb0, Lib.hid (grown_bel (Below.refl _ _)), Lib.hid HG4.out⟩
  case round =>
    clear HG4
    obtain ⟨k, ls, hk, rfl, hbw, hgr, hfx⟩ := hrel
    have hzr := hgr.out.size
    have hne : wt.heap.size ≠ g := by omega
    have far : ∀ o, wr.cell? ⟨wt.heap.size, o, none⟩ = W0.cell? ⟨wt.heap.size, o, none⟩ := fun o => World.cell?_of_block (a := ⟨wt.heap.size, o, none⟩) (hgr.out.block wt.heap.size hz0 (by simpa using hne))
    have r4 := (far 4).trans y4
    by_cases hlt : k < p.eqs.length
    · have hx : p.eqs[k]? = some p.eqs[k] := List.getElem?_eq_getElem hlt
      generalize p.eqs[k] = q at hx
      obtain ⟨hB4, hF⟩ := hfx.out (by omega)
      have hla : k < ls.length := by rw [hF.len, fixL_len]; exact hlt
      have ha : ls[k]? = some ls[k] := List.getElem?_eq_getElem hla
      generalize ls[k] = a at ha
      have hcc := hF.rows k q a (fixL_at hx) ha
      have g0 : wr.cell? ⟨g, k * 10, none⟩ = some (.string q.name) := hcc 0 _ rfl
      have g1 : wr.cell? ⟨g, k * 10 + 1, none⟩ = some (.int .i64 q.delay) := hcc 1 _ rfl
      have g2 : wr.cell? ⟨g, k * 10 + 2, none⟩ = some (.int .i64 q.first.kind) := hcc 2 _ rfl
      have g3 : wr.cell? ⟨g, k * 10 + 3, none⟩ = some (.int .i32 q.first.n) := hcc 3 _ rfl
      have g4 : wr.cell? ⟨g, k * 10 + 4, none⟩ = some (.string q.first.name) := hcc 4 _ rfl
      have g5 : wr.cell? ⟨g, k * 10 + 5, none⟩ = some (.slice a.1.1 q.first.sub.length a.1.2) := hcc 5 _ rfl
      have g6 : wr.cell? ⟨g, k * 10 + 6, none⟩ = some (.int .i64 q.e.kind) := hcc 6 _ rfl
      have g7 : wr.cell? ⟨g, k * 10 + 7, none⟩ = some (.int .i32 q.e.n) := hcc 7 _ rfl
      have g8 : wr.cell? ⟨g, k * 10 + 8, none⟩ = some (.string q.e.name) := hcc 8 _ rfl
      have g9 : wr.cell? ⟨g, k * 10 + 9, none⟩ = some (.slice a.2.1 q.e.sub.length a.2.2) := hcc 9 _ rfl
      have z1 := hF.froz (k * 10 + 1)
      have z2 := hF.froz (k * 10 + 2)
      have z3 := hF.froz (k * 10 + 3)
      have z4 := hF.froz (k * 10 + 4)
      have z5 := hF.froz (k * 10 + 5)
      have hgw : g < wr.heap.size := by omega
      have HF := Lib.hid hF
      have HX := Lib.hid hx
      have HA := Lib.hid ha
      have HB := Lib.hid hB4
      rw [hB4] at r4
      clear hF hx ha hcc hfx far hB4
      by_cases hd : q.delay = 2
      · have td : (q.delay != 2) = false := by rw [hd]; rfl
        have HD := Lib.hid hd
        clear hd
        rcases truth_cases (varsOf p) q.name with ⟨hrf, htr⟩ | ⟨j, v, hrf, hv, htr⟩
        · have hfd := fun W (h : ∀ b, wt.heap.size + 1 ≤ b → b < W0.heap.size → W.heap[b]? = W0.heap[b]?) => refFind_any (varsOf p) Av cv q.name W (hva0 W fun b h1 h2 _ => h b h1 h2)
          rw [hrf] at hfd
          have HTR := Lib.hid htr
          clear htr hrf
          go_wp2_with fail
          refine calls_name fun Wx hWx => ?_
          have hox : ∀ o, (o < k * 10 ∨ k * 10 + 10 ≤ o) → Wx.cell? ⟨g, o, none⟩ = wr.cell? ⟨g, o, none⟩ := fun o ho => by
            rw [hWx]
            (repeat rw [World.cell?_setCell_other _ _ _ _ (by intro he; injection he with e1 e2; omega)])
            try rfl
          have hhx : ∀ b, b ≠ g → Wx.heap[b]? = wr.heap[b]? := fun b hb => by
            rw [hWx]
            (repeat rw [heap_setCell_other _ _ _ _ (by show b ≠ g; exact hb)])
            try rfl
          have hsx : Wx.heap.size = wr.heap.size := by rw [hWx]; simp
          have hgx : wr.grownBy Wx (some g) := ⟨by rw [hWx]; rfl, by rw [hWx]; rfl, by rw [hWx]; rfl, by omega, fun b _ hb => hhx b fun e => hb (by rw [e])⟩
          have u0 : Wx.cell? ⟨g, k * 10, none⟩ = some (.string q.name) := by rw [hWx]; go_simp
          have u1 : Wx.cell? ⟨g, k * 10 + 1, none⟩ = some (.int .i64 1) := by rw [hWx]; go_simp
          have u2 : Wx.cell? ⟨g, k * 10 + 2, none⟩ = some (.int .i64 1) := by rw [hWx]; go_simp
          have u3 : Wx.cell? ⟨g, k * 10 + 3, none⟩ = some (.int .i32 0) := by rw [hWx]; go_simp
          have u4 : Wx.cell? ⟨g, k * 10 + 4, none⟩ = some (.string ⟨#[]⟩) := by rw [hWx]; go_simp
          have u5 : Wx.cell? ⟨g, k * 10 + 5, none⟩ = some (.slice none 0 0) := by rw [hWx]; go_simp
          have u6 : Wx.cell? ⟨g, k * 10 + 6, none⟩ = some (.int .i64 q.e.kind) := by rw [hWx]; go_simp
          have u7 : Wx.cell? ⟨g, k * 10 + 7, none⟩ = some (.int .i32 q.e.n) := by rw [hWx]; go_simp
          have u8 : Wx.cell? ⟨g, k * 10 + 8, none⟩ = some (.string q.e.name) := by rw [hWx]; go_simp
          have u9 : Wx.cell? ⟨g, k * 10 + 9, none⟩ = some (.slice a.2.1 q.e.sub.length a.2.2) := by rw [hWx]; go_simp
          have fzx : ∀ j, Wx.frozen? ⟨g, j, none⟩ = false := fun j => by rw [hWx]; (repeat rw [World.frozen?_setCell]); exact HF.out.froz j
          have r4x : Wx.cell? ⟨wt.heap.size, 4, none⟩ = some (.slice (some ⟨g, 0, none⟩) p.eqs.length k4) := (World.cell?_of_block (a := ⟨wt.heap.size, 4, none⟩) (hhx _ hne)).trans r4
          have hfar : ∀ b, wt.heap.size + 1 ≤ b → b < W0.heap.size → Wx.heap[b]? = W0.heap[b]? := fun b h1 h2 => (hhx b (by omega)).trans (hgr.out.block b h2 (by intro e; injection e with e; omega))
          clear hWx g0 g1 g2 g3 g4 g5 g6 g7 g8 g9 z1 z2 z3 z4 z5 r4
          refine (hfd Wx hfar).mono ?_
          rintro r w1 ⟨rfl, hb1⟩
          have hfar1 : ∀ b, wt.heap.size + 1 ≤ b → b < W0.heap.size → w1.heap[b]? = W0.heap[b]? := fun b h1 h2 => (hb1.block b (by omega)).trans (hfar b h1 h2)
          have hz1 := hb1.size
          have hg1x : g < Wx.heap.size := by omega
          have r41 := bel_cell hb1 r4x
          have v2 := bel_cell hb1 u2
          have v3 := bel_cell hb1 u3
          have v4 := bel_cell hb1 u4
          have v5 := bel_cell hb1 u5
          have fz1 : ∀ j, w1.frozen? ⟨g, j, none⟩ = false := fun j => (hb1.frozen (p := ⟨g, j, none⟩) hg1x).trans (fzx j)
          have z2 := fz1 (k * 10 + 2)
          have z3 := fz1 (k * 10 + 3)
          have z4 := fz1 (k * 10 + 4)
          have z5 := fz1 (k * 10 + 5)
          have FZ1 := Lib.hid fz1
          have v0 := bel_cell hb1 u0
          have v1 := bel_cell hb1 u1
          have v6 := bel_cell hb1 u6
          have v7 := bel_cell hb1 u7
          have v8 := bel_cell hb1 u8
          have v9 := bel_cell hb1 u9
          have hox1 : ∀ o, (o < k * 10 ∨ k * 10 + 10 ≤ o) → w1.cell? ⟨g, o, none⟩ = wr.cell? ⟨g, o, none⟩ := fun o ho => (hb1.cell (p := ⟨g, o, none⟩) hg1x).trans (hox o ho)
          have HOX := Lib.hid hox1
          have HGX := Lib.hid (grown_trans hgx (grown_bel hb1))
          have HHX := Lib.hid hhx
          clear hox hhx hgx u0 u1 u2 u3 u4 u5 u6 u7 u8 u9 fzx fz1 hfar r4x hfd hox1
          go_wp2_with fail
          go_roundw
          case rel =>
            have hq : fixQ (varsOf p) q = ⟨q.name, 1, .mk 1 0 ⟨#[]⟩ [], q.e⟩ := by unfold fixQ zeroX; rw [if_neg (by rw [td]; simp), HTR.out]; rfl
            have hstep := HF.out.step (w2 := w1) (fixL_at HX.out) HA.out (q' := ⟨q.name, 1, .mk 1 0 ⟨#[]⟩ [], q.e⟩) rfl rfl HOX.out (eqC_all (P := fun i u => w1.cell? ⟨g, k * 10 + i, none⟩ = some u) v0 v1 v2 v3 v4 v5 v6 v7 v8 v9) FZ1.out HGX.out
            rw [← hq, ← fixL_step HX.out] at hstep
            exact ⟨k + 1, _, by omega, by go_num, Lib.hid (bel_grown hbw.out HGX.out (fun b hb => by injection hb with hb; omega) hbw.out.size), Lib.hid hstep.grown, Lib.hid fun _ => ⟨HB.out, hstep⟩⟩
          case measure => simp [intOf]; try omega
        · have hfd := fun W (h : ∀ b, wt.heap.size + 1 ≤ b → b < W0.heap.size → W.heap[b]? = W0.heap[b]?) => refFind_any (varsOf p) Av cv q.name W (hva0 W fun b h1 h2 _ => h b h1 h2)
          rw [hrf] at hfd
          have tj : (0 : Int) ≤ (j : Int) := by omega
          have hjl : j < (varsOf p).length := (List.getElem?_eq_some_iff.1 hv).1
          cases ht2 : (v.type == 2)
          all_goals
            rw [ht2] at htr
            have HTR := Lib.hid htr
            clear htr hrf
            go_wp2_with fail
            refine calls_name fun Wx hWx => ?_
            have hox : ∀ o, (o < k * 10 ∨ k * 10 + 10 ≤ o) → Wx.cell? ⟨g, o, none⟩ = wr.cell? ⟨g, o, none⟩ := fun o ho => by
              rw [hWx]
              (repeat rw [World.cell?_setCell_other _ _ _ _ (by intro he; injection he with e1 e2; omega)])
              try rfl
            have hhx : ∀ b, b ≠ g → Wx.heap[b]? = wr.heap[b]? := fun b hb => by
              rw [hWx]
              (repeat rw [heap_setCell_other _ _ _ _ (by show b ≠ g; exact hb)])
              try rfl
            have hsx : Wx.heap.size = wr.heap.size := by rw [hWx]; simp
            have hgx : wr.grownBy Wx (some g) := ⟨by rw [hWx]; rfl, by rw [hWx]; rfl, by rw [hWx]; rfl, by omega, fun b _ hb => hhx b fun e => hb (by rw [e])⟩
            have u0 : Wx.cell? ⟨g, k * 10, none⟩ = some (.string q.name) := by rw [hWx]; go_simp
            have u1 : Wx.cell? ⟨g, k * 10 + 1, none⟩ = some (.int .i64 1) := by rw [hWx]; go_simp
            have u2 : Wx.cell? ⟨g, k * 10 + 2, none⟩ = some (.int .i64 1) := by rw [hWx]; go_simp
            have u3 : Wx.cell? ⟨g, k * 10 + 3, none⟩ = some (.int .i32 0) := by rw [hWx]; go_simp
            have u4 : Wx.cell? ⟨g, k * 10 + 4, none⟩ = some (.string ⟨#[]⟩) := by rw [hWx]; go_simp
            have u5 : Wx.cell? ⟨g, k * 10 + 5, none⟩ = some (.slice none 0 0) := by rw [hWx]; go_simp
            have u6 : Wx.cell? ⟨g, k * 10 + 6, none⟩ = some (.int .i64 q.e.kind) := by rw [hWx]; go_simp
            have u7 : Wx.cell? ⟨g, k * 10 + 7, none⟩ = some (.int .i32 q.e.n) := by rw [hWx]; go_simp
            have u8 : Wx.cell? ⟨g, k * 10 + 8, none⟩ = some (.string q.e.name) := by rw [hWx]; go_simp
            have u9 : Wx.cell? ⟨g, k * 10 + 9, none⟩ = some (.slice a.2.1 q.e.sub.length a.2.2) := by rw [hWx]; go_simp
            have fzx : ∀ j, Wx.frozen? ⟨g, j, none⟩ = false := fun j => by rw [hWx]; (repeat rw [World.frozen?_setCell]); exact HF.out.froz j
            have r4x : Wx.cell? ⟨wt.heap.size, 4, none⟩ = some (.slice (some ⟨g, 0, none⟩) p.eqs.length k4) := (World.cell?_of_block (a := ⟨wt.heap.size, 4, none⟩) (hhx _ hne)).trans r4
            have hfar : ∀ b, wt.heap.size + 1 ≤ b → b < W0.heap.size → Wx.heap[b]? = W0.heap[b]? := fun b h1 h2 => (hhx b (by omega)).trans (hgr.out.block b h2 (by intro e; injection e with e; omega))
            clear hWx g0 g1 g2 g3 g4 g5 g6 g7 g8 g9 z1 z2 z3 z4 z5 r4
            refine (hfd Wx hfar).mono ?_
            rintro r w1 ⟨rfl, hb1⟩
            have hfar1 : ∀ b, wt.heap.size + 1 ≤ b → b < W0.heap.size → w1.heap[b]? = W0.heap[b]? := fun b h1 h2 => (hb1.block b (by omega)).trans (hfar b h1 h2)
            have hz1 := hb1.size
            have hg1x : g < Wx.heap.size := by omega
            have r41 := bel_cell hb1 r4x
            have v2 := bel_cell hb1 u2
            have v3 := bel_cell hb1 u3
            have v4 := bel_cell hb1 u4
            have v5 := bel_cell hb1 u5
            have fz1 : ∀ j, w1.frozen? ⟨g, j, none⟩ = false := fun j => (hb1.frozen (p := ⟨g, j, none⟩) hg1x).trans (fzx j)
            have z2 := fz1 (k * 10 + 2)
            have z3 := fz1 (k * 10 + 3)
            have z4 := fz1 (k * 10 + 4)
            have z5 := fz1 (k * 10 + 5)
            have FZ1 := Lib.hid fz1
            have v0 := bel_cell hb1 u0
            have v1 := bel_cell hb1 u1
            have v6 := bel_cell hb1 u6
            have v7 := bel_cell hb1 u7
            have v8 := bel_cell hb1 u8
            have v9 := bel_cell hb1 u9
            have hox1 : ∀ o, (o < k * 10 ∨ k * 10 + 10 ≤ o) → w1.cell? ⟨g, o, none⟩ = wr.cell? ⟨g, o, none⟩ := fun o ho => (hb1.cell (p := ⟨g, o, none⟩) hg1x).trans (hox o ho)
            have HOX := Lib.hid hox1
            have HGX := Lib.hid (grown_trans hgx (grown_bel hb1))
            have HHX := Lib.hid hhx
            clear hox hhx hgx u0 u1 u2 u3 u4 u5 u6 u7 u8 u9 fzx fz1 hfar r4x hfd hox1
            have hva1 := hva0 w1 fun b h1 h2 _ => hfar1 b h1 h2
            have hll := hva1.len
            unfold maxLen at hll
            obtain ⟨hll1, hll2⟩ := hll
            obtain ⟨bv, ov, rfl, hbv2, ⟨d0, d1, d2, d3⟩⟩ := hva1.get hv
            clear hva1 d0 d2 d3
            go_wp2_with fail
          · go_roundw
            case rel =>
              have hq : fixQ (varsOf p) q = ⟨q.name, 1, .mk 1 0 ⟨#[]⟩ [], q.e⟩ := by unfold fixQ zeroX; rw [if_neg (by rw [td]; simp), HTR.out]; rfl
              have hstep := HF.out.step (w2 := w1) (fixL_at HX.out) HA.out (q' := ⟨q.name, 1, .mk 1 0 ⟨#[]⟩ [], q.e⟩) rfl rfl HOX.out (eqC_all (P := fun i u => w1.cell? ⟨g, k * 10 + i, none⟩ = some u) v0 v1 v2 v3 v4 v5 v6 v7 v8 v9) FZ1.out HGX.out
              rw [← hq, ← fixL_step HX.out] at hstep
              exact ⟨k + 1, _, by omega, by go_num, Lib.hid (bel_grown hbw.out HGX.out (fun b hb => by injection hb with hb; omega) hbw.out.size), Lib.hid hstep.grown, Lib.hid fun _ => ⟨HB.out, hstep⟩⟩
            case measure => simp [intOf]; try omega
          · go_roundw
            case rel =>
              have hq : fixQ (varsOf p) q = ⟨q.name, 1, .mk 2 0 ⟨#[]⟩ [], q.e⟩ := by unfold fixQ zeroX; rw [if_neg (by rw [td]; simp), HTR.out]; rfl
              have hstep := HF.out.step (w2 := (((w1.setCell ⟨g, k * 10 + 2, none⟩ (.int .i64 2)).setCell ⟨g, k * 10 + 3, none⟩ (.int .i32 0)).setCell ⟨g, k * 10 + 4, none⟩ (.string ⟨#[]⟩)).setCell ⟨g, k * 10 + 5, none⟩ (.slice none 0 0)) (fixL_at HX.out) HA.out (q' := ⟨q.name, 1, .mk 2 0 ⟨#[]⟩ [], q.e⟩) rfl rfl
                (fun o ho => by (repeat rw [World.cell?_setCell_other _ _ _ _ (by intro he; injection he with e1 e2; omega)]); exact HOX.out o ho)
                (eqC_all (P := fun i u => ((((w1.setCell ⟨g, k * 10 + 2, none⟩ (.int .i64 2)).setCell ⟨g, k * 10 + 3, none⟩ (.int .i32 0)).setCell ⟨g, k * 10 + 4, none⟩ (.string ⟨#[]⟩)).setCell ⟨g, k * 10 + 5, none⟩ (.slice none 0 0)).cell? ⟨g, k * 10 + i, none⟩ = some u) (by go_simp) (by go_simp) (by go_simp; rfl) (by go_simp; rfl) (by go_simp; rfl) (by go_simp; rfl) (by go_simp) (by go_simp) (by go_simp) (by go_simp))
                (fun j => by (repeat rw [World.frozen?_setCell]); exact FZ1.out j) (grown_set (grown_set (grown_set (grown_set HGX.out _ _) _ _) _ _) _ _)
              rw [← hq, ← fixL_step HX.out] at hstep
              refine ⟨k + 1, _, by omega, by go_num, Lib.hid ?_, Lib.hid hstep.grown, Lib.hid fun _ => ⟨HB.out, hstep⟩⟩
              exact bel_grown hbw.out (grown_set (grown_set (grown_set (grown_set HGX.out _ _) _ _) _ _) _ _) (fun b hb => by injection hb with hb; omega) hbw.out.size
            case measure => simp [intOf]; try omega
      · have td : (q.delay != 2) = true := by simpa using hd
        clear hd
        go_wp2_with fail
        go_roundw
        case rel => exact ⟨k + 1, ls, by omega, by go_num, Lib.hid hbw.out, Lib.hid hgr.out, Lib.hid fun _ => ⟨HB.out, by rw [fixL_same HX.out td]; exact HF.out⟩⟩
        case measure => simp [intOf]; try omega
    · obtain rfl : k = p.eqs.length := by omega
      have hpl := HPT.out.eqs.len
      have hne2 : ∀ i, w.heap.size + 1 ≤ i → i < base → wr.heap[i]? = wt.heap[i]? := fun i h1 h2 => (hgr.out.block i (by omega) (by intro e; injection e with e; omega)).trans (hbt0.block i (by omega))
      obtain ⟨e1, e2, e3⟩ := HB4.out.vars wr hne2
      have e4 : EqsAt wr (p.eqs.map (fixQ (varsOf p))) B4 k4 := by
        rcases Nat.eq_zero_or_pos p.eqs.length with h0 | h0
        · have hnil : p.eqs = [] := List.length_eq_zero_iff.1 h0
          rw [hnil]
          exact ⟨Nat.zero_le _, hpl.2, fun h => absurd h (by simp)⟩
        · obtain ⟨hB, hF⟩ := hfx.out h0
          rw [fixL_all] at hF
          rw [hB]
          exact hF.eqs (by rw [List.length_map]; exact hpl.1) hpl.2
      have hpf : PrAt wr (fixP p) ⟨B1, k1, B2, k2, B3, k3, B4, k4⟩ := ⟨e1, e2, e3, e4⟩
      have hbwr := hbw.out
      have hord' := fun W h => hord.out ⟨B1, k1, B2, k2, B3, k3, B4, k4⟩ W (bel_grow hbwr h (hbwr.size)) (hpf.later h) n1 n2 n3 (by simp [fixP]; omega)
      have hloo' := fun W h => hloo.out ⟨B1, k1, B2, k2, B3, k3, B4, k4⟩ W (bel_grow hbwr h (hbwr.size)) (hpf.later h) n1 n2 n3 (by simp [fixP]; omega)
      have hchk' := fun W h => hchk.out ⟨B1, k1, B2, k2, B3, k3, B4, k4⟩ W (bel_grow hbwr h (hbwr.size)) (hpf.later h) n1 n2 n3 (by simp [fixP]; omega)
      simp only [fixP, List.length_map] at hord' hloo' hchk'
      have r0 := (far 0).trans y0
      have r1 := (far 1).trans y1
      have r2 := (far 2).trans y2
      have r3 := (far 3).trans y3
      have hwtr : wt.heap.size < wr.heap.size := by omega
      clear hfx far e1 e2 e3 e4 hpl hne2 hpf hord hloo hchk hgr hbw HB4 HPT
      go_wp2_with (first
        | (go_at_call 11; go_loud (refine (hord' _ belA).mono ?_; rintro r wo ⟨⟨vo, rfl, hrow⟩, hbo⟩; obtain ⟨Ao, co, rfl, ho1, ho2⟩ := own_slice hrow; have hco := bcell hbo; have hfo := bfrozen hbo; have hzo := hbo.size; have hyo : wt.heap.size < wo.heap.size := (by omega); have hyo2 : wt.heap.size < wo.heap.size + 1 := (by omega); clear hrow))
        | (go_at_call 12; go_loud (refine (hloo' _ belS2).mono ?_; rintro r ws ⟨⟨vs, rfl, hrow⟩, hbs⟩; obtain ⟨As, cs, rfl, hs1, hs2⟩ := own_slice hrow; have his := BoolsAt.of_own hrow; have hcs := bcell hbs; have hfs := bfrozen hbs; have hzs : wo.heap.size + 1 ≤ ws.heap.size := (by have := hbs.size; simpa using this); have hys : wt.heap.size < ws.heap.size := (by omega); have hys2 : wo.heap.size < ws.heap.size := (by omega); have hys3 : wo.heap.size < ws.heap.size + 1 := (by omega); have hys4 : wt.heap.size < ws.heap.size + 1 := (by omega); clear hrow)))
      refine wp_name fun W5 hW5 => ?_
      have hb5 : Below wr.heap.size wr W5 := by rw [hW5]; exact belS2
      have his5 : BoolsAt W5 V As cs := by rw [hW5]; exact his.later (by exact belS2)
      have hz5 : wt.heap.size < W5.heap.size := by rw [hW5]; first | exact hys4 | (simp; omega)
      have hz6 : wo.heap.size < W5.heap.size := by rw [hW5]; first | exact hys3 | (simp; omega)
      have hz7 : ws.heap.size < W5.heap.size := by rw [hW5]; simp
      have q0 : W5.cell? ⟨wt.heap.size, 0, none⟩ = some (.string p.name) := by rw [hW5]; go_simp
      have q1 : W5.cell? ⟨wt.heap.size, 1, none⟩ = some (.slice B1 p.ins.length k1) := by rw [hW5]; go_simp
      have q2 : W5.cell? ⟨wt.heap.size, 2, none⟩ = some (.slice B2 p.outs.length k2) := by rw [hW5]; go_simp
      have q3 : W5.cell? ⟨wt.heap.size, 3, none⟩ = some (.slice B3 p.locals.length k3) := by rw [hW5]; go_simp
      have q4 : W5.cell? ⟨wt.heap.size, 4, none⟩ = some (.slice B4 p.eqs.length k4) := by rw [hW5]; go_simp
      have m0 : W5.cell? ⟨wo.heap.size, 0, none⟩ = some (.int .i64 f1) := by rw [hW5]; go_simp
      have m1 : W5.cell? ⟨wo.heap.size, 1, none⟩ = some (.int .i64 f2) := by rw [hW5]; go_simp
      have m2 : W5.cell? ⟨wo.heap.size, 2, none⟩ = some (.int .i64 f3) := by rw [hW5]; go_simp
      have l0 : W5.cell? ⟨ws.heap.size, 0, none⟩ = some (.int .i64 f1) := by rw [hW5]; go_simp
      have l1 : W5.cell? ⟨ws.heap.size, 1, none⟩ = some (.int .i64 f2) := by rw [hW5]; go_simp
      have l2 : W5.cell? ⟨ws.heap.size, 2, none⟩ = some (.int .i64 f3) := by rw [hW5]; go_simp
      have hv1 := his5.1
      have hv2 := his5.2.1
      unfold maxLen at hv2
      have hfq := HFQ.out
      clear hW5 his hco hfo hzo hyo hyo2 hcs hfs hzs hys hys2 hys3 hys4 hbo hbs r0 r1 r2 r3 r4 hloo' hord'
      refine wp_region_qb (by kernel_rfl) (by kernel_rfl) (fun hgq => ?_)
      repeat (quiet_step ((first | (go_at_call 13; exact Calls.regrown_of (hchk' _ belA)))))
      refine wpQuiet_nil ?_
      intro wq hwq
      replace hwq := bel_of_class hwq
      clear hgq
      have hcq := bcell hwq
      have hzq := hwq.size
      (try simp at hzq)
      (try have hyq1 := lt0 w wq); (try have hyq2 := ltA w 1 wq); (try have hyq3 := ltA w 2 wq); (try have hyq4 := lt0 wr wq)
      have hb5q : Below wr.heap.size wr wq := bel_grow hb5 hwq hb5.size
      have his6 := his5.later hwq
      clear hcq hzq q0 q1 q2 q3 q4 m0 m1 m2 l0 l1 l2 hfq hgm hchk'
      go_wp2_with fail
      obtain ⟨W6, rfl⟩ : ∃ W6, W6 = wq := ⟨wq, rfl⟩
      go_loopw [11] (fun i wr => ∃ (k : Nat), k ≤ V.length ∧ i = .int .i64 k ∧ Below W6.heap.size W6 wr) (fun i _ => V.length - (intOf i).toNat)
      case atStart => exact ⟨0, Nat.zero_le _, rfl, Below.refl _ _⟩
      case round =>
        rename_i w7 _ _
        obtain ⟨k, hk, rfl, hbel⟩ := hrel
        by_cases hlt : k < V.length
        · obtain ⟨bi, oi, rfl, hbi, di⟩ := (his6.later hbel).get (falses_of HFAL.out hlt)
          go_wp2_with fail
          go_roundw
          case rel => exact ⟨k + 1, by omega, by go_num, belA⟩
          case measure => simp [intOf]; try omega
        · obtain rfl : k = V.length := by omega
          have hbe := bel_grow hbwr (bel_grow hb5q hbel hb5q.size) hbwr.size
          go_wp2_with (first | (go_at_call 7; refine (hkn _ hbe).mono ?_; rintro r wn ⟨rfl, hbn⟩))
          go_ret
          exact ⟨rfl, bel_grow hbe hbn hbe.size⟩

end Go.Proofs.YtikmbkojnfmiaaaDoorRRRR
