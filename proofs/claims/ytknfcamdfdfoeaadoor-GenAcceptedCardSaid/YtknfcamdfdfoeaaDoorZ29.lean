/- Walk over start's Check. -/
import Derived.Test.YtknfcamdfdfoeaaDoorZ28
import Derived.Test.YtknfcamdfdfoeaaDoorZ19
import Derived.Test.YtknfcamdfdfoeaaDoorZ09
import Derived.Test.YtknfcamdfdfoeaaDoorZ27
import Derived.Test.YtknfcamdfdfoeaaDoorZ07
import Derived.Test.YtknfcamdfdfoeaaDoorZ26
import Derived.BigRegion
set_option linter.unusedVariables false
set_option linter.unusedSimpArgs false
set_option maxRecDepth 100000
namespace Go.Proofs.YtknfcamdfdfoeaaDoor
open Go.RowKit Go.Sort Go.Maps Go.ChangeMaps Go.WideMaps

set_option maxHeartbeats 4000000 in
theorem scheck_fault (p : Pr) (a : PrA) (w : World) (hg : Always w) (hp : PrAt w p a) (hok : PrOK p) (n1 : p.ins.length ≤ 1000000) (n2 : p.outs.length ≤ 1000000) (n3 : p.locals.length ≤ 1000000) (n4 : p.eqs.length ≤ 1000000) (hne : (orderE p).2 ≠ (0, 0, 0)) :
    Calls Tryd.prog 43 #[prV p a] w fun r w' => r = .returned (fV (orderE p).2) ∧ Below w.heap.size w w' := by
  have hfind := fun W h => find_fault p a W (hg.later h) (hp.later h) hok n1 n2 n3 n4 hne
  clear hg hok
  obtain ⟨A1, c1, A2, c2, A3, c3, A4, c4⟩ := a
  unfold prV fV at *
  dsimp only at *
  generalize (orderE p).2 = O at *
  obtain ⟨f1, f2, f3⟩ := O
  dsimp only at *
  have hne2 : (f1 == 0 && f2 == 0 && f3 == 0) = false := by
    rw [Bool.eq_false_iff]
    intro h
    simp only [Bool.and_eq_true, beq_iff_eq] at h
    exact hne (by rw [h.1.1, h.1.2, h.2])
  have hfq : ∀ w, (Op.equalIn 10000 34 (.agg #[.int .i64 f1, .int .i64 f2, .int .i64 f3]) (.agg #[.int .i64 0, .int .i64 0, .int .i64 0])).run Tryd.prog w = .ok false w := fun w => by rw [eqFault, hne2]
  have hgm : Tryd.prog.eqGuardType Tryd.prog.depth 34 = false := by kernel_rfl
  clear hne hne2 hp
  go_enter Tryd.func43, Tryd.ntmps43
  go_wp2_with (first | (go_at_call 55; go_loud (refine (hfind _ belA).mono ?_; rintro r wo ⟨rfl, hbo⟩; have hco := bcell hbo; have hfo := bfrozen hbo; have hzo : w.heap.size + 2 ≤ wo.heap.size := (by have := hbo.size; simpa using this); have hyo : w.heap.size < wo.heap.size := (by omega); have hyo1 : w.heap.size + 1 < wo.heap.size := (by omega))))
  refine bodyPost_ret (v := .agg #[.int .i64 f1, .int .i64 f2, .int .i64 f3]) (by simp [results, Tryd.results43, go_sem, *]) rfl ⟨rfl, ?_⟩
  (repeat refine bel_drew ?_)
  exact belS

section
variable {P : Program} {k e : TypeId} {w : World}
/-- A map's entry, read behind '&&' or '||'. -/
theorem wpList_lkIg {ops : Array Oper} {rest : List Oper} {o : Oper} {a : Act} {Q : Exit → Act → World → Prop} (hw : Region.wanted o (yielded ops a.tmps) = true) (m x : Operand) (t : TypeId) (hop : o.op = Op.lookup t m x false)
    (hk : P.underlying k = some .string) (ht : P.underlying t = some (.map k e)) (he : P.underlying e = some (.int .i64)) (hz : (zeroValue e).run P w = .ok (.int .i64 0) w)
    (b n : Nat) (f : ByteArray → Option Int) (s : ByteArray) (hm : a.eval m = .map (some b)) (hown : MapI P k e w b n f) (hx : a.eval x = .string s) (hs : s.size ≤ maxLen)
    (hK : wpList P ops Q rest (a.put o.dst (.int .i64 ((f s).getD 0))) w) : wpList P ops Q (o :: rest) a w := by
  obtain ⟨D, h1, h2, h3⟩ := hown
  obtain ⟨c, hrun, hat, hwc⟩ := h1.lookup_int (string_keyed hk) ht he hz (keyOf_string_mk hk hs)
  rw [(h3 s).2] at hat
  have hc : (f s).getD 0 = c := by injection hat with hat; injection hat
  rw [hc] at hK
  refine wpList_step fun K' hK' => ?_
  rw [if_pos hw]
  unfold Oper.wp
  simp [execOp, hop, hm, hx, hrun, Result.andThen]
  exact hK' _ _ hK
end
theorem onM_snoc {f : ByteArray → Option Int} {l : List ByteArray} {n : ByteArray} (h : ∀ s, onM f s = hasB l s) : ∀ s, onM (upd f n 1) s = hasB (l ++ [n]) s := fun s => by
  have hs := h s
  unfold onM at hs ⊢
  rw [hasB_snoc, data_beq]
  unfold upd
  by_cases hd : s.data = n.data
  · rw [if_pos hd, hd]
    simp
  · rw [if_neg hd]
    have : decide (n.data = s.data) = false := by simpa using fun e => hd e.symm
    rw [this, Bool.or_false]
    exact hs

set_option maxHeartbeats 60000000 in
theorem scheck_clean (p : Pr) (a : PrA) (w : World) (hg : Always w) (hp : PrAt w p a) (hok : PrOK p) (n1 : p.ins.length ≤ 1000000) (n2 : p.outs.length ≤ 1000000) (n3 : p.locals.length ≤ 1000000) (n4 : p.eqs.length ≤ 1000000) (hO2 : (orderE p).2 = (0, 0, 0)) :
    Calls Tryd.prog 43 #[prV p a] w fun r w' => r = .returned (fV (startF p)) ∧ Below w.heap.size w w' := by
  have hO : startF p = startGo (hangQ p (looseE p).1) 0 p.eqs := by unfold startF; rw [if_pos hO2]
  have hck := (orderE_good hO2).1
  have hvs : ∀ v ∈ varsOf p, v.name.size ≤ maxLen := fun v hv => by have := (vars_short (clean_parts (clkF_parts hck).1).1 v hv).1; unfold maxLen; omega
  have hvc : ∀ v ∈ varsOf p, v.cn.size ≤ maxLen := fun v hv => by have := (vars_short (clean_parts (clkF_parts hck).1).1 v hv).2; unfold maxLen; omega
  have hos : ∀ v ∈ p.outs, v.name.size ≤ maxLen := fun v hv => hvs v (by simp [varsOf, hv])
  have hcs : ∀ s, (clockL (varsOf p) s).2.size ≤ maxLen := clock_size hvc
  have hqs := eqs_clean hck hok
  have hfind := fun W h => find_clean p a W (hg.later h) (hp.later h) hok n1 n2 n3 n4 hO2
  have hvars := fun W h => vars_any p a W (hp.later h) n1 n2 n3
  have hL3 : (varsOf p).length ≤ 3000000 := by simp [varsOf]; omega
  obtain ⟨h, hh⟩ : ∃ h, h = hangQ p (looseE p).1 := ⟨_, rfl⟩
  rw [← hh] at hO
  have hhq : ∀ q, h q = hangB (q.e.torn (inL (looseE p).1)) ((clockL (varsOf p) q.name).1 != 0) (inL (looseE p).1 (clockL (varsOf p) q.name).2) (q.delay != 0) (q.e.reach (inL (looseE p).1)) (hasB (p.outs.map (·.name)) q.name) (inL (looseE p).1 q.name) := fun q => by rw [hh]; rfl
  generalize startF p = O at *
  generalize (looseE p).1 = LF at *
  have HO := Lib.hid hO
  have HH := Lib.hid hhq
  have HVS := Lib.hid hvs
  have HOS := Lib.hid hos
  have HCS := Lib.hid hcs
  have HQS := Lib.hid hqs
  clear hO hh hhq hvs hvc hos hcs hqs hO2 hck hg hok
  have hfq : ∀ w, (Op.equalIn 10000 34 (.agg #[.int .i64 0, .int .i64 0, .int .i64 0]) (.agg #[.int .i64 0, .int .i64 0, .int .i64 0])).run Tryd.prog w = .ok true w := fun w => by rw [eqFault]; rfl
  have hgm : Tryd.prog.eqGuardType Tryd.prog.depth 34 = false := by kernel_rfl
  have hmm := @run_makeMap Tryd.prog
  have hp2 := hp.outs
  have hl2 := hp.outs.len
  have hp4 := hp.eqs
  have hl4 := hp.eqs.len
  obtain ⟨A1, c1, A2, c2, A3, c3, A4, c4⟩ := a
  unfold maxLen at hl2 hl4
  unfold prV fV at *
  dsimp only at *
  obtain ⟨hl21, hl22⟩ := hl2
  obtain ⟨hl41, hl42⟩ := hl4
  clear hp
  go_enter Tryd.func43, Tryd.ntmps43
  go_wp2_with (first
    | (go_at_call 55; go_loud (refine (hfind _ belA).mono ?_; rintro r wo ⟨⟨B, n, f, rfl, hB, hm, hag⟩, hbo⟩; have hco := bcell hbo; have hfo := bfrozen hbo; have hzo : w.heap.size + 2 ≤ wo.heap.size := (by have := hbo.size; simpa using this); have hyo : w.heap.size < wo.heap.size := (by omega); have hyo1 : w.heap.size + 1 < wo.heap.size := (by omega); have hyo2 : w.heap.size < wo.heap.size + 1 + 1 + 1 := (by omega); have hyo3 : w.heap.size < wo.heap.size + 1 := (by omega); have hyo4 : w.heap.size < wo.heap.size + 1 + 1 := (by omega); have HAG := Lib.hid hag; clear hag))
    | (go_at_call 26; go_loud (refine (hvars _ belA).mono ?_; rintro r wv ⟨⟨Av, cv, rfl, hrow⟩, hbv⟩; have hcv := bcell hbv; have hfv := bfrozen hbv; have hzv : wo.heap.size + 3 ≤ wv.heap.size := (by have := hbv.size; simpa using this); have hyv : w.heap.size < wv.heap.size := (by omega); have hyv1 : w.heap.size + 1 < wv.heap.size := (by omega); have hva := VarsAt.of_own hrow)))
  refine wp_name fun W0 hW0 => ?_
  have hb0 : Below w.heap.size w W0 := by rw [hW0]; (repeat refine bel_drew ?_); exact belS
  have hbo0 : Below wo.heap.size wo W0 := by rw [hW0]; (repeat refine bel_drew ?_); exact belS
  have hm0 : MapI Tryd.prog 9 3 W0 B n f := hm.bel hbo0
  have hBlt : B < wo.heap.size := hm.lt
  have hz3 : wo.heap.size + 3 ≤ W0.heap.size := by rw [hW0]; exact hzv
  have hva0 : Off (wo.heap.size + 3) none W0 (fun W => VarsAt W (varsOf p) Av cv) := by rw [hW0]; have := VarsAt.off_own' hrow; simpa using this
  have hmc : MapV Tryd.prog 9 W0 (wo.heap.size + 1) 0 (fun _ => none) := by
    rw [hW0]
    have h1 := MapV.made (P := Tryd.prog) (k := 9) (wo.alloc (.cells #[.int .i64 0, .int .i64 0, .int .i64 0] 34))
    have h2 := (h1.bel (bel_alloc (Below.refl _ _) (.map #[] 0))).bel hbv
    simpa using h2
  have hmo : MapI Tryd.prog 9 3 W0 (wo.heap.size + 1 + 1) 0 (fun _ => none) := by
    rw [hW0]
    have h1 := MapI.made (P := Tryd.prog) (k := 9) (e := 3) ((wo.alloc (.cells #[.int .i64 0, .int .i64 0, .int .i64 0] 34)).alloc (.map #[] 0))
    have h2 := h1.bel hbv
    simpa using h2
  have x2 : W0.cell? ⟨w.heap.size, 2, none⟩ = some (.slice A2 p.outs.length c2) := by rw [hW0]; go_simp
  have x4 : W0.cell? ⟨w.heap.size, 4, none⟩ = some (.slice A4 p.eqs.length c4) := by rw [hW0]; go_simp
  have f0 : W0.cell? ⟨w.heap.size + 1, 0, none⟩ = some (.int .i64 0) := by rw [hW0]; go_simp
  have f1 : W0.cell? ⟨w.heap.size + 1, 1, none⟩ = some (.int .i64 0) := by rw [hW0]; go_simp
  have f2 : W0.cell? ⟨w.heap.size + 1, 2, none⟩ = some (.int .i64 0) := by rw [hW0]; go_simp
  have z0 : W0.frozen? ⟨w.heap.size + 1, 0, none⟩ = false := by rw [hW0]; go_simp
  have z1 : W0.frozen? ⟨w.heap.size + 1, 1, none⟩ = false := by rw [hW0]; go_simp
  have z2 : W0.frozen? ⟨w.heap.size + 1, 2, none⟩ = false := by rw [hW0]; go_simp
  have hll := hva0.here.len
  unfold maxLen at hll
  obtain ⟨hll1, hll2⟩ := hll
  have hyo5 : w.heap.size + 1 < wo.heap.size + 1 := by omega
  clear hW0 hco hfo hzo hyo hcv hfv hzv hyv hyv1 hva hrow hfind hvars hm hbo hbv hbo0 hfq hgm hmm
  generalize varsOf p = L at *
  go_loopw [30] (fun i wr => ∃ (k n : Nat) (fc : ByteArray → Option Value), k ≤ L.length ∧ i = .int .i64 k ∧ n ≤ k ∧ Hid (MapV Tryd.prog 9 wr (wo.heap.size + 1) n fc) ∧ Hid (ClkM fc (L.take k)) ∧ Hid (W0.grownBy wr (some (wo.heap.size + 1)))) (fun i _ => L.length - (intOf i).toNat)
  case atStart => exact ⟨0, 0, _, Nat.zero_le _, rfl, Nat.le_refl _, Lib.hid hmc, Lib.hid clkM_nil, Lib.hid ⟨rfl, rfl, rfl, Nat.le_refl _, fun _ _ _ => rfl⟩⟩
  case round =>
    obtain ⟨k, nc, fc, hk, rfl, hn, hmw, hck, hgr⟩ := hrel
    have hgz := hgr.out.size
    have hbm : Below (wo.heap.size + 1) W0 wr := bel_grown (Below.refl _ W0) hgr.out (fun b hb => by injection hb with hb; omega) (by omega)
    have hcm := bcellM hbm
    have hmr := hmw.out
    have hmlt := hmr.lt
    by_cases hlt : k < L.length
    · have hx : L[k]? = some L[k] := List.getElem?_eq_getElem hlt
      have hmem : L[k] ∈ L := List.getElem_mem hlt
      have htk : L.take (k + 1) = L.take k ++ [L[k]] := by rw [List.take_add_one, hx]; rfl
      generalize L[k] = x at hx hmem htk
      have hvr : VarsAt wr L Av cv := hva0 wr fun b h1 h2 _ => hgr.out.block b h2 (by intro he; injection he with he; omega)
      obtain ⟨b, off, rfl, hbb, ⟨d0, d1, d2, d3⟩⟩ := hvr.get hx
      have hsx := HVS.out x hmem
      have HCK := Lib.hid (by rw [htk]; exact clkM_snoc hck.out x : ClkM (updV fc x.name (clkV (x.ck, x.cn))) (L.take (k + 1)))
      clear hx hmem htk hvr hck
      go_wp2_with (first | (at_mapUpdate; go_loud (refine wpList_stV rfl (.tmp 34) (.tmp 36) (.tmp 38) 71 rfl Tryd.underlying9 Tryd.underlying71 (wo.heap.size + 1) nc fc x.name (clkV (x.ck, x.cn)) rfl (hmr.keep1 (heap_alloc_old _ _ hmlt)) (by omega) rfl rfl hsx ?_; intro w2 hm2 hg2; have HM2 := Lib.hid hm2; have HG2 := Lib.hid hg2; clear hm2 hg2)))
      go_roundw
      case rel => exact ⟨k + 1, nc + 1, _, by omega, by go_num, by omega, HM2, HCK, Lib.hid (grownT hgr.out (grownT (World.grownBy_alloc wr _ _) HG2.out))⟩
      case measure => simp [intOf]; try omega
    · obtain rfl : k = L.length := by omega
      have hck1 := hck.out
      rw [List.take_length] at hck1
      have HCK := Lib.hid hck1
      clear hck hck1
      go_wp2_with fail
      obtain ⟨W1, rfl⟩ : ∃ W1, W1 = wr := ⟨wr, rfl⟩
      have hbw1 : Below w.heap.size w W1 := bel_grown hb0 hgr.out (fun b hb => by injection hb with hb; omega) (by omega)
      have hmo1 : MapI Tryd.prog 9 3 W1 (wo.heap.size + 1 + 1) 0 (fun _ => none) := hmo.keep1 (hgr.out.block _ (by omega) (by intro he; injection he with he; omega))
      clear hcm hva0 hmlt
      go_loopw [43] (fun i wr => ∃ (k n : Nat) (fo : ByteArray → Option Int), k ≤ p.outs.length ∧ i = .int .i64 k ∧ n ≤ k ∧ Hid (MapI Tryd.prog 9 3 wr (wo.heap.size + 1 + 1) n fo) ∧ Hid (∀ s, onM fo s = hasB ((p.outs.take k).map (·.name)) s) ∧ Hid (W1.grownBy wr (some (wo.heap.size + 1 + 1)))) (fun i _ => p.outs.length - (intOf i).toNat)
      case atStart => exact ⟨0, 0, _, Nat.zero_le _, rfl, Nat.le_refl _, Lib.hid hmo1, Lib.hid (fun s => by unfold onM hasB; simp), Lib.hid ⟨rfl, rfl, rfl, Nat.le_refl _, fun _ _ _ => rfl⟩⟩
      case round =>
        obtain ⟨k, no, fo, hk, rfl, hn, hmw2, hou, hgr2⟩ := hrel
        have hgz2 := hgr2.out.size
        have hbwr : Below w.heap.size w wr := bel_grown hbw1 hgr2.out (fun b hb => by injection hb with hb; omega) (by omega)
        have hbm2 : Below (wo.heap.size + 1) W0 wr := bel_grown hbm hgr2.out (fun b hb => by injection hb with hb; omega) (by omega)
        have hcm := bcellM hbm2
        have hfm := bfrozenM hbm2
        have hmr2 := hmw2.out
        have hmlt := hmr2.lt
        by_cases hlt : k < p.outs.length
        · have hx : p.outs[k]? = some p.outs[k] := List.getElem?_eq_getElem hlt
          have hmem : p.outs[k] ∈ p.outs := List.getElem_mem hlt
          have htk : p.outs.take (k + 1) = p.outs.take k ++ [p.outs[k]] := by rw [List.take_add_one, hx]; rfl
          generalize p.outs[k] = x at hx hmem htk
          obtain ⟨b, off, rfl, hbb, ⟨d0, d1, d2, d3⟩⟩ := (hp2.later hbwr).get hx
          have hsx := HOS.out x hmem
          have HOU := Lib.hid (by rw [htk, List.map_append]; exact onM_snoc hou.out : ∀ s, onM (upd fo x.name 1) s = hasB ((p.outs.take (k + 1)).map (·.name)) s)
          clear hx hmem htk hou
          go_wp2_with (first | (at_mapUpdate; go_loud (refine wpList_stI rfl (.tmp 47) (.tmp 49) _ 107 rfl Tryd.underlying9 Tryd.underlying107 Tryd.underlying3 (wo.heap.size + 1 + 1) no fo x.name 1 rfl (hmr2.keep1 (heap_alloc_old _ _ hmlt)) (by omega) rfl rfl hsx (by omega) ?_; intro w2 hm2 hg2; have HM2 := Lib.hid hm2; have HG2 := Lib.hid hg2; clear hm2 hg2)))
          go_roundw
          case rel => exact ⟨k + 1, no + 1, _, by omega, by go_num, by omega, HM2, HOU, Lib.hid (grownT hgr2.out (grownT (World.grownBy_alloc wr _ _) HG2.out))⟩
          case measure => simp [intOf]; try omega
        · obtain rfl : k = p.outs.length := by omega
          have hou1 := hou.out
          rw [List.take_length] at hou1
          have HOU := Lib.hid hou1
          clear hou hou1
          have hwr0 : w.heap.size < wr.heap.size := by omega
          go_wp2_with fail
          obtain ⟨W2, rfl⟩ : ∃ W2, W2 = wr := ⟨wr, rfl⟩
          have hmf : MapI Tryd.prog 9 3 W2 B n f := hm0.keep1 (hbm2.block B (by omega))
          have hmk : MapV Tryd.prog 9 W2 (wo.heap.size + 1) nc fc := hmr.keep1 (hgr2.out.block _ (by omega) (by intro he; injection he with he; omega))
          clear hmr hm0 hmo hmo1 hmc hmw hmw2 hgr hgr2 hgz hgz2 hbm hbm2
          go_loopw [54] (fun i wr => ∃ k : Nat, k ≤ p.eqs.length ∧ i = .int .i64 k ∧ Hid (startGo h k (p.eqs.drop k) = O) ∧ Below W2.heap.size W2 wr) (fun i _ => p.eqs.length - (intOf i).toNat)
          case atStart => exact ⟨0, Nat.zero_le _, rfl, Lib.hid (by rw [List.drop_zero]; exact HO.out.symm), Below.refl _ _⟩
          case round =>
            obtain ⟨k, hk, rfl, hrem, hbel⟩ := hrel
            have hbw : Below w.heap.size w wr := bel_grow hbwr hbel (by omega)
            have hc := bcell hbel
            have hfz := bfrozen hbel
            have hzr := hbel.size
            have hw0 : w.heap.size < wr.heap.size := by omega
            have hw1 : w.heap.size + 1 < wr.heap.size := by omega
            have hw2 : w.heap.size + 1 < W2.heap.size := by omega
            have hw3 : w.heap.size + 1 < wr.heap.size + 1 + 1 := by omega
            have hw4 : w.heap.size + 1 < wr.heap.size + 1 := by omega
            have hw5 : w.heap.size < wr.heap.size + 1 + 1 := by omega
            have hw6 : w.heap.size < wr.heap.size + 1 := by omega
            by_cases hlt : k < p.eqs.length
            · have hx : p.eqs[k]? = some p.eqs[k] := List.getElem?_eq_getElem hlt
              have hd : p.eqs.drop k = p.eqs[k] :: p.eqs.drop (k + 1) := List.drop_eq_getElem_cons hlt
              generalize p.eqs[k] = q at hx hd
              obtain ⟨b, off, B1, n1, B2, n2, rfl, hbb, ⟨g0, g1, g2, g3, g4, g5, g6, g7, g8, g9, s1, s2⟩⟩ := (hp4.later hbw).get hx
              have hr := hrem.out
              rw [hd, startGo, HH.out q] at hr
              obtain ⟨hqs, hqne, hqf, hqok, hqz⟩ := HQS.out q (List.mem_of_getElem? hx)
              have hag := HAG.out
              obtain ⟨ck, cs, hcl⟩ : ∃ ck cs, clockL L q.name = (ck, cs) := ⟨_, _, rfl⟩
              have hcsz := HCS.out q.name
              rw [hcl] at hr hcsz
              dsimp only at hr hcsz
              rw [← hag.reach, ← torn_congr hag, ← hag cs, ← hag q.name, ← HOU.out q.name] at hr
              have HCL := Lib.hid hcl
              have hmfr := hmf.bel hbel
              have hmkr := hmk.bel hbel
              have hmor := hmr2.bel hbel
              have hrc := fun W hb => reaches_any q.e B2 n2 B n f W (s2.later hb) hqf hqok hqz (hmfr.bel hb)
              have htn := fun W hb => torn_any B n f q.e B2 n2 W (s2.later hb) hqf hqok hqz (hmfr.bel hb)
              obtain ⟨vt, hvt⟩ : ∃ b, b = q.e.torn (onM f) := ⟨_, rfl⟩
              obtain ⟨vr, hvr⟩ : ∃ b, b = q.e.reach (onM f) := ⟨_, rfl⟩
              obtain ⟨vc, hvc⟩ : ∃ b, (ck != 0) = b := ⟨_, rfl⟩
              obtain ⟨vd, hvd⟩ : ∃ b, (q.delay != 0) = b := ⟨_, rfl⟩
              obtain ⟨vl, hvl⟩ : ∃ b, onM f cs = b := ⟨_, rfl⟩
              obtain ⟨vo, hvo⟩ : ∃ b, onM fo q.name = b := ⟨_, rfl⟩
              obtain ⟨vs, hvs⟩ : ∃ b, onM f q.name = b := ⟨_, rfl⟩
              rw [← hvt] at htn
              rw [← hvr] at hrc
              rw [← hvt, ← hvr, hvc, hvd, hvl, hvo, hvs] at hr
              unfold onM at hvl hvo hvs
              unfold exV at hrc htn
              clear hvt hvr hd hx hrem hqne hqf hqok hqz hag s1 s2 hcl
              rcases hang_ways vt vc vl vd vr vo vs with ⟨rfl, rfl | rfl, rfl | rfl, hh⟩ | ⟨rfl, rfl, rfl, rfl | rfl, rfl | rfl, hh⟩ | ⟨rfl, ⟨rfl, rfl⟩ | rfl, rfl, rfl, rfl | rfl, hh⟩ | ⟨rfl, ⟨rfl, rfl⟩ | rfl, ⟨rfl, rfl⟩ | rfl, rfl, rfl, hh⟩ | ⟨rfl, ⟨rfl, rfl⟩ | rfl, ⟨rfl, rfl⟩ | rfl, ⟨rfl, rfl⟩ | rfl, hh⟩
              iterate 16
                · rw [hh, if_pos rfl] at hr
                  have HR := Lib.hid hr
                  clear hr hh
                  go_wp2_with (first
                    | (at_lookup; go_loud (refine wpList_lkV rfl (.tmp 59) (.tmp 61) 71 rfl Tryd.underlying9 Tryd.underlying71 (clkV (0, ⟨#[]⟩)) (zeroClock _) (wo.heap.size + 1) nc fc q.name rfl (hmkr.bel belA) rfl hqs ?_; rw [HCK.out q.name, HCL.out]; unfold clkV))
                    | (go_at_call 56; go_loud (refine (hrc _ belA).mono ?_; rintro r w1 ⟨rfl, hb1⟩; have hc1 := bcell hb1; have hf1 := bfrozen hb1; have hz1 : wr.heap.size + 2 ≤ w1.heap.size := (by have := hb1.size; simpa using this); have hya : w.heap.size < w1.heap.size := (by omega); have hyb : w.heap.size + 1 < w1.heap.size := (by omega); have hyc : wr.heap.size < w1.heap.size := (by omega); have hyd : wr.heap.size + 1 < w1.heap.size := (by omega)))
                    | (at_lookup; go_loud (refine wpList_lkI rfl (.tmp 72) (.tmp 74) 107 rfl Tryd.underlying9 Tryd.underlying107 Tryd.underlying3 (zeroInt _) (wo.heap.size + 1 + 1) no fo q.name rfl (hmor.bel belA) rfl hqs ?_))
                    | (at_lookup; go_loud (refine wpList_lkIg (by rfl) (.tmp 78) (.tmp 80) 142 rfl Tryd.underlying9 Tryd.underlying142 Tryd.underlying3 (zeroInt _) B n f q.name rfl (hmfr.bel belA) rfl hqs ?_))
                    | (at_lookup; go_loud (refine wpList_lkIg (by rfl) (.tmp 93) (.tmp 95) 142 rfl Tryd.underlying9 Tryd.underlying142 Tryd.underlying3 (zeroInt _) B n f cs rfl (hmfr.bel belA) rfl hcsz ?_))
                    | (go_at_call 57; go_loud (refine (htn _ belA).mono ?_; rintro r w3 ⟨rfl, hb3⟩; have hc3 := bcell hb3; have hf3 := bfrozen hb3; have hz3' : wr.heap.size + 2 ≤ w3.heap.size := (by have := hb3.size; (try simp at this); omega); have hye : w.heap.size < w3.heap.size := (by omega); have hyf : w.heap.size + 1 < w3.heap.size := (by omega); have hyg : wr.heap.size < w3.heap.size := (by omega); have hyh : wr.heap.size + 1 < w3.heap.size := (by omega))))
                  refine bodyPost_ret (v := .agg #[.int .i64 3, .int .i64 (k : Int), .int .i64 23]) (by simp [results, Tryd.results43, go_sem, *]) rfl ⟨by rw [← HR.out], ?_⟩
                  (repeat refine bel_drew ?_)
                  exact belS
              iterate 8
                · rw [hh, if_neg (by simp)] at hr
                  have HR := Lib.hid hr
                  clear hr hh
                  go_wp2_with (first
                    | (at_lookup; go_loud (refine wpList_lkV rfl (.tmp 59) (.tmp 61) 71 rfl Tryd.underlying9 Tryd.underlying71 (clkV (0, ⟨#[]⟩)) (zeroClock _) (wo.heap.size + 1) nc fc q.name rfl (hmkr.bel belA) rfl hqs ?_; rw [HCK.out q.name, HCL.out]; unfold clkV))
                    | (go_at_call 56; go_loud (refine (hrc _ belA).mono ?_; rintro r w1 ⟨rfl, hb1⟩; have hc1 := bcell hb1; have hf1 := bfrozen hb1; have hz1 : wr.heap.size + 2 ≤ w1.heap.size := (by have := hb1.size; simpa using this); have hya : w.heap.size < w1.heap.size := (by omega); have hyb : w.heap.size + 1 < w1.heap.size := (by omega); have hyc : wr.heap.size < w1.heap.size := (by omega); have hyd : wr.heap.size + 1 < w1.heap.size := (by omega)))
                    | (at_lookup; go_loud (refine wpList_lkI rfl (.tmp 72) (.tmp 74) 107 rfl Tryd.underlying9 Tryd.underlying107 Tryd.underlying3 (zeroInt _) (wo.heap.size + 1 + 1) no fo q.name rfl (hmor.bel belA) rfl hqs ?_))
                    | (at_lookup; go_loud (refine wpList_lkIg (by rfl) (.tmp 78) (.tmp 80) 142 rfl Tryd.underlying9 Tryd.underlying142 Tryd.underlying3 (zeroInt _) B n f q.name rfl (hmfr.bel belA) rfl hqs ?_))
                    | (at_lookup; go_loud (refine wpList_lkIg (by rfl) (.tmp 93) (.tmp 95) 142 rfl Tryd.underlying9 Tryd.underlying142 Tryd.underlying3 (zeroInt _) B n f cs rfl (hmfr.bel belA) rfl hcsz ?_))
                    | (go_at_call 57; go_loud (refine (htn _ belA).mono ?_; rintro r w3 ⟨rfl, hb3⟩; have hc3 := bcell hb3; have hf3 := bfrozen hb3; have hz3' : wr.heap.size + 2 ≤ w3.heap.size := (by have := hb3.size; (try simp at this); omega); have hye : w.heap.size < w3.heap.size := (by omega); have hyf : w.heap.size + 1 < w3.heap.size := (by omega); have hyg : wr.heap.size < w3.heap.size := (by omega); have hyh : wr.heap.size + 1 < w3.heap.size := (by omega))))
                  go_roundw
                  case rel => exact ⟨k + 1, by omega, by go_num, HR, belA⟩
                  case measure => simp [intOf]; try omega
            · obtain rfl : k = p.eqs.length := by omega
              have hr := hrem.out
              rw [List.drop_length, startGo] at hr
              have HR := Lib.hid hr
              clear hr hrem
              go_wp2_with fail
              refine bodyPost_ret (v := .agg #[.int .i64 0, .int .i64 0, .int .i64 0]) (by simp [results, Tryd.results43, go_sem, *]) rfl ⟨by rw [← HR.out], ?_⟩
              (repeat refine bel_drew ?_)
              exact belS

end Go.Proofs.YtknfcamdfdfoeaaDoor

/- start's and the reference's Loose, start's Check, of any program. -/
namespace Go.Proofs.YtknfcamdfdfoeaaDoor
open Go.RowKit Go.Sort

theorem scheck_any (p : Pr) (a : PrA) (w : World) (hg : Always w) (hp : PrAt w p a) (hok : PrOK p) (n1 : p.ins.length ≤ 1000000) (n2 : p.outs.length ≤ 1000000) (n3 : p.locals.length ≤ 1000000) (n4 : p.eqs.length ≤ 1000000) :
    Calls Tryd.prog 43 #[prV p a] w fun r w' => r = .returned (fV (startF p)) ∧ Below w.heap.size w w' := by
  by_cases hO : (orderE p).2 = (0, 0, 0)
  · exact scheck_clean p a w hg hp hok n1 n2 n3 n4 hO
  · have h := scheck_fault p a w hg hp hok n1 n2 n3 n4 hO
    rw [show startF p = (orderE p).2 by unfold startF; rw [if_neg hO]]
    exact h
end Go.Proofs.YtknfcamdfdfoeaaDoor

/- Walk over the reference's Lent. -/
namespace Go.Proofs.YtknfcamdfdfoeaaDoor
open Go.RowKit Go.Sort

theorem calls_name {P : Program} {f : FuncId} {args : Array Value} {R : Ending → World → Prop} {W : World} (h : ∀ W0, W0 = W → Calls P f args W0 R) : Calls P f args W R := h W rfl
end Go.Proofs.YtknfcamdfdfoeaaDoor

/- Walk over mean's look. -/
namespace Go.Proofs.YtknfcamdfdfoeaaDoor
open Go.RowKit Go.Sort Go.Maps Go.ChangeMaps Go.WideMaps

set_option maxHeartbeats 4000000 in
theorem look_fault (p : Pr) (a : PrA) (w : World) (hg : Always w) (hp : PrAt w p a) (hok : PrOK p) (n1 : p.ins.length ≤ 1000000) (n2 : p.outs.length ≤ 1000000) (n3 : p.locals.length ≤ 1000000) (n4 : p.eqs.length ≤ 1000000) (hck : startF p ≠ (0, 0, 0)) :
    Calls Tryd.prog 25 #[prV p a] w fun r w' => r = .returned (.tuple #[.pointer none, fV (startF p)]) ∧ Below w.heap.size w w' := by
  have hcheck := fun W h => scheck_any p a W (hg.later h) (hp.later h) hok n1 n2 n3 n4
  have hne : ((startF p).1 == 0 && (startF p).2.1 == 0 && (startF p).2.2 == 0) = false := by
    rw [Bool.eq_false_iff]
    intro h
    simp only [Bool.and_eq_true, beq_iff_eq] at h
    exact hck (Prod.ext h.1.1 (Prod.ext h.1.2 h.2))
  have hfq : ∀ w, (Op.equalIn 10000 34 (.agg #[.int .i64 (startF p).1, .int .i64 (startF p).2.1, .int .i64 (startF p).2.2]) (.agg #[.int .i64 0, .int .i64 0, .int .i64 0])).run Tryd.prog w = .ok false w := fun w => by rw [eqFault, hne]
  have hgm : Tryd.prog.eqGuardType Tryd.prog.depth 34 = false := by kernel_rfl
  clear hck hne
  obtain ⟨A1, c1, A2, c2, A3, c3, A4, c4⟩ := a
  unfold prV fV at *
  dsimp only at *
  generalize (startF p).1 = k1 at *
  generalize (startF p).2.1 = k2 at *
  generalize (startF p).2.2 = k3 at *
  clear hg hp hok n1 n2 n3 n4
  go_enter Tryd.func25, Tryd.ntmps25
  go_wp2_with (first | (go_at_call 43; refine (hcheck _ belA).mono ?_; rintro r wa ⟨rfl, hba⟩; have hca := bcell hba; have hfa := bfrozen hba; have hza : w.heap.size + 2 ≤ wa.heap.size := (by have := hba.size; simpa using this); have hya : w.heap.size < wa.heap.size := (by omega); have hya1 : w.heap.size + 1 < wa.heap.size := (by omega)))
  go_region
  all_goals
    go_wp2_with fail
    refine bodyPost_ret (v := .tuple #[.pointer none, .agg #[.int .i64 k1, .int .i64 k2, .int .i64 k3]]) (by simp [results, Tryd.results25, go_sem, *]) rfl ⟨rfl, ?_⟩
    (repeat refine bel_drew ?_)
    exact belS

/-- What look hands back. -/
def LookR (p : Pr) (w : World) (r : Ending) (w' : World) : Prop :=
  (if 16 < (cellsL p).length then r = .returned (.tuple #[.pointer none, fV (4, 0, 3)]) else ∃ X v, r = .returned (.tuple #[.pointer (some ⟨X, 0, none⟩), fV (0, 0, 0)]) ∧ w'.cell? ⟨X, 6, none⟩ = some v ∧ w'.ownsRow w.heap.size 78 4 v (cellsL p).length (cesC (cellsL p))) ∧ Below w.heap.size w w'
theorem zeroClk18 (w : World) : (zeroValue 58).run Tryd.prog w = .ok (kvC (0, ⟨#[]⟩)) w := by kernel_rfl

set_option maxHeartbeats 8000000 in
theorem look_clean (p : Pr) (a : PrA) (w : World) (hg : Always w) (hp : PrAt w p a) (hok : PrOK p) (n1 : p.ins.length ≤ 1000000) (n2 : p.outs.length ≤ 1000000) (n3 : p.locals.length ≤ 1000000) (n4 : p.eqs.length ≤ 1000000) (hck : startF p = (0, 0, 0)) :
    Calls Tryd.prog 25 #[prV p a] w (LookR p w) := by
  have hcl := clean_of hck
  have hcheck := fun W h => scheck_any p a W (hg.later h) (hp.later h) hok n1 n2 n3 n4
  have horder := fun W h => order_any p a W (hg.later h) (hp.later h) hok n1 n2 n3 n4
  have hvars := fun W h => vars_any p a W (hp.later h) n1 n2 n3
  rw [hck] at hcheck
  have hfq : ∀ w, (Op.equalIn 10000 34 (.agg #[.int .i64 0, .int .i64 0, .int .i64 0]) (.agg #[.int .i64 0, .int .i64 0, .int .i64 0])).run Tryd.prog w = .ok true w := fun w => by rw [eqFault]; rfl
  have hgm : Tryd.prog.eqGuardType Tryd.prog.depth 34 = false := by kernel_rfl
  have HEQ := Lib.hid hp.eqs
  have HOK := Lib.hid hok.eqs
  have hl4 := hp.eqs.len
  unfold maxLen at hl4
  obtain ⟨hl41, hl42⟩ := hl4
  obtain ⟨A1, c1, A2, c2, A3, c3, A4, c4⟩ := a
  unfold prV fV at *
  dsimp only at *
  have hmm := @run_makeMap Tryd.prog
  clear hck hg hp hok
  go_enter Tryd.func25, Tryd.ntmps25
  go_wp2_with (first | (go_at_call 43; refine (hcheck _ belA).mono ?_; rintro r wa ⟨rfl, hba⟩; have hca := bcell hba; have hfa := bfrozen hba; have hza : w.heap.size + 2 ≤ wa.heap.size := (by have := hba.size; simpa using this); have hya : w.heap.size < wa.heap.size := (by omega); have hya1 : w.heap.size + 1 < wa.heap.size := (by omega)))
  refine wp_name fun W0 hW0 => ?_
  have hb0 : Below w.heap.size w W0 := by rw [hW0]; exact belA
  have hba0 : Below wa.heap.size wa W0 := by rw [hW0]; exact belA
  have hz0 : W0.heap.size = wa.heap.size + 5 := by rw [hW0]; simp
  have p0 : W0.cell? ⟨w.heap.size, 0, none⟩ = some (.string p.name) := bel_cell hba0 (by rw [hca _ _ (by first | (simp; done) | (simp; omega))]; go_simp)
  have p1 : W0.cell? ⟨w.heap.size, 1, none⟩ = some (.slice A1 p.ins.length c1) := bel_cell hba0 (by rw [hca _ _ (by first | (simp; done) | (simp; omega))]; go_simp)
  have p2 : W0.cell? ⟨w.heap.size, 2, none⟩ = some (.slice A2 p.outs.length c2) := bel_cell hba0 (by rw [hca _ _ (by first | (simp; done) | (simp; omega))]; go_simp)
  have p3 : W0.cell? ⟨w.heap.size, 3, none⟩ = some (.slice A3 p.locals.length c3) := bel_cell hba0 (by rw [hca _ _ (by first | (simp; done) | (simp; omega))]; go_simp)
  have p4 : W0.cell? ⟨w.heap.size, 4, none⟩ = some (.slice A4 p.eqs.length c4) := bel_cell hba0 (by rw [hca _ _ (by first | (simp; done) | (simp; omega))]; go_simp)
  have g0 : W0.cell? ⟨w.heap.size + 1, 0, none⟩ = some (.int .i64 0) := bel_cell hba0 (by rw [hca _ _ (by first | (simp; done) | (simp; omega))]; go_simp)
  have g1 : W0.cell? ⟨w.heap.size + 1, 1, none⟩ = some (.int .i64 0) := bel_cell hba0 (by rw [hca _ _ (by first | (simp; done) | (simp; omega))]; go_simp)
  have g2 : W0.cell? ⟨w.heap.size + 1, 2, none⟩ = some (.int .i64 0) := bel_cell hba0 (by rw [hca _ _ (by first | (simp; done) | (simp; omega))]; go_simp)
  have f0 : W0.frozen? ⟨w.heap.size + 1, 0, none⟩ = false := (bfrozen hba0 _ _ hya1).trans ((hfa _ _ (by simp)).trans (by go_simp))
  have f1 : W0.frozen? ⟨w.heap.size + 1, 1, none⟩ = false := (bfrozen hba0 _ _ hya1).trans ((hfa _ _ (by simp)).trans (by go_simp))
  have f2 : W0.frozen? ⟨w.heap.size + 1, 2, none⟩ = false := (bfrozen hba0 _ _ hya1).trans ((hfa _ _ (by simp)).trans (by go_simp))
  have bx0 : W0.cell? ⟨wa.heap.size + 1 + 1 + 1 + 1, 0, none⟩ = some (.pointer (some ⟨wa.heap.size + 1 + 1 + 1, 0, none⟩)) := by rw [hW0]; go_simp
  have x5 : W0.cell? ⟨wa.heap.size + 1 + 1 + 1, 5, none⟩ = some (.map (some (wa.heap.size + 1))) := by rw [hW0]; go_simp
  have x6 : W0.cell? ⟨wa.heap.size + 1 + 1 + 1, 6, none⟩ = some (.slice none 0 0) := by rw [hW0]; go_simp
  have x7 : W0.cell? ⟨wa.heap.size + 1 + 1 + 1, 7, none⟩ = some (.map (some (wa.heap.size + 1 + 1))) := by rw [hW0]; go_simp
  have x8 : W0.cell? ⟨wa.heap.size + 1 + 1 + 1, 8, none⟩ = some (.slice none 0 0) := by rw [hW0]; go_simp
  have fx6 : W0.frozen? ⟨wa.heap.size + 1 + 1 + 1, 6, none⟩ = false := by rw [hW0]; go_simp
  have fx8 : W0.frozen? ⟨wa.heap.size + 1 + 1 + 1, 8, none⟩ = false := by rw [hW0]; go_simp
  have hmt : MapE Tryd.prog 9 clkR okS klS okC klC (0, ⟨#[]⟩) W0 (wa.heap.size + 1) 0 (fun _ => none) 0 := by
    have h1 := MapE.made (P := Tryd.prog) (k := 9) (R := clkR) (ok := okS) (kl := klS) (okv := okC) (vl := klC) (z := ((0 : Int), (⟨#[]⟩ : ByteArray))) ⟨by unfold I64; omega, by decide⟩ (wa.alloc (.cells #[.int .i64 0, .int .i64 0, .int .i64 0] 34))
    have h2 := h1.bel (w' := W0) (by rw [hW0]; exact belA)
    simpa using h2
  have hmf : MapG Tryd.prog 58 3 .i64 okC klC W0 (wa.heap.size + 1 + 1) 0 (fun _ => none) 0 := by
    have h1 := MapG.made (P := Tryd.prog) (k := 58) (e := 3) (q := .i64) (ok := okC) (kl := klC) ((wa.alloc (.cells #[.int .i64 0, .int .i64 0, .int .i64 0] 34)).alloc (.map #[] 0))
    have h2 := h1.bel (w' := W0) (by rw [hW0]; exact belA)
    simpa using h2
  generalize hbx : wa.heap.size + 1 + 1 + 1 + 1 = bx at *
  generalize hXX : wa.heap.size + 1 + 1 + 1 = X at *
  generalize hFF : wa.heap.size + 1 + 1 = F at *
  generalize hBt : wa.heap.size + 1 = Bt at *
  have HMT := Lib.hid hmt
  have HMF := Lib.hid hmf
  clear hW0 hmt hmf hca hfa hmm hcheck
  have hS : ∀ w', Kept (fun k => k = X) W0 w' → w'.cell? ⟨bx, 0, none⟩ = some (.pointer (some ⟨X, 0, none⟩)) ∧ w'.cell? ⟨w.heap.size, 0, none⟩ = some (.string p.name) ∧ w'.cell? ⟨w.heap.size, 1, none⟩ = some (.slice A1 p.ins.length c1) ∧ w'.cell? ⟨w.heap.size, 2, none⟩ = some (.slice A2 p.outs.length c2) ∧ w'.cell? ⟨w.heap.size, 3, none⟩ = some (.slice A3 p.locals.length c3) ∧ w'.cell? ⟨w.heap.size, 4, none⟩ = some (.slice A4 p.eqs.length c4) :=
    fun w' hk => ⟨hk.cell (by omega) bx0, hk.cell (by omega) p0, hk.cell (by omega) p1, hk.cell (by omega) p2, hk.cell (by omega) p3, hk.cell (by omega) p4⟩
  have HS := Lib.hid hS
  clear hS
  go_region_held3 (fun w' => w'.cell? ⟨bx, 0, none⟩ = some (.pointer (some ⟨X, 0, none⟩)) ∧ w'.cell? ⟨w.heap.size, 0, none⟩ = some (.string p.name) ∧ w'.cell? ⟨w.heap.size, 1, none⟩ = some (.slice A1 p.ins.length c1) ∧ w'.cell? ⟨w.heap.size, 2, none⟩ = some (.slice A2 p.outs.length c2) ∧ w'.cell? ⟨w.heap.size, 3, none⟩ = some (.slice A3 p.locals.length c3) ∧ w'.cell? ⟨w.heap.size, 4, none⟩ = some (.slice A4 p.eqs.length c4))
    (first | exact HS.out _ (Kept.bel (bel_drew (Below.refl _ _))) | exact HS.out _ hk1 | exact HS.out _ (hk1.setCell rfl _ _))
    (first | (go_at_call 18; refine (horder _ (bel_drew hb0)).mono ?_; rintro r w1 ⟨⟨vo, rfl, hown⟩, hb1⟩; have hk1 : Kept (fun k => k = X) W0 w1 := Kept.bel (bel_trans (bel_drew (Below.refl _ _)) hb1); obtain ⟨Ao, co, rfl, hco1, hco2⟩ := own_slice hown; have y8 : w1.cell? ⟨X, 8, none⟩ = some (.slice none 0 0) := bel_cell (bel_trans (bel_drew (Below.refl _ _)) hb1) x8; have fy8 : w1.frozen? ⟨X, 8, none⟩ = false := ((bfrozen (bel_trans (bel_drew (Below.refl _ _)) hb1)) X 8 (by omega)).trans fx8))
  refine exit_nm fun W1 hW1 => ?_
  have hbb : Below W0.heap.size W0 w1 := bel_trans (bel_drew (Below.refl _ _)) hb1
  have hkA : Kept (fun k => k = X) W0 W1 := by rw [hW1]; exact hk1.setCell rfl _ _
  have hX8 : ∀ o, o ≠ 8 → W1.cell? ⟨X, o, none⟩ = w1.cell? ⟨X, o, none⟩ := fun o ho => by rw [hW1]; exact World.cell?_setCell_other _ _ _ _ (by intro he; injection he with e1 e2; first | exact ho e2 | exact ho e2.symm)
  have hzA := hkA.size
  have q5 := (hX8 5 (by decide)).trans (bel_cell hbb x5)
  have q6 := (hX8 6 (by decide)).trans (bel_cell hbb x6)
  have q7 := (hX8 7 (by decide)).trans (bel_cell hbb x7)
  have fq6 : W1.frozen? ⟨X, 6, none⟩ = false := by rw [hW1, World.frozen?_setCell]; exact (bfrozen hbb X 6 (by omega)).trans fx6
  have q0 := hkA.cell (by omega) bx0
  have r0 := hkA.cell (by omega) p0
  have r1 := hkA.cell (by omega) p1
  have r2 := hkA.cell (by omega) p2
  have r3 := hkA.cell (by omega) p3
  have r4 := hkA.cell (by omega) p4
  have s0 := hkA.cell (by omega) g0
  have s1 := hkA.cell (by omega) g1
  have s2 := hkA.cell (by omega) g2
  have t0 : W1.frozen? ⟨w.heap.size + 1, 0, none⟩ = false := (World.frozen?_of_block (a := ⟨w.heap.size + 1, 0, none⟩) (hkA.block (w.heap.size + 1) (by omega) (by omega))).trans f0
  have t1 : W1.frozen? ⟨w.heap.size + 1, 1, none⟩ = false := (World.frozen?_of_block (a := ⟨w.heap.size + 1, 1, none⟩) (hkA.block (w.heap.size + 1) (by omega) (by omega))).trans f1
  have t2 : W1.frozen? ⟨w.heap.size + 1, 2, none⟩ = false := (World.frozen?_of_block (a := ⟨w.heap.size + 1, 2, none⟩) (hkA.block (w.heap.size + 1) (by omega) (by omega))).trans f2
  have hbA : Below w.heap.size w W1 := Kept.below hb0 hkA (fun k hk he => by omega)
  have HMT1 := Lib.hid (HMT.out.keep1 (hkA.block Bt (by omega) (by omega)))
  have HMF1 := Lib.hid (HMF.out.keep1 (hkA.block F (by omega) (by omega)))
  clear hk1 hX8 hW1 hbb hb1 y8 fy8 hown HMT HMF HS hkA x5 x6 x7 x8 fx6 fx8 bx0 p0 p1 p2 p3 p4 g0 g1 g2 f0 f1 f2 horder hba hba0 hya hya1
  go_wp2_with (first | (go_at_call 26; go_loud (refine (hvars _ hbA).mono ?_; rintro r wb ⟨⟨Av, cv, rfl, hown⟩, hbb⟩; have hcb := bcell hbb; have hzb := hbb.size; have hva := VarsAt.of_own hown)))
  have hll := hva.len
  unfold maxLen at hll
  obtain ⟨hll1, hll2⟩ := hll
  have hL3 : (varsOf p).length ≤ 24 := hcl.small.2.2.1
  have HNV := Lib.hid hcl.nodup
  have HVF := Lib.hid hcl.vars
  have HCLN := Lib.hid hcl
  generalize hLL : varsOf p = L at *
  have HVA := Lib.hid (VarsAt.off_own' hown)
  have HMT2 := Lib.hid (HMT1.out.bel hbb)
  have q0' := bel_cell hbb q0
  have q5' := bel_cell hbb q5
  have hBtW : Bt < W1.heap.size := by omega
  clear hown hva hvars hcl HMT1 hcb
  go_loopw [38] (fun i wr => ∃ k : Nat, k ≤ L.length ∧ i = .int .i64 k ∧ Hid (MapE Tryd.prog 9 clkR okS klS okC klC (0, ⟨#[]⟩) wr Bt k (clkM2 (L.take k)) k) ∧ Hid (Kept (fun k => k = Bt) wb wr)) (fun i _ => L.length - (intOf i).toNat)
  case atStart => exact ⟨0, Nat.zero_le _, rfl, HMT2, Lib.hid (Kept.refl _)⟩
  case round =>
    obtain ⟨k, hk, rfl, hmt', hkp⟩ := hrel
    have hzc := hkp.out.size
    have y0 : wr.cell? ⟨bx, 0, none⟩ = some (.pointer (some ⟨X, 0, none⟩)) := hkp.out.cell (by omega) q0'
    by_cases hlt : k < L.length
    · have y5 : wr.cell? ⟨X, 5, none⟩ = some (.map (some Bt)) := hkp.out.cell (by omega) q5'
      have hx : L[k]? = some L[k] := List.getElem?_eq_getElem hlt
      have hmem : L[k] ∈ L := List.getElem_mem hlt
      have htk : L.take (k + 1) = L.take k ++ [L[k]] := by rw [List.take_succ_eq_append_getElem hlt]
      generalize L[k] = x at hx hmem htk
      have hvr : VarsAt wr L Av cv := off_kept HVA.out hkp.out (fun j h1 h2 h3 => by omega)
      obtain ⟨b, off, rfl, hbb2, ⟨d0, d1, d2, d3⟩⟩ := hvr.get hx
      have hsx := HVF.out x hmem
      have hsn : okS x.name := by unfold okS; have := hsx.name; unfold maxLen; omega
      have hsc : okC (x.ck, x.cn) := ⟨by unfold I64; have := hsx.ck; omega, by have := hsx.cn; unfold maxLen; dsimp only; omega⟩
      have HNW := Lib.hid (names_new HNV.out hx)
      have HTK := Lib.hid htk
      clear hx hmem htk hvr hsx q0' q5'
      go_wp2_with fail
      refine wp_name fun V1 hV1 => ?_
      have hb1 : Below wr.heap.size wr V1 := by rw [hV1]; exact belA
      have hz1 : wr.heap.size + 1 = V1.heap.size := by rw [hV1]; simp
      have x0 : V1.cell? ⟨wr.heap.size, 0, none⟩ = some (.string x.name) := by rw [hV1]; go_simp
      have x2 : V1.cell? ⟨wr.heap.size, 2, none⟩ = some (.int .i64 x.ck) := by rw [hV1]; go_simp
      have x3 : V1.cell? ⟨wr.heap.size, 3, none⟩ = some (.string x.cn) := by rw [hV1]; go_simp
      have v0 := bel_cell hb1 y0
      have v5 := bel_cell hb1 y5
      obtain ⟨u0, st, o0, o1, o2, h0, hme, hes, hup, hfs⟩ := MapE.steps (keyS Tryd.underlying9) (string_law Tryd.underlying9) valClk Tryd.underlying71 (fun u => zeroClk18 u) (hmt'.out.bel hb1) hsn (by omega) (v := (x.ck, x.cn)) hsc
      unfold kvC at hup
      dsimp only at hup
      have a1 := hup V1.drew h0
      have HFS := Lib.hid hfs
      clear hme hes hup h0 hfs hV1 d0 d1 d2 d3 y0 y5
      go_region
      refine exit_nm fun W2 hW2 => ?_
      have k1 : W2.heap[Bt]? = some o2 := by rw [hW2]; exact setBlock_same _ _ _ (by show Bt < V1.heap.size; omega)
      have hg2 : V1.grownBy W2 (some Bt) := by rw [hW2]; exact grow_trans (grow_bel (bel_drew (Below.refl _ _))) (setBlock_grown V1.drew _ _)
      have hnone2 := clkM2_none x.name (L.take k) HNW.out
      have r1 := HFS.out W2 k1 (clkM2 (L.take (k + 1))) (by rw [HTK.out, clkM2_snoc, if_pos rfl]) (fun y _ hy => by rw [HTK.out, clkM2_snoc, if_neg (fun he => hy (by ext1; exact he))])
      rw [hnone2] at r1
      have R1 := Lib.hid r1
      have R2 := Lib.hid ((hkp.out.trans' (Kept.bel hb1)).trans' (Kept.grown hg2 fun k hk => by injection hk with hk; exact hk.symm))
      clear hW2 k1 hg2 hnone2 r1 a1
      go_wp2_with fail
      go_roundw
      case rel => exact ⟨k + 1, by omega, by go_num, R1, R2⟩
      case measure => simp [intOf]; omega
    · obtain rfl : k = L.length := by omega
      obtain ⟨Wa, rfl⟩ : ∃ Wa, Wa = wr := ⟨wr, rfl⟩
      have ht1 := hmt'.out
      rw [List.take_length] at ht1
      have HT1 := Lib.hid ht1
      clear ht1 hmt'
      have hmm := @run_makeMap Tryd.prog
      have yW : w.heap.size < Wa.heap.size := by omega
      have yW1 : w.heap.size < Wa.heap.size + 1 := by omega
      have y4 : Wa.cell? ⟨w.heap.size, 4, none⟩ = some (.slice A4 p.eqs.length c4) := hkp.out.cell (by omega) (bel_cell hbb r4)
      go_wp2_with fail
      refine wp_name fun V0 hV0 => ?_
      have hbV : Below Wa.heap.size Wa V0 := by rw [hV0]; exact belA
      have hzV : V0.heap.size = Wa.heap.size + 2 := by rw [hV0]; simp
      have m0 : V0.cell? ⟨Wa.heap.size + 1, 0, none⟩ = some (.map (some Wa.heap.size)) := by rw [hV0]; go_simp
      have hmM : MapG Tryd.prog 58 3 .i64 okC klC V0 Wa.heap.size 0 (fun _ => none) 0 := by
        have h1 := MapG.made (P := Tryd.prog) (k := 58) (e := 3) (q := .i64) (ok := okC) (kl := klC) Wa
        exact h1.bel (by rw [hV0]; exact belA)
      clear hmm hV0
      generalize hbm : Wa.heap.size + 1 = bm at *
      generalize hMM : Wa.heap.size = M at *
      have hkV : Kept (fun k => k = Bt) W1 V0 := ((Kept.bel (S := fun k => k = Bt) hbb).trans' hkp.out).trans' (Kept.bel (by rw [hMM]; exact hbV))
      have hbw0 : Below w.heap.size w V0 := Kept.below hbA hkV (fun j hj he => by omega)
      have v0 := hkV.cell (by omega) q0
      have v5 := hkV.cell (by omega) q5
      have v6 := hkV.cell (by omega) q6
      have v7 := hkV.cell (by omega) q7
      have fv6 : V0.frozen? ⟨X, 6, none⟩ = false := (World.frozen?_of_block (a := ⟨X, 6, none⟩) (hkV.block X (by omega) (by omega))).trans fq6
      have HMTV := Lib.hid (HT1.out.keep1 (w' := V0) (hbV.block Bt (by omega)))
      have HMM := Lib.hid hmM
      have HKV := Lib.hid hkV
      have hbV' := hbV
      rw [← hMM] at hbV'
      clear hmM hkV HT1 y0 y4 hbV
      go_loopw [55] (fun i wr => ∃ (k : Nat) (v : Value) (nM : Nat) (f : Int × ByteArray → Option Int) (c : Nat), k ≤ p.eqs.length ∧ i = .int .i64 k ∧ Hid (Kept (fun j => j = X ∨ j = M) V0 wr) ∧ Hid (∀ o, o ≠ 6 → wr.cell? ⟨X, o, none⟩ = V0.cell? ⟨X, o, none⟩) ∧ Hid (wr.cell? ⟨X, 6, none⟩ = some v) ∧ Hid (wr.frozen? ⟨X, 6, none⟩ = false) ∧
          Hid (wr.ownsRow V0.heap.size 78 4 v ((delayed (p.eqs.take k)).map (eqCe L)).length (cesC ((delayed (p.eqs.take k)).map (eqCe L)))) ∧ Hid (MapG Tryd.prog 58 3 .i64 okC klC wr M nM f c) ∧ nM ≤ 120 * k ∧ Hid (MetM f (metE L (p.eqs.take k)))) (fun i _ => p.eqs.length - (intOf i).toNat)
      case atStart => exact ⟨0, _, 0, _, 0, Nat.zero_le _, rfl, Lib.hid (Kept.refl _), Lib.hid (fun _ _ => rfl), Lib.hid v6, Lib.hid fv6, Lib.hid (World.ownsRow_nil _ _ _ _), HMM, Nat.zero_le _, Lib.hid metM_nil⟩
      case round =>
        obtain ⟨k, v, nM, f, c, hk2, rfl, hkp2, hXo, hX6, hf6, hown2, hmM2, hnM, hmet⟩ := hrel
        have hzd := hkp2.out.size
        have y0 : wr.cell? ⟨bx, 0, none⟩ = some (.pointer (some ⟨X, 0, none⟩)) := hkp2.out.cell (by omega) v0
        have ym : wr.cell? ⟨bm, 0, none⟩ = some (.map (some M)) := hkp2.out.cell (by omega) m0
        have y5 := (hXo.out 5 (by decide)).trans v5
        have y7 := (hXo.out 7 (by decide)).trans v7
        have hbwr : Below w.heap.size w wr := Kept.below hbw0 hkp2.out (fun j hj he => by omega)
        by_cases hlt2 : k < p.eqs.length
        · have hx : p.eqs[k]? = some p.eqs[k] := List.getElem?_eq_getElem hlt2
          have hmem : p.eqs[k] ∈ p.eqs := List.getElem_mem hlt2
          have htk : p.eqs.take (k + 1) = p.eqs.take k ++ [p.eqs[k]] := by rw [List.take_succ_eq_append_getElem hlt2]
          generalize p.eqs[k] = q at hx hmem htk
          have hqf := HCLN.out.eqs q hmem
          have hck := HCLN.out.clock hmem
          rw [hLL] at hck
          have hokq := HOK.out q hmem
          obtain ⟨b, off, B1, k1, B2, k2, rfl, hbb2, ⟨g0, g1, g2, g3, g4, g5, g6, g7, g8, g9, sf, se⟩⟩ := HEQ.out.get hx
          have hbW : b < wr.heap.size := by omega
          have d0 := bel_cell hbwr g0
          have d1 := bel_cell hbwr g1
          have d2 := bel_cell hbwr g2
          have d3 := bel_cell hbwr g3
          have d4 := bel_cell hbwr g4
          have d5 := bel_cell hbwr g5
          have d6 := bel_cell hbwr g6
          have d7 := bel_cell hbwr g7
          have d8 := bel_cell hbwr g8
          have d9 := bel_cell hbwr g9
          have hsq : okS q.name := by unfold okS; have := hqf.name; unfold maxLen; omega
          have hclk := clkM2_get q.name L
          have harr := arrows_any M w (by omega) q.e hokq.2.2.2 hqf.formed B2 k2 (clockL L q.name) se ⟨by unfold I64; have := hck.2; omega, by have := hck.1; unfold maxLen; omega⟩
          have hlit := fun W (hb : Below w.heap.size w W) => literal18_any q.first B1 k1 W (sf.later hb) hqf.first
          have hmetE : metE L (p.eqs.take (k + 1)) = q.e.arrs (metE L (p.eqs.take k)) (clockL L q.name) := by rw [htk]; unfold metE; rw [List.foldl_append]; rfl
          have hcesE : (delayed (p.eqs.take (k + 1))).map (eqCe L) = (delayed (p.eqs.take k)).map (eqCe L) ++ (if (q.delay != 0) = true then [eqCe L q] else []) := by
            rw [htk]; unfold delayed; rw [List.filter_append, List.map_append]
            congr 1
            rw [List.filter_cons]
            split <;> simp_all
          have hcql : ((delayed (p.eqs.take k)).map (eqCe L)).length ≤ k := by
            rw [List.length_map]
            have := delayed_len (p.eqs.take k)
            rw [List.length_take] at this
            omega
          have heqc : eqCe L q = ⟨q.name, (clockL L q.name).1, (clockL L q.name).2, litV q.first⟩ := rfl
          rw [show L.foldl (fun c v => if q.name.data = v.name.data then (v.ck, v.cn) else c) (0, ⟨#[]⟩) = clockL L q.name from rfl] at hclk
          generalize clockL L q.name = CK at hck harr hclk hmetE heqc
          obtain ⟨ck, cs⟩ := CK
          dsimp only at hck harr hmetE heqc
          have HMETE := Lib.hid hmetE
          have HCESE := Lib.hid hcesE
          have HEQC := Lib.hid heqc
          unfold exV at harr hlit
          unfold kvC at harr
          dsimp only at harr
          have HARR := Lib.hid harr
          have HLIT := Lib.hid hlit
          clear hx hmem htk hmetE hcesE heqc g0 g1 g2 g3 g4 g5 g6 g7 g8 g9 harr hlit sf se hck
          go_wp2_with fail
          refine wp_name fun V1 hV1 => ?_
          have hb1 : Below wr.heap.size wr V1 := by rw [hV1]; exact belA
          have hz1 : wr.heap.size + 1 = V1.heap.size := by rw [hV1]; simp
          have z0 : V1.cell? ⟨wr.heap.size, 0, none⟩ = some (.string q.name) := by rw [hV1]; go_simp
          have z1 : V1.cell? ⟨wr.heap.size, 1, none⟩ = some (.int .i64 q.delay) := by rw [hV1]; go_simp
          have z2 : V1.cell? ⟨wr.heap.size, 2, none⟩ = some (.int .i64 q.first.kind) := by rw [hV1]; go_simp
          have z3 : V1.cell? ⟨wr.heap.size, 3, none⟩ = some (.int .i32 q.first.n) := by rw [hV1]; go_simp
          have z4 : V1.cell? ⟨wr.heap.size, 4, none⟩ = some (.string q.first.name) := by rw [hV1]; go_simp
          have z5 : V1.cell? ⟨wr.heap.size, 5, none⟩ = some (.slice B1 q.first.sub.length k1) := by rw [hV1]; go_simp
          have z6 : V1.cell? ⟨wr.heap.size, 6, none⟩ = some (.int .i64 q.e.kind) := by rw [hV1]; go_simp
          have z7 : V1.cell? ⟨wr.heap.size, 7, none⟩ = some (.int .i32 q.e.n) := by rw [hV1]; go_simp
          have z8 : V1.cell? ⟨wr.heap.size, 8, none⟩ = some (.string q.e.name) := by rw [hV1]; go_simp
          have z9 : V1.cell? ⟨wr.heap.size, 9, none⟩ = some (.slice B2 q.e.sub.length k2) := by rw [hV1]; go_simp
          have zm := bel_cell hb1 ym
          have zx := bel_cell hb1 y0
          have zX5 := bel_cell hb1 y5
          have zX7 := bel_cell hb1 y7
          have zX6 := bel_cell hb1 hX6.out
          have zf6 := ((bfrozen hb1) X 6 (by omega)).trans hf6.out
          have hkQ : Kept (fun j => j = X ∨ j = M) V0 V1 := hkp2.out.trans' (Kept.bel hb1)
          have hmtV : MapE Tryd.prog 9 clkR okS klS okC klC (0, ⟨#[]⟩) V1 Bt L.length (clkM2 L) L.length := HMTV.out.keep1 (hkQ.block Bt (by omega) (by omega))
          have hmMV : MapG Tryd.prog 58 3 .i64 okC klC V1 M nM f c := hmM2.out.bel hb1
          have hownV := own_bel hown2.out hb1
          have hbV1 : Below w.heap.size w V1 := bel_trans hbwr hb1
          have hS : ∀ w', Kept (fun j => M ≤ j ∧ j ≠ bm ∧ j ≠ wr.heap.size) V1 w' → w'.cell? ⟨bm, 0, none⟩ = some (.map (some M)) ∧ w'.cell? ⟨bx, 0, none⟩ = some (.pointer (some ⟨X, 0, none⟩)) ∧ w'.cell? ⟨X, 5, none⟩ = some (.map (some Bt)) ∧ w'.cell? ⟨wr.heap.size, 0, none⟩ = some (.string q.name) ∧ w'.cell? ⟨wr.heap.size, 1, none⟩ = some (.int .i64 q.delay) ∧ w'.cell? ⟨wr.heap.size, 2, none⟩ = some (.int .i64 q.first.kind) ∧ w'.cell? ⟨wr.heap.size, 3, none⟩ = some (.int .i32 q.first.n) ∧ w'.cell? ⟨wr.heap.size, 4, none⟩ = some (.string q.first.name) ∧ w'.cell? ⟨wr.heap.size, 5, none⟩ = some (.slice B1 q.first.sub.length k1) ∧ w'.cell? ⟨wr.heap.size, 6, none⟩ = some (.int .i64 q.e.kind) ∧ w'.cell? ⟨wr.heap.size, 7, none⟩ = some (.int .i32 q.e.n) ∧ w'.cell? ⟨wr.heap.size, 8, none⟩ = some (.string q.e.name) ∧ w'.cell? ⟨wr.heap.size, 9, none⟩ = some (.slice B2 q.e.sub.length k2) ∧ (Instr.lookup 71 (.map (some Bt)) (.string q.name) false).run Tryd.prog w' = .ok (.agg #[.int .i64 ck, .string cs]) w' := fun w' hk =>
            ⟨hk.cell (by omega) zm, hk.cell (by omega) zx, hk.cell (by omega) zX5, hk.cell (by omega) z0, hk.cell (by omega) z1, hk.cell (by omega) z2, hk.cell (by omega) z3, hk.cell (by omega) z4, hk.cell (by omega) z5, hk.cell (by omega) z6, hk.cell (by omega) z7, hk.cell (by omega) z8, hk.cell (by omega) z9,
              run_lkV (keyS Tryd.underlying9) valClk Tryd.underlying71 (zeroClk18 w') ⟨by unfold I64; omega, by decide⟩ (x := .string q.name) rfl (hmtV.keep1 (hk.block Bt (by omega) (by omega))) hsq hclk⟩
          have HS := Lib.hid hS
          have HMMV := Lib.hid hmMV
          clear hV1 hS hmtV hmMV d0 d1 d2 d3 d4 d5 d6 d7 d8 d9 y0 ym y5 y7 hmM2
          go_region_held3 (fun w' => w'.cell? ⟨bm, 0, none⟩ = some (.map (some M)) ∧ w'.cell? ⟨bx, 0, none⟩ = some (.pointer (some ⟨X, 0, none⟩)) ∧ w'.cell? ⟨X, 5, none⟩ = some (.map (some Bt)) ∧ w'.cell? ⟨wr.heap.size, 0, none⟩ = some (.string q.name) ∧ w'.cell? ⟨wr.heap.size, 1, none⟩ = some (.int .i64 q.delay) ∧ w'.cell? ⟨wr.heap.size, 2, none⟩ = some (.int .i64 q.first.kind) ∧ w'.cell? ⟨wr.heap.size, 3, none⟩ = some (.int .i32 q.first.n) ∧ w'.cell? ⟨wr.heap.size, 4, none⟩ = some (.string q.first.name) ∧ w'.cell? ⟨wr.heap.size, 5, none⟩ = some (.slice B1 q.first.sub.length k1) ∧ w'.cell? ⟨wr.heap.size, 6, none⟩ = some (.int .i64 q.e.kind) ∧ w'.cell? ⟨wr.heap.size, 7, none⟩ = some (.int .i32 q.e.n) ∧ w'.cell? ⟨wr.heap.size, 8, none⟩ = some (.string q.e.name) ∧ w'.cell? ⟨wr.heap.size, 9, none⟩ = some (.slice B2 q.e.sub.length k2) ∧ (Instr.lookup 71 (.map (some Bt)) (.string q.name) false).run Tryd.prog w' = .ok (.agg #[.int .i64 ck, .string cs]) w')
            (first | exact HS.out _ (Kept.bel (bel_drew (Below.refl _ _))) | exact HS.out _ hkA2)
            (first | (go_at_call 44; refine (HARR.out V1.drew nM f c (metE L (p.eqs.take k)) (bel_drew hbV1) HMMV.out.drew hmet.out (by have := hqf.size; omega)).mono ?_; rintro r w2 ⟨rfl, ⟨n2', f2', c2', hm2, hn2, hmet2⟩, hg2⟩; have hkA2 : Kept (fun j => M ≤ j ∧ j ≠ bm ∧ j ≠ wr.heap.size) V1 w2 := (Kept.bel (bel_drew (Below.refl _ _))).trans' (Kept.grown hg2 (fun j hj => by injection hj with hj; omega))))
          have hkM : Kept (fun j => j = M) V1 w2 := (Kept.bel (bel_drew (Below.refl _ _))).trans' (Kept.grown hg2 (fun j hj => by injection hj with hj; exact hj.symm))
          have hzw2 := hkM.size
          obtain ⟨em, ex, eX5, e0, e1, e2, e3, e4, e5, e6, e7, e8, e9, elk⟩ := HS.out w2 hkA2
          have eX6 := hkM.cell (by omega) zX6
          have ef6 : w2.frozen? ⟨X, 6, none⟩ = false := (World.frozen?_of_block (a := ⟨X, 6, none⟩) (hkM.block X (by omega) (by omega))).trans zf6
          have hown3 := hkM.own (fun b hb he => by have := (hownV.lt b hb).1; omega) hownV
          have HOW3 := Lib.hid hown3
          have HM2 := Lib.hid hm2
          have HMT2 := Lib.hid hmet2
          have HKM := Lib.hid hkM
          clear hm2 hmet2 hg2 hkM hkA2 hownV hown3 zm zx zX5 zX6 zX7 z0 z1 z2 z3 z4 z5 z6 z7 z8 z9 zf6 HMMV
          have hkW : Kept (fun j => j = X ∨ j = M) V0 w2 := hkQ.trans HKM.out fun j _ hj => .inr hj
          have hXW : ∀ o, o ≠ 6 → w2.cell? ⟨X, o, none⟩ = V0.cell? ⟨X, o, none⟩ := fun o ho => (World.cell?_of_block (HKM.out.block X (by omega) (by omega))).trans ((hb1.cell (p := ⟨X, o, none⟩) (by show X < wr.heap.size; omega)).trans (hXo.out o ho))
          have HKW := Lib.hid hkW
          have HXW := Lib.hid hXW
          have hN2 : n2' ≤ 120 * (k + 1) := by have := hqf.size; omega
          clear hkQ hXW hkW hXo HKM HARR hkp2
          generalize (delayed (p.eqs.take k)).map (eqCe L) = csl at *
          cases tq : (q.delay != 0)
          · go_wp2_with fail
            go_roundw
            case rel => exact ⟨k + 1, v, n2', f2', c2', by omega, by go_num, HKW, HXW, Lib.hid eX6, Lib.hid ef6, Lib.hid (by rw [HCESE.out, tq]; simpa using HOW3.out), HM2, hN2, Lib.hid (by rw [HMETE.out]; exact HMT2.out)⟩
            case measure => simp [intOf]; omega
          · have hmtW : MapE Tryd.prog 9 clkR okS klS okC klC (0, ⟨#[]⟩) w2 Bt L.length (clkM2 L) L.length := HMTV.out.keep1 (HKW.out.block Bt (by omega) (by omega))
            obtain ⟨Ac, cc, rfl, hac1, hac2⟩ := own_slice HOW3.out
            have hS2 : ∀ w', Kept (fun j => V0.heap.size ≤ j ∧ j ≠ wr.heap.size) w2 w' → w'.cell? ⟨bm, 0, none⟩ = some (.map (some M)) ∧ w'.cell? ⟨bx, 0, none⟩ = some (.pointer (some ⟨X, 0, none⟩)) ∧ w'.cell? ⟨X, 5, none⟩ = some (.map (some Bt)) ∧ w'.cell? ⟨wr.heap.size, 0, none⟩ = some (.string q.name) ∧ w'.cell? ⟨wr.heap.size, 1, none⟩ = some (.int .i64 q.delay) ∧ w'.cell? ⟨wr.heap.size, 2, none⟩ = some (.int .i64 q.first.kind) ∧ w'.cell? ⟨wr.heap.size, 3, none⟩ = some (.int .i32 q.first.n) ∧ w'.cell? ⟨wr.heap.size, 4, none⟩ = some (.string q.first.name) ∧ w'.cell? ⟨wr.heap.size, 5, none⟩ = some (.slice B1 q.first.sub.length k1) ∧ w'.cell? ⟨wr.heap.size, 6, none⟩ = some (.int .i64 q.e.kind) ∧ w'.cell? ⟨wr.heap.size, 7, none⟩ = some (.int .i32 q.e.n) ∧ w'.cell? ⟨wr.heap.size, 8, none⟩ = some (.string q.e.name) ∧ w'.cell? ⟨wr.heap.size, 9, none⟩ = some (.slice B2 q.e.sub.length k2) ∧ (Instr.lookup 71 (.map (some Bt)) (.string q.name) false).run Tryd.prog w' = .ok (.agg #[.int .i64 ck, .string cs]) w' ∧ w'.cell? ⟨X, 6, none⟩ = some (.slice Ac csl.length cc) := fun w' hk =>
              ⟨hk.cell (by omega) em, hk.cell (by omega) ex, hk.cell (by omega) eX5, hk.cell (by omega) e0, hk.cell (by omega) e1, hk.cell (by omega) e2, hk.cell (by omega) e3, hk.cell (by omega) e4, hk.cell (by omega) e5, hk.cell (by omega) e6, hk.cell (by omega) e7, hk.cell (by omega) e8, hk.cell (by omega) e9,
                run_lkV (keyS Tryd.underlying9) valClk Tryd.underlying71 (zeroClk18 w') ⟨by unfold I64; omega, by decide⟩ (x := .string q.name) rfl (hmtW.keep1 (hk.block Bt (by omega) (by omega))) hsq hclk, hk.cell (by omega) eX6⟩
            have HS2 := Lib.hid hS2
            have hS0 := hS2 w2.drew (Kept.bel (bel_drew (Below.refl _ _)))
            have hce := ceinfo
            have hbW2 : Below w.heap.size w w2 := Kept.below hbw0 HKW.out (fun j hj he => by omega)
            clear hS2 hmtW em ex eX5 e0 e1 e2 e3 e4 e5 e6 e7 e8 e9 elk HS
            go_wp2_with fail
            refine wp_region_ht (fun w' => w'.cell? ⟨bm, 0, none⟩ = some (.map (some M)) ∧ w'.cell? ⟨bx, 0, none⟩ = some (.pointer (some ⟨X, 0, none⟩)) ∧ w'.cell? ⟨X, 5, none⟩ = some (.map (some Bt)) ∧ w'.cell? ⟨wr.heap.size, 0, none⟩ = some (.string q.name) ∧ w'.cell? ⟨wr.heap.size, 1, none⟩ = some (.int .i64 q.delay) ∧ w'.cell? ⟨wr.heap.size, 2, none⟩ = some (.int .i64 q.first.kind) ∧ w'.cell? ⟨wr.heap.size, 3, none⟩ = some (.int .i32 q.first.n) ∧ w'.cell? ⟨wr.heap.size, 4, none⟩ = some (.string q.first.name) ∧ w'.cell? ⟨wr.heap.size, 5, none⟩ = some (.slice B1 q.first.sub.length k1) ∧ w'.cell? ⟨wr.heap.size, 6, none⟩ = some (.int .i64 q.e.kind) ∧ w'.cell? ⟨wr.heap.size, 7, none⟩ = some (.int .i32 q.e.n) ∧ w'.cell? ⟨wr.heap.size, 8, none⟩ = some (.string q.e.name) ∧ w'.cell? ⟨wr.heap.size, 9, none⟩ = some (.slice B2 q.e.sub.length k2) ∧ (Instr.lookup 71 (.map (some Bt)) (.string q.name) false).run Tryd.prog w' = .ok (.agg #[.int .i64 ck, .string cs]) w' ∧ w'.cell? ⟨X, 6, none⟩ = some (.slice Ac csl.length cc)) 20 3 (by kernel_rfl) (by rfl) ?_
            simp only [List.size_toArray, List.length_cons, List.length_nil, Nat.zero_add, Nat.reduceAdd]
            refine takeA (v := ?_) 0 hS0 ?_ ?_
            rotate_left
            · intro w' hSw
              go_simp
              first | done | with_reducible rfl
            try simp only [Act.put, List.setIfInBounds_toArray, List.set_cons_zero, List.set_cons_succ]
            refine takeA (v := ?_) 1 hS0 ?_ ?_
            rotate_left
            · intro w' hSw
              go_simp
              first | done | with_reducible rfl
            try simp only [Act.put, List.setIfInBounds_toArray, List.set_cons_zero, List.set_cons_succ]
            refine takeA (v := ?_) 2 hS0 ?_ ?_
            rotate_left
            · intro w' hSw
              go_simp
              first | done | with_reducible rfl
            try simp only [Act.put, List.setIfInBounds_toArray, List.set_cons_zero, List.set_cons_succ]
            refine takeA (v := ?_) 3 hS0 ?_ ?_
            rotate_left
            · intro w' hSw
              go_simp
              first | done | with_reducible rfl
            try simp only [Act.put, List.setIfInBounds_toArray, List.set_cons_zero, List.set_cons_succ]
            refine takeA (v := ?_) 4 hS0 ?_ ?_
            rotate_left
            · intro w' hSw
              go_simp
              first | done | with_reducible rfl
            try simp only [Act.put, List.setIfInBounds_toArray, List.set_cons_zero, List.set_cons_succ]
            refine takeA (v := ?_) 5 hS0 ?_ ?_
            rotate_left
            · intro w' hSw
              go_simp
              first | done | with_reducible rfl
            try simp only [Act.put, List.setIfInBounds_toArray, List.set_cons_zero, List.set_cons_succ]
            refine takeA (v := ?_) 6 hS0 ?_ ?_
            rotate_left
            · intro w' hSw
              go_simp
              first | done | with_reducible rfl
            try simp only [Act.put, List.setIfInBounds_toArray, List.set_cons_zero, List.set_cons_succ]
            refine takeA (v := ?_) 7 hS0 ?_ ?_
            rotate_left
            · intro w' hSw
              go_simp
              first | done | with_reducible rfl
            try simp only [Act.put, List.setIfInBounds_toArray, List.set_cons_zero, List.set_cons_succ]
            refine takeA (v := ?_) 8 hS0 ?_ ?_
            rotate_left
            · intro w' hSw
              go_simp
              first | done | with_reducible rfl
            try simp only [Act.put, List.setIfInBounds_toArray, List.set_cons_zero, List.set_cons_succ]
            refine takeA (v := ?_) 9 hS0 ?_ ?_
            rotate_left
            · intro w' hSw
              go_simp
              first | done | with_reducible rfl
            try simp only [Act.put, List.setIfInBounds_toArray, List.set_cons_zero, List.set_cons_succ]
            refine takeA (v := ?_) 10 hS0 ?_ ?_
            rotate_left
            · intro w' hSw
              go_simp
              first | done | with_reducible rfl
            try simp only [Act.put, List.setIfInBounds_toArray, List.set_cons_zero, List.set_cons_succ]
            refine takeA (v := ?_) 11 hS0 ?_ ?_
            rotate_left
            · intro w' hSw
              go_simp
              first | done | with_reducible rfl
            try simp only [Act.put, List.setIfInBounds_toArray, List.set_cons_zero, List.set_cons_succ]
            refine takeA (v := ?_) 12 hS0 ?_ ?_
            rotate_left
            · intro w' hSw
              go_simp
              first | done | with_reducible rfl
            try simp only [Act.put, List.setIfInBounds_toArray, List.set_cons_zero, List.set_cons_succ]
            refine takeA (v := ?_) 13 hS0 ?_ ?_
            rotate_left
            · intro w' hSw
              go_simp
              first | done | with_reducible rfl
            try simp only [Act.put, List.setIfInBounds_toArray, List.set_cons_zero, List.set_cons_succ]
            refine takeA (v := ?_) 14 hS0 ?_ ?_
            rotate_left
            · intro w' hSw
              go_simp
              first | done | with_reducible rfl
            try simp only [Act.put, List.setIfInBounds_toArray, List.set_cons_zero, List.set_cons_succ]
            refine takeA (v := ?_) 15 hS0 ?_ ?_
            rotate_left
            · intro w' hSw
              go_simp
              first | done | with_reducible rfl
            try simp only [Act.put, List.setIfInBounds_toArray, List.set_cons_zero, List.set_cons_succ]
            refine oneA 16 ?_
            refine oper_wp_K fun K hK => ?_
            go_simp
            refine (HLIT.out w2.drew (bel_drew hbW2)).mono ?_
            rintro r w3 ⟨rfl, hb3⟩
            dsimp only
            have hk3 : Kept (fun j => V0.heap.size ≤ j ∧ j ≠ wr.heap.size) w2 w3 := Kept.bel (bel_trans (bel_drew (Below.refl _ _)) hb3)
            have hS3 := HS2.out w3 hk3
            refine hK _ _ ⟨hS3, ?_⟩
            clear hK K
            refine takeA (v := ?_) 17 hS3 ?_ ?_
            rotate_left
            · intro w' hSw
              go_simp
              first | done | with_reducible rfl
            try simp only [Act.put, List.setIfInBounds_toArray, List.set_cons_zero, List.set_cons_succ]
            refine oneA 18 ?_
            refine oper_wp_K fun K hK => ?_
            go_simp
            have hS4 := HS2.out (w3.alloc (.cells #[.string q.name, .int .i64 ck, .string cs, .int .i32 (litV q.first)] 78)) (hk3.trans' (Kept.bel (bel_alloc (Below.refl _ _) _)))
            refine hK _ _ ⟨hS4, ?_⟩
            clear hK K
            have hownB : w3.ownsRow V0.heap.size 78 4 (.slice Ac csl.length cc) csl.length (cesC csl) := own_bel (own_drew HOW3.out) hb3
            have hob : ∀ b', (Value.slice Ac csl.length cc).ownBlock = some b' → V0.heap.size ≤ b' ∧ b' < w2.heap.size := fun b' hb' => ⟨(HOW3.out.lt b' hb').1, (HOW3.out.lt b' hb').2⟩
            have hobr : ∀ b', (Value.slice Ac csl.length cc).ownBlock = some b' → b' < wr.heap.size := fun b' hb' => (hown2.out.lt b' hb').2
            have hz3 := hk3.size
            refine oneA 19 ?_
            refine wp_cat2 (.tmp 77) (.tmp 91) 63 rfl V0.heap.size 78 _ 4 48 Tryd.underlying63 hce rfl (by omega) (.slice Ac csl.length cc) csl.length (cesC csl) w3.heap.size 1 1 [.string q.name, .int .i64 ck, .string cs, .int .i32 (litV q.first)] rfl (own_alloc hownB) rfl rfl (fun j u hj => by refine (cell_new' (w := w3) (c := #[.string q.name, .int .i64 ck, .string cs, .int .i32 (litV q.first)]) (t := 78) rfl).trans ?_; simpa using hj) (by simp [Value.oneCell']) (by omega) (by omega) (by simp; omega) ?_
            intro v3 w4 hown4 hg4 hv4
            obtain ⟨A3', c3', rfl, hc31, hc32⟩ := own_slice hown4
            have hk4 : Kept (fun j => V0.heap.size ≤ j ∧ j ≠ wr.heap.size) w2 w4 := (hk3.trans' (Kept.bel (bel_alloc (Below.refl _ _) _))).trans' (Kept.grown hg4 fun j hj => by have h1 := hob j hj; have h2 := hobr j hj; omega)
            have hk4b : Kept (fun j => V0.heap.size ≤ j) w2 w4 := hk4.less fun j _ hj => hj.1
            have hS5 := HS2.out w4 hk4
            have k6 : w4.cell? ⟨X, 6, none⟩ = some (.slice Ac csl.length cc) := hk4.cell (by omega) eX6
            have kf : w4.frozen? ⟨X, 6, none⟩ = false := (World.frozen?_of_block (a := ⟨X, 6, none⟩) (hk4.block X (by omega) (by omega))).trans ef6
            refine ⟨hS5, wpHT_done (by kernel_rfl) ?_⟩
            try simp only [Act.put, List.setIfInBounds_toArray, List.set_cons_zero, List.set_cons_succ]
            refine anyA 20 ?_
            refine oper_wp_K fun K hK => ?_
            go_simp
            refine hK _ _ ?_
            clear hK K
            try simp only [Act.put, List.setIfInBounds_toArray, List.set_cons_zero, List.set_cons_succ]
            refine anyA 21 ?_
            refine oper_wp_K fun K hK => ?_
            go_simp
            refine hK _ _ ?_
            clear hK K
            try simp only [Act.put, List.setIfInBounds_toArray, List.set_cons_zero, List.set_cons_succ]
            refine anyA 22 ?_
            refine oper_wp_K fun K hK => ?_
            go_simp
            refine hK _ _ ?_
            clear hK K
            try simp only [Act.put, List.setIfInBounds_toArray, List.set_cons_zero, List.set_cons_succ]
            refine wpAny_end (by kernel_rfl) ?_
            have hkF : Kept (fun j => j = X ∨ V0.heap.size ≤ j) w2 (w4.setCell ⟨X, 6, none⟩ (.slice A3' (csl.length + 1) c3')) := (hk4b.less fun j _ hj => .inr hj).setCell (.inl rfl) _ _
            have HK5 := Lib.hid (HKW.out.trans hkF (fun j hj h => h.elim (fun h => .inl h) (fun h => absurd h (by omega))))
            have HXO5 := Lib.hid (fun (o : Nat) (ho : o ≠ 6) => (World.cell?_setCell_other w4 ⟨X, 6, none⟩ ⟨X, o, none⟩ (.slice A3' (csl.length + 1) c3') (by intro he; injection he with e1 e2; first | exact ho e2 | exact ho e2.symm)).trans ((World.cell?_of_block (hk4.block X (by omega) (by omega))).trans (HXW.out o ho)))
            have HX65 := Lib.hid (World.cell?_setCell_same w4 ⟨X, 6, none⟩ (.slice A3' (csl.length + 1) c3') k6)
            have HF65 := Lib.hid ((World.frozen?_setCell (w := w4) (a := ⟨X, 6, none⟩) (v := .slice A3' (csl.length + 1) c3') (b := ⟨X, 6, none⟩)).trans kf)
            have hownF := own_apart hown4 (z := X) (fun b' hb' he => by have := (hown4.lt b' hb').1; omega) 6 (.slice A3' (csl.length + 1) c3')
            have HOWF := Lib.hid hownF
            have HMF5 := Lib.hid (HM2.out.keep1 (hkF.block M (by omega) (by omega)))
            clear hS0 hS3 hS4 hS5 hk3 hk4 hk4b hkF hown4 hg4 hv4 k6 kf hownB hob hobr hownF
            go_wp2_with fail
            go_roundw
            case rel => exact ⟨k + 1, _, n2', f2', c2', by omega, by go_num, HK5, HXO5, HX65, HF65, Lib.hid (by rw [HCESE.out, tq, if_pos rfl, cesC_snoc, List.length_append, HEQC.out]; exact HOWF.out), HMF5, hN2, Lib.hid (by rw [HMETE.out]; exact HMT2.out)⟩
            case measure => simp [intOf]; omega
        · obtain rfl : k = p.eqs.length := by omega
          obtain ⟨Wb, rfl⟩ : ∃ Wb, Wb = wr := ⟨wr, rfl⟩
          have hS1 := hown2.out
          have hS2 := hmet.out
          rw [List.take_length] at hS1 hS2
          have e7 := (hXo.out 7 (by decide)).trans v7
          have hmFW : MapG Tryd.prog 58 3 .i64 okC klC Wb F 0 (fun _ => none) 0 := (HMF1.out.keep1 (HKV.out.block F (by omega) (by omega))).keep1 (hkp2.out.block F (by omega) (by omega))
          have hst0 : LookSt Wb M F X bm bx V0.heap.size (metE L p.eqs) ((delayed p.eqs).map (eqCe L)) 0 v := ⟨ym, y0, hX6.out, e7, ⟨nM, f, c, hmM2.out, hS2⟩, ⟨_, _, hmFW⟩, hS1, hf6.out⟩
          have hkB : Kept (fun j => j = Bt ∨ j = X ∨ M ≤ j) wb Wb := ((hkp.out.less fun j _ hj => .inl hj).trans' (Kept.bel hbV')).trans (hkp2.out) fun j hj h => by omega
          have hcs0 : ((delayed p.eqs).map (eqCe L)).length ≤ 24 := by
            rw [List.length_map]
            have := delayed_len p.eqs
            have := HCLN.out.small.2.2.2
            omega
          have hcells : cellsL p = (delayed p.eqs).map (eqCe L) ++ flagsOf (metE L p.eqs) (allC L) := by unfold cellsL; rw [hLL]
          have HCE := Lib.hid hcells
          have hbwB : Below w.heap.size w Wb := Kept.below hbw0 hkp2.out (fun j hj he => by omega)
          have u0 := (hkp2.out.cell (by omega) (HKV.out.cell (by omega) s0))
          have u1 := (hkp2.out.cell (by omega) (HKV.out.cell (by omega) s1))
          have u2 := (hkp2.out.cell (by omega) (HKV.out.cell (by omega) s2))
          have hfB : ∀ o, Wb.frozen? ⟨w.heap.size + 1, o, none⟩ = W1.frozen? ⟨w.heap.size + 1, o, none⟩ := fun o => (World.frozen?_of_block (hkp2.out.block (w.heap.size + 1) (by omega) (by omega))).trans (World.frozen?_of_block (HKV.out.block (w.heap.size + 1) (by omega) (by omega)))
          have w0' := (hfB 0).trans t0
          have w1' := (hfB 1).trans t1
          have w2' := (hfB 2).trans t2
          have hmf : ∀ (fn : Fn) (first cap : Array Value) (w : World), (Instr.makeFunc fn first cap).run Tryd.prog w = .ok (.func fn first cap) w := fun _ _ _ _ => rfl
          generalize (delayed p.eqs).map (eqCe L) = cs0 at *
          generalize metE L p.eqs = Lm at *
          have HST := Lib.hid hst0
          have HKB := Lib.hid hkB
          clear hS1 hS2 hst0 hkB hmFW hcells y0 ym y5 y7 hX6 hf6 hmet hmM2 hown2 hXo hkp2 hbwr s0 s1 s2 t0 t1 t2 v0 v5 v6 v7 fv6 m0 HMTV hfB e7
          go_wp2_with (first | (go_at_call 46; go_loud (refine (flag18_any M F X bm bx V0.heap.size (by omega) (by omega) (by omega) (by omega) (by omega) (by omega) (by omega) (by omega) (by omega) (by omega) (by omega) (by omega) Lm 0 ⟨#[]⟩ cs0 0 v Wb (by omega) HST.out ⟨by unfold I64; omega, by unfold maxLen; show 0 ≤ _; omega⟩ (by omega) (by omega)).mono ?_; rintro r Wc ⟨rfl, ⟨vc, hstc, hvc⟩, hkc⟩)))
          have hcz : (if inC Lm (0, ⟨#[]⟩) = true then cs0 ++ [flagCe (0, ⟨#[]⟩)] else cs0) = cs0 ++ flagsOf Lm (allC (L.take 0)) := by
            rw [show allC (L.take 0) = [] ++ [(0, ⟨#[]⟩)] from rfl, flagsOf_snoc]
            split
            · rfl
            · simp [flagsOf]
          rw [hcz] at hstc
          have hvB : ∀ j, some j = v.ownBlock → V0.heap.size ≤ j := fun j hj => (HST.out.own.lt j hj.symm).1
          have hkc' : Kept (fun j => j = F ∨ j = X ∨ V0.heap.size ≤ j) Wb Wc := hkc.less fun j _ hj => by
            rcases hj with h | h | h
            · exact .inl h
            · exact .inr (.inl h)
            · exact .inr (.inr (hvB j h))
          have HKC := Lib.hid hkc'
          have HSTC := Lib.hid hstc
          have hzC := hkc'.size
          clear hcz hvB hkc hkc' hstc hvc HST
          go_loopw [102] (fun i wr => ∃ (k n : Nat) (vk : Value), k ≤ L.length ∧ i = .int .i64 k ∧ n ≤ 1 + 2 * k ∧ Hid (LookSt wr M F X bm bx V0.heap.size Lm (cs0 ++ flagsOf Lm (allC (L.take k))) n vk) ∧ Hid (Kept (fun j => j = F ∨ j = X ∨ V0.heap.size ≤ j) Wb wr)) (fun i _ => L.length - (intOf i).toNat)
          case atStart => exact ⟨0, 1, vc, Nat.zero_le _, rfl, by omega, HSTC, HKC⟩
          case round =>
            clear HSTC HKC
            obtain ⟨k, n, vk, hk3, rfl, hn3, hstk, hkk⟩ := hrel
            have hze := hkk.out.size
            have hkl := flagsOf_len Lm (allC (L.take k))
            rw [allC_len, List.length_take] at hkl
            have hcl3 : (cs0 ++ flagsOf Lm (allC (L.take k))).length ≤ 100 := by rw [List.length_append]; omega
            by_cases hlt3 : k < L.length
            · have hx : L[k]? = some L[k] := List.getElem?_eq_getElem hlt3
              have hmem : L[k] ∈ L := List.getElem_mem hlt3
              generalize L[k] = x at hx hmem
              have hal := allC_take hx
              have hvr : VarsAt wr L Av cv := off_kept (S := fun j => j = Bt ∨ j = X ∨ j = F ∨ M ≤ j) HVA.out ((HKB.out.less fun j _ hj => by omega).trans hkk.out fun j _ hj => by omega) (fun j h1 h2 h3 => by omega)
              obtain ⟨b, off, rfl, hbb2, ⟨d0, d1, d2, d3⟩⟩ := hvr.get hx
              have hsx := HVF.out x hmem
              have hso1 : okC (1, x.name) := ⟨by unfold I64; omega, by have := hsx.name; unfold maxLen; dsimp only; omega⟩
              have hso2 : okC (2, x.name) := ⟨by unfold I64; omega, by have := hsx.name; unfold maxLen; dsimp only; omega⟩
              have hown := hstk.out.own
              have HAL := Lib.hid hal
              clear hx hmem hal hvr hsx
              have hE : ∀ A B : List Ce, (if inC Lm (2, x.name) = true then (if inC Lm (1, x.name) = true then (cs0 ++ flagsOf Lm (allC (L.take k))) ++ [flagCe (1, x.name)] else (cs0 ++ flagsOf Lm (allC (L.take k)))) ++ [flagCe (2, x.name)] else (if inC Lm (1, x.name) = true then (cs0 ++ flagsOf Lm (allC (L.take k))) ++ [flagCe (1, x.name)] else (cs0 ++ flagsOf Lm (allC (L.take k))))) = cs0 ++ flagsOf Lm (allC (L.take (k + 1))) := fun _ _ => by
                rw [HAL.out, flagsOf_snoc, flagsOf_snoc]
                cases inC Lm (1, x.name) <;> cases inC Lm (2, x.name) <;> simp
              have HE := Lib.hid (hE [] [])
              clear hE
              generalize cs0 ++ flagsOf Lm (allC (L.take k)) = ck0 at *
              go_wp2_with fail
              refine calls_name fun Wx hWx => ?_
              have hbx : Below wr.heap.size wr Wx := by rw [hWx]; exact belA
              have hzx : Wx.heap.size = wr.heap.size + 1 := by rw [hWx]; simp
              have n0 : Wx.cell? ⟨wr.heap.size, 0, none⟩ = some (.string x.name) := by rw [hWx]; go_simp
              have hvk : ∀ j, some j = vk.ownBlock → V0.heap.size ≤ j ∧ j < wr.heap.size := fun j hj => hown.lt j hj.symm
              clear hWx d0 d1 d2 d3
              refine (flag18_any M F X bm bx V0.heap.size (by omega) (by omega) (by omega) (by omega) (by omega) (by omega) (by omega) (by omega) (by omega) (by omega) (by omega) (by omega) Lm 1 x.name ck0 n vk Wx (by omega) (hstk.out.later hbx) hso1 (by omega) (by omega)).mono ?_
              rintro r Wd ⟨rfl, ⟨vd, hstd, hvd⟩, hkd⟩
              have n1' : Wd.cell? ⟨wr.heap.size, 0, none⟩ = some (.string x.name) := hkd.cell (fun h => by rcases h with h | h | h; exact absurd h (by omega); exact absurd h (by omega); have := hvk _ h; omega) n0
              have hzd := hkd.size
              have hvd2 : ∀ j, some j = vd.ownBlock → V0.heap.size ≤ j := fun j hj => (hstd.own.lt j hj.symm).1
              have hkW1 : Kept (fun j => j = F ∨ j = X ∨ V0.heap.size ≤ j) Wb Wd := (hkk.out.trans' (Kept.bel hbx)).trans hkd fun j _ hj => by
                rcases hj with h | h | h
                · exact .inl h
                · exact .inr (.inl h)
                · exact .inr (.inr (hvk j h).1)
              have HSD := Lib.hid hstd
              have HKW1 := Lib.hid hkW1
              clear hstd hkW1 hkd hvd hown
              go_wp2_with fail
              refine (flag18_any M F X bm bx V0.heap.size (by omega) (by omega) (by omega) (by omega) (by omega) (by omega) (by omega) (by omega) (by omega) (by omega) (by omega) (by omega) Lm 2 x.name _ (n + 1) vd Wd (by omega) HSD.out hso2 (by omega) (by split <;> (try rw [List.length_append]) <;> (try simp only [List.length_cons, List.length_nil]) <;> omega)).mono ?_
              rintro r We ⟨rfl, ⟨ve, hste, hve⟩, hke⟩
              have HKW2 := Lib.hid (HKW1.out.trans hke fun j _ hj => by
                rcases hj with h | h | h
                · exact .inl h
                · exact .inr (.inl h)
                · exact .inr (.inr (hvd2 j h)))
              rw [HE.out] at hste
              have HSE := Lib.hid hste
              clear hste hke hve
              go_wp2_with fail
              go_roundw
              case rel => exact ⟨k + 1, n + 1 + 1, ve, by omega, by go_num, by omega, HSE, HKW2⟩
              case measure => simp [intOf]; omega
            · obtain rfl : k = L.length := by omega
              rw [List.take_length, ← HCE.out] at hstk hcl3
              have hX6 := hstk.out.x6
              have hX0 := hstk.out.x
              have hownE := hstk.out.own
              obtain ⟨Ae, ce, rfl, hce1, hce2⟩ := own_slice hownE
              unfold maxLen at hce2
              have hbE : Below w.heap.size w wr := Kept.below hbwB hkk.out (fun j hj he => by omega)
              have u0' := hkk.out.cell (by omega) u0
              have u1' := hkk.out.cell (by omega) u1
              have u2' := hkk.out.cell (by omega) u2
              have hfE : ∀ o, wr.frozen? ⟨w.heap.size + 1, o, none⟩ = Wb.frozen? ⟨w.heap.size + 1, o, none⟩ := fun o => World.frozen?_of_block (hkk.out.block (w.heap.size + 1) (by omega) (by omega))
              have f0' := (hfE 0).trans w0'
              have f1' := (hfE 1).trans w1'
              have f2' := (hfE 2).trans w2'
              have HOE := Lib.hid (own_less hownE (B' := w.heap.size) (by omega))
              have hobE : ∀ b, (Value.slice Ae (cellsL p).length ce).ownBlock = some b → b ≠ w.heap.size + 1 := fun b hb he => by have := (hownE.lt b hb).1; omega
              have hSX : ∀ (U : World) (o : Nat) (u : Value), (U.setCell ⟨w.heap.size + 1, o, none⟩ u).cell? ⟨X, 6, none⟩ = U.cell? ⟨X, 6, none⟩ := fun U o u => World.cell?_setCell_other _ _ _ _ (by intro he; injection he with e1 e2; omega)
              have HSX := Lib.hid hSX
              clear hstk hkk hownE u0 u1 u2 w0' w1' w2' hfE hSX
              by_cases hbig : 16 < (cellsL p).length
              · have hbi : (16 : Int) < ((cellsL p).length : Int) := by omega
                go_wp2_with fail
                refine bodyPost_ret (v := .tuple #[.pointer none, .agg #[.int .i64 4, .int .i64 0, .int .i64 3]]) (by simp [results, Tryd.results25, go_sem, *]) rfl ?_
                unfold LookR
                rw [if_pos hbig]
                exact ⟨rfl, by exact belS⟩
              · have hbi : ¬ (16 : Int) < ((cellsL p).length : Int) := by omega
                go_wp2_with fail
                refine bodyPost_ret (v := .tuple #[.pointer (some ⟨X, 0, none⟩), .agg #[.int .i64 0, .int .i64 0, .int .i64 0]]) (by simp [results, Tryd.results25, go_sem, *]) rfl ?_
                unfold LookR
                rw [if_neg hbig]
                exact ⟨⟨X, .slice Ae (cellsL p).length ce, rfl, (by rw [HSX.out, HSX.out, HSX.out]; exact hX6), own_apart (own_apart (own_apart HOE.out hobE 0 _) hobE 1 _) hobE 2 _⟩, by exact belS⟩
end Go.Proofs.YtknfcamdfdfoeaaDoor
