/- Walk over start's Check. -/
import Derived.Test.YtikmbkojnfmiaaaGreatDoorRRRRCB
import Derived.Test.YtikmbkojnfmiaaaGreatDoorRRRRBZ
import Derived.Test.YtikmbkojnfmiaaaGreatDoorRRRRBB
set_option linter.unusedVariables false
set_option linter.unusedSimpArgs false
set_option maxRecDepth 100000
namespace Go.Proofs.YtikmbkojnfmiaaaGreatDoorRRRR
open Go.RowKit Go.Sort Go.Maps Go.ChangeMaps Go.WideMaps

set_option maxHeartbeats 4000000 in
theorem scheck_fault (p : Pr) (a : PrA) (w : World) (hg : Always w) (hp : PrAt w p a) (hok : PrOK p) (n1 : p.ins.length ≤ 1000000) (n2 : p.outs.length ≤ 1000000) (n3 : p.locals.length ≤ 1000000) (n4 : p.eqs.length ≤ 1000000) (hne : (orderE p).2 ≠ (0, 0, 0)) :
    Calls Tryz.prog 7 #[prV p a] w fun r w' => r = .returned (fV (orderE p).2) ∧ Below w.heap.size w w' := by
  have hfind := fun W h => find_fault p a W (hg.later h) (hp.later h) hok n1 n2 n3 n4 hne
  clear hg hok
  obtain ⟨A1, c1, A2, c2, A3, c3, A4, c4⟩ := a
  unfold prV fV at *
  dsimp only at *
  generalize (orderE p).2 = O at *
  obtain ⟨f1, f2, f3⟩ := O
  dsimp only at *
  have hne2 : (f1 == 0 && f2 == 0 && f3 == 0) = false := by
    rw [Bool.eq_false_iff]
    intro h
    simp only [Bool.and_eq_true, beq_iff_eq] at h
    exact hne (by rw [h.1.1, h.1.2, h.2])
  have hfq : ∀ w, (Op.equalIn 10000 31 (.agg #[.int .i64 f1, .int .i64 f2, .int .i64 f3]) (.agg #[.int .i64 0, .int .i64 0, .int .i64 0])).run Tryz.prog w = .ok false w := fun w => by rw [eqFault, hne2]
  have hgm : Tryz.prog.eqGuardType Tryz.prog.depth 31 = false := by kernel_rfl
  clear hne hne2 hp
  go_enter Tryz.func7, Tryz.ntmps7
  go_wp2_with (first | (go_at_call 13; go_loud (refine (hfind _ belA).mono ?_; rintro r wo ⟨rfl, hbo⟩; have hco := bcell hbo; have hfo := bfrozen hbo; have hzo : w.heap.size + 2 ≤ wo.heap.size := (by have := hbo.size; simpa using this); have hyo : w.heap.size < wo.heap.size := (by omega); have hyo1 : w.heap.size + 1 < wo.heap.size := (by omega))))
  refine bodyPost_ret (v := .agg #[.int .i64 f1, .int .i64 f2, .int .i64 f3]) (by simp [results, Tryz.results7, go_sem, *]) rfl ⟨rfl, ?_⟩
  (repeat refine bel_drew ?_)
  exact belS

section
variable {P : Program} {k e : TypeId} {w : World}
/-- A map's entry, read behind '&&' or '||'. -/
theorem wpList_lkIg {ops : Array Oper} {rest : List Oper} {o : Oper} {a : Act} {Q : Exit → Act → World → Prop} (hw : Region.wanted o (yielded ops a.tmps) = true) (m x : Operand) (t : TypeId) (hop : o.op = Op.lookup t m x false)
    (hk : P.underlying k = some .string) (ht : P.underlying t = some (.map k e)) (he : P.underlying e = some (.int .i64)) (hz : (zeroValue e).run P w = .ok (.int .i64 0) w)
    (b n : Nat) (f : ByteArray → Option Int) (s : ByteArray) (hm : a.eval m = .map (some b)) (hown : MapI P k e w b n f) (hx : a.eval x = .string s) (hs : s.size ≤ maxLen)
    (hK : wpList P ops Q rest (a.put o.dst (.int .i64 ((f s).getD 0))) w) : wpList P ops Q (o :: rest) a w := by
  obtain ⟨D, h1, h2, h3⟩ := hown
  obtain ⟨c, hrun, hat, hwc⟩ := h1.lookup_int (string_keyed hk) ht he hz (keyOf_string_mk hk hs)
  rw [(h3 s).2] at hat
  have hc : (f s).getD 0 = c := by injection hat with hat; injection hat
  rw [hc] at hK
  refine wpList_step fun K' hK' => ?_
  rw [if_pos hw]
  unfold Oper.wp
  simp [execOp, hop, hm, hx, hrun, Result.andThen]
  exact hK' _ _ hK
end
theorem onM_snoc {f : ByteArray → Option Int} {l : List ByteArray} {n : ByteArray} (h : ∀ s, onM f s = hasB l s) : ∀ s, onM (upd f n 1) s = hasB (l ++ [n]) s := fun s => by
  have hs := h s
  unfold onM at hs ⊢
  rw [hasB_snoc, data_beq]
  unfold upd
  by_cases hd : s.data = n.data
  · rw [if_pos hd, hd]
    simp
  · rw [if_neg hd]
    have : decide (n.data = s.data) = false := by simpa using fun e => hd e.symm
    rw [this, Bool.or_false]
    exact hs

set_option maxHeartbeats 60000000 in
theorem scheck_clean (p : Pr) (a : PrA) (w : World) (hg : Always w) (hp : PrAt w p a) (hok : PrOK p) (n1 : p.ins.length ≤ 1000000) (n2 : p.outs.length ≤ 1000000) (n3 : p.locals.length ≤ 1000000) (n4 : p.eqs.length ≤ 1000000) (hO2 : (orderE p).2 = (0, 0, 0)) :
    Calls Tryz.prog 7 #[prV p a] w fun r w' => r = .returned (fV (startF p)) ∧ Below w.heap.size w w' := by
  have hO : startF p = startGo (hangQ p (looseE p).1) 0 p.eqs := by unfold startF; rw [if_pos hO2]
  have hck := (orderE_good hO2).1
  have hvs : ∀ v ∈ varsOf p, v.name.size ≤ maxLen := fun v hv => by have := (vars_short (clean_parts (clkF_parts hck).1).1 v hv).1; unfold maxLen; omega
  have hvc : ∀ v ∈ varsOf p, v.cn.size ≤ maxLen := fun v hv => by have := (vars_short (clean_parts (clkF_parts hck).1).1 v hv).2; unfold maxLen; omega
  have hos : ∀ v ∈ p.outs, v.name.size ≤ maxLen := fun v hv => hvs v (by simp [varsOf, hv])
  have hcs : ∀ s, (clockL (varsOf p) s).2.size ≤ maxLen := clock_size hvc
  have hqs := eqs_clean hck hok
  have hfind := fun W h => find_clean p a W (hg.later h) (hp.later h) hok n1 n2 n3 n4 hO2
  have hvars := fun W h => vars_any p a W (hp.later h) n1 n2 n3
  have hL3 : (varsOf p).length ≤ 3000000 := by simp [varsOf]; omega
  obtain ⟨h, hh⟩ : ∃ h, h = hangQ p (looseE p).1 := ⟨_, rfl⟩
  rw [← hh] at hO
  have hhq : ∀ q, h q = hangB (q.e.torn (inL (looseE p).1)) ((clockL (varsOf p) q.name).1 != 0) (inL (looseE p).1 (clockL (varsOf p) q.name).2) (q.delay != 0) (q.e.reach (inL (looseE p).1)) (hasB (p.outs.map (·.name)) q.name) (inL (looseE p).1 q.name) := fun q => by rw [hh]; rfl
  generalize startF p = O at *
  generalize (looseE p).1 = LF at *
  have HO := Lib.hid hO
  have HH := Lib.hid hhq
  have HVS := Lib.hid hvs
  have HOS := Lib.hid hos
  have HCS := Lib.hid hcs
  have HQS := Lib.hid hqs
  clear hO hh hhq hvs hvc hos hcs hqs hO2 hck hg hok
  have hfq : ∀ w, (Op.equalIn 10000 31 (.agg #[.int .i64 0, .int .i64 0, .int .i64 0]) (.agg #[.int .i64 0, .int .i64 0, .int .i64 0])).run Tryz.prog w = .ok true w := fun w => by rw [eqFault]; rfl
  have hgm : Tryz.prog.eqGuardType Tryz.prog.depth 31 = false := by kernel_rfl
  have hmm := @run_makeMap Tryz.prog
  have hp2 := hp.outs
  have hl2 := hp.outs.len
  have hp4 := hp.eqs
  have hl4 := hp.eqs.len
  obtain ⟨A1, c1, A2, c2, A3, c3, A4, c4⟩ := a
  unfold maxLen at hl2 hl4
  unfold prV fV at *
  dsimp only at *
  obtain ⟨hl21, hl22⟩ := hl2
  obtain ⟨hl41, hl42⟩ := hl4
  clear hp
  go_enter Tryz.func7, Tryz.ntmps7
  go_wp2_with (first
    | (go_at_call 13; go_loud (refine (hfind _ belA).mono ?_; rintro r wo ⟨⟨B, n, f, rfl, hB, hm, hag⟩, hbo⟩; have hco := bcell hbo; have hfo := bfrozen hbo; have hzo : w.heap.size + 2 ≤ wo.heap.size := (by have := hbo.size; simpa using this); have hyo : w.heap.size < wo.heap.size := (by omega); have hyo1 : w.heap.size + 1 < wo.heap.size := (by omega); have hyo2 : w.heap.size < wo.heap.size + 1 + 1 + 1 := (by omega); have hyo3 : w.heap.size < wo.heap.size + 1 := (by omega); have hyo4 : w.heap.size < wo.heap.size + 1 + 1 := (by omega); have HAG := Lib.hid hag; clear hag))
    | (go_at_call 14; go_loud (refine (hvars _ belA).mono ?_; rintro r wv ⟨⟨Av, cv, rfl, hrow⟩, hbv⟩; have hcv := bcell hbv; have hfv := bfrozen hbv; have hzv : wo.heap.size + 3 ≤ wv.heap.size := (by have := hbv.size; simpa using this); have hyv : w.heap.size < wv.heap.size := (by omega); have hyv1 : w.heap.size + 1 < wv.heap.size := (by omega); have hva := VarsAt.of_own hrow)))
  refine wp_name fun W0 hW0 => ?_
  have hb0 : Below w.heap.size w W0 := by rw [hW0]; (repeat refine bel_drew ?_); exact belS
  have hbo0 : Below wo.heap.size wo W0 := by rw [hW0]; (repeat refine bel_drew ?_); exact belS
  have hm0 : MapI Tryz.prog 9 3 W0 B n f := hm.bel hbo0
  have hBlt : B < wo.heap.size := hm.lt
  have hz3 : wo.heap.size + 3 ≤ W0.heap.size := by rw [hW0]; exact hzv
  have hva0 : Off (wo.heap.size + 3) none W0 (fun W => VarsAt W (varsOf p) Av cv) := by rw [hW0]; have := VarsAt.off_own' hrow; simpa using this
  have hmc : MapV Tryz.prog 9 W0 (wo.heap.size + 1) 0 (fun _ => none) := by
    rw [hW0]
    have h1 := MapV.made (P := Tryz.prog) (k := 9) (wo.alloc (.cells #[.int .i64 0, .int .i64 0, .int .i64 0] 31))
    have h2 := (h1.bel (bel_alloc (Below.refl _ _) (.map #[] 0))).bel hbv
    simpa using h2
  have hmo : MapI Tryz.prog 9 3 W0 (wo.heap.size + 1 + 1) 0 (fun _ => none) := by
    rw [hW0]
    have h1 := MapI.made (P := Tryz.prog) (k := 9) (e := 3) ((wo.alloc (.cells #[.int .i64 0, .int .i64 0, .int .i64 0] 31)).alloc (.map #[] 0))
    have h2 := h1.bel hbv
    simpa using h2
  have x2 : W0.cell? ⟨w.heap.size, 2, none⟩ = some (.slice A2 p.outs.length c2) := by rw [hW0]; go_simp
  have x4 : W0.cell? ⟨w.heap.size, 4, none⟩ = some (.slice A4 p.eqs.length c4) := by rw [hW0]; go_simp
  have f0 : W0.cell? ⟨w.heap.size + 1, 0, none⟩ = some (.int .i64 0) := by rw [hW0]; go_simp
  have f1 : W0.cell? ⟨w.heap.size + 1, 1, none⟩ = some (.int .i64 0) := by rw [hW0]; go_simp
  have f2 : W0.cell? ⟨w.heap.size + 1, 2, none⟩ = some (.int .i64 0) := by rw [hW0]; go_simp
  have z0 : W0.frozen? ⟨w.heap.size + 1, 0, none⟩ = false := by rw [hW0]; go_simp
  have z1 : W0.frozen? ⟨w.heap.size + 1, 1, none⟩ = false := by rw [hW0]; go_simp
  have z2 : W0.frozen? ⟨w.heap.size + 1, 2, none⟩ = false := by rw [hW0]; go_simp
  have hll := hva0.here.len
  unfold maxLen at hll
  obtain ⟨hll1, hll2⟩ := hll
  have hyo5 : w.heap.size + 1 < wo.heap.size + 1 := by omega
  clear hW0 hco hfo hzo hyo hcv hfv hzv hyv hyv1 hva hrow hfind hvars hm hbo hbv hbo0 hfq hgm hmm
  generalize varsOf p = L at *
  go_loopw [30] (fun i wr => ∃ (k n : Nat) (fc : ByteArray → Option Value), k ≤ L.length ∧ i = .int .i64 k ∧ n ≤ k ∧ Hid (MapV Tryz.prog 9 wr (wo.heap.size + 1) n fc) ∧ Hid (ClkM fc (L.take k)) ∧ Hid (W0.grownBy wr (some (wo.heap.size + 1)))) (fun i _ => L.length - (intOf i).toNat)
  case atStart => exact ⟨0, 0, _, Nat.zero_le _, rfl, Nat.le_refl _, Lib.hid hmc, Lib.hid clkM_nil, Lib.hid ⟨rfl, rfl, rfl, Nat.le_refl _, fun _ _ _ => rfl⟩⟩
  case round =>
    obtain ⟨k, nc, fc, hk, rfl, hn, hmw, hck, hgr⟩ := hrel
    have hgz := hgr.out.size
    have hbm : Below (wo.heap.size + 1) W0 wr := bel_grown (Below.refl _ W0) hgr.out (fun b hb => by injection hb with hb; omega) (by omega)
    have hcm := bcellM hbm
    have hmr := hmw.out
    have hmlt := hmr.lt
    by_cases hlt : k < L.length
    · have hx : L[k]? = some L[k] := List.getElem?_eq_getElem hlt
      have hmem : L[k] ∈ L := List.getElem_mem hlt
      have htk : L.take (k + 1) = L.take k ++ [L[k]] := by rw [List.take_add_one, hx]; rfl
      generalize L[k] = x at hx hmem htk
      have hvr : VarsAt wr L Av cv := hva0 wr fun b h1 h2 _ => hgr.out.block b h2 (by intro he; injection he with he; omega)
      obtain ⟨b, off, rfl, hbb, ⟨d0, d1, d2, d3⟩⟩ := hvr.get hx
      have hsx := HVS.out x hmem
      have HCK := Lib.hid (by rw [htk]; exact clkM_snoc hck.out x : ClkM (updV fc x.name (clkV (x.ck, x.cn))) (L.take (k + 1)))
      clear hx hmem htk hvr hck
      go_wp2_with (first | (at_mapUpdate; go_loud (refine wpList_stV rfl (.tmp 34) (.tmp 36) (.tmp 38) 52 rfl Tryz.underlying9 Tryz.underlying52 (wo.heap.size + 1) nc fc x.name (clkV (x.ck, x.cn)) rfl (hmr.keep1 (heap_alloc_old _ _ hmlt)) (by omega) rfl rfl hsx ?_; intro w2 hm2 hg2; have HM2 := Lib.hid hm2; have HG2 := Lib.hid hg2; clear hm2 hg2)))
      go_roundw
      case rel => exact ⟨k + 1, nc + 1, _, by omega, by go_num, by omega, HM2, HCK, Lib.hid (grownT hgr.out (grownT (World.grownBy_alloc wr _ _) HG2.out))⟩
      case measure => simp [intOf]; try omega
    · obtain rfl : k = L.length := by omega
      have hck1 := hck.out
      rw [List.take_length] at hck1
      have HCK := Lib.hid hck1
      clear hck hck1
      go_wp2_with fail
      obtain ⟨W1, rfl⟩ : ∃ W1, W1 = wr := ⟨wr, rfl⟩
      have hbw1 : Below w.heap.size w W1 := bel_grown hb0 hgr.out (fun b hb => by injection hb with hb; omega) (by omega)
      have hmo1 : MapI Tryz.prog 9 3 W1 (wo.heap.size + 1 + 1) 0 (fun _ => none) := hmo.keep1 (hgr.out.block _ (by omega) (by intro he; injection he with he; omega))
      clear hcm hva0 hmlt
      go_loopw [43] (fun i wr => ∃ (k n : Nat) (fo : ByteArray → Option Int), k ≤ p.outs.length ∧ i = .int .i64 k ∧ n ≤ k ∧ Hid (MapI Tryz.prog 9 3 wr (wo.heap.size + 1 + 1) n fo) ∧ Hid (∀ s, onM fo s = hasB ((p.outs.take k).map (·.name)) s) ∧ Hid (W1.grownBy wr (some (wo.heap.size + 1 + 1)))) (fun i _ => p.outs.length - (intOf i).toNat)
      case atStart => exact ⟨0, 0, _, Nat.zero_le _, rfl, Nat.le_refl _, Lib.hid hmo1, Lib.hid (fun s => by unfold onM hasB; simp), Lib.hid ⟨rfl, rfl, rfl, Nat.le_refl _, fun _ _ _ => rfl⟩⟩
      case round =>
        obtain ⟨k, no, fo, hk, rfl, hn, hmw2, hou, hgr2⟩ := hrel
        have hgz2 := hgr2.out.size
        have hbwr : Below w.heap.size w wr := bel_grown hbw1 hgr2.out (fun b hb => by injection hb with hb; omega) (by omega)
        have hbm2 : Below (wo.heap.size + 1) W0 wr := bel_grown hbm hgr2.out (fun b hb => by injection hb with hb; omega) (by omega)
        have hcm := bcellM hbm2
        have hfm := bfrozenM hbm2
        have hmr2 := hmw2.out
        have hmlt := hmr2.lt
        by_cases hlt : k < p.outs.length
        · have hx : p.outs[k]? = some p.outs[k] := List.getElem?_eq_getElem hlt
          have hmem : p.outs[k] ∈ p.outs := List.getElem_mem hlt
          have htk : p.outs.take (k + 1) = p.outs.take k ++ [p.outs[k]] := by rw [List.take_add_one, hx]; rfl
          generalize p.outs[k] = x at hx hmem htk
          obtain ⟨b, off, rfl, hbb, ⟨d0, d1, d2, d3⟩⟩ := (hp2.later hbwr).get hx
          have hsx := HOS.out x hmem
          have HOU := Lib.hid (by rw [htk, List.map_append]; exact onM_snoc hou.out : ∀ s, onM (upd fo x.name 1) s = hasB ((p.outs.take (k + 1)).map (·.name)) s)
          clear hx hmem htk hou
          go_wp2_with (first | (at_mapUpdate; go_loud (refine wpList_stI rfl (.tmp 47) (.tmp 49) _ 48 rfl Tryz.underlying9 Tryz.underlying48 Tryz.underlying3 (wo.heap.size + 1 + 1) no fo x.name 1 rfl (hmr2.keep1 (heap_alloc_old _ _ hmlt)) (by omega) rfl rfl hsx (by omega) ?_; intro w2 hm2 hg2; have HM2 := Lib.hid hm2; have HG2 := Lib.hid hg2; clear hm2 hg2)))
          go_roundw
          case rel => exact ⟨k + 1, no + 1, _, by omega, by go_num, by omega, HM2, HOU, Lib.hid (grownT hgr2.out (grownT (World.grownBy_alloc wr _ _) HG2.out))⟩
          case measure => simp [intOf]; try omega
        · obtain rfl : k = p.outs.length := by omega
          have hou1 := hou.out
          rw [List.take_length] at hou1
          have HOU := Lib.hid hou1
          clear hou hou1
          have hwr0 : w.heap.size < wr.heap.size := by omega
          go_wp2_with fail
          obtain ⟨W2, rfl⟩ : ∃ W2, W2 = wr := ⟨wr, rfl⟩
          have hmf : MapI Tryz.prog 9 3 W2 B n f := hm0.keep1 (hbm2.block B (by omega))
          have hmk : MapV Tryz.prog 9 W2 (wo.heap.size + 1) nc fc := hmr.keep1 (hgr2.out.block _ (by omega) (by intro he; injection he with he; omega))
          clear hmr hm0 hmo hmo1 hmc hmw hmw2 hgr hgr2 hgz hgz2 hbm hbm2
          go_loopw [54] (fun i wr => ∃ k : Nat, k ≤ p.eqs.length ∧ i = .int .i64 k ∧ Hid (startGo h k (p.eqs.drop k) = O) ∧ Below W2.heap.size W2 wr) (fun i _ => p.eqs.length - (intOf i).toNat)
          case atStart => exact ⟨0, Nat.zero_le _, rfl, Lib.hid (by rw [List.drop_zero]; exact HO.out.symm), Below.refl _ _⟩
          case round =>
            obtain ⟨k, hk, rfl, hrem, hbel⟩ := hrel
            have hbw : Below w.heap.size w wr := bel_grow hbwr hbel (by omega)
            have hc := bcell hbel
            have hfz := bfrozen hbel
            have hzr := hbel.size
            have hw0 : w.heap.size < wr.heap.size := by omega
            have hw1 : w.heap.size + 1 < wr.heap.size := by omega
            have hw2 : w.heap.size + 1 < W2.heap.size := by omega
            have hw3 : w.heap.size + 1 < wr.heap.size + 1 + 1 := by omega
            have hw4 : w.heap.size + 1 < wr.heap.size + 1 := by omega
            have hw5 : w.heap.size < wr.heap.size + 1 + 1 := by omega
            have hw6 : w.heap.size < wr.heap.size + 1 := by omega
            by_cases hlt : k < p.eqs.length
            · have hx : p.eqs[k]? = some p.eqs[k] := List.getElem?_eq_getElem hlt
              have hd : p.eqs.drop k = p.eqs[k] :: p.eqs.drop (k + 1) := List.drop_eq_getElem_cons hlt
              generalize p.eqs[k] = q at hx hd
              obtain ⟨b, off, B1, n1, B2, n2, rfl, hbb, ⟨g0, g1, g2, g3, g4, g5, g6, g7, g8, g9, s1, s2⟩⟩ := (hp4.later hbw).get hx
              have hr := hrem.out
              rw [hd, startGo, HH.out q] at hr
              obtain ⟨hqs, hqne, hqf, hqok, hqz⟩ := HQS.out q (List.mem_of_getElem? hx)
              have hag := HAG.out
              obtain ⟨ck, cs, hcl⟩ : ∃ ck cs, clockL L q.name = (ck, cs) := ⟨_, _, rfl⟩
              have hcsz := HCS.out q.name
              rw [hcl] at hr hcsz
              dsimp only at hr hcsz
              rw [← hag.reach, ← torn_congr hag, ← hag cs, ← hag q.name, ← HOU.out q.name] at hr
              have HCL := Lib.hid hcl
              have hmfr := hmf.bel hbel
              have hmkr := hmk.bel hbel
              have hmor := hmr2.bel hbel
              have hrc := fun W hb => reaches_any q.e B2 n2 B n f W (s2.later hb) hqf hqok hqz (hmfr.bel hb)
              have htn := fun W hb => torn_any B n f q.e B2 n2 W (s2.later hb) hqf hqok hqz (hmfr.bel hb)
              obtain ⟨vt, hvt⟩ : ∃ b, b = q.e.torn (onM f) := ⟨_, rfl⟩
              obtain ⟨vr, hvr⟩ : ∃ b, b = q.e.reach (onM f) := ⟨_, rfl⟩
              obtain ⟨vc, hvc⟩ : ∃ b, (ck != 0) = b := ⟨_, rfl⟩
              obtain ⟨vd, hvd⟩ : ∃ b, (q.delay != 0) = b := ⟨_, rfl⟩
              obtain ⟨vl, hvl⟩ : ∃ b, onM f cs = b := ⟨_, rfl⟩
              obtain ⟨vo, hvo⟩ : ∃ b, onM fo q.name = b := ⟨_, rfl⟩
              obtain ⟨vs, hvs⟩ : ∃ b, onM f q.name = b := ⟨_, rfl⟩
              rw [← hvt] at htn
              rw [← hvr] at hrc
              rw [← hvt, ← hvr, hvc, hvd, hvl, hvo, hvs] at hr
              unfold onM at hvl hvo hvs
              unfold exV at hrc htn
              clear hvt hvr hd hx hrem hqne hqf hqok hqz hag s1 s2 hcl
              rcases hang_ways vt vc vl vd vr vo vs with ⟨rfl, rfl | rfl, rfl | rfl, hh⟩ | ⟨rfl, rfl, rfl, rfl | rfl, rfl | rfl, hh⟩ | ⟨rfl, ⟨rfl, rfl⟩ | rfl, rfl, rfl, rfl | rfl, hh⟩ | ⟨rfl, ⟨rfl, rfl⟩ | rfl, ⟨rfl, rfl⟩ | rfl, rfl, rfl, hh⟩ | ⟨rfl, ⟨rfl, rfl⟩ | rfl, ⟨rfl, rfl⟩ | rfl, ⟨rfl, rfl⟩ | rfl, hh⟩
              iterate 16
                · rw [hh, if_pos rfl] at hr
                  have HR := Lib.hid hr
                  clear hr hh
                  go_wp2_with (first
                    | (at_lookup; go_loud (refine wpList_lkV rfl (.tmp 59) (.tmp 61) 52 rfl Tryz.underlying9 Tryz.underlying52 (clkV (0, ⟨#[]⟩)) (zeroClock _) (wo.heap.size + 1) nc fc q.name rfl (hmkr.bel belA) rfl hqs ?_; rw [HCK.out q.name, HCL.out]; unfold clkV))
                    | (go_at_call 15; go_loud (refine (hrc _ belA).mono ?_; rintro r w1 ⟨rfl, hb1⟩; have hc1 := bcell hb1; have hf1 := bfrozen hb1; have hz1 : wr.heap.size + 2 ≤ w1.heap.size := (by have := hb1.size; simpa using this); have hya : w.heap.size < w1.heap.size := (by omega); have hyb : w.heap.size + 1 < w1.heap.size := (by omega); have hyc : wr.heap.size < w1.heap.size := (by omega); have hyd : wr.heap.size + 1 < w1.heap.size := (by omega)))
                    | (at_lookup; go_loud (refine wpList_lkI rfl (.tmp 72) (.tmp 74) 48 rfl Tryz.underlying9 Tryz.underlying48 Tryz.underlying3 (zeroInt _) (wo.heap.size + 1 + 1) no fo q.name rfl (hmor.bel belA) rfl hqs ?_))
                    | (at_lookup; go_loud (refine wpList_lkIg (by rfl) (.tmp 78) (.tmp 80) 49 rfl Tryz.underlying9 Tryz.underlying49 Tryz.underlying3 (zeroInt _) B n f q.name rfl (hmfr.bel belA) rfl hqs ?_))
                    | (at_lookup; go_loud (refine wpList_lkIg (by rfl) (.tmp 93) (.tmp 95) 49 rfl Tryz.underlying9 Tryz.underlying49 Tryz.underlying3 (zeroInt _) B n f cs rfl (hmfr.bel belA) rfl hcsz ?_))
                    | (go_at_call 16; go_loud (refine (htn _ belA).mono ?_; rintro r w3 ⟨rfl, hb3⟩; have hc3 := bcell hb3; have hf3 := bfrozen hb3; have hz3' : wr.heap.size + 2 ≤ w3.heap.size := (by have := hb3.size; (try simp at this); omega); have hye : w.heap.size < w3.heap.size := (by omega); have hyf : w.heap.size + 1 < w3.heap.size := (by omega); have hyg : wr.heap.size < w3.heap.size := (by omega); have hyh : wr.heap.size + 1 < w3.heap.size := (by omega))))
                  refine bodyPost_ret (v := .agg #[.int .i64 3, .int .i64 (k : Int), .int .i64 23]) (by simp [results, Tryz.results7, go_sem, *]) rfl ⟨by rw [← HR.out], ?_⟩
                  (repeat refine bel_drew ?_)
                  exact belS
              iterate 8
                · rw [hh, if_neg (by simp)] at hr
                  have HR := Lib.hid hr
                  clear hr hh
                  go_wp2_with (first
                    | (at_lookup; go_loud (refine wpList_lkV rfl (.tmp 59) (.tmp 61) 52 rfl Tryz.underlying9 Tryz.underlying52 (clkV (0, ⟨#[]⟩)) (zeroClock _) (wo.heap.size + 1) nc fc q.name rfl (hmkr.bel belA) rfl hqs ?_; rw [HCK.out q.name, HCL.out]; unfold clkV))
                    | (go_at_call 15; go_loud (refine (hrc _ belA).mono ?_; rintro r w1 ⟨rfl, hb1⟩; have hc1 := bcell hb1; have hf1 := bfrozen hb1; have hz1 : wr.heap.size + 2 ≤ w1.heap.size := (by have := hb1.size; simpa using this); have hya : w.heap.size < w1.heap.size := (by omega); have hyb : w.heap.size + 1 < w1.heap.size := (by omega); have hyc : wr.heap.size < w1.heap.size := (by omega); have hyd : wr.heap.size + 1 < w1.heap.size := (by omega)))
                    | (at_lookup; go_loud (refine wpList_lkI rfl (.tmp 72) (.tmp 74) 48 rfl Tryz.underlying9 Tryz.underlying48 Tryz.underlying3 (zeroInt _) (wo.heap.size + 1 + 1) no fo q.name rfl (hmor.bel belA) rfl hqs ?_))
                    | (at_lookup; go_loud (refine wpList_lkIg (by rfl) (.tmp 78) (.tmp 80) 49 rfl Tryz.underlying9 Tryz.underlying49 Tryz.underlying3 (zeroInt _) B n f q.name rfl (hmfr.bel belA) rfl hqs ?_))
                    | (at_lookup; go_loud (refine wpList_lkIg (by rfl) (.tmp 93) (.tmp 95) 49 rfl Tryz.underlying9 Tryz.underlying49 Tryz.underlying3 (zeroInt _) B n f cs rfl (hmfr.bel belA) rfl hcsz ?_))
                    | (go_at_call 16; go_loud (refine (htn _ belA).mono ?_; rintro r w3 ⟨rfl, hb3⟩; have hc3 := bcell hb3; have hf3 := bfrozen hb3; have hz3' : wr.heap.size + 2 ≤ w3.heap.size := (by have := hb3.size; (try simp at this); omega); have hye : w.heap.size < w3.heap.size := (by omega); have hyf : w.heap.size + 1 < w3.heap.size := (by omega); have hyg : wr.heap.size < w3.heap.size := (by omega); have hyh : wr.heap.size + 1 < w3.heap.size := (by omega))))
                  go_roundw
                  case rel => exact ⟨k + 1, by omega, by go_num, HR, belA⟩
                  case measure => simp [intOf]; try omega
            · obtain rfl : k = p.eqs.length := by omega
              have hr := hrem.out
              rw [List.drop_length, startGo] at hr
              have HR := Lib.hid hr
              clear hr hrem
              go_wp2_with fail
              refine bodyPost_ret (v := .agg #[.int .i64 0, .int .i64 0, .int .i64 0]) (by simp [results, Tryz.results7, go_sem, *]) rfl ⟨by rw [← HR.out], ?_⟩
              (repeat refine bel_drew ?_)
              exact belS

end Go.Proofs.YtikmbkojnfmiaaaGreatDoorRRRR
