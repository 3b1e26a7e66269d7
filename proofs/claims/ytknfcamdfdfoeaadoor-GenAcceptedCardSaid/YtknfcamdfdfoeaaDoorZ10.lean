/- Walk over order.needs. -/
import Derived.Test.YtknfcamdfdfoeaaDoorZ09
import Derived.Test.YtknfcamdfdfoeaaDoorZ03
import Derived.Test.YtknfcamdfdfoeaaDoorZ05
set_option linter.unusedVariables false
set_option linter.unusedSimpArgs false
set_option maxRecDepth 100000
namespace Go.Proofs.YtknfcamdfdfoeaaDoor
open Go.RowKit Go.Sort

def clkV (c : Int × ByteArray) : Value := .agg #[.int .i64 c.1, .string c.2]
/-- The clock that the map holds for a name, of some variables. -/
def clockL (L : List Va) (s : ByteArray) : Int × ByteArray := L.foldl (fun c v => if s.data = v.name.data then (v.ck, v.cn) else c) (0, ⟨#[]⟩)
/-- The map holds just that. -/
def ClkM (f : ByteArray → Option Value) (L : List Va) : Prop := ∀ s, (f s).getD (clkV (0, ⟨#[]⟩)) = clkV (clockL L s)
theorem clkM_nil : ClkM (fun _ => none) [] := fun s => rfl
theorem clkM_snoc {f : ByteArray → Option Value} {L : List Va} (h : ClkM f L) (v : Va) : ClkM (updV f v.name (clkV (v.ck, v.cn))) (L ++ [v]) := by
  intro s
  unfold clockL updV
  rw [List.foldl_append]
  simp only [List.foldl_cons, List.foldl_nil]
  by_cases hs : s.data = v.name.data
  · rw [if_pos hs, if_pos hs]; rfl
  · rw [if_neg hs, if_neg hs]; exact h s
theorem zeroClock (w : World) : (zeroValue 58).run Tryd.prog w = .ok (clkV (0, ⟨#[]⟩)) w := by kernel_rfl

/-- What order.needs says of an equation. -/
def needQ (L : List Va) (q : Qe) : List ByteArray := if (clockL L q.name).1 = 0 then needsF q.e else needsF q.e ++ [(clockL L q.name).2]

theorem grownT {a b c : World} {row : Option Nat} (h1 : a.grownBy b row) (h2 : b.grownBy c row) : a.grownBy c row := grown_step h1 h2 (.inl rfl)

theorem ssinfo : (Tryd.prog.info? 113).map (fun i => (i.zero, i.size, i.bytes)) = some (some (.slice none 0 0), 1, 24) := by kernel_rfl
theorem StrsAt.off_own {w : World} {base : Nat} {e : TypeId} {l : List ByteArray} {A : Option Addr} {cap : Nat} (h : w.ownsRow base e 1 (.slice A l.length cap) l.length (l.map .string)) : Off base none w (fun V => StrsAt V l A cap) := by
  intro w' hw'
  rcases Nat.eq_zero_or_pos l.length with h0 | h0
  · exact ⟨(StrsAt.of_own h).1, (StrsAt.of_own h).2.1, fun hl => absurd hl (by omega)⟩
  · obtain ⟨g, c', hv, hg, hlt, h1, h2, hc⟩ := own_get h h0
    injection hv with e1 e2 e3
    subst e1 e3
    refine ⟨h1, h2, fun _ => ⟨g, 0, rfl, fun k s hk => ?_⟩⟩
    rw [Nat.zero_add]
    exact cell_block (hw' g hg hlt (by simp)) (hc k _ (by simp [hk]))
/-- The rows of what each equation needs, up to the k-th. -/
def NeedRows (L : List Va) (eqs : List Qe) (g k : Nat) (w : World) (xs : List Value) : Prop :=
  (∀ (j : Nat) (q : Qe), j < k → eqs[j]? = some q → ∃ A cap, xs[j]? = some (.slice A (needQ L q).length cap) ∧ Off (g + 1) none w (fun V => StrsAt V (needQ L q) A cap)) ∧ ∀ j, k ≤ j → j < eqs.length → xs[j]? = some (.slice none 0 0)

theorem own_keep1 {w w' : World} {base size n n' cap g : Nat} {e : TypeId} {xs : List Value} (h : w.ownsRow base e size (.slice (some ⟨g, 0, none⟩) n' cap) n xs) (hb : w'.heap[g]? = w.heap[g]?) : w'.ownsRow base e size (.slice (some ⟨g, 0, none⟩) n' cap) n xs := by
  obtain ⟨h1, h2⟩ := h
  refine ⟨h1, ?_⟩
  rcases h2 with h2 | ⟨g', cap', cur, hv, hg, hh, r⟩
  · exact .inl h2
  · refine .inr ⟨g', cap', cur, hv, hg, ?_, r⟩
    have hgg : g = g' := by injection hv with e1; injection e1 with e1; injection e1
    rw [← hgg] at hh ⊢
    rw [hb]; exact hh
theorem NeedRows.step {L : List Va} {eqs : List Qe} {g k : Nat} {w w' : World} {xs : List Value} {q : Qe} {A : Option Addr} {cap : Nat} (h : NeedRows L eqs g k w xs) (hw : ∀ b, g + 1 ≤ b → b < w.heap.size → w'.heap[b]? = w.heap[b]?) (hz : w.heap.size ≤ w'.heap.size)
    (hq : eqs[k]? = some q) (hx : k < xs.length) (hoff : Off (g + 1) none w' (fun V => StrsAt V (needQ L q) A cap)) : NeedRows L eqs g (k + 1) w' (xs.set k (.slice A (needQ L q).length cap)) := by
  refine ⟨fun j q' hj hq' => ?_, fun j hj hl => ?_⟩
  · rcases Nat.lt_or_ge j k with hjk | hjk
    · obtain ⟨A', cap', h1, h2⟩ := h.1 j q' hjk hq'
      exact ⟨A', cap', by rw [List.getElem?_set_ne (by omega)]; exact h1, h2.grow (fun b hb hlt _ => hw b hb hlt) hz (.inl rfl)⟩
    · obtain rfl : j = k := by omega
      obtain rfl : q = q' := by rw [hq] at hq'; injection hq'
      exact ⟨A, cap, by rw [List.getElem?_set_self hx], hoff⟩
  · rw [List.getElem?_set_ne (by omega)]
    exact h.2 j (by omega) hl

set_option maxHeartbeats 4000000 in
theorem oneeds_any (p : Pr) (a : PrA) (w : World) (hp : PrAt w p a) (n1 : p.ins.length ≤ 1000000) (n2 : p.outs.length ≤ 1000000) (n3 : p.locals.length ≤ 1000000) (n4 : p.eqs.length ≤ 1000000) (hs : ∀ v ∈ varsOf p, v.name.size ≤ maxLen) (hqs : ∀ q ∈ p.eqs, q.name.size ≤ maxLen ∧ q.e.OK ∧ q.e.size ≤ 1000000) :
    Calls Tryd.prog 30 #[prV p a] w fun r w' => (∃ g xs, r = .returned (.slice (some ⟨g, 0, none⟩) p.eqs.length p.eqs.length) ∧ w.heap.size ≤ g ∧ w'.ownsRow g 113 1 (.slice (some ⟨g, 0, none⟩) p.eqs.length p.eqs.length) p.eqs.length xs ∧ NeedRows (varsOf p) p.eqs g p.eqs.length w' xs) ∧ Below w.heap.size w w' := by
  have hvars := fun W h => vars_any p a W (hp.later h) n1 n2 n3
  have hL3 : (varsOf p).length ≤ 3000000 := by simp [varsOf]; omega
  obtain ⟨A1, c1, A2, c2, A3, c3, A4, c4⟩ := a
  unfold prV at *
  dsimp only at *
  have hmm := @run_makeMap Tryd.prog
  generalize hL : varsOf p = L at *
  clear hL
  have HS := Lib.hid hs; clear hs
  have HQS := Lib.hid hqs; clear hqs
  have hp4 := hp.eqs
  have hl4 := hp.eqs.len
  unfold maxLen at hl4
  dsimp only at hp4 hl4
  obtain ⟨hl41, hl42⟩ := hl4
  obtain ⟨ti, hti0, hti1, hti2, hti3⟩ := info_parts ssinfo
  clear hp
  go_enter Tryd.func30, Tryd.ntmps30
  go_wp2_with (first | (go_at_call 26; refine (hvars _ belA).mono ?_; rintro r wb ⟨⟨A, cap, rfl, hown⟩, hbb⟩; have hcb := bcell hbb; have hzb := hbb.size; (try simp at hzb); have hyb : w.heap.size < wb.heap.size := (by omega); have hyb1 : w.heap.size + 1 < wb.heap.size := (by omega); have hva := VarsAt.of_own hown))
  refine wp_name fun W0 hW0 => ?_
  have hb0 : Below w.heap.size w W0 := by rw [hW0]; exact belA
  have hz0 : w.heap.size + 1 < W0.heap.size := by rw [hW0]; exact hyb1
  have hva0 : Off (w.heap.size + 2) none W0 (fun W => VarsAt W L A cap) := by rw [hW0]; have := VarsAt.off_own' hown; simpa using this
  have hm0 : MapV Tryd.prog 9 W0 (w.heap.size + 1) 0 (fun _ => none) := by
    rw [hW0]
    have h1 := (MapV.made (P := Tryd.prog) (k := 9) (w.alloc (.cells #[.string p.name, .slice A1 p.ins.length c1, .slice A2 p.outs.length c2, .slice A3 p.locals.length c3, .slice A4 p.eqs.length c4] 25)))
    have h2 := h1.bel hbb
    simpa using h2
  have p4 : W0.cell? ⟨w.heap.size, 4, none⟩ = some (.slice A4 p.eqs.length c4) := by rw [hW0]; go_simp
  have hll := hva0.here.len
  unfold maxLen at hll
  obtain ⟨hll1, hll2⟩ := hll
  clear hW0 hown hva hcb hbb hzb hyb hyb1 hvars hmm
  go_loopw [14] (fun i wr => ∃ (k n : Nat) (f : ByteArray → Option Value), k ≤ L.length ∧ i = .int .i64 k ∧ n ≤ k ∧ Hid (MapV Tryd.prog 9 wr (w.heap.size + 1) n f) ∧ Hid (ClkM f (L.take k)) ∧ Hid (W0.grownBy wr (some (w.heap.size + 1)))) (fun i _ => L.length - (intOf i).toNat)
  case atStart => exact ⟨0, 0, _, Nat.zero_le _, rfl, Nat.le_refl _, Lib.hid hm0, Lib.hid clkM_nil, Lib.hid ⟨rfl, rfl, rfl, Nat.le_refl _, fun _ _ _ => rfl⟩⟩
  case round =>
    obtain ⟨k, n, f, hk, rfl, hn, hm, hck, hgr⟩ := hrel
    have hgz := hgr.out.size
    by_cases hlt : k < L.length
    · have hx : L[k]? = some L[k] := List.getElem?_eq_getElem hlt
      have hmem : L[k] ∈ L := List.getElem_mem hlt
      have htk : L.take (k + 1) = L.take k ++ [L[k]] := by rw [List.take_succ_eq_append_getElem hlt]
      generalize L[k] = x at hx hmem htk
      have hvr : VarsAt wr L A cap := hva0 wr fun b h1 h2 _ => hgr.out.block b h2 (by intro he; injection he with he; omega)
      obtain ⟨b, off, rfl, hbb, ⟨d0, d1, d2, d3⟩⟩ := hvr.get hx
      have hsx := HS.out x hmem
      have HCK := Lib.hid (by rw [htk]; exact clkM_snoc hck.out x : ClkM (updV f x.name (clkV (x.ck, x.cn))) (L.take (k + 1)))
      have hmr := hm.out
      have hzr : w.heap.size + 1 < wr.heap.size := by omega
      clear hx hmem htk hvr hck
      go_wp2_with (first | (at_mapUpdate; go_loud (refine wpList_stV rfl (.tmp 18) (.tmp 20) (.tmp 22) 71 rfl Tryd.underlying9 Tryd.underlying71 (w.heap.size + 1) n f x.name (clkV (x.ck, x.cn)) rfl (hmr.keep1 (heap_alloc_old _ _ hzr)) (by omega) rfl rfl hsx ?_; intro w2 hm2 hg2; have HM2 := Lib.hid hm2; have HG2 := Lib.hid hg2; clear hm2 hg2)))
      go_roundw
      case rel => exact ⟨k + 1, n + 1, _, by omega, by go_num, by omega, HM2, HCK, Lib.hid (grownT hgr.out (grownT (World.grownBy_alloc wr _ _) HG2.out))⟩
      case measure => simp [intOf]; omega
    · obtain rfl : k = L.length := by omega
      have hm1 := hm.out
      have hck1 := hck.out
      rw [List.take_length] at hck1
      have HCK := Lib.hid hck1
      have hgr1 := hgr.out
      have hbw : Below w.heap.size w wr := bel_grown hb0 hgr1 (fun b hb => by injection hb with hb; omega) (by omega)
      have q4 : wr.cell? ⟨w.heap.size, 4, none⟩ = some (.slice A4 p.eqs.length c4) := cell_block (hgr1.block w.heap.size (by omega) (by intro he; injection he with he; omega)) p4
      have hzr : w.heap.size + 1 < wr.heap.size := by omega
      clear hgr hgr1 hck hck1 hm p4 hva0
      go_wp2_with (first | (at_make; go_loud (refine wpList_make_full _ rfl (.tmp 26) (.tmp 26) 109 rfl wr.heap.size 113 ti _ 1 Tryd.underlying109 hti0 hti1 hti2 .i64 .i64 p.eqs.length p.eqs.length p.eqs.length rfl rfl rfl rfl (by rw [hti3]; omega) (by unfold maxLen; omega) (Nat.le_refl _) ?_; intro w2 hown2 hg2; have q42 : w2.cell? ⟨w.heap.size, 4, none⟩ = some (.slice A4 p.eqs.length c4) := cell_block (hg2.block w.heap.size (by omega) (by simp)) q4; have HO2 := Lib.hid hown2; have HG2 := Lib.hid hg2; clear hown2 hg2)))
      obtain ⟨Wa, rfl⟩ : ∃ Wa, Wa = wr := ⟨wr, rfl⟩
      have hbw2 : Below w.heap.size w w2 := bel_grown hbw HG2.out (fun b hb => by simp at hb) (by omega)
      have hz2 : Wa.heap.size ≤ w2.heap.size := HG2.out.size
      have hm2 : Hid (MapV Tryd.prog 9 w2 (w.heap.size + 1) n f) := Lib.hid (hm1.keep1 (HG2.out.block _ (by omega) (by simp)))
      clear hm1 q4
      go_loopw [31] (fun i wr => ∃ (k : Nat) (xs : List Value), k ≤ p.eqs.length ∧ i = .int .i64 k ∧ Hid (wr.ownsRow Wa.heap.size 113 1 (.slice (some ⟨Wa.heap.size, 0, none⟩) p.eqs.length p.eqs.length) p.eqs.length xs) ∧ Hid (NeedRows L p.eqs Wa.heap.size k wr xs) ∧ Hid (w2.grownBy wr (some Wa.heap.size))) (fun i _ => p.eqs.length - (intOf i).toNat)
      case atStart =>
        refine ⟨0, _, Nat.zero_le _, rfl, HO2, Lib.hid ⟨fun j q hj => absurd hj (by omega), fun j _ hj => ?_⟩, Lib.hid ⟨rfl, rfl, rfl, Nat.le_refl _, fun _ _ _ => rfl⟩⟩
        rw [show (Value.slice none 0 0).cells = #[Value.slice none 0 0] from rfl, Nat.mul_one, toList_madeCells_one, List.getElem?_replicate, if_pos hj]
      case round =>
        obtain ⟨k, xs, hk, rfl, hown, hnr, hgr⟩ := hrel
        have hgz := hgr.out.size
        have hbwr : Below w.heap.size w wr := bel_grown hbw2 hgr.out (fun b hb => by injection hb with hb; omega) (by omega)
        have hGlt : Wa.heap.size < wr.heap.size := (hown.out.lt Wa.heap.size rfl).2
        by_cases hlt : k < p.eqs.length
        · have hx : p.eqs[k]? = some p.eqs[k] := List.getElem?_eq_getElem hlt
          have hd : p.eqs.drop k = p.eqs[k] :: p.eqs.drop (k + 1) := List.drop_eq_getElem_cons hlt
          generalize p.eqs[k] = q at hx hd
          obtain ⟨b, off, B1, n1, B2, n2, rfl, hbb, ⟨g0, g1, g2, g3, g4, g5, g6, g7, g8, g9, s1, s2⟩⟩ := (hp4.later hbwr).get hx
          have hmem := List.mem_of_getElem? hx
          obtain ⟨hsq, hqok, hqz⟩ := HQS.out q hmem
          have hneed := fun W h => needs_any q.e B2 n2 W (s2.later h) hqok hqz
          have e0 : wr.cell? ⟨Wa.heap.size, k, none⟩ = some (.slice none 0 0) := (hown.out.cellAt k (by omega)).trans (hnr.out.2 k (Nat.le_refl _) hlt)
          have f0 : wr.frozen? ⟨Wa.heap.size, k, none⟩ = false := hown.out.frozenAt k
          have hmr := hm2.out.keep1 (hgr.out.block (w.heap.size + 1) (by omega) (by intro he; injection he with he; omega))
          obtain ⟨ck, cs, hcl⟩ : ∃ ck cs, clockL L q.name = (ck, cs) := ⟨_, _, rfl⟩
          have HCL := Lib.hid hcl; clear hcl
          have HX := Lib.hid hx
          have hwz : w.heap.size + 1 < wr.heap.size := by omega
          unfold exV at hneed
          clear hd hx hmem hqok
          have hxl : xs.length = p.eqs.length := by have := hown.out.1; omega
          have HXL := Lib.hid hxl; clear hxl
          by_cases hck0 : ck = 0
          · have t1 : (ck != 0) = false := by simpa using hck0
            have hnq : needQ L q = needsF q.e := by unfold needQ; rw [HCL.out, if_pos hck0]
            have HNQ := Lib.hid hnq; clear hnq hck0
            go_wp2_with (first | (go_at_call 51; go_loud (refine (hneed _ belA).mono ?_; rintro r wn ⟨⟨vn, rfl, hrow⟩, hbn⟩; obtain ⟨An, cn, rfl, hn1, hn2⟩ := own_slice hrow; have hcn := bcell hbn; have hfn := bfrozen hbn; have hzn : wr.heap.size + 1 ≤ wn.heap.size := (by have := hbn.size; simpa using this); have hyn : w.heap.size < wn.heap.size := (by omega); have hyn1 : w.heap.size + 1 < wn.heap.size := (by omega); have hyn2 : wr.heap.size < wn.heap.size := (by omega); have hyn3 : Wa.heap.size < wn.heap.size := (by omega); have hmn := Lib.hid (hmr.keep1 ((hbn.block (w.heap.size + 1) (by simp; omega)).trans (heap_alloc_old _ _ hwz))); have HROW := Lib.hid hrow; clear hrow)) | (at_lookup; go_loud (refine wpList_lkV rfl (.tmp 42) (.tmp 44) 71 rfl Tryd.underlying9 Tryd.underlying71 (clkV (0, ⟨#[]⟩)) (zeroClock _) (w.heap.size + 1) n f q.name rfl (hmn.out.keep1 (heap_setCell_other _ _ _ _ (by show w.heap.size + 1 ≠ Wa.heap.size; omega))) rfl hsq ?_; rw [HCK.out q.name, HCL.out]; unfold clkV)))
            go_roundw
            case rel =>
              have hownN := own_bel (own_alloc (o := .cells #[.string q.name, .int .i64 q.delay, .int .i64 q.first.kind, .int .i32 q.first.n, .string q.first.name, .slice B1 q.first.sub.length n1, .int .i64 q.e.kind, .int .i32 q.e.n, .string q.e.name, .slice B2 q.e.sub.length n2] 56) hown.out) hbn
              have hst := hownN.stored k (.slice An (needsF q.e).length cn)
              refine ⟨k + 1, xs.set k (.slice An (needsF q.e).length cn), by omega, by go_num, Lib.hid (own_alloc hst.1), Lib.hid ?_, Lib.hid (grownT (grownT (grownT (grownT hgr.out (World.grownBy_alloc wr _ _)) (grown_bel hbn)) hst.2) (World.grownBy_alloc _ _ _))⟩
              have hoff : Off (Wa.heap.size + 1) none ((wn.setCell ⟨Wa.heap.size, k, none⟩ (.slice An (needsF q.e).length cn)).alloc (.cells #[.int .i64 ck, .string cs] 58)) (fun V => StrsAt V (needQ L q) An cn) := by
                rw [HNQ.out]
                exact ((StrsAt.off_own HROW.out).less (base := Wa.heap.size + 1) (by simp; omega)).grow (fun b hb1 hb2 _ => (heap_alloc_old _ _ (by simpa using hb2)).trans (heap_setCell_other _ _ _ _ (by show b ≠ Wa.heap.size; omega))) (by simp) (.inl rfl)
              have := hnr.out.step (w' := (wn.setCell ⟨Wa.heap.size, k, none⟩ (.slice An (needsF q.e).length cn)).alloc (.cells #[.int .i64 ck, .string cs] 58)) (fun b hb1 hb2 => (heap_alloc_old _ _ (by simp; omega)).trans ((heap_setCell_other _ _ _ _ (by show b ≠ Wa.heap.size; omega)).trans ((hbn.block b (by simp; omega)).trans (heap_alloc_old _ _ hb2)))) (by simp; omega) HX.out (by rw [HXL.out]; exact hlt) hoff
              rw [HNQ.out] at this
              exact this
            case measure => simp [intOf]; omega
          · have t1 : (ck != 0) = true := by simpa using hck0
            have hnq : needQ L q = needsF q.e ++ [cs] := by unfold needQ; rw [HCL.out, if_neg hck0]
            have HNQ := Lib.hid hnq; clear hnq hck0
            have hnl := needs_len q.e
            go_wp2_with (first | (go_at_call 51; go_loud (refine (hneed _ belA).mono ?_; rintro r wn ⟨⟨vn, rfl, hrow⟩, hbn⟩; obtain ⟨An, cn, rfl, hn1, hn2⟩ := own_slice hrow; have hcn := bcell hbn; have hfn := bfrozen hbn; have hzn : wr.heap.size + 1 ≤ wn.heap.size := (by have := hbn.size; simpa using this); have hyn : w.heap.size < wn.heap.size := (by omega); have hyn1 : w.heap.size + 1 < wn.heap.size := (by omega); have hyn2 : wr.heap.size < wn.heap.size := (by omega); have hyn3 : Wa.heap.size < wn.heap.size := (by omega); have hmn := Lib.hid (hmr.keep1 ((hbn.block (w.heap.size + 1) (by simp; omega)).trans (heap_alloc_old _ _ hwz))); have HROW := Lib.hid hrow; clear hrow)) | (at_lookup; go_loud (refine wpList_lkV rfl (.tmp 42) (.tmp 44) 71 rfl Tryd.underlying9 Tryd.underlying71 (clkV (0, ⟨#[]⟩)) (zeroClock _) (w.heap.size + 1) n f q.name rfl (hmn.out.keep1 (heap_setCell_other _ _ _ _ (by show w.heap.size + 1 ≠ Wa.heap.size; omega))) rfl hsq ?_; rw [HCK.out q.name, HCL.out]; unfold clkV)))
            have hrow1 : wn.ownsRow (wr.heap.size + 1) 9 1 (.slice An (needsF q.e).length cn) (needsF q.e).length ((needsF q.e).map .string) := by have := HROW.out; simpa using this
            have hownX : ((wn.setCell ⟨Wa.heap.size, k, none⟩ (.slice An (needsF q.e).length cn)).alloc (.cells #[.int .i64 ck, .string cs] 58)).ownsRow (wr.heap.size + 1) 9 1 (.slice An (needsF q.e).length cn) (needsF q.e).length ((needsF q.e).map .string) := own_alloc (own_apart hrow1 (fun b hb => by have := (hrow1.lt b hb).1; omega) _ _)
            have wk : wn.cell? ⟨Wa.heap.size, k, none⟩ = some (.slice none 0 0) := bel_cell hbn (bel_cell (bel_alloc (Below.refl _ _) _) e0)
            have wkf : wn.frozen? ⟨Wa.heap.size, k, none⟩ = false := (hbn.frozen (p := ⟨Wa.heap.size, k, none⟩) (show Wa.heap.size < _ by simp; omega)).trans (((bel_alloc (Below.refl _ _) _).frozen (p := ⟨Wa.heap.size, k, none⟩) hGlt).trans f0)
            have xk : ((wn.setCell ⟨Wa.heap.size, k, none⟩ (.slice An (needsF q.e).length cn)).alloc (.cells #[.int .i64 ck, .string cs] 58)).cell? ⟨Wa.heap.size, k, none⟩ = some (.slice An (needsF q.e).length cn) := by go_simp
            have xf : ((wn.setCell ⟨Wa.heap.size, k, none⟩ (.slice An (needsF q.e).length cn)).alloc (.cells #[.int .i64 ck, .string cs] 58)).frozen? ⟨Wa.heap.size, k, none⟩ = false := by go_simp
            have XK := Lib.hid xk
            have XF := Lib.hid xf
            clear xk xf
            have hrz : wr.heap.size + 1 ≤ wn.heap.size := hzn
            go_region_law (first
              | (refine step_cat rfl (.tmp 54) (.tmp 57) 113 rfl (wr.heap.size + 1) 9 _ 1 16 Tryd.underlying113 strinfo rfl (by omega) (.slice An (needsF q.e).length cn) (needsF q.e).length ((needsF q.e).map .string) (some ⟨wn.heap.size + 1, 0, none⟩) 1 1 [.string cs] rfl (own_alloc (own_drew hownX)) rfl ⟨rfl, fun _ => ⟨_, _, rfl, fun j u hj => by rw [Nat.zero_add]; exact (cell_new' (by simp)).trans (by simpa using hj)⟩⟩ (by simp [Value.oneCell']) (by omega) (by omega) (by simp; omega) ?_; intro v9 w9 hown9 hb9; go_loud (obtain ⟨A9, c9, rfl, hc91, hc92⟩ := own_slice hown9; have k9 : w9.cell? ⟨Wa.heap.size, k, none⟩ = some (.slice An (needsF q.e).length cn) := ((hb9.cell (p := ⟨Wa.heap.size, k, none⟩) (show Wa.heap.size < wr.heap.size + 1 by omega)).trans (bel_cell (bel_alloc (Below.refl _ _) _) (cel_drew XK.out))); have k9f : w9.frozen? ⟨Wa.heap.size, k, none⟩ = false := ((hb9.frozen (p := ⟨Wa.heap.size, k, none⟩) (show Wa.heap.size < wr.heap.size + 1 by omega)).trans (((bel_alloc (bel_drew (Below.refl _ _)) _).frozen (p := ⟨Wa.heap.size, k, none⟩) (show Wa.heap.size < _ by simp; omega)).trans XF.out)); have HO9 := Lib.hid hown9; have HB9 := Lib.hid hb9; clear hown9 hb9)))
            all_goals
              go_wp2_with fail
              go_roundw
              case rel =>
                have hownN := own_bel (own_alloc (o := .cells #[.string q.name, .int .i64 q.delay, .int .i64 q.first.kind, .int .i32 q.first.n, .string q.first.name, .slice B1 q.first.sub.length n1, .int .i64 q.e.kind, .int .i32 q.e.n, .string q.e.name, .slice B2 q.e.sub.length n2] 56) hown.out) hbn
                have hst := hownN.stored k (.slice An (needsF q.e).length cn)
                have hz9 := HB9.out.size
                have hzs : wn.heap.size ≤ w9.heap.size := by refine Nat.le_trans ?_ hz9; show wn.heap.size ≤ (World.alloc _ _).heap.size; simp; omega
                have hX : ∀ b, b < wr.heap.size → w9.heap[b]? = (wn.setCell ⟨Wa.heap.size, k, none⟩ (.slice An (needsF q.e).length cn)).heap[b]? := fun b hb =>
                  (HB9.out.block b (by omega)).trans ((heap_alloc_old _ _ (by simp; omega)).trans (heap_alloc_old _ _ (by simp; omega)))
                have hst9 := (own_keep1 hst.1 (hX _ hGlt)).stored k (.slice A9 ((needsF q.e).length + 1) c9)
                rw [List.set_set] at hst9
                have hgw : wr.grownBy w9 (some Wa.heap.size) := ⟨HB9.out.os.trans hbn.os, HB9.out.tape.trans hbn.tape, HB9.out.output.trans hbn.output, by omega, fun b hb hne => (hX b hb).trans ((heap_setCell_other _ _ _ _ (by show b ≠ Wa.heap.size; intro h; exact hne (by rw [h]))).trans ((hbn.block b (by simp; omega)).trans (heap_alloc_old _ _ hb)))⟩
                have hgf := grownT hgw hst9.2
                refine ⟨k + 1, xs.set k (.slice A9 ((needsF q.e).length + 1) c9), by omega, by go_num, Lib.hid hst9.1, Lib.hid ?_, Lib.hid (grownT hgr.out hgf)⟩
                have hoff : Off (Wa.heap.size + 1) none (w9.setCell ⟨Wa.heap.size, k, none⟩ (.slice A9 ((needsF q.e).length + 1) c9)) (fun V => StrsAt V (needQ L q) A9 c9) := by
                  have ho := HO9.out
                  rw [HNQ.out]
                  have ho2 : w9.ownsRow (wr.heap.size + 1) 9 1 (.slice A9 (needsF q.e ++ [cs]).length c9) (needsF q.e ++ [cs]).length ((needsF q.e ++ [cs]).map .string) := by rw [List.map_append, List.length_append]; exact ho
                  exact ((StrsAt.off_own ho2).grow (fun b hb1 hb2 _ => heap_setCell_other _ _ _ _ (by show b ≠ Wa.heap.size; omega)) (by simp) (.inl rfl)).less (by omega)
                have := hnr.out.step (fun b hb1 hb2 => hgf.block b hb2 (by intro h; injection h with h; omega)) hgf.size HX.out (by rw [HXL.out]; exact hlt) hoff
                rw [show (needQ L q).length = (needsF q.e).length + 1 by rw [HNQ.out]; simp] at this
                exact this
              case measure => simp [intOf]; omega
        · obtain rfl : k = p.eqs.length := by omega
          have HB := Lib.hid hbwr
          clear hbwr
          go_wp2_with fail
          go_ret
          exact ⟨⟨Wa.heap.size, xs, rfl, by omega, hown.out, hnr.out⟩, HB.out⟩

end Go.Proofs.YtknfcamdfdfoeaaDoor

/- The order of equations: the reference's scan and the program's. No program of Go in sight. -/
namespace Go.Proofs.YtknfcamdfdfoeaaDoor
open Go.RowKit

/-- The reference's scan of equations, from the k-th on: the least that waits, the least that can be taken (-1: none). -/
def scanR (R : List ByteArray) (nd : Qe → List ByteArray) : Nat → List Qe → Int × Int
  | _, [] => (-1, -1)
  | k, q :: r => if hasB R q.name = true then scanR R nd (k + 1) r else ((k : Int), if (nd q).all (hasB R) = true then (k : Int) else (scanR R nd (k + 1) r).2)
/-- The program's scan; m: the least that waits among those before. -/
def scanP (f : ByteArray → Option Int) (nd : Qe → List ByteArray) : Nat → List Qe → Int → Int × Int
  | _, [], m => (m, -1)
  | k, q :: r, m => if f q.name = some (k : Int) then (if readyB f (nd q) = true then (if m < 0 then (k : Int) else m, (k : Int)) else scanP f nd (k + 1) r (if m < 0 then (k : Int) else m)) else scanP f nd (k + 1) r m

theorem scan_eq {R : List ByteArray} {f : ByteArray → Option Int} {nr np : Qe → List ByteArray} : ∀ (l : List Qe) (k : Nat) (m : Int), (m = -1 ∨ 0 ≤ m) →
    (∀ (i : Nat) (q : Qe), l[i]? = some q → (f q.name = some ((k + i : Nat) : Int) ↔ hasB R q.name = false)) → (∀ q ∈ l, hasB R q.name = false → readyB f (np q) = (nr q).all (hasB R)) →
    (scanP f np k l m).2 = (scanR R nr k l).2 ∧ ((scanR R nr k l).2 < 0 → (scanP f np k l m).1 = if m < 0 then (scanR R nr k l).1 else m)
  | [], k, m, hm0, _, _ => by
    refine ⟨rfl, fun _ => ?_⟩
    simp only [scanP, scanR]
    by_cases hm : m < 0
    · rw [if_pos hm]; omega
    · rw [if_neg hm]
  | q :: r, k, m, hm0, h1, h2 => by
    have hq := h1 0 q rfl
    rw [Nat.add_zero] at hq
    have h1' : ∀ (i : Nat) (q : Qe), r[i]? = some q → (f q.name = some ((k + 1 + i : Nat) : Int) ↔ hasB R q.name = false) := fun i x hx => by
      have := h1 (i + 1) x (by simpa using hx)
      rwa [show k + (i + 1) = k + 1 + i from by omega] at this
    have h2' : ∀ x ∈ r, hasB R x.name = false → readyB f (np x) = (nr x).all (hasB R) := fun x hx => h2 x (by simp [hx])
    cases hb : hasB R q.name
    · have hf := hq.2 hb
      have hr := h2 q (by simp) hb
      rw [scanP, scanR, if_pos hf, hb, if_neg (show ¬ (false = true) by simp), hr]
      cases ha : (nr q).all (hasB R)
      · rw [if_neg (show ¬ (false = true) by simp), if_neg (show ¬ (false = true) by simp)]
        obtain ⟨e1, e2⟩ := scan_eq r (k + 1) (if m < 0 then (k : Int) else m) (by split <;> omega) h1' h2'
        refine ⟨e1, fun hlt => ?_⟩
        rw [e2 hlt]
        by_cases hm : m < 0
        · simp only [if_pos hm]
          rw [if_neg (by omega)]
        · simp only [if_neg hm]
      · rw [if_pos rfl, if_pos rfl]
        exact ⟨rfl, fun hlt => absurd hlt (by show ¬ ((k : Int) < 0); omega)⟩
    · have hf : ¬ f q.name = some (k : Int) := fun h => by have := hq.1 h; rw [hb] at this; simp at this
      rw [scanP, scanR, if_neg hf, hb, if_pos rfl]
      exact scan_eq r (k + 1) m hm0 h1' h2'

def nameAt (eqs : List Qe) (j : Int) : ByteArray := match eqs[j.toNat]? with | some q => q.name | none => ⟨#[]⟩
/-- The reference's order; at most t equations more. -/
def ordR (nd : Qe → List ByteArray) (eqs : List Qe) (left : Nat) : Nat → List ByteArray → List Int → List Int × (Int × Int × Int)
  | 0, _, out => (out, (0, 0, 0))
  | t + 1, R, out => if out.length < left then (if (scanR R nd 0 eqs).2 < 0 then ([], (3, (scanR R nd 0 eqs).1, 22)) else ordR nd eqs left t (R ++ [nameAt eqs (scanR R nd 0 eqs).2]) (out ++ [(scanR R nd 0 eqs).2])) else (out, (0, 0, 0))
/-- The program's. -/
def ordP (nd : Qe → List ByteArray) (eqs : List Qe) : Nat → (ByteArray → Option Int) → Nat → List Int → List Int × (Int × Int × Int)
  | 0, _, _, out => (out, (0, 0, 0))
  | t + 1, f, c, out => if 0 < c then (if (scanP f nd 0 eqs (-1)).2 < 0 then ([], (3, (scanP f nd 0 eqs (-1)).1, 22)) else ordP nd eqs t (strike f (nameAt eqs (scanP f nd 0 eqs (-1)).2)) (c - 1) (out ++ [(scanP f nd 0 eqs (-1)).2])) else (out, (0, 0, 0))

theorem data_beq {s t : ByteArray} : (s.toList == t.toList) = decide (s.data = t.data) := by
  rw [Bool.eq_iff_iff, eqS_iff]
  simp only [decide_eq_true_eq]
  exact ⟨fun h => by rw [h], fun h => by ext1; exact h⟩
theorem strike_wait {f : ByteArray → Option Int} {R : List ByteArray} {s s0 : ByteArray} {i : Int} (h : f s = some i ↔ hasB R s = false) : strike f s0 s = some i ↔ hasB (R ++ [s0]) s = false := by
  rw [hasB_snoc, data_beq]
  unfold strike
  by_cases hs : s.data = s0.data
  · rw [if_pos hs]; simp [hs]
  · rw [if_neg hs, h]
    have : decide (s0.data = s.data) = false := by simpa using fun h => hs h.symm
    rw [this, Bool.or_false]
theorem strike_some {f : ByteArray → Option Int} {R : List ByteArray} {s s0 : ByteArray} (h : (f s).isSome = !hasB R s) : (strike f s0 s).isSome = !hasB (R ++ [s0]) s := by
  rw [hasB_snoc, data_beq]
  unfold strike
  by_cases hs : s.data = s0.data
  · rw [if_pos hs]; simp [hs]
  · rw [if_neg hs, h]
    have : decide (s0.data = s.data) = false := by simpa using fun h => hs h.symm
    rw [this, Bool.or_false]
theorem ready_inv {f : ByteArray → Option Int} {R : List ByteArray} : ∀ {l : List ByteArray}, (∀ s ∈ l, (f s).isSome = !hasB R s) → readyB f l = l.all (hasB R)
  | [], _ => rfl
  | s :: l, h => by
    have h1 := h s (by simp)
    have h2 := ready_inv (l := l) fun x hx => h x (by simp [hx])
    unfold readyB at h2 ⊢
    rw [List.all_cons, List.all_cons, h2, h1, Bool.not_not]

/-- Both find the same order. -/
theorem ord_eq {nr np : Qe → List ByteArray} {eqs : List Qe} {left : Nat} (hset : ∀ q ∈ eqs, ∀ R, (np q).all (hasB R) = (nr q).all (hasB R)) : ∀ (t : Nat) (f : ByteArray → Option Int) (R : List ByteArray) (c : Nat) (out : List Int),
    out.length + c = left → (∀ (i : Nat) (q : Qe), eqs[i]? = some q → (f q.name = some (i : Int) ↔ hasB R q.name = false)) → (∀ q ∈ eqs, ∀ s ∈ np q, (f s).isSome = !hasB R s) →
    ordP np eqs t f c out = ordR nr eqs left t R out
  | 0, f, R, c, out, _, _, _ => rfl
  | t + 1, f, R, c, out, hc, hw, hi => by
    obtain ⟨e1, e2⟩ := scan_eq (R := R) (f := f) (nr := nr) (np := np) eqs 0 (-1) (.inl rfl) (fun i q hq => by rw [Nat.zero_add]; exact hw i q hq) (fun q hq _ => (ready_inv (hi q hq)).trans (hset q hq R))
    rw [ordP, ordR, e1]
    by_cases h0 : 0 < c
    · rw [if_pos h0, if_pos (show out.length < left by omega)]
      by_cases hn : (scanR R nr 0 eqs).2 < 0
      · rw [if_pos hn, if_pos hn, e2 hn, if_pos (by omega)]
      · rw [if_neg hn, if_neg hn]
        exact ord_eq hset t _ _ (c - 1) _ (by simp; omega) (fun i q hq => strike_wait (hw i q hq)) (fun q hq s hs => strike_some (hi q hq s hs))
    · rw [if_neg h0, if_neg (show ¬ out.length < left by omega)]
end Go.Proofs.YtknfcamdfdfoeaaDoor

/- The text of a program, as the package tree writes it. -/
namespace Go.Proofs.YtknfcamdfdfoeaaDoor
open Go.RowKit

/-- tree.declared. -/
def declB (v : Va) : ByteArray :=
  if v.ck = 1 then (if v.type = 2 then v.name ++ ⟨#[32, 58, 32, 98, 111, 111, 108]⟩ else v.name ++ ⟨#[32, 58, 32, 105, 110, 116]⟩) ++ (⟨#[32, 119, 104, 101, 110, 32]⟩ ++ v.cn)
  else if v.ck = 2 then (if v.type = 2 then v.name ++ ⟨#[32, 58, 32, 98, 111, 111, 108]⟩ else v.name ++ ⟨#[32, 58, 32, 105, 110, 116]⟩) ++ (⟨#[32, 117, 110, 108, 101, 115, 115, 32]⟩ ++ v.cn)
  else (if v.type = 2 then v.name ++ ⟨#[32, 58, 32, 98, 111, 111, 108]⟩ else v.name ++ ⟨#[32, 58, 32, 105, 110, 116]⟩)
def listGo : Nat → ByteArray → List Va → ByteArray
  | _, s, [] => s
  | k, s, v :: l => listGo (k + 1) ((if 0 < k then s ++ ⟨#[59, 32]⟩ else s) ++ declB v) l
/-- tree.list. -/
def listVB (l : List Va) : ByteArray := listGo 0 ⟨#[40]⟩ l ++ ⟨#[41]⟩
def headB (p : Pr) : ByteArray := ⟨#[110, 111, 100, 101, 32]⟩ ++ p.name ++ ⟨#[32]⟩ ++ listVB p.ins ++ ⟨#[32, 114, 101, 116, 117, 114, 110, 115, 32]⟩ ++ listVB p.outs ++ ⟨#[59, 10]⟩
def localsGo : ByteArray → List Va → ByteArray
  | s, [] => s
  | s, v :: l => localsGo (s ++ (⟨#[32, 32]⟩ ++ declB v ++ ⟨#[59, 10]⟩)) l
def eqText (s : ByteArray) (q : Qe) : ByteArray :=
  (if q.delay = 1 then (s ++ (⟨#[32, 32]⟩ ++ q.name ++ ⟨#[32, 61, 32]⟩)) ++ (q.first.showB ++ ⟨#[32, 102, 98, 121, 32]⟩) else if q.delay = 2 then (s ++ (⟨#[32, 32]⟩ ++ q.name ++ ⟨#[32, 61, 32]⟩)) ++ ⟨#[112, 114, 101, 32]⟩ else s ++ (⟨#[32, 32]⟩ ++ q.name ++ ⟨#[32, 61, 32]⟩)) ++ (q.e.showB ++ ⟨#[59, 10]⟩)
def eqsGo : ByteArray → List Qe → ByteArray
  | s, [] => s
  | s, q :: l => eqsGo (eqText s q) l
/-- tree.Print's text. -/
def printB (p : Pr) : ByteArray := eqsGo (localsGo (if 0 < p.locals.length then headB p ++ ⟨#[118, 97, 114, 10]⟩ else headB p) p.locals ++ ⟨#[108, 101, 116, 10]⟩) p.eqs ++ ⟨#[116, 101, 108, 10]⟩
/-- tree.Print's error. -/
def printE (p : Pr) : Int := if wholeB p = false then 4 else if 4096 < (printB p).size then 3 else 0

/-- Names of a declaration are short. -/
def Short (v : Va) : Prop := v.name.size ≤ 16 ∧ v.cn.size ≤ 16
theorem declB_size {v : Va} (h : Short v) : (declB v).size ≤ 60 := by
  obtain ⟨h1, h2⟩ := h
  unfold declB
  repeat' split
  all_goals simp only [size_app, size_lit, List.size_toArray, List.length_cons, List.length_nil]
  all_goals omega
theorem listGo_size : ∀ (l : List Va), (∀ v ∈ l, Short v) → ∀ (k : Nat) (s : ByteArray), (listGo k s l).size ≤ s.size + 62 * l.length
  | [], _, k, s => by simp [listGo]
  | v :: l, h, k, s => by
    have h1 := declB_size (h v (by simp))
    have := listGo_size l (fun x hx => h x (by simp [hx])) (k + 1) ((if 0 < k then s ++ ⟨#[59, 32]⟩ else s) ++ declB v)
    rw [listGo]
    refine Nat.le_trans this ?_
    rw [size_app, List.length_cons]
    split
    · simp only [size_app, size_lit, List.size_toArray, List.length_cons, List.length_nil]; omega
    · omega
theorem listVB_size {l : List Va} (h : ∀ v ∈ l, Short v) : (listVB l).size ≤ 2 + 62 * l.length := by
  have := listGo_size l h 0 ⟨#[40]⟩
  unfold listVB
  simp only [size_app, size_lit, List.size_toArray, List.length_cons, List.length_nil] at this ⊢
  omega
theorem short_of {v : Va} {own : Bool} (h : variableB v own = true) : Short v := by
  unfold variableB at h
  simp only [Bool.and_eq_true] at h
  refine ⟨nameB_le h.1.1, ?_⟩
  have h2 := h.2
  split at h2
  · exact name_small (.inr h2)
  · split at h2
    · simp only [Bool.and_eq_true] at h2
      exact nameB_le h2.2
    · simp at h2
theorem whole_parts {p : Pr} (h : wholeB p = true) : p.name.size ≤ 16 ∧ (∀ v ∈ p.ins, Short v) ∧ (∀ v ∈ p.outs, Short v) ∧ (∀ v ∈ p.locals, Short v) ∧ ∀ q ∈ p.eqs, eqB q = true := by
  simp only [wholeB, Bool.and_eq_true, List.all_eq_true] at h
  exact ⟨nameB_le h.1.1.1.1, fun v hv => short_of (h.1.1.1.2 v hv), fun v hv => short_of (h.1.1.2 v hv), fun v hv => short_of (h.1.2 v hv), h.2⟩
theorem eqB_parts {q : Qe} (h : eqB q = true) : q.name.size ≤ 16 ∧ q.e.formed = true ∧ q.e.size ≤ 120 ∧ (q.delay = 1 → q.first.formed = true ∧ q.first.size ≤ 120) ∧ (q.delay = 0 ∨ q.delay = 1 ∨ q.delay = 2) := by
  simp only [eqB, Bool.and_eq_true] at h
  obtain ⟨⟨h1, h2⟩, h3⟩ := h
  have small : ∀ e : Ex, e.right = 0 → e.formed = true ∧ e.size ≤ 120 := by
    intro e he
    have := Ex.right_zero.1 he
    have hs := Ex.count_size e 121 (by omega)
    exact ⟨this.2.2, by omega⟩
  have h2' := small q.e (by simpa using h2)
  refine ⟨nameB_le h1, h2'.1, h2'.2, fun hd => ?_, ?_⟩
  · rw [if_pos hd] at h3
    unfold Ex.literal at h3
    split at h3
    · rename_i hr
      exact small _ hr
    · simp at h3
  · split at h3
    · omega
    · split at h3
      · omega
      · simp at h3
end Go.Proofs.YtknfcamdfdfoeaaDoor

/- What kinds.equation and kinds.Check say. -/
namespace Go.Proofs.YtknfcamdfdfoeaaDoor
open Go.RowKit

def typeAt (l : List Va) (j : Int) : Int := match l[j.toNat]? with | some v => v.type | none => 0
/-- kinds.look.equation. -/
def eqE (l : List Va) (ins : Int) (done : ByteArray → Option Int) (q : Qe) : Int :=
  match findV l q.name with
  | none => 19
  | some j =>
    if j < ins then 19
    else if 0 < (done q.name).getD 0 then 18
    else if (q.e.typ l).2 ≠ 0 then (q.e.typ l).2
    else if q.delay = 1 ∧ (q.first.typ l).1 ≠ typeAt l j then 20
    else if (q.e.typ l).1 ≠ typeAt l j then 20
    else 0
/-- The first variable whose name stands before. -/
def dupGo (l : List Va) : Nat → List Va → Option Nat
  | _, [] => none
  | k, v :: r => if (findV l v.name).getD 0 ≠ (k : Int) then some k else dupGo l (k + 1) r
/-- The first equation that has a fault; how often each name has stood. -/
def eqGo (l : List Va) (ins : Int) : Nat → (ByteArray → Option Int) → List Qe → Option (Nat × Int) × (ByteArray → Option Int)
  | _, d, [] => (none, d)
  | k, d, q :: r => if eqE l ins d q ≠ 0 then (some (k, eqE l ins d q), d) else eqGo l ins (k + 1) (upd d q.name ((d q.name).getD 0 + 1)) r
/-- The first variable that has no equation. -/
def missGo (d : ByteArray → Option Int) : Nat → List Va → Option Nat
  | _, [] => none
  | k, v :: r => if (d v.name).getD 0 = 0 then some k else missGo d (k + 1) r
def endF (d : ByteArray → Option Int) (l : List Va) (ins : Nat) : Int × Int × Int :=
  match missGo d ins (l.drop ins) with
  | some k => (2, (k : Int), 8)
  | none => (0, 0, 0)
def eqsF (l : List Va) (ins : Nat) (r : Option (Nat × Int) × (ByteArray → Option Int)) : Int × Int × Int :=
  match r.1 with
  | some (k, e) => (3, (k : Int), e)
  | none => endF r.2 l ins
def dupF (p : Pr) (r : Option Nat) : Int × Int × Int :=
  match r with
  | some k => (2, (k : Int), 18)
  | none => eqsF (varsOf p) p.ins.length (eqGo (varsOf p) p.ins.length 0 (fun _ => none) p.eqs)
/-- kinds.Check: a Fault's three numbers. -/
def checkF (p : Pr) : Int × Int × Int :=
  if printE p ≠ 0 then (4, 0, printE p)
  else if 8 < p.ins.length ∨ 8 < p.outs.length ∨ 24 < (varsOf p).length then (4, 0, 3)
  else dupF p (dupGo (varsOf p) 0 (varsOf p))
end Go.Proofs.YtknfcamdfdfoeaaDoor
