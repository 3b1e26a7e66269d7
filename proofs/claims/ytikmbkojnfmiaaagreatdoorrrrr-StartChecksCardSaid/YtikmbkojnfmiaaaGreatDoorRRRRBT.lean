/- Both Orders of a program that has a fault. -/
import Derived.Test.YtikmbkojnfmiaaaGreatDoorRRRRBO
import Derived.Test.YtikmbkojnfmiaaaGreatDoorRRRRBR
import Derived.Test.YtikmbkojnfmiaaaGreatDoorRRRRBS
set_option linter.unusedVariables false
set_option linter.unusedSimpArgs false
set_option maxRecDepth 100000
namespace Go.Proofs.YtikmbkojnfmiaaaGreatDoorRRRR
open Go.RowKit Go.Sort

theorem clkGoV_some {l : List Va} : ∀ {r : List Va} {k j : Nat} {e : Int}, clkGoV l k r = some (j, e) → e ≠ 0
  | [], k, j, e, h => by simp [clkGoV] at h
  | v :: r, k, j, e, h => by
    rw [clkGoV] at h
    by_cases hc : declaredE l v ≠ 0
    · rw [if_pos hc] at h
      simp only [Option.some.injEq, Prod.mk.injEq] at h
      rw [← h.2]; exact hc
    · rw [if_neg hc] at h
      exact clkGoV_some h
theorem clkGoQ_some {l : List Va} : ∀ {r : List Qe} {k j : Nat} {e : Int}, clkGoQ l k r = some (j, e) → e ≠ 0
  | [], k, j, e, h => by simp [clkGoQ] at h
  | q :: r, k, j, e, h => by
    rw [clkGoQ] at h
    by_cases hc : q.e.clk l (clockOf l q.name) ≠ 0
    · rw [if_pos hc] at h
      simp only [Option.some.injEq, Prod.mk.injEq] at h
      rw [← h.2]; exact hc
    · rw [if_neg hc] at h
      exact clkGoQ_some h
theorem clk_E {p : Pr} (h : clkF p ≠ (0, 0, 0)) : (clkF p).2.2 ≠ 0 := by
  unfold clkF at h ⊢
  by_cases hc : checkF p ≠ (0, 0, 0)
  · rw [if_pos hc]; exact check_E hc
  rw [if_neg hc] at h ⊢
  unfold clkVF at h ⊢
  cases hv : clkGoV (varsOf p) 0 (varsOf p) with
  | some k => exact clkGoV_some (e := k.2) (j := k.1) hv
  | none =>
  rw [hv] at h
  simp only at h ⊢
  unfold clkQF at h ⊢
  cases hq : clkGoQ (varsOf p) 0 p.eqs with
  | some k => exact clkGoQ_some (e := k.2) (j := k.1) hq
  | none => rw [hq] at h; simp at h

set_option maxHeartbeats 4000000 in
theorem rorder_fault (p : Pr) (a : PrA) (w : World) (hp : PrAt w p a) (hok : PrOK p) (n1 : p.ins.length ≤ 1000000) (n2 : p.outs.length ≤ 1000000) (n3 : p.locals.length ≤ 1000000) (n4 : p.eqs.length ≤ 1000000) (hck : clkF p ≠ (0, 0, 0)) :
    Calls Tryz.prog 26 #[prV p a] w fun r w' => r = .returned (.tuple #[.slice none 0 0, fV (clkF p)]) ∧ Below w.heap.size w w' := by
  have hcheck := fun W h => rclkCheck_any p a W (hp.later h) hok n1 n2 n3 n4
  have he : ((clkF p).2.2 != 0) = true := by simpa using clk_E hck
  clear hck hok
  obtain ⟨A1, c1, A2, c2, A3, c3, A4, c4⟩ := a
  unfold prV fV at *
  dsimp only at *
  generalize clkF p = f at *
  obtain ⟨f0, f1, f2⟩ := f
  dsimp only at *
  go_enter Tryz.func26, Tryz.ntmps26
  go_wp2_with (first | (go_at_call 30; refine (hcheck _ belA).mono ?_; rintro r wa ⟨rfl, hba⟩; have hca := bcell hba; have hfa := bfrozen hba; have hza : w.heap.size + 2 ≤ wa.heap.size := (by have := hba.size; simpa using this); have hya : w.heap.size < wa.heap.size := (by omega); have hya1 : w.heap.size + 1 < wa.heap.size := (by omega)))
  go_region
  all_goals
    go_wp2_with fail
    refine bodyPost_ret (v := .tuple #[.slice none 0 0, .agg #[.int .i64 f0, .int .i64 f1, .int .i64 f2]]) (by simp [results, Tryz.results26, go_sem, *]) rfl ⟨rfl, ?_⟩
    (repeat refine bel_drew ?_)
    exact belS

set_option maxHeartbeats 4000000 in
theorem order_fault (p : Pr) (a : PrA) (w : World) (hg : Always w) (hp : PrAt w p a) (n1 : p.ins.length ≤ 1000000) (n2 : p.outs.length ≤ 1000000) (n3 : p.locals.length ≤ 1000000) (n4 : p.eqs.length ≤ 1000000) (hck : clkF p ≠ (0, 0, 0)) :
    Calls Tryz.prog 25 #[prV p a] w fun r w' => r = .returned (.tuple #[.slice none 0 0, fV (clkF p)]) ∧ Below w.heap.size w w' := by
  have hcheck := fun W h => clkCheck_any p a W (hg.later h) (hp.later h) n1 n2 n3 n4
  have hne : ((clkF p).1 == 0 && (clkF p).2.1 == 0 && (clkF p).2.2 == 0) = false := by
    rw [Bool.eq_false_iff]
    intro h
    simp only [Bool.and_eq_true, beq_iff_eq] at h
    exact hck (Prod.ext h.1.1 (Prod.ext h.1.2 h.2))
  have hfq : ∀ w, (Op.equalIn 10000 31 (.agg #[.int .i64 (clkF p).1, .int .i64 (clkF p).2.1, .int .i64 (clkF p).2.2]) (.agg #[.int .i64 0, .int .i64 0, .int .i64 0])).run Tryz.prog w = .ok false w := fun w => by rw [eqFault, hne]
  have hgm : Tryz.prog.eqGuardType Tryz.prog.depth 31 = false := by kernel_rfl
  clear hck hne
  obtain ⟨A1, c1, A2, c2, A3, c3, A4, c4⟩ := a
  unfold prV fV at *
  dsimp only at *
  generalize (clkF p).1 = k1 at *
  generalize (clkF p).2.1 = k2 at *
  generalize (clkF p).2.2 = k3 at *
  go_enter Tryz.func25, Tryz.ntmps25
  go_wp2_with (first | (go_at_call 27; refine (hcheck _ belA).mono ?_; rintro r wa ⟨rfl, hba⟩; have hca := bcell hba; have hfa := bfrozen hba; have hza : w.heap.size + 2 ≤ wa.heap.size := (by have := hba.size; simpa using this); have hya : w.heap.size < wa.heap.size := (by omega); have hya1 : w.heap.size + 1 < wa.heap.size := (by omega)))
  go_region
  all_goals
    go_wp2_with fail
    refine bodyPost_ret (v := .tuple #[.slice none 0 0, .agg #[.int .i64 k1, .int .i64 k2, .int .i64 k3]]) (by simp [results, Tryz.results25, go_sem, *]) rfl ⟨rfl, ?_⟩
    (repeat refine bel_drew ?_)
    exact belS
end Go.Proofs.YtikmbkojnfmiaaaGreatDoorRRRR

/- Walk over the reference's Order of a program without fault. -/
namespace Go.Proofs.YtikmbkojnfmiaaaGreatDoorRRRR
open Go.RowKit Go.Sort

def sliceLen (v : Value) : Nat := match v with | .slice _ n _ => n | _ => 0

/-- Two rows that are apart, and stay so. -/
theorem own_ne {v u : Value} (h : ∀ b, v.ownBlock = some b → u.ownBlock ≠ some b) : v.ownBlock = none ∨ v.ownBlock ≠ u.ownBlock := by
  cases hv : v.ownBlock with
  | none => exact .inl rfl
  | some b => exact .inr fun e => h b hv e.symm
theorem own_ne' {v u : Value} (h : ∀ b, v.ownBlock = some b → u.ownBlock ≠ some b) : u.ownBlock = none ∨ u.ownBlock ≠ v.ownBlock := by
  cases hu : u.ownBlock with
  | none => exact .inl rfl
  | some b => exact .inr fun e => h b e.symm hu
theorem hap_left {v u u2 : Value} {B s s2 : Nat} (h : ∀ b, v.ownBlock = some b → u.ownBlock ≠ some b) (hlt : ∀ k, v.ownBlock = some k → B ≤ k ∧ k < s) (hor : u2.ownBlock = u.ownBlock ∨ ∀ k, u2.ownBlock = some k → s2 ≤ k) (hs : s ≤ s2) : ∀ b, v.ownBlock = some b → u2.ownBlock ≠ some b := by
  intro b hb e
  rcases hor with h1 | h1
  · exact h b hb (h1 ▸ e)
  · have := h1 b e
    have := (hlt b hb).2
    omega
theorem hap_right {v v2 u : Value} {B s s2 : Nat} (h : ∀ b, v.ownBlock = some b → u.ownBlock ≠ some b) (hlt : ∀ k, u.ownBlock = some k → B ≤ k ∧ k < s) (hor : v2.ownBlock = v.ownBlock ∨ ∀ k, v2.ownBlock = some k → s2 ≤ k) (hs : s ≤ s2) : ∀ b, v2.ownBlock = some b → u.ownBlock ≠ some b := by
  intro b hb e
  rcases hor with h1 | h1
  · exact h b (h1 ▸ hb) e
  · have := h1 b hb
    have := (hlt b e).2
    omega

set_option maxHeartbeats 4000000 in
theorem rorder_clean (p : Pr) (a : PrA) (w : World) (hp : PrAt w p a) (hok : PrOK p) (n1 : p.ins.length ≤ 1000000) (n2 : p.outs.length ≤ 1000000) (n3 : p.locals.length ≤ 1000000) (n4 : p.eqs.length ≤ 1000000) (hck : clkF p = (0, 0, 0)) :
    Calls Tryz.prog 26 #[prV p a] w fun r w' => (∃ v, r = .returned (.tuple #[v, fV (orderR p).2]) ∧ w'.ownsRow w.heap.size 3 1 v (orderR p).1.length ((orderR p).1.map (.int .i64))) ∧ Below w.heap.size w w' := by
  have hO : orderR p = ordR (ofR (varsOf p)) p.eqs (leftE p.eqs) (leftE p.eqs) (p.ins.map (·.name) ++ delaysE p.eqs) [] := rfl
  generalize orderR p = O at *
  have HO := Lib.hid hO; clear hO
  have hcheck := fun W h => rclkCheck_any p a W (hp.later h) hok n1 n2 n3 n4
  have hqz : ∀ q ∈ p.eqs, q.e.size ≤ 1000000 := fun q hq => by
    have := (eqB_parts ((whole_parts (clean_parts (clkF_parts hck).1).1).2.2.2.2 q hq)).2.2.1
    omega
  have hord0 := fun (k : Nat) (q : Qe) (hq : p.eqs[k]? = some q) W (h : Below w.heap.size w W) => refOrdOf_any p a k q W (hp.later h) hq (hqz q (List.mem_of_getElem? hq)) n1 n2 n3 n4
  rw [hck] at hcheck
  clear hck hqz
  have hp1 := hp.ins
  have hl1 := hp.ins.len
  have hp4 := hp.eqs
  have hl4 := hp.eqs.len
  obtain ⟨A1, c1, A2, c2, A3, c3, A4, c4⟩ := a
  unfold maxLen at hl1 hl4
  unfold prV fV at *
  dsimp only at *
  obtain ⟨hl11, hl12⟩ := hl1
  obtain ⟨hl41, hl42⟩ := hl4
  go_enter Tryz.func26, Tryz.ntmps26
  go_wp2_with (first | (go_at_call 30; refine (hcheck _ belA).mono ?_; rintro r wa ⟨rfl, hba⟩; have hca := bcell hba; have hfa := bfrozen hba; have hza : w.heap.size + 2 ≤ wa.heap.size := (by have := hba.size; simpa using this); have hya : w.heap.size < wa.heap.size := (by omega); have hya1 : w.heap.size + 1 < wa.heap.size := (by omega)))
  refine wp_name fun W0 hW0 => ?_
  have hb0 : Below w.heap.size w W0 := by rw [hW0]; (repeat refine bel_drew ?_); exact belS
  have hz0 : w.heap.size + 1 < W0.heap.size := by rw [hW0]; simp; omega
  have hz00 : w.heap.size < W0.heap.size := by omega
  have x0 : W0.cell? ⟨w.heap.size, 0, none⟩ = some (.string p.name) := by rw [hW0]; go_simp
  have x1 : W0.cell? ⟨w.heap.size, 1, none⟩ = some (.slice A1 p.ins.length c1) := by rw [hW0]; go_simp
  have x2 : W0.cell? ⟨w.heap.size, 2, none⟩ = some (.slice A2 p.outs.length c2) := by rw [hW0]; go_simp
  have x3 : W0.cell? ⟨w.heap.size, 3, none⟩ = some (.slice A3 p.locals.length c3) := by rw [hW0]; go_simp
  have x4 : W0.cell? ⟨w.heap.size, 4, none⟩ = some (.slice A4 p.eqs.length c4) := by rw [hW0]; go_simp
  have f0 : W0.cell? ⟨w.heap.size + 1, 0, none⟩ = some (.int .i64 0) := by rw [hW0]; go_simp
  have f1 : W0.cell? ⟨w.heap.size + 1, 1, none⟩ = some (.int .i64 0) := by rw [hW0]; go_simp
  have f2 : W0.cell? ⟨w.heap.size + 1, 2, none⟩ = some (.int .i64 0) := by rw [hW0]; go_simp
  have z0 : W0.frozen? ⟨w.heap.size + 1, 0, none⟩ = false := by rw [hW0]; go_simp
  have z1 : W0.frozen? ⟨w.heap.size + 1, 1, none⟩ = false := by rw [hW0]; go_simp
  have z2 : W0.frozen? ⟨w.heap.size + 1, 2, none⟩ = false := by rw [hW0]; go_simp
  clear hW0 hca hfa hba hza hya hya1 hcheck
  go_loopw [5, 6] (fun r i wr => ∃ (k : Nat) (A : Option Addr) (cap : Nat), k ≤ p.ins.length ∧ i = .int .i64 k ∧ r = .slice A k cap ∧ Hid (wr.ownsRow W0.heap.size 9 1 (.slice A k cap) k ((p.ins.take k).map (fun v => Value.string v.name))) ∧ Below W0.heap.size W0 wr) (fun r i _ => p.ins.length - (intOf i).toNat)
  case atStart => exact ⟨0, none, 0, Nat.zero_le _, rfl, rfl, Lib.hid (World.ownsRow_nil _ _ _ _), Below.refl _ _⟩
  case round =>
    obtain ⟨k, A, cap, hk, rfl, rfl, hown, hbel⟩ := hrel
    have hbw : Below w.heap.size w wr := bel_grow hb0 hbel (by omega)
    have hc := bcell hbel
    have hzr := hbel.size
    by_cases hlt : k < p.ins.length
    · have hx : p.ins[k]? = some p.ins[k] := List.getElem?_eq_getElem hlt
      have hd : p.ins.drop k = p.ins[k] :: p.ins.drop (k + 1) := List.drop_eq_getElem_cons hlt
      generalize p.ins[k] = x at hx hd
      obtain ⟨b, off, rfl, hbb, ⟨d0, d1, d2, d3⟩⟩ := (hp1.later hbw).get hx
      have htk : p.ins.take (k + 1) = p.ins.take k ++ [x] := by rw [List.take_add_one, hx]; rfl
      clear hd
      have HTK := Lib.hid htk; clear htk hx
      have hown1 := hown.out
      go_wp2_with (first | (at_builtin; go_loud (refine wpList_app rfl (.tmp 29) (.tmp 36) 55 rfl W0.heap.size 9 _ 1 16 Tryz.underlying55 strinfo rfl (by omega) (.slice A k cap) k ((p.ins.take k).map (fun v => Value.string v.name)) _ 1 [.string x.name] rfl (own_alloc hown1) rfl rfl (fun j u hj => by rw [cell_new]; simpa using hj) (by simp [Value.oneCell']) (by omega) (by omega) (by simp; omega) ?_; intro v2 w2 hown2 hb2; have hz2 := hb2.size; (try simp at hz2); obtain ⟨A2', cv2, rfl, hcb1, hcb2⟩ := own_slice hown2)))
      go_roundw
      case rel => exact ⟨k + 1, _, _, by omega, by go_num, rfl, Lib.hid (by rw [HTK.out, List.map_append]; exact hown2), belA⟩
      case measure => simp [intOf]; try omega
    · obtain rfl : k = p.ins.length := by omega
      rw [List.take_length] at hown
      have hown0 : wr.ownsRow W0.heap.size 9 1 (.slice A p.ins.length cap) (p.ins.map (·.name)).length ((p.ins.map (·.name)).map .string) := by
        have := hown.out
        rw [List.map_map, List.length_map]
        exact this
      have HO0 := Lib.hid hown0; clear hown0 hown
      obtain ⟨R0, hR0⟩ : ∃ R0, R0 = p.ins.map (·.name) := ⟨_, rfl⟩
      have hR0l : R0.length = p.ins.length := by rw [hR0, List.length_map]
      rw [← hR0] at HO0
      have HR0 := Lib.hid hR0; clear hR0
      go_wp2_with fail
      clear hbw hc hzr
      go_loopw [5, 7, 8] (fun r c i wr => ∃ (k n : Nat) (A : Option Addr) (cap : Nat) (R : List ByteArray), k ≤ p.eqs.length ∧ i = .int .i64 k ∧ c = .int .i64 n ∧ n ≤ k ∧ Hid (n = leftE (p.eqs.take k)) ∧ R.length ≤ 1000000 + k ∧ Hid (R = R0 ++ delaysE (p.eqs.take k)) ∧ r = .slice A R.length cap ∧ Hid (wr.ownsRow W0.heap.size 9 1 (.slice A R.length cap) R.length (R.map .string)) ∧ Below W0.heap.size W0 wr) (fun r c i _ => p.eqs.length - (intOf i).toNat)
      case atStart => exact ⟨0, 0, A, cap, R0, Nat.zero_le _, rfl, rfl, Nat.le_refl _, Lib.hid rfl, by omega, Lib.hid (by simp [delaysE]), by rw [hR0l], Lib.hid (by have := HO0.out; rw [hR0l] at this ⊢; exact this), hbel⟩
      case round =>
        clear HO0 hbel
        obtain ⟨k, n, A, cap, R, hk, rfl, rfl, hn, hnl, hRl, hR, rfl, hown, hbel⟩ := hrel
        have hbw : Below w.heap.size w wr := bel_grow hb0 hbel (by omega)
        have hc := bcell hbel
        have hzr := hbel.size
        by_cases hlt : k < p.eqs.length
        · have hx : p.eqs[k]? = some p.eqs[k] := List.getElem?_eq_getElem hlt
          have hd : p.eqs.drop k = p.eqs[k] :: p.eqs.drop (k + 1) := List.drop_eq_getElem_cons hlt
          generalize p.eqs[k] = q at hx hd
          obtain ⟨b, off, B1, n1, B2, n2, rfl, hbb, ⟨g0, g1, g2, g3, g4, g5, g6, g7, g8, g9, s1, s2⟩⟩ := (hp4.later hbw).get hx
          have htk : p.eqs.take (k + 1) = p.eqs.take k ++ [q] := by rw [List.take_add_one, hx]; rfl
          have h1 := delaysE_snoc (p.eqs.take k) q
          have h2 := leftE_snoc (p.eqs.take k) q
          rw [← htk] at h1 h2
          rw [← hnl.out] at h2
          clear hd hx htk g2 g3 g4 g5 g6 g7 g8 g9 s1 s2
          have hown1 := hown.out
          cases hdl : (q.delay != 0)
          · rw [hdl, if_neg (by simp)] at h1 h2
            have H1 := Lib.hid h1; clear h1
            have H2 := Lib.hid h2; clear h2
            go_wp2_with fail
            go_roundw
            case rel => exact ⟨k + 1, n + 1, A, cap, R, by omega, by go_num, by go_num, by omega, Lib.hid H2.out.symm, by omega, Lib.hid (by rw [H1.out]; exact hR.out), rfl, hown, hbel⟩
            case measure => simp [intOf]; try omega
          · rw [hdl, if_pos rfl] at h1 h2
            have H1 := Lib.hid h1; clear h1
            have H2 := Lib.hid h2; clear h2
            go_wp2_with (first | (at_builtin; go_loud (refine wpList_app rfl (.tmp 52) (.tmp 59) 55 rfl W0.heap.size 9 _ 1 16 Tryz.underlying55 strinfo rfl (by omega) (.slice A R.length cap) R.length (R.map .string) _ 1 [.string q.name] rfl (own_alloc hown1) rfl rfl (fun j u hj => by rw [cell_new]; simpa using hj) (by simp [Value.oneCell']) (by omega) (by omega) (by simp; omega) ?_; intro v2 w2 hown2 hb2; have hz2 := hb2.size; (try simp at hz2); obtain ⟨A2', cv2, rfl, hcb1, hcb2⟩ := own_slice hown2)))
            go_roundw
            case rel => exact ⟨k + 1, n, A2', cv2, R ++ [q.name], by omega, by go_num, by go_num, by omega, Lib.hid H2.out.symm, by simp; omega, Lib.hid (by rw [H1.out, hR.out, List.append_assoc]), by simp, Lib.hid (by rw [List.map_append, List.length_append]; exact hown2), belA⟩
            case measure => simp [intOf]; try omega
        · obtain rfl : k = p.eqs.length := by omega
          rw [List.take_length] at hnl hR
          have hRO : ordR (ofR (varsOf p)) p.eqs n n R [] = O := by rw [HO.out, ← HR0.out, ← hR.out, ← hnl.out]
          have HRO := Lib.hid hRO; clear hRO
          have hRl2 : R.length ≤ 2000000 := by omega
          go_wp2_with fail
          obtain ⟨nd, hnd⟩ : ∃ nd, nd = ofR (varsOf p) := ⟨_, rfl⟩
          rw [← hnd] at HRO hord0
          have HND := Lib.hid hnd
          clear hnd hc hzr hbw hnl hR
          go_loopw [5, 9] (fun r o wr => ∃ (t : Nat) (A : Option Addr) (cap : Nat) (B : Option Addr) (bc : Nat) (R : List ByteArray) (out : List Int), out.length + t = n ∧ r = .slice A R.length cap ∧ o = .slice B out.length bc ∧ R.length ≤ 2000000 + out.length ∧ Hid (ordR nd p.eqs n t R out = O) ∧ Hid (wr.ownsRow W0.heap.size 9 1 (.slice A R.length cap) R.length (R.map .string)) ∧ Hid (wr.ownsRow W0.heap.size 3 1 (.slice B out.length bc) out.length (out.map (.int .i64))) ∧ Hid (∀ b, (Value.slice A R.length cap).ownBlock = some b → (Value.slice B out.length bc).ownBlock ≠ some b) ∧ Below W0.heap.size W0 wr) (fun r o _ => n - sliceLen o)
          case atStart => exact ⟨n, A, cap, none, 0, R, [], by simp, rfl, rfl, by omega, HRO, hown, Lib.hid (World.ownsRow_nil _ _ _ _), Lib.hid (fun b _ h => by simp [Value.ownBlock] at h), hbel⟩
          case round =>
            clear HRO hown hbel
            obtain ⟨t, A, cap, B, bc, R, out, ht, rfl, rfl, hRl3, hrem, hown, hout, hap, hbel⟩ := hrel
            have hbw : Below w.heap.size w wr := bel_grow hb0 hbel (by omega)
            have hc := bcell hbel
            have hfz := bfrozen hbel
            have hzr := hbel.size
            have hw1 : w.heap.size + 1 < wr.heap.size := by omega
            cases t with
            | zero =>
              have hv : O = (out, (0, 0, 0)) := by rw [← hrem.out]; rfl
              have hn0 : out.length = n := by omega
              have HOUT := hout.out
              have HV := Lib.hid hv
              clear hv hrem
              go_wp2_with fail
              refine bodyPost_ret (v := .tuple #[.slice B out.length bc, .agg #[.int .i64 0, .int .i64 0, .int .i64 0]]) (by simp [results, Tryz.results26, go_sem, *]) rfl ⟨⟨.slice B out.length bc, by rw [HV.out], ?_⟩, ?_⟩
              · rw [HV.out]
                dsimp only
                refine own_less (B := W0.heap.size) ?_ (by omega)
                (repeat first | (with_reducible assumption) | refine own_alloc ?_ | refine own_drew ?_ | refine own_apart ?_ (fun b hb => by have := (HOUT.lt b hb).1; omega) _ _)
              · (repeat refine bel_drew ?_)
                exact belS
            | succ t =>
              have hlt : out.length < n := by omega
              have hlt2 : (out.length : Int) < (n : Int) := by omega
              have hrm := hrem.out
              rw [ordR, if_pos hlt] at hrm
              have HRM := Lib.hid hrm
              clear hrm hrem
              obtain ⟨W3, rfl⟩ : ∃ W3, W3 = wr := ⟨wr, rfl⟩
              have hw3 : w.heap.size < W3.heap.size := by omega
              have hlist := StrsAt.of_own hown.out
              go_wp2_with fail
              go_loopw [10, 11, 12] (fun l x i wr => ∃ (k : Nat) (l0 n0 : Int), k ≤ p.eqs.length ∧ i = .int .i64 ((k : Int) - 1) ∧ l = .int .i64 l0 ∧ x = .int .i64 n0 ∧ Hid (scanR R nd k (p.eqs.drop k) = (l0, n0)) ∧ Below W3.heap.size W3 wr) (fun _ _ i _ => (intOf i + 1).toNat)
              case atStart => exact ⟨p.eqs.length, -1, -1, Nat.le_refl _, by go_num, rfl, rfl, Lib.hid (by rw [List.drop_length]; rfl), Below.refl _ _⟩
              case round =>
                obtain ⟨k, l0, n0, hk, rfl, rfl, rfl, hsc, hbv⟩ := hrel
                have hbwv : Below w.heap.size w wr := bel_grow hbw hbv (by omega)
                have hcv := bcell hbv
                have hfv := bfrozen hbv
                have hzv := hbv.size
                have hwv : w.heap.size < wr.heap.size := by omega
                have hwv1 : w.heap.size + 1 < wr.heap.size := by omega
                rcases Nat.eq_zero_or_pos k with hk0 | hk0
                · subst hk0
                  have hsc0 := hsc.out
                  rw [List.drop_zero] at hsc0
                  have hrm := HRM.out
                  rw [hsc0] at hrm
                  dsimp only at hrm
                  clear hsc HRM
                  by_cases hn0 : n0 < 0
                  · rw [if_pos hn0] at hrm
                    have HV := Lib.hid hrm
                    clear hrm hsc0
                    go_wp2_with fail
                    refine bodyPost_ret (v := .tuple #[.slice none 0 0, .agg #[.int .i64 3, .int .i64 l0, .int .i64 22]]) (by simp [results, Tryz.results26, go_sem, *]) rfl ⟨⟨.slice none 0 0, by rw [← HV.out], ?_⟩, ?_⟩
                    · rw [← HV.out]
                      exact World.ownsRow_nil _ _ _ _
                    · (repeat refine bel_drew ?_)
                      exact belS
                  · rw [if_neg hn0] at hrm
                    obtain ⟨k, q, hi1, hx, _, _⟩ := scanR_hit p.eqs 0 (by rw [hsc0]; exact hn0)
                    rw [hsc0, Nat.zero_add] at hi1
                    dsimp only at hi1
                    subst hi1
                    have hlt3 : k < p.eqs.length := (List.getElem?_eq_some_iff.1 hx).1
                    rw [nameAt_of (q := q) (by rw [Int.toNat_natCast]; exact hx)] at hrm
                    have HV := Lib.hid hrm
                    have HX := Lib.hid hx
                    have hn1 : ¬ ((k : Int) < 0) := by omega
                    clear hrm hsc0 hx hn0
                    go_wp2_with (first | (at_builtin; go_loud (refine wpList_cat2 rfl (.tmp 108) (.tmp 110) 63 rfl W0.heap.size 3 _ 1 8 Tryz.underlying63 intinfo rfl (by omega) (.slice B out.length bc) out.length (out.map (.int .i64)) _ 1 1 [.int .i64 (k : Int)] rfl (own_alloc (own_bel hout.out hbv)) rfl rfl (fun j u hj => by rw [cell_new]; simpa using hj) (by simp [Value.oneCell']) (by omega) (by omega) (by simp; omega) ?_; intro v2 w2 hown2 hg2 hor2; have hne2 := own_ne hap.out; have hrd2 := (own_alloc (own_bel hown.out hbv)).kept hg2 hne2; have hap2 := hap_left hap.out hown.out.lt hor2 (by simp; omega); have hb2 : Below W0.heap.size W0 w2 := bel_grown (bel_alloc (hbel.trans (hbv.mono (by omega))) _) hg2 (fun b hb => (hout.out.lt b hb).1) (by simp; omega); have hz2 : wr.heap.size + 1 ≤ w2.heap.size := (by have := hg2.size; simpa using this); have hc2 := bcell hb2; have hy2 : w.heap.size < w2.heap.size := (by omega); have hbw2 : Below w.heap.size w w2 := bel_grow hb0 hb2 (by omega); obtain ⟨b, off, B1, n1, B2, n2, rfl, hbb, ⟨g0, g1, g2, g3, g4, g5, g6, g7, g8, g9, s1, s2⟩⟩ := (hp4.later hbw2).get HX.out; clear g1 g2 g3 g4 g5 g6 g7 g8 g9 s1 s2; obtain ⟨A2', cv2, rfl, hcb1, hcb2⟩ := own_slice hown2)) | (at_builtin; go_loud (refine wpList_cat2 rfl (.tmp 112) (.tmp 119) 55 rfl W0.heap.size 9 _ 1 16 Tryz.underlying55 strinfo rfl (by omega) (.slice A R.length cap) R.length (R.map .string) _ 1 1 [.string q.name] rfl (own_alloc hrd2) rfl rfl (fun j u hj => by rw [cell_new]; simpa using hj) (by simp [Value.oneCell']) (by omega) (by omega) (by simp; omega) ?_; intro v3 w3 hown3 hg3 hor3; have hout3 := (own_alloc hown2).kept hg3 (own_ne' hap2); have hap3 := hap_right hap2 hown2.lt hor3 (by simp); have hb3 : Below W0.heap.size W0 w3 := bel_grown (bel_alloc hb2 _) hg3 (fun b hb => (hown.out.lt b hb).1) (by simp; omega); obtain ⟨A3', cv3, rfl, hcd1, hcd2⟩ := own_slice hown3)))
                    go_roundw
                    case rel => exact ⟨t, A3', cv3, A2', cv2, R ++ [q.name], out ++ [(k : Int)], by simp; omega, by simp, by simp, by simp; omega, HV, Lib.hid (by rw [List.map_append, List.length_append]; exact hown3), Lib.hid (by rw [List.map_append, List.length_append]; exact hout3), Lib.hid (by rw [List.length_append, List.length_append]; exact hap3), hb3⟩
                    case measure => simp [sliceLen]; omega
                · obtain ⟨k, rfl⟩ : ∃ m, k = m + 1 := ⟨k - 1, by omega⟩
                  have hlt : k < p.eqs.length := by omega
                  have hx : p.eqs[k]? = some p.eqs[k] := List.getElem?_eq_getElem hlt
                  have hd : p.eqs.drop k = p.eqs[k] :: p.eqs.drop (k + 1) := List.drop_eq_getElem_cons hlt
                  generalize p.eqs[k] = q at hx hd
                  obtain ⟨b, off, B1, n1, B2, n2, rfl, hbb, ⟨g0, g1, g2, g3, g4, g5, g6, g7, g8, g9, s1, s2⟩⟩ := (hp4.later hbwv).get hx
                  have hsq := congrArg (scanR R nd k) hd
                  rw [scanR, hsc.out] at hsq
                  dsimp only at hsq
                  have hik : ((k + 1 : Nat) : Int) - 1 = (k : Int) := by omega
                  rw [hik]
                  have hord := hord0 k q hx
                  clear hsc hik hd hx g2 g3 g4 g5 g6 g7 g8 g9 s1 s2
                  have hbk : b < wr.heap.size := by omega
                  cases hh : hasB R q.name
                  · rw [hh, if_neg (by simp)] at hsq
                    obtain ⟨ndq, hndq⟩ : ∃ x, x = nd q := ⟨_, rfl⟩
                    rw [← hndq] at hsq hord
                    have HS := Lib.hid hsq
                    have HH := Lib.hid hh
                    clear hsq hh hndq
                    obtain ⟨Wv, rfl⟩ : ∃ Wv, Wv = wr := ⟨wr, rfl⟩
                    go_wp2_with (first | (go_at_call 21; go_loud (refine (has_any R A cap q.name _ (hlist.later belA)).mono ?_; rw [HH.out]; rintro r wh ⟨rfl, hbh⟩; have hch := bcell hbh; have hzh := hbh.size; have hyh : w.heap.size < wh.heap.size := (by omega))) | (go_at_call 31; go_loud (refine (hord _ belA).mono ?_; rintro r wo ⟨⟨vo, rfl, hrow⟩, hbo⟩; obtain ⟨Ar, cr, rfl, hr1, hr2⟩ := own_slice hrow; have hls := StrsAt.of_own hrow; have hco := bcell hbo; have hzo := hbo.size; have hyo : w.heap.size < wo.heap.size := (by omega); clear hrow)))
                    refine wp_name fun W4 hW4 => ?_
                    have hwo4 : Below wo.heap.size wo W4 := by rw [hW4]; exact belA
                    have hb34 : Below W3.heap.size W3 W4 := by rw [hW4]; exact belA
                    have hls4 : StrsAt W4 ndq Ar cr := hls.later hwo4
                    have hz34 := hb34.size
                    have hz4 : w.heap.size < W4.heap.size := by omega
                    unfold maxLen at hr2
                    clear hW4 hls hwo4 hbo hco hzo hyo hbh hch hzh hyh hcv hfv hzv hc hfz hbwv hord hbk
                    go_loopw [13, 15] (fun ok i wr => ∃ (m : Nat) (b : Bool), m ≤ ndq.length ∧ i = .int .i64 m ∧ ok = .bool b ∧ Hid (b = (ndq.take m).all (hasB R)) ∧ Below W4.heap.size W4 wr) (fun _ i _ => ndq.length - (intOf i).toNat)
                    case atStart => exact ⟨0, true, Nat.zero_le _, rfl, rfl, Lib.hid rfl, Below.refl _ _⟩
                    case round =>
                      obtain ⟨m, bb, hm, rfl, rfl, hbb5, hb5⟩ := hrel
                      by_cases hlt5 : m < ndq.length
                      · have hx5 : ndq[m]? = some ndq[m] := List.getElem?_eq_getElem hlt5
                        generalize ndq[m] = s5 at hx5
                        have htk : (ndq.take (m + 1)).all (hasB R) = ((ndq.take m).all (hasB R) && hasB R s5) := by rw [List.take_add_one, hx5, List.all_append]; simp
                        rw [← hbb5.out] at htk
                        obtain ⟨b5, o5, rfl, hbb6, d5⟩ := (hls4.later hb5).get hx5
                        have hlist5 := hlist.later (hb34.trans (hb5.mono hz34))
                        clear hbb5 hx5
                        cases bb
                        · rw [Bool.false_and] at htk
                          have HTK := Lib.hid htk.symm
                          clear htk
                          go_wp2_with fail
                          go_roundw
                          case rel => exact ⟨m + 1, false, by omega, by go_num, rfl, HTK, belA⟩
                          case measure => simp [intOf]; try omega
                        · rw [Bool.true_and] at htk
                          have HTK := Lib.hid htk.symm
                          clear htk
                          go_wp2_with (first | (go_at_call 21; go_loud (refine (has_any R A cap s5 _ (hlist5.later belA)).mono ?_; rintro r wh ⟨rfl, hbh⟩)))
                          go_roundw
                          case rel => exact ⟨m + 1, hasB R s5, by omega, by go_num, rfl, HTK, belA⟩
                          case measure => simp [intOf]; try omega
                      · obtain rfl : m = ndq.length := by omega
                        have hall := hbb5.out
                        rw [List.take_length] at hall
                        have hsq := HS.out
                        rw [← hall] at hsq
                        clear hbb5 hall HS
                        have hbf : Below W3.heap.size W3 wr := hb34.trans (hb5.mono hz34)
                        cases bb
                        · rw [if_neg (by simp)] at hsq
                          have HS := Lib.hid hsq
                          clear hsq
                          go_wp2_with fail
                          go_roundw
                          case rel => exact ⟨k, _, _, by omega, by go_num, rfl, rfl, HS, belA⟩
                          case measure => simp [intOf]; try omega
                        · rw [if_pos rfl] at hsq
                          have HS := Lib.hid hsq
                          clear hsq
                          go_wp2_with fail
                          go_roundw
                          case rel => exact ⟨k, _, _, by omega, by go_num, rfl, rfl, HS, belA⟩
                          case measure => simp [intOf]; try omega
                  · rw [hh, if_pos rfl] at hsq
                    have HS := Lib.hid hsq
                    have HH := Lib.hid hh
                    clear hsq hh
                    go_wp2_with (first | (go_at_call 21; go_loud (refine (has_any R A cap q.name _ (hlist.later belA)).mono ?_; rw [HH.out]; rintro r wh ⟨rfl, hbh⟩)))
                    go_roundw
                    case rel => exact ⟨k, l0, n0, by omega, by go_num, rfl, rfl, HS, belA⟩
                    case measure => simp [intOf]; try omega
end Go.Proofs.YtikmbkojnfmiaaaGreatDoorRRRR
