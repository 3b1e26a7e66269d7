/- Walk over clocks.Check. -/
import Derived.Test.YtikmbkojnfmiaaaGreatDoorRRRRWClk11
import Derived.Test.YtikmbkojnfmiaaaGreatDoorRRRRBH
import Derived.Test.YtikmbkojnfmiaaaGreatDoorRRRRBB
set_option linter.unusedVariables false
set_option linter.unusedSimpArgs false
set_option maxRecDepth 100000
namespace Go.Proofs.YtikmbkojnfmiaaaGreatDoorRRRR
open Go.RowKit Go.Sort

/-- The first variable whose clock has a fault. -/
def clkGoV (l : List Va) : Nat → List Va → Option (Nat × Int)
  | _, [] => none
  | k, v :: r => if declaredE l v ≠ 0 then some (k, declaredE l v) else clkGoV l (k + 1) r
/-- The clock of the variable of a name. -/
def clockOf (l : List Va) (s : ByteArray) : Int × ByteArray := match findC l s with | some v => (v.ck, v.cn) | none => (0, ⟨#[]⟩)
/-- The first equation that does not stand at its clock. -/
def clkGoQ (l : List Va) : Nat → List Qe → Option (Nat × Int)
  | _, [] => none
  | k, q :: r => if q.e.clk l (clockOf l q.name) ≠ 0 then some (k, q.e.clk l (clockOf l q.name)) else clkGoQ l (k + 1) r
def clkQF (r : Option (Nat × Int)) : Int × Int × Int := match r with | some (k, e) => (3, (k : Int), e) | none => (0, 0, 0)
def clkVF (p : Pr) (r : Option (Nat × Int)) : Int × Int × Int := match r with | some (k, e) => (2, (k : Int), e) | none => clkQF (clkGoQ (varsOf p) 0 p.eqs)
/-- clocks.Check. -/
def clkF (p : Pr) : Int × Int × Int := if checkF p ≠ (0, 0, 0) then checkF p else clkVF p (clkGoV (varsOf p) 0 (varsOf p))

theorem check_zero {p : Pr} (h : checkF p = (0, 0, 0)) : printE p = 0 ∧ (varsOf p).length ≤ 24 := by
  unfold checkF at h
  by_cases he : printE p ≠ 0
  · rw [if_pos he] at h; simp at h
  rw [if_neg he] at h
  by_cases hb : 8 < p.ins.length ∨ 8 < p.outs.length ∨ 24 < (varsOf p).length
  · rw [if_pos hb] at h; simp at h
  exact ⟨Decidable.not_not.1 he, by omega⟩

set_option maxHeartbeats 2000000 in
set_option maxRecDepth 100000 in
theorem clkCheck_clean (p : Pr) (a : PrA) (w : World) (hg : Always w) (hp : PrAt w p a) (n1 : p.ins.length ≤ 1000000) (n2 : p.outs.length ≤ 1000000) (n3 : p.locals.length ≤ 1000000) (n4 : p.eqs.length ≤ 1000000) (hck : checkF p = (0, 0, 0)) :
    Calls Tryz.prog 27 #[prV p a] w fun r w' => r = .returned (fV (clkF p)) ∧ Below w.heap.size w w' := by
  have hv0 : clkF p = clkVF p (clkGoV (varsOf p) 0 (varsOf p)) := by unfold clkF; rw [if_neg (by rw [hck]; simp)]
  obtain ⟨hpe, hL24⟩ := check_zero hck
  have hqs := (whole_parts (whole_of_print hpe)).2.2.2.2
  have hcheck := fun W h => check_any p a W (hp.later h) n1 n2 n3 n4
  have hvars := fun W h => vars_any p a W (hp.later h) n1 n2 n3
  rw [hck] at hcheck
  have hfq : ∀ w, (Op.equalIn 10000 31 (.agg #[.int .i64 0, .int .i64 0, .int .i64 0]) (.agg #[.int .i64 0, .int .i64 0, .int .i64 0])).run Tryz.prog w = .ok true w := fun w => by rw [eqFault]; rfl
  have hgm : Tryz.prog.eqGuardType Tryz.prog.depth 31 = false := by kernel_rfl
  clear hck hpe
  have HV0 := Lib.hid hv0; clear hv0
  have HQS := Lib.hid hqs; clear hqs
  have hp4 := hp.eqs
  have hlq := hp.eqs.len
  obtain ⟨A1, c1, A2, c2, A3, c3, A4, c4⟩ := a
  unfold maxLen at hlq
  unfold prV fV at *
  dsimp only at *
  obtain ⟨hlq1, hlq2⟩ := hlq
  have hqf : clkVF p none = clkQF (clkGoQ (varsOf p) 0 p.eqs) := rfl
  have HQF := Lib.hid hqf; clear hqf
  generalize hL : varsOf p = L at *
  clear hL hp
  go_enter Tryz.func27, Tryz.ntmps27
  go_wp2_with (first | (go_at_call 32; refine (hcheck _ belA).mono ?_; rintro r wa ⟨rfl, hba⟩; have hca := bcell hba; have hfa := bfrozen hba; have hza : w.heap.size + 2 ≤ wa.heap.size := (by have := hba.size; simpa using this); have hya : w.heap.size < wa.heap.size := (by omega); have hya1 : w.heap.size + 1 < wa.heap.size := (by omega)) | (go_at_call 14; refine (hvars _ belA).mono ?_; rintro r wb ⟨⟨A, cap, rfl, hown⟩, hbb⟩; have hcb := bcell hbb; have hfb := bfrozen hbb; have hzb := hbb.size; (try simp at hzb); have hyb : w.heap.size < wb.heap.size := (by omega); have hyb1 : w.heap.size + 1 < wb.heap.size := (by omega); have hva := VarsAt.of_own hown))
  refine wp_name fun W0 hW0 => ?_
  have hb0 : Below w.heap.size w W0 := by rw [hW0]; exact belA
  have hz0 : w.heap.size < W0.heap.size := by rw [hW0]; omega
  have hz1 : w.heap.size + 1 < W0.heap.size := by rw [hW0]; omega
  have x4 : W0.cell? ⟨w.heap.size, 4, none⟩ = some (.slice A4 p.eqs.length c4) := by rw [hW0]; go_simp
  have f0 : W0.cell? ⟨w.heap.size + 1, 0, none⟩ = some (.int .i64 0) := by rw [hW0]; go_simp
  have f1 : W0.cell? ⟨w.heap.size + 1, 1, none⟩ = some (.int .i64 0) := by rw [hW0]; go_simp
  have f2 : W0.cell? ⟨w.heap.size + 1, 2, none⟩ = some (.int .i64 0) := by rw [hW0]; go_simp
  have z0 : W0.frozen? ⟨w.heap.size + 1, 0, none⟩ = false := by rw [hW0]; go_simp
  have z1 : W0.frozen? ⟨w.heap.size + 1, 1, none⟩ = false := by rw [hW0]; go_simp
  have z2 : W0.frozen? ⟨w.heap.size + 1, 2, none⟩ = false := by rw [hW0]; go_simp
  have hva0 : VarsAt W0 L A cap := by rw [hW0]; exact hva
  clear hW0
  replace hp4 := hp4.later hb0
  replace hg := hg.later hb0
  clear hcheck hvars hfq hgm hown hva hca hcb hfa hfb
  go_loopw [23] (fun i wr => ∃ k : Nat, k ≤ L.length ∧ i = .int .i64 k ∧ clkGoV L k (L.drop k) = clkGoV L 0 L ∧ Below W0.heap.size W0 wr) (fun i _ => L.length - (intOf i).toNat)
  case atStart => exact ⟨0, Nat.zero_le _, rfl, rfl, Below.refl _ _⟩
  case round =>
    obtain ⟨k, hk, rfl, hrem, hbel⟩ := hrel
    have hc := bcell hbel
    have hfz := bfrozen hbel
    have hzr := hbel.size
    have hr1 : w.heap.size < wr.heap.size := by omega
    have hr2 : w.heap.size + 1 < wr.heap.size := by omega
    by_cases hlt : k < L.length
    · have hdec0 := fun (x : Va) W h => declared_any L A cap x W ((hg.later hbel).later h) ((hva0.later hbel).later h) (by omega)
      have hx : L[k]? = some L[k] := List.getElem?_eq_getElem hlt
      have hd : L.drop k = L[k] :: L.drop (k + 1) := List.drop_eq_getElem_cons hlt
      generalize L[k] = x at hx hd
      obtain ⟨b, off, rfl, hbb, ⟨d0, d1, d2, d3⟩⟩ := (hva0.later hbel).get hx
      rw [hd, clkGoV] at hrem
      have hdec := fun W h => hdec0 x W h
      clear hdec0
      unfold vaV at hdec
      clear hd hx
      generalize declaredE L x = de at *
      by_cases hde : de ≠ 0
      · rw [if_pos hde] at hrem
        have hv : clkF p = (2, (k : Int), de) := by rw [HV0.out, ← hrem]; rfl
        have t1 : (de != 0) = true := by simpa using hde
        clear hrem hde
        have HV := Lib.hid hv; clear hv
        go_wp2_with (first | (go_at_call 33; refine (hdec _ belA).mono ?_; rintro r w1 ⟨rfl, hb1⟩; have hc1 := bcell hb1; have hf1 := bfrozen hb1; have hzz := hb1.size; (try simp at hzz); have hy1 : w.heap.size < w1.heap.size := (by omega); have hy2 : w.heap.size + 1 < w1.heap.size := (by omega)))
        refine bodyPost_ret (v := .agg #[.int .i64 (2), .int .i64 ((k : Int)), .int .i64 (de)]) (by simp [results, Tryz.results27, go_sem, *]) rfl ⟨by rw [HV.out], ?_⟩
        exact belS
      · rw [if_neg hde] at hrem
        have t1 : (de != 0) = false := by simpa using hde
        have HR := Lib.hid hrem; clear hrem hde
        go_wp2_with (first | (go_at_call 33; refine (hdec _ belA).mono ?_; rintro r w1 ⟨rfl, hb1⟩; have hc1 := bcell hb1; have hf1 := bfrozen hb1; have hzz := hb1.size; (try simp at hzz); have hy1 : w.heap.size < w1.heap.size := (by omega); have hy2 : w.heap.size + 1 < w1.heap.size := (by omega)))
        go_roundw
        case rel => exact ⟨k + 1, by omega, by go_num, HR.out, belA⟩
        case measure => simp [intOf]; omega
    obtain rfl : k = L.length := by omega
    rw [List.drop_length, clkGoV] at hrem
    have hv1 : clkF p = clkQF (clkGoQ L 0 p.eqs) := by rw [HV0.out, ← hrem]; exact HQF.out
    have HV1 := Lib.hid hv1; clear hv1 hrem
    go_wp2_with fail
    clear hc hfz hzr hr1 hr2
    go_loopw [40] (fun i wr => ∃ k : Nat, k ≤ p.eqs.length ∧ i = .int .i64 k ∧ clkGoQ L k (p.eqs.drop k) = clkGoQ L 0 p.eqs ∧ Below W0.heap.size W0 wr) (fun i _ => p.eqs.length - (intOf i).toNat)
    case atStart => exact ⟨0, Nat.zero_le _, rfl, rfl, hbel⟩
    case round =>
      clear hbel
      obtain ⟨k, hk, rfl, hrem, hbel⟩ := hrel
      have hc := bcell hbel
      have hfz := bfrozen hbel
      have hzr := hbel.size
      have hr1 : w.heap.size < wr.heap.size := by omega
      have hr2 : w.heap.size + 1 < wr.heap.size := by omega
      by_cases hlt : k < p.eqs.length
      · have hx : p.eqs[k]? = some p.eqs[k] := List.getElem?_eq_getElem hlt
        have hd : p.eqs.drop k = p.eqs[k] :: p.eqs.drop (k + 1) := List.drop_eq_getElem_cons hlt
        generalize p.eqs[k] = q at hx hd
        obtain ⟨b, off, B1, n1, B2, n2, rfl, hbb, ⟨g0, g1, g2, g3, g4, g5, g6, g7, g8, g9, s1, s2⟩⟩ := (hp4.later hbel).get hx
        rw [hd, clkGoQ] at hrem
        have hf : q.e.formed = true := by
          have := HQS.out q (List.mem_of_getElem? hx)
          simp only [eqB, Bool.and_eq_true] at this
          exact (Ex.right_zero.1 (by simpa using this.1.2)).2.2
        have hfind := fun W h => find_any L A cap q.name W ((hva0.later hbel).later h) (by omega)
        have hof := fun ck cs W h => hof_any L A cap (by omega) q.e hf B2 n2 ck cs W ((hg.later hbel).later h) (s2.later h) ((hva0.later hbel).later h)
        unfold exV at hof
        clear hd hx hf
        have hcl : clockOf L q.name = clockOf L q.name := rfl
        rw (occs := .pos [2]) [clockOf] at hcl
        cases hfc : findC L q.name with
        | none =>
          rw [hfc] at hcl hfind
          dsimp only at hcl
          rw [hcl] at hrem
          have hof := hof 0 ⟨#[]⟩
          unfold fcV vaV zeroVa at hfind
          dsimp only at hfind
          clear hcl hfc
          generalize q.e.clk L (0, ⟨#[]⟩) = de at *
          by_cases hde : de ≠ 0
          · rw [if_pos hde] at hrem
            have hv : clkF p = (3, (k : Int), de) := by rw [HV1.out, ← hrem]; rfl
            have t1 : (de != 0) = true := by simpa using hde
            clear hrem hde
            have HV := Lib.hid hv; clear hv
            go_wp2_with (first | (go_at_call 34; refine (hfind _ belA).mono ?_; rintro r w1 ⟨rfl, hb1⟩; have hc1 := bcell hb1; have hf1 := bfrozen hb1; have hzz := hb1.size; (try simp at hzz); have hy1 : w.heap.size < w1.heap.size := (by omega); have hy2 : w.heap.size + 1 < w1.heap.size := (by omega); have hy3 : wr.heap.size < w1.heap.size := (by omega)) | (go_at_call 35; refine (hof _ belA).mono ?_; rintro r w2 ⟨rfl, hb2⟩; have hc2 := bcell hb2; have hf2 := bfrozen hb2; have hzz2 := hb2.size; (try simp at hzz2); have hy4 : w.heap.size < w2.heap.size := (by omega); have hy5 : w.heap.size + 1 < w2.heap.size := (by omega)))
            refine bodyPost_ret (v := .agg #[.int .i64 (3), .int .i64 ((k : Int)), .int .i64 (de)]) (by simp [results, Tryz.results27, go_sem, *]) rfl ⟨by rw [HV.out], ?_⟩
            exact belS
          · rw [if_neg hde] at hrem
            have t1 : (de != 0) = false := by simpa using hde
            have HR := Lib.hid hrem; clear hrem hde
            go_wp2_with (first | (go_at_call 34; refine (hfind _ belA).mono ?_; rintro r w1 ⟨rfl, hb1⟩; have hc1 := bcell hb1; have hf1 := bfrozen hb1; have hzz := hb1.size; (try simp at hzz); have hy1 : w.heap.size < w1.heap.size := (by omega); have hy2 : w.heap.size + 1 < w1.heap.size := (by omega); have hy3 : wr.heap.size < w1.heap.size := (by omega)) | (go_at_call 35; refine (hof _ belA).mono ?_; rintro r w2 ⟨rfl, hb2⟩; have hc2 := bcell hb2; have hf2 := bfrozen hb2; have hzz2 := hb2.size; (try simp at hzz2); have hy4 : w.heap.size < w2.heap.size := (by omega); have hy5 : w.heap.size + 1 < w2.heap.size := (by omega)))
            go_roundw
            case rel => exact ⟨k + 1, by omega, by go_num, HR.out, belA⟩
            case measure => simp [intOf]; omega
        | some v =>
          rw [hfc] at hcl hfind
          dsimp only at hcl
          rw [hcl] at hrem
          have hof := hof v.ck v.cn
          unfold fcV vaV at hfind
          dsimp only at hfind
          clear hcl hfc
          generalize q.e.clk L (v.ck, v.cn) = de at *
          by_cases hde : de ≠ 0
          · rw [if_pos hde] at hrem
            have hv : clkF p = (3, (k : Int), de) := by rw [HV1.out, ← hrem]; rfl
            have t1 : (de != 0) = true := by simpa using hde
            clear hrem hde
            have HV := Lib.hid hv; clear hv
            go_wp2_with (first | (go_at_call 34; refine (hfind _ belA).mono ?_; rintro r w1 ⟨rfl, hb1⟩; have hc1 := bcell hb1; have hf1 := bfrozen hb1; have hzz := hb1.size; (try simp at hzz); have hy1 : w.heap.size < w1.heap.size := (by omega); have hy2 : w.heap.size + 1 < w1.heap.size := (by omega); have hy3 : wr.heap.size < w1.heap.size := (by omega)) | (go_at_call 35; refine (hof _ belA).mono ?_; rintro r w2 ⟨rfl, hb2⟩; have hc2 := bcell hb2; have hf2 := bfrozen hb2; have hzz2 := hb2.size; (try simp at hzz2); have hy4 : w.heap.size < w2.heap.size := (by omega); have hy5 : w.heap.size + 1 < w2.heap.size := (by omega)))
            refine bodyPost_ret (v := .agg #[.int .i64 (3), .int .i64 ((k : Int)), .int .i64 (de)]) (by simp [results, Tryz.results27, go_sem, *]) rfl ⟨by rw [HV.out], ?_⟩
            exact belS
          · rw [if_neg hde] at hrem
            have t1 : (de != 0) = false := by simpa using hde
            have HR := Lib.hid hrem; clear hrem hde
            go_wp2_with (first | (go_at_call 34; refine (hfind _ belA).mono ?_; rintro r w1 ⟨rfl, hb1⟩; have hc1 := bcell hb1; have hf1 := bfrozen hb1; have hzz := hb1.size; (try simp at hzz); have hy1 : w.heap.size < w1.heap.size := (by omega); have hy2 : w.heap.size + 1 < w1.heap.size := (by omega); have hy3 : wr.heap.size < w1.heap.size := (by omega)) | (go_at_call 35; refine (hof _ belA).mono ?_; rintro r w2 ⟨rfl, hb2⟩; have hc2 := bcell hb2; have hf2 := bfrozen hb2; have hzz2 := hb2.size; (try simp at hzz2); have hy4 : w.heap.size < w2.heap.size := (by omega); have hy5 : w.heap.size + 1 < w2.heap.size := (by omega)))
            go_roundw
            case rel => exact ⟨k + 1, by omega, by go_num, HR.out, belA⟩
            case measure => simp [intOf]; omega
      obtain rfl : k = p.eqs.length := by omega
      rw [List.drop_length, clkGoQ] at hrem
      have hv : clkF p = (0, 0, 0) := by rw [HV1.out, ← hrem]; rfl
      clear hrem
      have HV := Lib.hid hv; clear hv
      go_wp2_with fail
      refine bodyPost_ret (v := .agg #[.int .i64 (0), .int .i64 (0), .int .i64 (0)]) (by simp [results, Tryz.results27, go_sem, *]) rfl ⟨by rw [HV.out], ?_⟩
      exact belS

theorem clkCheck_any (p : Pr) (a : PrA) (w : World) (hg : Always w) (hp : PrAt w p a) (n1 : p.ins.length ≤ 1000000) (n2 : p.outs.length ≤ 1000000) (n3 : p.locals.length ≤ 1000000) (n4 : p.eqs.length ≤ 1000000) :
    Calls Tryz.prog 27 #[prV p a] w fun r w' => r = .returned (fV (clkF p)) ∧ Below w.heap.size w w' := by
  by_cases hck : checkF p = (0, 0, 0)
  · exact clkCheck_clean p a w hg hp n1 n2 n3 n4 hck
  · have hv : clkF p = checkF p := by unfold clkF; rw [if_pos hck]
    rw [hv]
    exact clkCheck_fault p a w hp n1 n2 n3 n4 hck

end Go.Proofs.YtikmbkojnfmiaaaGreatDoorRRRR
