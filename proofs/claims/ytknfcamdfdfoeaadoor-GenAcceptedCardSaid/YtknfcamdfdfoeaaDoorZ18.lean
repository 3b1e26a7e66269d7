/- Small data: an expression without parts, no variables, the zero program. -/
import Derived.Test.YtknfcamdfdfoeaaDoorZ17
import Derived.Test.YtknfcamdfdfoeaaDoorZ16
import Derived.Test.YtknfcamdfdfoeaaDoorZ06
import Derived.Test.YtknfcamdfdfoeaaDoorZ07
import Derived.Test.YtknfcamdfdfoeaaDoorZ09
import Derived.Test.YtknfcamdfdfoeaaDoorZ10
set_option linter.unusedVariables false
set_option linter.unusedSimpArgs false
set_option maxRecDepth 100000
namespace Go.Proofs.YtknfcamdfdfoeaaDoor
open Go.RowKit Go.Sort

theorem subs_nil (W : World) (k n : Int) (s : ByteArray) : SubsAt W (.mk k n s []) none 0 := by
  rw [SubsAt_iff]; exact ⟨Nat.le_refl _, by unfold maxLen; omega, fun h => absurd h (by simp [Ex.sub])⟩
theorem vars_nil (W : World) : VarsAt W [] none 0 := ⟨Nat.le_refl _, by unfold maxLen; omega, fun h => absurd h (by simp)⟩
end Go.Proofs.YtknfcamdfdfoeaaDoor

/- Walks over the package clocks: of (joined), Of; Check of a program whose names or types have a fault; the law's small. -/
namespace Go.Proofs.YtknfcamdfdfoeaaDoor
open Go.RowKit Go.Sort

theorem hof_any (l : List Va) (A : Option Addr) (cap : Nat) (hn : l.length ≤ 1000000) (e : Ex) : e.formed = true → OfP l A cap e := by
  induction e using Ex.ind with
  | h e ih =>
  intro hf Ae ce ck cs w hg he hl
  have ih' : ∀ x ∈ e.sub, OfP l A cap x := fun x hx => ih x hx (formed_subs hf x hx)
  by_cases h3 : e.kind = 3
  · exact of_var l A cap hn e hf ih' Ae ce ck cs w hg he hl h3
  by_cases h8 : e.kind = 8
  · exact of_when l A cap hn e hf ih' Ae ce ck cs w hg he hl h8
  by_cases h9 : e.kind = 9
  · exact of_unless l A cap hn e hf ih' Ae ce ck cs w hg he hl h9
  by_cases h10 : e.kind = 10
  · exact of_merge l A cap hn e hf ih' Ae ce ck cs w hg he hl h10
  exact of_other l A cap hn e hf ih' Ae ce ck cs w hg he hl ⟨h3, h8, h9, h10⟩

theorem eqFault (a b c : Int) (w : World) : (Op.equalIn 10000 34 (.agg #[.int .i64 a, .int .i64 b, .int .i64 c]) (.agg #[.int .i64 0, .int .i64 0, .int .i64 0])).run Tryd.prog w = .ok (a == 0 && b == 0 && c == 0) w := by
  have hS : Tryd.prog.underlying 34 = some (.struct (Tryd.prog.fieldsOf 34)) := by kernel_rfl
  have hp : Tryd.prog.stoodInHeld 34 = false := by kernel_rfl
  rw [show (10000 : Nat) = 9999 + 1 from rfl, run_equalIn_agg w 9999 34 _ _ hS hp]
  simp only [Program.fieldsOf, Tryd.underlying34]
  go_simp
  by_cases h1 : a = 0 <;> by_cases h2 : b = 0 <;> by_cases h3 : c = 0 <;> simp [h1, h2, h3]

set_option maxHeartbeats 4000000 in
set_option maxRecDepth 100000 in
theorem clkCheck_fault (p : Pr) (a : PrA) (w : World) (hp : PrAt w p a) (n1 : p.ins.length ≤ 1000000) (n2 : p.outs.length ≤ 1000000) (n3 : p.locals.length ≤ 1000000) (n4 : p.eqs.length ≤ 1000000) (hck : checkF p ≠ (0, 0, 0)) :
    Calls Tryd.prog 29 #[prV p a] w fun r w' => r = .returned (fV (checkF p)) ∧ Below w.heap.size w w' := by
  have hcheck := fun W h => check_any p a W (hp.later h) n1 n2 n3 n4
  have hne : ((checkF p).1 == 0 && (checkF p).2.1 == 0 && (checkF p).2.2 == 0) = false := by
    rw [Bool.eq_false_iff]
    intro h
    simp only [Bool.and_eq_true, beq_iff_eq] at h
    exact hck (Prod.ext h.1.1 (Prod.ext h.1.2 h.2))
  have hfq : ∀ w, (Op.equalIn 10000 34 (.agg #[.int .i64 (checkF p).1, .int .i64 (checkF p).2.1, .int .i64 (checkF p).2.2]) (.agg #[.int .i64 0, .int .i64 0, .int .i64 0])).run Tryd.prog w = .ok false w := fun w => by rw [eqFault, hne]
  have hgm : Tryd.prog.eqGuardType Tryd.prog.depth 34 = false := by kernel_rfl
  clear hck hne
  obtain ⟨A1, c1, A2, c2, A3, c3, A4, c4⟩ := a
  unfold prV fV at *
  dsimp only at *
  generalize (checkF p).1 = k1 at *
  generalize (checkF p).2.1 = k2 at *
  generalize (checkF p).2.2 = k3 at *
  clear hp
  go_enter Tryd.func29, Tryd.ntmps29
  go_wp2_with (first | (go_at_call 47; refine (hcheck _ belA).mono ?_; rintro r w1 ⟨rfl, hb1⟩; have hc1 := bcell hb1; have hfz1 := bfrozen hb1; have hz1 := hb1.size; (try simp at hz1); (try have hy1 := lt0 w w1); (try have hy2 := ltA w 1 w1); (try have hy3 := ltA w 2 w1); (try have hy4 := lt0 wr w1); (try have hy5 := ltA wr 1 w1)))
  refine bodyPost_ret (v := .agg #[.int .i64 k1, .int .i64 k2, .int .i64 k3]) (by simp [results, Tryd.results29, go_sem, *]) rfl ⟨rfl, ?_⟩
  exact belS

end Go.Proofs.YtknfcamdfdfoeaaDoor

/- Walk over clocks.Check. -/
namespace Go.Proofs.YtknfcamdfdfoeaaDoor
open Go.RowKit Go.Sort

/-- The first variable whose clock has a fault. -/
def clkGoV (l : List Va) : Nat → List Va → Option (Nat × Int)
  | _, [] => none
  | k, v :: r => if declaredE l v ≠ 0 then some (k, declaredE l v) else clkGoV l (k + 1) r
/-- The clock of the variable of a name. -/
def clockOf (l : List Va) (s : ByteArray) : Int × ByteArray := match findC l s with | some v => (v.ck, v.cn) | none => (0, ⟨#[]⟩)
/-- The first equation that does not stand at its clock. -/
def clkGoQ (l : List Va) : Nat → List Qe → Option (Nat × Int)
  | _, [] => none
  | k, q :: r => if q.e.clk l (clockOf l q.name) ≠ 0 then some (k, q.e.clk l (clockOf l q.name)) else clkGoQ l (k + 1) r
def clkQF (r : Option (Nat × Int)) : Int × Int × Int := match r with | some (k, e) => (3, (k : Int), e) | none => (0, 0, 0)
def clkVF (p : Pr) (r : Option (Nat × Int)) : Int × Int × Int := match r with | some (k, e) => (2, (k : Int), e) | none => clkQF (clkGoQ (varsOf p) 0 p.eqs)
/-- clocks.Check. -/
def clkF (p : Pr) : Int × Int × Int := if checkF p ≠ (0, 0, 0) then checkF p else clkVF p (clkGoV (varsOf p) 0 (varsOf p))

theorem check_zero {p : Pr} (h : checkF p = (0, 0, 0)) : printE p = 0 ∧ (varsOf p).length ≤ 24 := by
  unfold checkF at h
  by_cases he : printE p ≠ 0
  · rw [if_pos he] at h; simp at h
  rw [if_neg he] at h
  by_cases hb : 8 < p.ins.length ∨ 8 < p.outs.length ∨ 24 < (varsOf p).length
  · rw [if_pos hb] at h; simp at h
  exact ⟨Decidable.not_not.1 he, by omega⟩

set_option maxHeartbeats 2000000 in
set_option maxRecDepth 100000 in
theorem clkCheck_clean (p : Pr) (a : PrA) (w : World) (hg : Always w) (hp : PrAt w p a) (n1 : p.ins.length ≤ 1000000) (n2 : p.outs.length ≤ 1000000) (n3 : p.locals.length ≤ 1000000) (n4 : p.eqs.length ≤ 1000000) (hck : checkF p = (0, 0, 0)) :
    Calls Tryd.prog 29 #[prV p a] w fun r w' => r = .returned (fV (clkF p)) ∧ Below w.heap.size w w' := by
  have hv0 : clkF p = clkVF p (clkGoV (varsOf p) 0 (varsOf p)) := by unfold clkF; rw [if_neg (by rw [hck]; simp)]
  obtain ⟨hpe, hL24⟩ := check_zero hck
  have hqs := (whole_parts (whole_of_print hpe)).2.2.2.2
  have hcheck := fun W h => check_any p a W (hp.later h) n1 n2 n3 n4
  have hvars := fun W h => vars_any p a W (hp.later h) n1 n2 n3
  rw [hck] at hcheck
  have hfq : ∀ w, (Op.equalIn 10000 34 (.agg #[.int .i64 0, .int .i64 0, .int .i64 0]) (.agg #[.int .i64 0, .int .i64 0, .int .i64 0])).run Tryd.prog w = .ok true w := fun w => by rw [eqFault]; rfl
  have hgm : Tryd.prog.eqGuardType Tryd.prog.depth 34 = false := by kernel_rfl
  clear hck hpe
  have HV0 := Lib.hid hv0; clear hv0
  have HQS := Lib.hid hqs; clear hqs
  have hp4 := hp.eqs
  have hlq := hp.eqs.len
  obtain ⟨A1, c1, A2, c2, A3, c3, A4, c4⟩ := a
  unfold maxLen at hlq
  unfold prV fV at *
  dsimp only at *
  obtain ⟨hlq1, hlq2⟩ := hlq
  have hqf : clkVF p none = clkQF (clkGoQ (varsOf p) 0 p.eqs) := rfl
  have HQF := Lib.hid hqf; clear hqf
  generalize hL : varsOf p = L at *
  clear hL hp
  go_enter Tryd.func29, Tryd.ntmps29
  go_wp2_with (first | (go_at_call 47; refine (hcheck _ belA).mono ?_; rintro r wa ⟨rfl, hba⟩; have hca := bcell hba; have hfa := bfrozen hba; have hza : w.heap.size + 2 ≤ wa.heap.size := (by have := hba.size; simpa using this); have hya : w.heap.size < wa.heap.size := (by omega); have hya1 : w.heap.size + 1 < wa.heap.size := (by omega)) | (go_at_call 26; refine (hvars _ belA).mono ?_; rintro r wb ⟨⟨A, cap, rfl, hown⟩, hbb⟩; have hcb := bcell hbb; have hfb := bfrozen hbb; have hzb := hbb.size; (try simp at hzb); have hyb : w.heap.size < wb.heap.size := (by omega); have hyb1 : w.heap.size + 1 < wb.heap.size := (by omega); have hva := VarsAt.of_own hown))
  refine wp_name fun W0 hW0 => ?_
  have hb0 : Below w.heap.size w W0 := by rw [hW0]; exact belA
  have hz0 : w.heap.size < W0.heap.size := by rw [hW0]; omega
  have hz1 : w.heap.size + 1 < W0.heap.size := by rw [hW0]; omega
  have x4 : W0.cell? ⟨w.heap.size, 4, none⟩ = some (.slice A4 p.eqs.length c4) := by rw [hW0]; go_simp
  have f0 : W0.cell? ⟨w.heap.size + 1, 0, none⟩ = some (.int .i64 0) := by rw [hW0]; go_simp
  have f1 : W0.cell? ⟨w.heap.size + 1, 1, none⟩ = some (.int .i64 0) := by rw [hW0]; go_simp
  have f2 : W0.cell? ⟨w.heap.size + 1, 2, none⟩ = some (.int .i64 0) := by rw [hW0]; go_simp
  have z0 : W0.frozen? ⟨w.heap.size + 1, 0, none⟩ = false := by rw [hW0]; go_simp
  have z1 : W0.frozen? ⟨w.heap.size + 1, 1, none⟩ = false := by rw [hW0]; go_simp
  have z2 : W0.frozen? ⟨w.heap.size + 1, 2, none⟩ = false := by rw [hW0]; go_simp
  have hva0 : VarsAt W0 L A cap := by rw [hW0]; exact hva
  clear hW0
  replace hp4 := hp4.later hb0
  replace hg := hg.later hb0
  clear hcheck hvars hfq hgm hown hva hca hcb hfa hfb
  go_loopw [23] (fun i wr => ∃ k : Nat, k ≤ L.length ∧ i = .int .i64 k ∧ clkGoV L k (L.drop k) = clkGoV L 0 L ∧ Below W0.heap.size W0 wr) (fun i _ => L.length - (intOf i).toNat)
  case atStart => exact ⟨0, Nat.zero_le _, rfl, rfl, Below.refl _ _⟩
  case round =>
    obtain ⟨k, hk, rfl, hrem, hbel⟩ := hrel
    have hc := bcell hbel
    have hfz := bfrozen hbel
    have hzr := hbel.size
    have hr1 : w.heap.size < wr.heap.size := by omega
    have hr2 : w.heap.size + 1 < wr.heap.size := by omega
    by_cases hlt : k < L.length
    · have hdec0 := fun (x : Va) W h => declared_any L A cap x W ((hg.later hbel).later h) ((hva0.later hbel).later h) (by omega)
      have hx : L[k]? = some L[k] := List.getElem?_eq_getElem hlt
      have hd : L.drop k = L[k] :: L.drop (k + 1) := List.drop_eq_getElem_cons hlt
      generalize L[k] = x at hx hd
      obtain ⟨b, off, rfl, hbb, ⟨d0, d1, d2, d3⟩⟩ := (hva0.later hbel).get hx
      rw [hd, clkGoV] at hrem
      have hdec := fun W h => hdec0 x W h
      clear hdec0
      unfold vaV at hdec
      clear hd hx
      generalize declaredE L x = de at *
      by_cases hde : de ≠ 0
      · rw [if_pos hde] at hrem
        have hv : clkF p = (2, (k : Int), de) := by rw [HV0.out, ← hrem]; rfl
        have t1 : (de != 0) = true := by simpa using hde
        clear hrem hde
        have HV := Lib.hid hv; clear hv
        go_wp2_with (first | (go_at_call 48; refine (hdec _ belA).mono ?_; rintro r w1 ⟨rfl, hb1⟩; have hc1 := bcell hb1; have hf1 := bfrozen hb1; have hzz := hb1.size; (try simp at hzz); have hy1 : w.heap.size < w1.heap.size := (by omega); have hy2 : w.heap.size + 1 < w1.heap.size := (by omega)))
        refine bodyPost_ret (v := .agg #[.int .i64 (2), .int .i64 ((k : Int)), .int .i64 (de)]) (by simp [results, Tryd.results29, go_sem, *]) rfl ⟨by rw [HV.out], ?_⟩
        exact belS
      · rw [if_neg hde] at hrem
        have t1 : (de != 0) = false := by simpa using hde
        have HR := Lib.hid hrem; clear hrem hde
        go_wp2_with (first | (go_at_call 48; refine (hdec _ belA).mono ?_; rintro r w1 ⟨rfl, hb1⟩; have hc1 := bcell hb1; have hf1 := bfrozen hb1; have hzz := hb1.size; (try simp at hzz); have hy1 : w.heap.size < w1.heap.size := (by omega); have hy2 : w.heap.size + 1 < w1.heap.size := (by omega)))
        go_roundw
        case rel => exact ⟨k + 1, by omega, by go_num, HR.out, belA⟩
        case measure => simp [intOf]; omega
    obtain rfl : k = L.length := by omega
    rw [List.drop_length, clkGoV] at hrem
    have hv1 : clkF p = clkQF (clkGoQ L 0 p.eqs) := by rw [HV0.out, ← hrem]; exact HQF.out
    have HV1 := Lib.hid hv1; clear hv1 hrem
    go_wp2_with fail
    clear hc hfz hzr hr1 hr2
    go_loopw [40] (fun i wr => ∃ k : Nat, k ≤ p.eqs.length ∧ i = .int .i64 k ∧ clkGoQ L k (p.eqs.drop k) = clkGoQ L 0 p.eqs ∧ Below W0.heap.size W0 wr) (fun i _ => p.eqs.length - (intOf i).toNat)
    case atStart => exact ⟨0, Nat.zero_le _, rfl, rfl, hbel⟩
    case round =>
      clear hbel
      obtain ⟨k, hk, rfl, hrem, hbel⟩ := hrel
      have hc := bcell hbel
      have hfz := bfrozen hbel
      have hzr := hbel.size
      have hr1 : w.heap.size < wr.heap.size := by omega
      have hr2 : w.heap.size + 1 < wr.heap.size := by omega
      by_cases hlt : k < p.eqs.length
      · have hx : p.eqs[k]? = some p.eqs[k] := List.getElem?_eq_getElem hlt
        have hd : p.eqs.drop k = p.eqs[k] :: p.eqs.drop (k + 1) := List.drop_eq_getElem_cons hlt
        generalize p.eqs[k] = q at hx hd
        obtain ⟨b, off, B1, n1, B2, n2, rfl, hbb, ⟨g0, g1, g2, g3, g4, g5, g6, g7, g8, g9, s1, s2⟩⟩ := (hp4.later hbel).get hx
        rw [hd, clkGoQ] at hrem
        have hf : q.e.formed = true := by
          have := HQS.out q (List.mem_of_getElem? hx)
          simp only [eqB, Bool.and_eq_true] at this
          exact (Ex.right_zero.1 (by simpa using this.1.2)).2.2
        have hfind := fun W h => find_any L A cap q.name W ((hva0.later hbel).later h) (by omega)
        have hof := fun ck cs W h => hof_any L A cap (by omega) q.e hf B2 n2 ck cs W ((hg.later hbel).later h) (s2.later h) ((hva0.later hbel).later h)
        unfold exV at hof
        clear hd hx hf
        have hcl : clockOf L q.name = clockOf L q.name := rfl
        rw (occs := .pos [2]) [clockOf] at hcl
        cases hfc : findC L q.name with
        | none =>
          rw [hfc] at hcl hfind
          dsimp only at hcl
          rw [hcl] at hrem
          have hof := hof 0 ⟨#[]⟩
          unfold fcV vaV zeroVa at hfind
          dsimp only at hfind
          clear hcl hfc
          generalize q.e.clk L (0, ⟨#[]⟩) = de at *
          by_cases hde : de ≠ 0
          · rw [if_pos hde] at hrem
            have hv : clkF p = (3, (k : Int), de) := by rw [HV1.out, ← hrem]; rfl
            have t1 : (de != 0) = true := by simpa using hde
            clear hrem hde
            have HV := Lib.hid hv; clear hv
            go_wp2_with (first | (go_at_call 49; refine (hfind _ belA).mono ?_; rintro r w1 ⟨rfl, hb1⟩; have hc1 := bcell hb1; have hf1 := bfrozen hb1; have hzz := hb1.size; (try simp at hzz); have hy1 : w.heap.size < w1.heap.size := (by omega); have hy2 : w.heap.size + 1 < w1.heap.size := (by omega); have hy3 : wr.heap.size < w1.heap.size := (by omega)) | (go_at_call 50; refine (hof _ belA).mono ?_; rintro r w2 ⟨rfl, hb2⟩; have hc2 := bcell hb2; have hf2 := bfrozen hb2; have hzz2 := hb2.size; (try simp at hzz2); have hy4 : w.heap.size < w2.heap.size := (by omega); have hy5 : w.heap.size + 1 < w2.heap.size := (by omega)))
            refine bodyPost_ret (v := .agg #[.int .i64 (3), .int .i64 ((k : Int)), .int .i64 (de)]) (by simp [results, Tryd.results29, go_sem, *]) rfl ⟨by rw [HV.out], ?_⟩
            exact belS
          · rw [if_neg hde] at hrem
            have t1 : (de != 0) = false := by simpa using hde
            have HR := Lib.hid hrem; clear hrem hde
            go_wp2_with (first | (go_at_call 49; refine (hfind _ belA).mono ?_; rintro r w1 ⟨rfl, hb1⟩; have hc1 := bcell hb1; have hf1 := bfrozen hb1; have hzz := hb1.size; (try simp at hzz); have hy1 : w.heap.size < w1.heap.size := (by omega); have hy2 : w.heap.size + 1 < w1.heap.size := (by omega); have hy3 : wr.heap.size < w1.heap.size := (by omega)) | (go_at_call 50; refine (hof _ belA).mono ?_; rintro r w2 ⟨rfl, hb2⟩; have hc2 := bcell hb2; have hf2 := bfrozen hb2; have hzz2 := hb2.size; (try simp at hzz2); have hy4 : w.heap.size < w2.heap.size := (by omega); have hy5 : w.heap.size + 1 < w2.heap.size := (by omega)))
            go_roundw
            case rel => exact ⟨k + 1, by omega, by go_num, HR.out, belA⟩
            case measure => simp [intOf]; omega
        | some v =>
          rw [hfc] at hcl hfind
          dsimp only at hcl
          rw [hcl] at hrem
          have hof := hof v.ck v.cn
          unfold fcV vaV at hfind
          dsimp only at hfind
          clear hcl hfc
          generalize q.e.clk L (v.ck, v.cn) = de at *
          by_cases hde : de ≠ 0
          · rw [if_pos hde] at hrem
            have hv : clkF p = (3, (k : Int), de) := by rw [HV1.out, ← hrem]; rfl
            have t1 : (de != 0) = true := by simpa using hde
            clear hrem hde
            have HV := Lib.hid hv; clear hv
            go_wp2_with (first | (go_at_call 49; refine (hfind _ belA).mono ?_; rintro r w1 ⟨rfl, hb1⟩; have hc1 := bcell hb1; have hf1 := bfrozen hb1; have hzz := hb1.size; (try simp at hzz); have hy1 : w.heap.size < w1.heap.size := (by omega); have hy2 : w.heap.size + 1 < w1.heap.size := (by omega); have hy3 : wr.heap.size < w1.heap.size := (by omega)) | (go_at_call 50; refine (hof _ belA).mono ?_; rintro r w2 ⟨rfl, hb2⟩; have hc2 := bcell hb2; have hf2 := bfrozen hb2; have hzz2 := hb2.size; (try simp at hzz2); have hy4 : w.heap.size < w2.heap.size := (by omega); have hy5 : w.heap.size + 1 < w2.heap.size := (by omega)))
            refine bodyPost_ret (v := .agg #[.int .i64 (3), .int .i64 ((k : Int)), .int .i64 (de)]) (by simp [results, Tryd.results29, go_sem, *]) rfl ⟨by rw [HV.out], ?_⟩
            exact belS
          · rw [if_neg hde] at hrem
            have t1 : (de != 0) = false := by simpa using hde
            have HR := Lib.hid hrem; clear hrem hde
            go_wp2_with (first | (go_at_call 49; refine (hfind _ belA).mono ?_; rintro r w1 ⟨rfl, hb1⟩; have hc1 := bcell hb1; have hf1 := bfrozen hb1; have hzz := hb1.size; (try simp at hzz); have hy1 : w.heap.size < w1.heap.size := (by omega); have hy2 : w.heap.size + 1 < w1.heap.size := (by omega); have hy3 : wr.heap.size < w1.heap.size := (by omega)) | (go_at_call 50; refine (hof _ belA).mono ?_; rintro r w2 ⟨rfl, hb2⟩; have hc2 := bcell hb2; have hf2 := bfrozen hb2; have hzz2 := hb2.size; (try simp at hzz2); have hy4 : w.heap.size < w2.heap.size := (by omega); have hy5 : w.heap.size + 1 < w2.heap.size := (by omega)))
            go_roundw
            case rel => exact ⟨k + 1, by omega, by go_num, HR.out, belA⟩
            case measure => simp [intOf]; omega
      obtain rfl : k = p.eqs.length := by omega
      rw [List.drop_length, clkGoQ] at hrem
      have hv : clkF p = (0, 0, 0) := by rw [HV1.out, ← hrem]; rfl
      clear hrem
      have HV := Lib.hid hv; clear hv
      go_wp2_with fail
      refine bodyPost_ret (v := .agg #[.int .i64 (0), .int .i64 (0), .int .i64 (0)]) (by simp [results, Tryd.results29, go_sem, *]) rfl ⟨by rw [HV.out], ?_⟩
      exact belS

theorem clkCheck_any (p : Pr) (a : PrA) (w : World) (hg : Always w) (hp : PrAt w p a) (n1 : p.ins.length ≤ 1000000) (n2 : p.outs.length ≤ 1000000) (n3 : p.locals.length ≤ 1000000) (n4 : p.eqs.length ≤ 1000000) :
    Calls Tryd.prog 29 #[prV p a] w fun r w' => r = .returned (fV (clkF p)) ∧ Below w.heap.size w w' := by
  by_cases hck : checkF p = (0, 0, 0)
  · exact clkCheck_clean p a w hg hp n1 n2 n3 n4 hck
  · have hv : clkF p = checkF p := by unfold clkF; rw [if_pos hck]
    rw [hv]
    exact clkCheck_fault p a w hp n1 n2 n3 n4 hck

end Go.Proofs.YtknfcamdfdfoeaaDoor

/- A program without fault: both Orders begin alike, and find the same. No program of Go in sight. -/
namespace Go.Proofs.YtknfcamdfdfoeaaDoor
open Go.RowKit

theorem hasB_iff {l : List ByteArray} {s : ByteArray} : hasB l s = true ↔ s ∈ l := by
  unfold hasB
  rw [List.any_eq_true]
  constructor
  · rintro ⟨x, hx, h⟩
    rw [eqS_iff] at h
    rw [← h]; exact hx
  · intro h
    exact ⟨s, h, by rw [eqS_iff]⟩
theorem hasB_not {l : List ByteArray} {s : ByteArray} : hasB l s = false ↔ s ∉ l := by
  rw [← Bool.not_eq_true, hasB_iff]

/-- The names of delays, and how many equations are plain. -/
def delaysE (l : List Qe) : List ByteArray := (l.filter (fun q => q.delay != 0)).map (·.name)
def leftE (l : List Qe) : Nat := (l.filter (fun q => q.delay == 0)).length
theorem leftE_le (l : List Qe) : leftE l ≤ l.length := List.length_filter_le _ _
theorem delaysE_mem {l : List Qe} {s : ByteArray} : s ∈ delaysE l ↔ ∃ q ∈ l, q.delay ≠ 0 ∧ q.name = s := by
  unfold delaysE
  rw [List.mem_map]
  constructor
  · rintro ⟨q, hq, rfl⟩
    rw [List.mem_filter] at hq
    exact ⟨q, hq.1, by simpa using hq.2, rfl⟩
  · rintro ⟨q, hq, hd, rfl⟩
    exact ⟨q, by rw [List.mem_filter]; exact ⟨hq, by simpa using hd⟩, rfl⟩

/-- The names that are ready at first. -/
def readyE (p : Pr) : List ByteArray := p.ins.map (·.name) ++ delaysE p.eqs
/-- The order that the reference finds. -/
def orderR (p : Pr) : List Int × (Int × Int × Int) := ordR (ofR (varsOf p)) p.eqs (leftE p.eqs) (leftE p.eqs) (readyE p) []

/-- The equations that wait, and how many names they have. -/
def waitGo : Nat → (ByteArray → Option Int) → Nat → List Qe → (ByteArray → Option Int) × Nat
  | _, f, c, [] => (f, c)
  | k, f, c, q :: r => if (q.delay == 0) = true then waitGo (k + 1) (upd f q.name (k : Int)) (if (f q.name).isSome then c else c + 1) r else waitGo (k + 1) f c r

theorem wait_spec : ∀ (l : List Qe) (k : Nat) (f : ByteArray → Option Int) (c : Nat), l.Pairwise (fun a b => a.name ≠ b.name) → (∀ q ∈ l, f q.name = none) →
    (∀ s, (∀ q ∈ l, q.delay = 0 → q.name ≠ s) → (waitGo k f c l).1 s = f s) ∧ (∀ (i : Nat) (q : Qe), l[i]? = some q → q.delay = 0 → (waitGo k f c l).1 q.name = some ((k + i : Nat) : Int)) ∧ (waitGo k f c l).2 = c + leftE l
  | [], k, f, c, _, _ => ⟨fun s _ => rfl, by simp, by simp [waitGo, leftE]⟩
  | q :: r, k, f, c, hp, hf => by
    obtain ⟨hp1, hp2⟩ := List.pairwise_cons.1 hp
    have hother : ∀ s, s ≠ q.name → upd f q.name (k : Int) s = f s := by
      intro s hs
      unfold upd
      rw [if_neg]
      intro hd
      exact hs (by ext1; exact hd)
    have hself : upd f q.name (k : Int) q.name = some (k : Int) := by unfold upd; rw [if_pos rfl]
    rw [waitGo]
    by_cases hd : q.delay = 0
    · rw [if_pos (by simpa using hd), hf q (by simp)]
      obtain ⟨a1, a2, a3⟩ := wait_spec r (k + 1) (upd f q.name (k : Int)) (c + 1) hp2 (fun x hx => by rw [hother _ (fun e => hp1 x hx e.symm)]; exact hf x (by simp [hx]))
      refine ⟨fun s hs => ?_, fun i x hi hx => ?_, ?_⟩
      · rw [show (if (none : Option Int).isSome = true then c else c + 1) = c + 1 from rfl, a1 s fun x hx hxd => hs x (by simp [hx]) hxd]
        exact hother s fun e => hs q (by simp) hd e.symm
      · rw [show (if (none : Option Int).isSome = true then c else c + 1) = c + 1 from rfl]
        cases i with
        | zero =>
          obtain rfl : q = x := by simpa using hi
          rw [a1 q.name fun y hy _ e => hp1 y hy e.symm, hself]; rfl
        | succ i =>
          rw [a2 i x (by simpa using hi) hx]
          congr 2; omega
      · rw [show (if (none : Option Int).isSome = true then c else c + 1) = c + 1 from rfl, a3]
        have : leftE (q :: r) = leftE r + 1 := by unfold leftE; rw [List.filter_cons, if_pos (by simpa using hd)]; rfl
        omega
    · rw [if_neg (by simpa using hd)]
      obtain ⟨a1, a2, a3⟩ := wait_spec r (k + 1) f c hp2 (fun x hx => hf x (by simp [hx]))
      refine ⟨fun s hs => a1 s fun x hx hxd => hs x (by simp [hx]) hxd, fun i x hi hx => ?_, ?_⟩
      · cases i with
        | zero =>
          obtain rfl : q = x := by simpa using hi
          exact absurd hx hd
        | succ i =>
          rw [a2 i x (by simpa using hi) hx]
          congr 2; omega
      · rw [a3]
        have : leftE (q :: r) = leftE r := by unfold leftE; rw [List.filter_cons, if_neg (by simpa using hd)]
        omega

namespace Ex
theorem typL_cons {l : List Va} {x : Ex} {r : List Ex} (h : (typL l (x :: r)).2 = 0) : (typ l x).2 = 0 ∧ (typL l r).2 = 0 := by
  simp only [typL] at h
  by_cases hx : (typ l x).2 = 0
  · rw [if_pos hx] at h
    refine ⟨hx, ?_⟩
    unfold joinT at h
    by_cases hr : (typL l r).2 = 0
    · exact hr
    · rw [if_neg hr] at h; exact absurd h hr
  · rw [if_neg hx] at h; exact absurd h hx
theorem namedL_found {L : List Va} : ∀ (r : List Ex), (∀ x ∈ r, (typ L x).2 = 0 → ∀ l s, s ∈ named l x → s ∈ l ∨ (typeOfP L s).2 = true) → (typL L r).2 = 0 → ∀ l s, s ∈ namedL l r → s ∈ l ∨ (typeOfP L s).2 = true
  | [], _, _, l, s, hs => .inl (by simpa [namedL] using hs)
  | x :: r, h, ht, l, s, hs => by
    obtain ⟨h1, h2⟩ := typL_cons ht
    rw [namedL] at hs
    rcases namedL_found r (fun y hy => h y (by simp [hy])) h2 _ s hs with h3 | h3
    · exact h x (by simp) h1 l s h3
    · exact .inr h3
theorem named_found {L : List Va} (e : Ex) : (typ L e).2 = 0 → ∀ l s, s ∈ named l e → s ∈ l ∨ (typeOfP L s).2 = true := by
  induction e using ind with
  | h e ih =>
    intro ht l s hs
    rw [typ_eq] at ht
    by_cases hr : (typL L e.sub).2 = 0
    · rw [if_pos hr] at ht
      rw [named_eq] at hs
      rcases namedL_found e.sub ih hr _ s hs with h1 | h1
      · unfold addN at h1
        by_cases he : e.name.toList.isEmpty = true
        · rw [if_pos he] at h1; exact .inl h1
        · rw [if_neg he] at h1
          by_cases hh : hasB l e.name = true
          · rw [if_pos hh] at h1; exact .inl h1
          · rw [if_neg hh] at h1
            rcases List.mem_append.1 h1 with h2 | h2
            · exact .inl h2
            · obtain rfl : s = e.name := by simpa using h2
              right
              unfold typK at ht
              cases hf : (typeOfP L e.name).2
              · rw [if_pos ⟨by simpa using he, hf⟩] at ht
                exact absurd ht (by decide)
              · rfl
      · exact .inr h1
    · rw [if_neg hr] at ht; exact absurd ht hr
end Ex
theorem needsF_found {L : List Va} {e : Ex} (h : (e.typ L).2 = 0) {s : ByteArray} (hs : s ∈ needsF e) : ∃ v ∈ L, v.name = s := by
  have hf : (typeOfP L s).2 = true := by
    unfold needsF at hs
    split at hs
    · simp at hs
    · rcases Ex.named_found e h [] s hs with h1 | h1
      · simp at h1
      · exact h1
  unfold typeOfP at hf
  cases hv : findV L s with
  | none => rw [hv] at hf; simp at hf
  | some j =>
    obtain ⟨k, v, _, hk, hn⟩ := findV_some hv
    exact ⟨v, List.mem_of_getElem? hk, hn⟩

/-- What a program without fault is. -/
theorem clean_parts {p : Pr} (h : checkF p = (0, 0, 0)) : wholeB p = true ∧ (∀ (i j : Nat) (u v : Va), (varsOf p)[i]? = some u → (varsOf p)[j]? = some v → u.name = v.name → i = j) ∧ ∀ q ∈ p.eqs, (q.e.typ (varsOf p)).2 = 0 := by
  unfold checkF at h
  by_cases he : printE p ≠ 0
  · rw [if_pos he] at h; simp at h
  rw [if_neg he] at h
  by_cases hb : 8 < p.ins.length ∨ 8 < p.outs.length ∨ 24 < (varsOf p).length
  · rw [if_pos hb] at h; simp at h
  rw [if_neg hb] at h
  have hwh := whole_of_print (Decidable.not_not.1 he)
  unfold dupF at h
  cases hd : dupGo (varsOf p) 0 (varsOf p) with
  | some k => rw [hd] at h; simp at h
  | none =>
  rw [hd] at h
  simp only at h
  unfold eqsF at h
  cases hq : (eqGo (varsOf p) p.ins.length 0 (fun _ => none) p.eqs).1 with
  | some k => rw [hq] at h; simp at h
  | none =>
  have hdup := dupGo_none _ _ hd
  refine ⟨hwh, fun i j u v hi hj hn => ?_, fun q hqm => ?_⟩
  · have h1 := hdup i u hi
    have h2 := hdup j v hj
    rw [hn, h2] at h1
    omega
  · obtain ⟨d', hd'⟩ := (eqGo_none _ _ _ hq).2.1 q hqm
    obtain ⟨j, _, _, _, h4, _⟩ := eqE_zero hd'
    exact h4
theorem clkGoV_none {L : List Va} : ∀ (r : List Va) (k : Nat), clkGoV L k r = none → ∀ v ∈ r, declaredE L v = 0
  | [], _, _, v, hv => by simp at hv
  | u :: r, k, h, v, hv => by
    rw [clkGoV] at h
    by_cases hc : declaredE L u ≠ 0
    · rw [if_pos hc] at h; cases h
    · rw [if_neg hc] at h
      rcases List.mem_cons.1 hv with rfl | hv
      · exact Decidable.not_not.1 hc
      · exact clkGoV_none r (k + 1) h v hv
theorem clkF_parts {p : Pr} (h : clkF p = (0, 0, 0)) : checkF p = (0, 0, 0) ∧ ∀ v ∈ varsOf p, declaredE (varsOf p) v = 0 := by
  unfold clkF at h
  by_cases hc : checkF p ≠ (0, 0, 0)
  · rw [if_pos hc] at h; exact absurd h hc
  rw [if_neg hc] at h
  refine ⟨Decidable.not_not.1 hc, ?_⟩
  unfold clkVF at h
  cases hv : clkGoV (varsOf p) 0 (varsOf p) with
  | some k => rw [hv] at h; simp at h
  | none => exact clkGoV_none _ _ hv

theorem cnt_ge {s : ByteArray} : ∀ {r : List Qe} {q : Qe}, q ∈ r → q.name = s → 1 ≤ cnt s r
  | [], q, h, _ => by simp at h
  | x :: r, q, h, hn => by
    rw [cnt]
    rcases List.mem_cons.1 h with rfl | h
    · rw [if_pos hn]; omega
    · have := cnt_ge h hn; omega
theorem cnt_pairwise : ∀ (l : List Qe), (∀ q ∈ l, cnt q.name l ≤ 1) → l.Pairwise (fun a b => a.name ≠ b.name)
  | [], _ => List.Pairwise.nil
  | q :: r, h => by
    refine List.pairwise_cons.2 ⟨fun b hb hn => ?_, cnt_pairwise r fun x hx => ?_⟩
    · have h1 := h q (by simp)
      rw [cnt, if_pos rfl] at h1
      have := cnt_ge hb hn.symm
      omega
    · have h1 := h x (by simp [hx])
      rw [cnt] at h1
      omega
theorem pair_eq {l : List Qe} (h : l.Pairwise (fun a b => a.name ≠ b.name)) {i j : Nat} {a b : Qe} (hi : l[i]? = some a) (hj : l[j]? = some b) (hn : a.name = b.name) : i = j := by
  rw [List.pairwise_iff_getElem] at h
  obtain ⟨hi1, hi2⟩ := List.getElem?_eq_some_iff.1 hi
  obtain ⟨hj1, hj2⟩ := List.getElem?_eq_some_iff.1 hj
  rcases Nat.lt_trichotomy i j with hlt | he | hlt
  · exact absurd (by rw [hi2, hj2]; exact hn) (h i j hi1 hj1 hlt)
  · exact he
  · exact absurd (by rw [hi2, hj2]; exact hn.symm) (h j i hj1 hi1 hlt)

/-- What the equations of a program without fault are. -/
theorem eqs_parts {p : Pr} (h : checkF p = (0, 0, 0)) : p.eqs.Pairwise (fun a b => a.name ≠ b.name) ∧ (∀ q ∈ p.eqs, q.name ∉ p.ins.map (·.name)) ∧ ∀ v ∈ varsOf p, v.name ∈ p.ins.map (·.name) ∨ ∃ q ∈ p.eqs, q.name = v.name := by
  obtain ⟨_, hb, _⟩ := own_law h
  have hidx : ∀ q ∈ p.eqs, ∃ (j : Nat) (v : Va), (varsOf p)[j]? = some v ∧ v.name = q.name := by
    intro q hq
    obtain ⟨j, hj⟩ := check_found h q hq
    obtain ⟨k, v, _, hk, hn⟩ := findV_some hj
    exact ⟨k, v, hk, hn⟩
  refine ⟨cnt_pairwise _ fun q hq => ?_, fun q hq hm => ?_, fun v hv => ?_⟩
  · obtain ⟨j, v, hj, hn⟩ := hidx q hq
    rw [← hn, hb j v hj]
    split <;> omega
  · rw [List.mem_map] at hm
    obtain ⟨v, hv, hn⟩ := hm
    obtain ⟨i, hi⟩ := List.getElem?_of_mem hv
    have hlt : i < p.ins.length := (List.getElem?_eq_some_iff.1 hi).1
    have hi2 : (varsOf p)[i]? = some v := by
      unfold varsOf
      rw [List.append_assoc, List.getElem?_append_left hlt]; exact hi
    have := hb i v hi2
    rw [if_pos hlt] at this
    have h2 := cnt_ge hq hn.symm
    omega
  · obtain ⟨i, hi⟩ := List.getElem?_of_mem hv
    by_cases hlt : i < p.ins.length
    · left
      have : p.ins[i]? = some v := by
        unfold varsOf at hi
        rw [List.append_assoc, List.getElem?_append_left hlt] at hi; exact hi
      exact List.mem_map.2 ⟨v, List.mem_of_getElem? this, rfl⟩
    · right
      have h1 := hb i v hi
      rw [if_neg hlt] at h1
      refine Classical.byContradiction fun hno => ?_
      have := cnt_zero (s := v.name) (r := p.eqs) fun q hq hn => hno ⟨q, hq, hn⟩
      omega

theorem clockFold {s : ByteArray} : ∀ (L : List Va) (c : Int × ByteArray), (∀ v ∈ L, v.name ≠ s) → L.foldl (fun c v => if s.data = v.name.data then (v.ck, v.cn) else c) c = c
  | [], c, _ => rfl
  | v :: L, c, h => by
    rw [List.foldl_cons, if_neg, clockFold L c fun u hu => h u (by simp [hu])]
    intro hd
    exact h v (by simp) (by ext1; exact hd.symm)
theorem clockFind {s : ByteArray} : ∀ (L : List Va) (c : Int × ByteArray), (∀ (i j : Nat) (u v : Va), L[i]? = some u → L[j]? = some v → u.name = v.name → i = j) → L.foldl (fun c v => if s.data = v.name.data then (v.ck, v.cn) else c) c = match findC L s with | some v => (v.ck, v.cn) | none => c
  | [], c, _ => rfl
  | v :: L, c, h => by
    have h' : ∀ (i j : Nat) (u x : Va), L[i]? = some u → L[j]? = some x → u.name = x.name → i = j := fun i j u x hi hj hn => by
      have := h (i + 1) (j + 1) u x (by simpa using hi) (by simpa using hj) hn
      omega
    rw [List.foldl_cons, findC]
    by_cases hs : v.name = s
    · rw [if_pos (by rw [hs]), if_pos (by rw [eqS_iff]; exact hs), clockFold]
      intro u hu hn
      obtain ⟨i, hi⟩ := List.getElem?_of_mem hu
      have := h 0 (i + 1) v u rfl (by simpa using hi) (by rw [hs, hn])
      omega
    · rw [if_neg (fun hd => hs (by ext1; exact hd.symm)), if_neg (by rw [eqS_iff]; exact hs), clockFind L c h']

theorem variable_clock {v : Va} {b : Bool} (h : variableB v b = true) : (v.ck = 0 ∧ v.cn.toList.isEmpty = true) ∨ (v.ck ≠ 0 ∧ v.cn.toList.isEmpty = false) := by
  simp only [variableB, Bool.and_eq_true] at h
  have h3 := h.2
  by_cases h0 : v.ck = 0
  · rw [if_pos h0] at h3; exact .inl ⟨h0, h3⟩
  · rw [if_neg h0] at h3
    by_cases h1 : v.ck = 1 ∨ v.ck = 2
    · rw [if_pos h1, Bool.and_eq_true] at h3
      exact .inr ⟨h0, nameB_ne h3.2⟩
    · rw [if_neg h1] at h3; simp at h3
theorem vars_clock {p : Pr} (h : wholeB p = true) : ∀ v ∈ varsOf p, (v.ck = 0 ∧ v.cn.toList.isEmpty = true) ∨ (v.ck ≠ 0 ∧ v.cn.toList.isEmpty = false) := by
  simp only [wholeB, Bool.and_eq_true, List.all_eq_true] at h
  intro v hv
  simp only [varsOf, List.mem_append] at hv
  rcases hv with (hv | hv) | hv
  · exact variable_clock (h.1.1.1.2 v hv)
  · exact variable_clock (h.1.1.2 v hv)
  · exact variable_clock (h.1.2 v hv)

/-- The clock of an equation's variable, in both Orders. -/
theorem needs_clock {p : Pr} (h : clkF p = (0, 0, 0)) {q : Qe} (hq : q ∈ p.eqs) : ∃ v ∈ varsOf p, findC (varsOf p) q.name = some v ∧ v.name = q.name ∧ clockL (varsOf p) q.name = (v.ck, v.cn) ∧ ((v.ck = 0 ∧ v.cn.toList.isEmpty = true) ∨ (v.ck ≠ 0 ∧ v.cn.toList.isEmpty = false ∧ ∃ u ∈ varsOf p, u.name = v.cn)) := by
  obtain ⟨hc, hdec⟩ := clkF_parts h
  obtain ⟨hwh, hun, htyp⟩ := clean_parts hc
  obtain ⟨j, hj⟩ := check_found hc q hq
  obtain ⟨k, v, _, hk, hf⟩ := findC_some _ _ 0 j hj
  obtain ⟨hm, hn⟩ := findC_name hf
  have hn2 : v.name = q.name := by rw [← eqS_iff, beq_iff_eq]; exact hn
  refine ⟨v, hm, hf, hn2, ?_, ?_⟩
  · unfold clockL
    rw [clockFind _ _ hun, hf]
  · rcases vars_clock hwh v hm with h1 | ⟨h1, h2⟩
    · exact .inl h1
    · refine .inr ⟨h1, h2, ?_⟩
      have hd := hdec v hm
      unfold declaredE at hd
      have hck : ¬ ckEq v.ck v.cn 0 ⟨#[]⟩ = true := fun e => h1 (ckEq_iff.1 e).1
      rw [if_neg hck] at hd
      cases hu : findC (varsOf p) v.cn with
      | none => rw [hu] at hd; simp at hd
      | some u =>
        obtain ⟨hu1, hu2⟩ := findC_name hu
        exact ⟨u, hu1, by rw [← eqS_iff, beq_iff_eq]; exact hu2⟩
theorem needQ_ofR {p : Pr} (h : clkF p = (0, 0, 0)) {q : Qe} (hq : q ∈ p.eqs) (R : List ByteArray) : (needQ (varsOf p) q).all (hasB R) = (ofR (varsOf p) q).all (hasB R) := by
  obtain ⟨v, hm, hf, hn, hcl, hor⟩ := needs_clock h hq
  unfold needQ ofR
  rw [hcl, hf]
  dsimp only
  unfold addN
  rcases hor with ⟨h1, h2⟩ | ⟨h1, h2, _⟩
  · rw [if_pos h1, if_pos h2]
  · rw [if_neg h1, h2, if_neg (by simp)]
    by_cases hh : hasB (needsF q.e) v.cn = true
    · rw [if_pos hh, List.all_append, Bool.eq_iff_iff]
      simp only [Bool.and_eq_true, List.all_eq_true]
      refine ⟨fun a => a.1, fun a => ⟨a, fun s hs => ?_⟩⟩
      obtain rfl : s = v.cn := by simpa using hs
      exact a _ (hasB_iff.1 hh)
    · rw [if_neg hh]
theorem needQ_found {p : Pr} (h : clkF p = (0, 0, 0)) {q : Qe} (hq : q ∈ p.eqs) {s : ByteArray} (hs : s ∈ needQ (varsOf p) q) : ∃ v ∈ varsOf p, v.name = s := by
  obtain ⟨v, hm, hf, hn, hcl, hor⟩ := needs_clock h hq
  have ht := (clean_parts (clkF_parts h).1).2.2 q hq
  unfold needQ at hs
  rw [hcl] at hs
  dsimp only at hs
  rcases hor with ⟨h1, h2⟩ | ⟨h1, h2, u, hu, hun⟩
  · rw [if_pos h1] at hs
    exact needsF_found ht hs
  · rw [if_neg h1] at hs
    rcases List.mem_append.1 hs with h3 | h3
    · exact needsF_found ht h3
    · obtain rfl : s = v.cn := by simpa using h3
      exact ⟨u, hu, hun⟩

/-- The waiting equations are just those that are not ready. -/
theorem wait_ready {p : Pr} (h : checkF p = (0, 0, 0)) : (∀ (i : Nat) (q : Qe), p.eqs[i]? = some q → ((waitGo 0 (fun _ => none) 0 p.eqs).1 q.name = some (i : Int) ↔ hasB (readyE p) q.name = false)) ∧
    (∀ v ∈ varsOf p, ((waitGo 0 (fun _ => none) 0 p.eqs).1 v.name).isSome = !hasB (readyE p) v.name) ∧ (waitGo 0 (fun _ => none) 0 p.eqs).2 = leftE p.eqs := by
  obtain ⟨hpw, hin, hvar⟩ := eqs_parts h
  obtain ⟨a1, a2, a3⟩ := wait_spec p.eqs 0 (fun _ => none) 0 hpw (fun _ _ => rfl)
  generalize waitGo 0 (fun _ => none) 0 p.eqs = W at *
  have hpl : ∀ (i : Nat) (q : Qe), p.eqs[i]? = some q → q.delay = 0 → W.1 q.name = some (i : Int) ∧ hasB (readyE p) q.name = false := by
    intro i q hi hd
    refine ⟨by rw [a2 i q hi hd, Nat.zero_add], ?_⟩
    rw [hasB_not]
    unfold readyE
    rw [List.mem_append, not_or]
    refine ⟨hin q (List.mem_of_getElem? hi), fun hm => ?_⟩
    obtain ⟨x, hx, hxd, hxn⟩ := delaysE_mem.1 hm
    obtain ⟨j, hj⟩ := List.getElem?_of_mem hx
    obtain rfl := pair_eq hpw hj hi hxn
    rw [hi] at hj
    obtain rfl : q = x := by injection hj
    exact hxd hd
  have hdl : ∀ (i : Nat) (q : Qe), p.eqs[i]? = some q → q.delay ≠ 0 → W.1 q.name = none ∧ hasB (readyE p) q.name = true := by
    intro i q hi hd
    refine ⟨?_, ?_⟩
    · rw [a1 q.name fun x hx hxd hn => ?_]
      obtain ⟨j, hj⟩ := List.getElem?_of_mem hx
      obtain rfl := pair_eq hpw hj hi hn
      rw [hi] at hj
      obtain rfl : q = x := by injection hj
      exact hd hxd
    · rw [hasB_iff]
      unfold readyE
      rw [List.mem_append]
      exact .inr (delaysE_mem.2 ⟨q, List.mem_of_getElem? hi, hd, rfl⟩)
  refine ⟨fun i q hi => ?_, fun v hv => ?_, by rw [a3]; omega⟩
  · by_cases hd : q.delay = 0
    · obtain ⟨h1, h2⟩ := hpl i q hi hd
      rw [h1, h2]; simp
    · obtain ⟨h1, h2⟩ := hdl i q hi hd
      rw [h1, h2]; simp
  · rcases hvar v hv with hm | ⟨q, hq, hn⟩
    · rw [a1 v.name fun x hx _ hn => hin x hx (by rw [hn]; exact hm)]
      have : hasB (readyE p) v.name = true := by rw [hasB_iff]; unfold readyE; exact List.mem_append.2 (.inl hm)
      rw [this]; rfl
    · obtain ⟨i, hi⟩ := List.getElem?_of_mem hq
      rw [← hn]
      by_cases hd : q.delay = 0
      · obtain ⟨h1, h2⟩ := hpl i q hi hd
        rw [h1, h2]; rfl
      · obtain ⟨h1, h2⟩ := hdl i q hi hd
        rw [h1, h2]; rfl

/-- The order that the program finds. -/
def orderP (p : Pr) : List Int × (Int × Int × Int) := ordP (needQ (varsOf p)) p.eqs (waitGo 0 (fun _ => none) 0 p.eqs).2 (waitGo 0 (fun _ => none) 0 p.eqs).1 (waitGo 0 (fun _ => none) 0 p.eqs).2 []
theorem order_same {p : Pr} (h : clkF p = (0, 0, 0)) : orderP p = orderR p := by
  obtain ⟨h1, h2, h3⟩ := wait_ready (clkF_parts h).1
  unfold orderP orderR
  rw [h3]
  refine ord_eq (fun q hq R => needQ_ofR h hq R) (leftE p.eqs) _ _ _ _ (by simp) h1 fun q hq s hs => ?_
  obtain ⟨v, hv, rfl⟩ := needQ_found h hq hs
  exact h2 v hv
end Go.Proofs.YtknfcamdfdfoeaaDoor
