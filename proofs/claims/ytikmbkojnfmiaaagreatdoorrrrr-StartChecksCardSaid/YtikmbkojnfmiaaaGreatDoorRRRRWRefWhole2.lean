/- Walk over the reference's Whole. -/
import Derived.Test.YtikmbkojnfmiaaaGreatDoorRRRRWRefWhole
import Derived.Test.YtikmbkojnfmiaaaGreatDoorRRRRWTree7
set_option linter.unusedVariables false
set_option linter.unusedSimpArgs false
set_option maxRecDepth 100000
namespace Go.Proofs.YtikmbkojnfmiaaaGreatDoorRRRR
open Go.RowKit Go.Sort

set_option maxHeartbeats 4000000 in
set_option maxRecDepth 100000 in
theorem refWhole_any (p : Pr) (a : PrA) (w : World) (hp : PrAt w p a) (hok : PrOK p) :
    Calls Tryz.prog 58 #[prV p a] w fun r w' => r = .returned (.bool (wholeB p)) ∧ Below w.heap.size w w' := by
  have hn := fun W => name12_any p.name W
  have hv1 := fun W h => rvars_any p.ins _ _ false W (hp.ins.later h)
  have hv2 := fun W h => rvars_any p.outs _ _ false W (hp.outs.later h)
  have hv3 := fun W h => rvars_any p.locals _ _ true W (hp.locals.later h)
  have hv : wholeB p = (nameB p.name && p.ins.all (variableB · false) && p.outs.all (variableB · false) && p.locals.all (variableB · true) && p.eqs.all eqB) := rfl
  have HOK := Lib.hid hok.eqs; clear hok
  have hp4 := hp.eqs
  have hl4 := hp.eqs.len
  obtain ⟨A1, c1, A2, c2, A3, c3, A4, c4⟩ := a
  unfold maxLen at hl4
  unfold prV
  dsimp only at *
  obtain ⟨hl41, hl42⟩ := hl4
  clear hp
  generalize nameB p.name = b0 at *
  generalize (p.ins.all (variableB · false)) = b1 at *
  generalize (p.outs.all (variableB · false)) = b2 at *
  generalize (p.locals.all (variableB · true)) = b3 at *
  cases b0
  · simp only [Bool.false_and] at hv
    have HV := Lib.hid hv; clear hv
    go_enter Tryz.func58, Tryz.ntmps58
    go_wp2_with (first | (go_at_call_of 78 (Value.string p.name); refine (hn _).mono ?_; rintro r wa ⟨rfl, hba⟩; have hca := bcell hba; have hza := hba.size; (try simp at hza); have hya : w.heap.size < wa.heap.size := (by omega)) | (go_at_call_of 79 (Value.slice A1 p.ins.length c1); refine (hv1 _ belA).mono ?_; rintro r wb ⟨rfl, hbb⟩; have hcb := bcell hbb; have hzb := hbb.size; have hyb : w.heap.size < wb.heap.size := (by omega)) | (go_at_call_of 79 (Value.slice A2 p.outs.length c2); refine (hv2 _ belA).mono ?_; rintro r wc ⟨rfl, hbc⟩; have hcc := bcell hbc; have hzc := hbc.size; have hyc : w.heap.size < wc.heap.size := (by omega)) | (go_at_call_of 79 (Value.slice A3 p.locals.length c3); refine (hv3 _ belA).mono ?_; rintro r wd ⟨rfl, hbd⟩; have hcd := bcell hbd; have hzd := hbd.size; have hyd : w.heap.size < wd.heap.size := (by omega)))
    go_ret
    exact ⟨ret_bool HV.out.symm, belA⟩
  cases b1
  · simp only [Bool.false_and, Bool.and_false] at hv
    have HV := Lib.hid hv; clear hv
    go_enter Tryz.func58, Tryz.ntmps58
    go_wp2_with (first | (go_at_call_of 78 (Value.string p.name); refine (hn _).mono ?_; rintro r wa ⟨rfl, hba⟩; have hca := bcell hba; have hza := hba.size; (try simp at hza); have hya : w.heap.size < wa.heap.size := (by omega)) | (go_at_call_of 79 (Value.slice A1 p.ins.length c1); refine (hv1 _ belA).mono ?_; rintro r wb ⟨rfl, hbb⟩; have hcb := bcell hbb; have hzb := hbb.size; have hyb : w.heap.size < wb.heap.size := (by omega)) | (go_at_call_of 79 (Value.slice A2 p.outs.length c2); refine (hv2 _ belA).mono ?_; rintro r wc ⟨rfl, hbc⟩; have hcc := bcell hbc; have hzc := hbc.size; have hyc : w.heap.size < wc.heap.size := (by omega)) | (go_at_call_of 79 (Value.slice A3 p.locals.length c3); refine (hv3 _ belA).mono ?_; rintro r wd ⟨rfl, hbd⟩; have hcd := bcell hbd; have hzd := hbd.size; have hyd : w.heap.size < wd.heap.size := (by omega)))
    go_ret
    exact ⟨ret_bool HV.out.symm, belA⟩
  cases b2
  · simp only [Bool.false_and, Bool.and_false] at hv
    have HV := Lib.hid hv; clear hv
    go_enter Tryz.func58, Tryz.ntmps58
    go_wp2_with (first | (go_at_call_of 78 (Value.string p.name); refine (hn _).mono ?_; rintro r wa ⟨rfl, hba⟩; have hca := bcell hba; have hza := hba.size; (try simp at hza); have hya : w.heap.size < wa.heap.size := (by omega)) | (go_at_call_of 79 (Value.slice A1 p.ins.length c1); refine (hv1 _ belA).mono ?_; rintro r wb ⟨rfl, hbb⟩; have hcb := bcell hbb; have hzb := hbb.size; have hyb : w.heap.size < wb.heap.size := (by omega)) | (go_at_call_of 79 (Value.slice A2 p.outs.length c2); refine (hv2 _ belA).mono ?_; rintro r wc ⟨rfl, hbc⟩; have hcc := bcell hbc; have hzc := hbc.size; have hyc : w.heap.size < wc.heap.size := (by omega)) | (go_at_call_of 79 (Value.slice A3 p.locals.length c3); refine (hv3 _ belA).mono ?_; rintro r wd ⟨rfl, hbd⟩; have hcd := bcell hbd; have hzd := hbd.size; have hyd : w.heap.size < wd.heap.size := (by omega)))
    go_ret
    exact ⟨ret_bool HV.out.symm, belA⟩
  cases b3
  · simp only [Bool.false_and, Bool.and_false] at hv
    have HV := Lib.hid hv; clear hv
    go_enter Tryz.func58, Tryz.ntmps58
    go_wp2_with (first | (go_at_call_of 78 (Value.string p.name); refine (hn _).mono ?_; rintro r wa ⟨rfl, hba⟩; have hca := bcell hba; have hza := hba.size; (try simp at hza); have hya : w.heap.size < wa.heap.size := (by omega)) | (go_at_call_of 79 (Value.slice A1 p.ins.length c1); refine (hv1 _ belA).mono ?_; rintro r wb ⟨rfl, hbb⟩; have hcb := bcell hbb; have hzb := hbb.size; have hyb : w.heap.size < wb.heap.size := (by omega)) | (go_at_call_of 79 (Value.slice A2 p.outs.length c2); refine (hv2 _ belA).mono ?_; rintro r wc ⟨rfl, hbc⟩; have hcc := bcell hbc; have hzc := hbc.size; have hyc : w.heap.size < wc.heap.size := (by omega)) | (go_at_call_of 79 (Value.slice A3 p.locals.length c3); refine (hv3 _ belA).mono ?_; rintro r wd ⟨rfl, hbd⟩; have hcd := bcell hbd; have hzd := hbd.size; have hyd : w.heap.size < wd.heap.size := (by omega)))
    go_ret
    exact ⟨ret_bool HV.out.symm, belA⟩
  simp only [Bool.true_and] at hv
  have HV := Lib.hid hv; clear hv
  go_enter Tryz.func58, Tryz.ntmps58
  go_wp2_with (first | (go_at_call_of 78 (Value.string p.name); refine (hn _).mono ?_; rintro r wa ⟨rfl, hba⟩; have hca := bcell hba; have hza := hba.size; (try simp at hza); have hya : w.heap.size < wa.heap.size := (by omega)) | (go_at_call_of 79 (Value.slice A1 p.ins.length c1); refine (hv1 _ belA).mono ?_; rintro r wb ⟨rfl, hbb⟩; have hcb := bcell hbb; have hzb := hbb.size; have hyb : w.heap.size < wb.heap.size := (by omega)) | (go_at_call_of 79 (Value.slice A2 p.outs.length c2); refine (hv2 _ belA).mono ?_; rintro r wc ⟨rfl, hbc⟩; have hcc := bcell hbc; have hzc := hbc.size; have hyc : w.heap.size < wc.heap.size := (by omega)) | (go_at_call_of 79 (Value.slice A3 p.locals.length c3); refine (hv3 _ belA).mono ?_; rintro r wd ⟨rfl, hbd⟩; have hcd := bcell hbd; have hzd := hbd.size; have hyd : w.heap.size < wd.heap.size := (by omega)))
  refine wp_name fun W0 hW0 => ?_
  have hb0 : Below w.heap.size w W0 := by rw [hW0]; exact belA
  have hz0 : w.heap.size < W0.heap.size := by rw [hW0]; omega
  have k4 : W0.cell? ⟨w.heap.size, 4, none⟩ = some (.slice A4 p.eqs.length c4) := by rw [hW0]; go_simp
  clear hW0
  replace hp4 := hp4.later hb0
  clear hn hv1 hv2 hv3
  go_loopw [3] (fun i wr => ∃ k : Nat, k ≤ p.eqs.length ∧ i = .int .i64 k ∧ (p.eqs.drop k).all eqB = wholeB p ∧ Below W0.heap.size W0 wr) (fun i _ => p.eqs.length - (intOf i).toNat)
  case atStart => exact ⟨0, Nat.zero_le _, rfl, HV.out.symm, Below.refl _ _⟩
  case round =>
    obtain ⟨k, hk, rfl, hrem, hbel⟩ := hrel
    have hc := bcell hbel
    have hzr := hbel.size
    have hr1 : w.heap.size < wr.heap.size := by omega
    have hr2 : w.heap.size < wr.heap.size + 1 := by omega
    by_cases hlt : k < p.eqs.length
    · have hx : p.eqs[k]? = some p.eqs[k] := List.getElem?_eq_getElem hlt
      have hd : p.eqs.drop k = p.eqs[k] :: p.eqs.drop (k + 1) := List.drop_eq_getElem_cons hlt
      generalize p.eqs[k] = q at hx hd
      obtain ⟨b, off, B1, n1, B2, n2, rfl, hbb, ⟨g0, g1, g2, g3, g4, g5, g6, g7, g8, g9, s1, s2⟩⟩ := (hp4.later hbel).get hx
      rw [hd, List.all_cons, eqB_eq] at hrem
      obtain ⟨_, _, ho1, ho2⟩ := HOK.out q (List.mem_of_getElem? hx)
      have hnm := fun W => name12_any q.name W
      have hsame := fun W h => refSame_any q.first Ex.zero B1 n1 none 0 W (s1.later h) (zeroAt W)
      have hlit := fun W h => refLiteral_any q.first B1 n1 W (s1.later h) ho1
      have hrt := fun W h => refRight_any q.e B2 n2 W (s2.later h) ho2
      unfold exV at hsame hlit hrt
      have hdl : delayB q = if q.delay = 1 then q.first.literal else if q.delay = 0 ∨ q.delay = 2 then q.first.same Ex.zero else false := rfl
      clear hd hx ho1 ho2
      generalize q.first.literal = bl at *
      generalize q.first.same Ex.zero = bs at *
      generalize nameB q.name = bn at *
      dsimp only [Ex.zero, Ex.kind, Ex.n, Ex.name, Ex.sub, List.length_nil] at hsame
      by_cases hd1 : q.delay = 1
      · rw [if_pos hd1] at hdl
        rw [hdl] at hrem
        have td : (q.delay == 1) = true := by rw [hd1]; rfl
        have tlo : ¬ q.delay < 0 := by omega
        have thi : ¬ 2 < q.delay := by omega
        clear hdl hd1
        generalize q.e.right = er at *
        cases ht : (er != 0) <;> (have ht2 : (er == 0) = !(er != 0) := by rw [bne, Bool.not_not]) <;> rw [ht2, ht] at hrem <;> clear ht2 <;> cases bn <;> cases bl <;> simp only [Bool.true_and, Bool.false_and, Bool.and_true, Bool.and_false, Bool.not_true, Bool.not_false] at hrem <;>
        · have HR := Lib.hid hrem; clear hrem
          go_wp2_with (first | (go_at_call 78; refine (hnm _).mono ?_; rintro r wa ⟨rfl, hba⟩; have hca := bcell hba; have hza := hba.size; (try simp at hza); have hya : w.heap.size < wa.heap.size := (by omega); have hya1 : wr.heap.size < wa.heap.size := (by omega)) | (go_at_call 24; refine (hsame _ belA).mono ?_; rintro r wb ⟨rfl, hbb'⟩; have hcb := bcell hbb'; have hzb := hbb'.size; (try simp at hzb); have hyb : w.heap.size < wb.heap.size := (by omega); have hyb1 : wr.heap.size < wb.heap.size := (by omega)) | (go_at_call 80; refine (hlit _ belA).mono ?_; rintro r wc ⟨rfl, hbc⟩; have hcc := bcell hbc; have hzc := hbc.size; (try simp at hzc); have hyc : w.heap.size < wc.heap.size := (by omega); have hyc1 : wr.heap.size < wc.heap.size := (by omega)) | (go_at_call 50; refine (hrt _ belA).mono ?_; rintro r wd ⟨rfl, hbd⟩; have hcd := bcell hbd; have hzd := hbd.size; (try simp at hzd); have hyd : w.heap.size < wd.heap.size := (by omega)))
          first
            | (go_ret; exact ⟨ret_bool HR.out, belA⟩)
            | (go_roundw
               case rel => exact ⟨k + 1, by omega, by go_num, HR.out, belA⟩
               case measure => simp [intOf]; omega)
      · rw [if_neg hd1] at hdl
        have td : (q.delay == 1) = false := by simpa using hd1
        by_cases tlo : q.delay < 0
        · rw [if_neg (by omega)] at hdl
          rw [hdl] at hrem
          simp only [Bool.false_and, Bool.and_false] at hrem
          clear hdl hd1
          generalize q.e.right = er at *
          cases bn <;>
          · have HR := Lib.hid hrem; clear hrem
            go_wp2_with (first | (go_at_call 78; refine (hnm _).mono ?_; rintro r wa ⟨rfl, hba⟩; have hca := bcell hba; have hza := hba.size; (try simp at hza); have hya : w.heap.size < wa.heap.size := (by omega); have hya1 : wr.heap.size < wa.heap.size := (by omega)) | (go_at_call 24; refine (hsame _ belA).mono ?_; rintro r wb ⟨rfl, hbb'⟩; have hcb := bcell hbb'; have hzb := hbb'.size; (try simp at hzb); have hyb : w.heap.size < wb.heap.size := (by omega); have hyb1 : wr.heap.size < wb.heap.size := (by omega)) | (go_at_call 80; refine (hlit _ belA).mono ?_; rintro r wc ⟨rfl, hbc⟩; have hcc := bcell hbc; have hzc := hbc.size; (try simp at hzc); have hyc : w.heap.size < wc.heap.size := (by omega); have hyc1 : wr.heap.size < wc.heap.size := (by omega)) | (go_at_call 50; refine (hrt _ belA).mono ?_; rintro r wd ⟨rfl, hbd⟩; have hcd := bcell hbd; have hzd := hbd.size; (try simp at hzd); have hyd : w.heap.size < wd.heap.size := (by omega)))
            first
              | (go_ret; exact ⟨ret_bool HR.out, belA⟩)
              | (go_roundw
                 case rel => exact ⟨k + 1, by omega, by go_num, HR.out, belA⟩
                 case measure => simp [intOf]; omega)
        by_cases thi : 2 < q.delay
        · rw [if_neg (by omega)] at hdl
          rw [hdl] at hrem
          simp only [Bool.false_and, Bool.and_false] at hrem
          clear hdl hd1
          generalize q.e.right = er at *
          cases bn <;>
          · have HR := Lib.hid hrem; clear hrem
            go_wp2_with (first | (go_at_call 78; refine (hnm _).mono ?_; rintro r wa ⟨rfl, hba⟩; have hca := bcell hba; have hza := hba.size; (try simp at hza); have hya : w.heap.size < wa.heap.size := (by omega); have hya1 : wr.heap.size < wa.heap.size := (by omega)) | (go_at_call 24; refine (hsame _ belA).mono ?_; rintro r wb ⟨rfl, hbb'⟩; have hcb := bcell hbb'; have hzb := hbb'.size; (try simp at hzb); have hyb : w.heap.size < wb.heap.size := (by omega); have hyb1 : wr.heap.size < wb.heap.size := (by omega)) | (go_at_call 80; refine (hlit _ belA).mono ?_; rintro r wc ⟨rfl, hbc⟩; have hcc := bcell hbc; have hzc := hbc.size; (try simp at hzc); have hyc : w.heap.size < wc.heap.size := (by omega); have hyc1 : wr.heap.size < wc.heap.size := (by omega)) | (go_at_call 50; refine (hrt _ belA).mono ?_; rintro r wd ⟨rfl, hbd⟩; have hcd := bcell hbd; have hzd := hbd.size; (try simp at hzd); have hyd : w.heap.size < wd.heap.size := (by omega)))
            first
              | (go_ret; exact ⟨ret_bool HR.out, belA⟩)
              | (go_roundw
                 case rel => exact ⟨k + 1, by omega, by go_num, HR.out, belA⟩
                 case measure => simp [intOf]; omega)
        rw [if_pos (by omega)] at hdl
        rw [hdl] at hrem
        clear hdl hd1
        generalize q.e.right = er at *
        cases ht : (er != 0) <;> (have ht2 : (er == 0) = !(er != 0) := by rw [bne, Bool.not_not]) <;> rw [ht2, ht] at hrem <;> clear ht2 <;> cases bn <;> cases bs <;> simp only [Bool.true_and, Bool.false_and, Bool.and_true, Bool.and_false, Bool.not_true, Bool.not_false] at hrem <;>
        · have HR := Lib.hid hrem; clear hrem
          go_wp2_with (first | (go_at_call 78; refine (hnm _).mono ?_; rintro r wa ⟨rfl, hba⟩; have hca := bcell hba; have hza := hba.size; (try simp at hza); have hya : w.heap.size < wa.heap.size := (by omega); have hya1 : wr.heap.size < wa.heap.size := (by omega)) | (go_at_call 24; refine (hsame _ belA).mono ?_; rintro r wb ⟨rfl, hbb'⟩; have hcb := bcell hbb'; have hzb := hbb'.size; (try simp at hzb); have hyb : w.heap.size < wb.heap.size := (by omega); have hyb1 : wr.heap.size < wb.heap.size := (by omega)) | (go_at_call 80; refine (hlit _ belA).mono ?_; rintro r wc ⟨rfl, hbc⟩; have hcc := bcell hbc; have hzc := hbc.size; (try simp at hzc); have hyc : w.heap.size < wc.heap.size := (by omega); have hyc1 : wr.heap.size < wc.heap.size := (by omega)) | (go_at_call 50; refine (hrt _ belA).mono ?_; rintro r wd ⟨rfl, hbd⟩; have hcd := bcell hbd; have hzd := hbd.size; (try simp at hzd); have hyd : w.heap.size < wd.heap.size := (by omega)))
          first
            | (go_ret; exact ⟨ret_bool HR.out, belA⟩)
            | (go_roundw
               case rel => exact ⟨k + 1, by omega, by go_num, HR.out, belA⟩
               case measure => simp [intOf]; omega)
    · obtain rfl : k = p.eqs.length := by omega
      rw [List.drop_length, List.all_nil] at hrem
      have HR := Lib.hid hrem; clear hrem
      go_wp2_with fail
      go_ret
      exact ⟨ret_bool HR.out, belA⟩

end Go.Proofs.YtikmbkojnfmiaaaGreatDoorRRRR
