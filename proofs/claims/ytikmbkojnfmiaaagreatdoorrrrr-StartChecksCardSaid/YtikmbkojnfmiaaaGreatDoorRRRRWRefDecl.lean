/- Walks over the reference's tree: decl, decls, Literal. -/
import Derived.Test.YtikmbkojnfmiaaaGreatDoorRRRRBC
import Derived.Test.YtikmbkojnfmiaaaGreatDoorRRRRWRefTree
set_option linter.unusedVariables false
set_option linter.unusedSimpArgs false
set_option maxRecDepth 100000
namespace Go.Proofs.YtikmbkojnfmiaaaGreatDoorRRRR
open Go.RowKit Go.Sort

theorem app_assoc (a b c : ByteArray) : a ++ b ++ c = a ++ (b ++ c) := by
  ext1; simp

set_option maxHeartbeats 1000000 in
theorem rdecl_any (v : Va) (hs : Short v) (w : World) : Calls Tryz.prog 60 #[vaV v] w fun r w' => r = .returned (.string (declB v)) ∧ Below w.heap.size w w' := by
  obtain ⟨h1, h2⟩ := hs
  unfold vaV
  by_cases c1 : v.ck = 1 <;> by_cases c2 : v.ck = 2 <;> by_cases c3 : v.type = 2 <;> first | omega |
  · have hv : declB v = declB v := rfl
    rw (occs := .pos [2]) [declB] at hv
    first | rw [if_pos c1] at hv | rw [if_neg c1, if_pos c2] at hv | rw [if_neg c1, if_neg c2] at hv
    first | rw [if_pos c3] at hv | rw [if_neg c3] at hv
    first | rw [← app_assoc] at hv | skip
    have HV := Lib.hid hv; clear hv
    go_enter Tryz.func60, Tryz.ntmps60
    go_wp2_with fail
    go_ret
    exact ⟨ret_str HV.out.symm, belA⟩

theorem listGo_pre (a : ByteArray) : ∀ (l : List Va) (k : Nat) (s : ByteArray), listGo k (a ++ s) l = a ++ listGo k s l
  | [], _, _ => rfl
  | v :: l, k, s => by
    rw [listGo, listGo, ← listGo_pre a l]
    congr 1
    by_cases h : 0 < k
    · rw [if_pos h, if_pos h, app_assoc, app_assoc, app_assoc]
    · rw [if_neg h, if_neg h, app_assoc]
/-- The reference's decls. -/
def declsB (l : List Va) : ByteArray := listGo 0 ⟨#[]⟩ l
theorem listVB_decls (l : List Va) : listVB l = ⟨#[40]⟩ ++ declsB l ++ ⟨#[41]⟩ := by
  have h : (⟨#[40]⟩ : ByteArray) = ⟨#[40]⟩ ++ ⟨#[]⟩ := by ext1; simp
  unfold listVB declsB
  rw [← listGo_pre, ← h]

set_option maxHeartbeats 1000000 in
theorem decls_any (l : List Va) (A : Option Addr) (cap : Nat) (hs : ∀ v ∈ l, Short v) (hn : l.length ≤ 1000000) (w : World) (hl : VarsAt w l A cap) :
    Calls Tryz.prog 59 #[.slice A l.length cap] w fun r w' => r = .returned (.string (declsB l)) ∧ Below w.heap.size w w' := by
  have hl2 := hl.len
  unfold maxLen at hl2
  obtain ⟨hl3, hl4⟩ := hl2
  have hsz := listGo_size l hs 0 ⟨#[]⟩
  have hz : (declsB l).size ≤ 100000000 := by
    unfold declsB
    simp only [size_lit, List.size_toArray, List.length_nil] at hsz
    omega
  clear hsz
  have hG : listGo 0 ⟨#[]⟩ l = declsB l := rfl
  generalize declsB l = G at *
  have HG := Lib.hid hG; clear hG
  go_enter Tryz.func59, Tryz.ntmps59
  go_wp2_with fail
  go_loopw [3, 4] (fun o i wr => ∃ (k : Nat) (s : ByteArray), k ≤ l.length ∧ i = .int .i64 k ∧ o = .string s ∧ s.size ≤ 62 * k ∧ listGo k s (l.drop k) = G ∧ Below w.heap.size w wr) (fun _ i _ => l.length - (intOf i).toNat)
  case atStart => exact ⟨0, ⟨#[]⟩, Nat.zero_le _, rfl, rfl, by decide, HG.out, Below.refl _ _⟩
  case round =>
    obtain ⟨k, s, hk, rfl, rfl, hss, hrem, hbel⟩ := hrel
    by_cases hlt : k < l.length
    · have hmem : l[k] ∈ l := List.getElem_mem hlt
      have hx : l[k]? = some l[k] := List.getElem?_eq_getElem hlt
      have hd : l.drop k = l[k] :: l.drop (k + 1) := List.drop_eq_getElem_cons hlt
      generalize l[k] = x at hx hd hmem
      obtain ⟨b, off, rfl, hbb, ⟨d0, d1, d2, d3⟩⟩ := (hl.later hbel).get hx
      rw [hd, listGo] at hrem
      have hsh := hs x hmem
      have hds := declB_size hsh
      have hdecl := fun W => rdecl_any x hsh W
      unfold vaV at hdecl
      clear hd hx
      rcases Nat.eq_zero_or_pos k with h0 | h0
      · subst h0
        rw [if_neg (by omega)] at hrem
        have HR := Lib.hid hrem; clear hrem
        simp only [Nat.zero_mul, Nat.add_zero] at d0 d1 d2 d3
        go_wp2_with (first | (go_at_call 60; refine (hdecl _).mono ?_; rintro r w1 ⟨rfl, hb1⟩; have hc1 := bcell hb1; have hz1 := hb1.size; (try simp at hz1); (try have hy1 := lt0 w w1); (try have hy2 := ltA w 1 w1); (try have hy3 := ltA w 2 w1); (try have hy4 := lt0 wr w1); (try have hy5 := ltA wr 1 w1)))
        go_roundw
        case rel => exact ⟨1, _, by omega, by go_num, rfl, by rw [size_app]; omega, HR.out, belA⟩
        case measure => simp [intOf]; omega
      · rw [if_pos h0] at hrem
        have HR := Lib.hid hrem; clear hrem
        have h0' : (0 : Int) < k := by omega
        go_wp2_with (first | (go_at_call 60; refine (hdecl _).mono ?_; rintro r w1 ⟨rfl, hb1⟩; have hc1 := bcell hb1; have hz1 := hb1.size; (try simp at hz1); (try have hy1 := lt0 w w1); (try have hy2 := ltA w 1 w1); (try have hy3 := ltA w 2 w1); (try have hy4 := lt0 wr w1); (try have hy5 := ltA wr 1 w1)))
        go_roundw
        case rel => exact ⟨k + 1, _, by omega, by go_num, rfl, by simp only [size_app, size_lit, List.size_toArray, List.length_cons, List.length_nil]; omega, HR.out, belA⟩
        case measure => simp [intOf]; omega
    · obtain rfl : k = l.length := by omega
      rw [List.drop_length, listGo] at hrem
      have HR := Lib.hid hrem; clear hrem
      go_wp2_with fail
      go_ret
      exact ⟨ret_str HR.out, belA⟩

set_option maxHeartbeats 1000000 in
theorem refLiteral_any (e : Ex) (A : Option Addr) (cap : Nat) (w : World) (he : SubsAt w e A cap) (hok : e.OK) :
    Calls Tryz.prog 80 #[exV e A cap] w fun r w' => r = .returned (.bool e.literal) ∧ Below w.heap.size w w' := by
  have hl := he.len
  unfold maxLen at hl
  obtain ⟨hl1, hl2⟩ := hl
  have hv : e.literal = if e.right = 0 then (if e.kind = 4 ∧ e.n = 1 then (match e.sub with | x :: _ => x.kind == 1 | [] => false) else (e.kind == 1 || e.kind == 2)) else false := rfl
  have hright := fun W h => refRight_any e A cap W (he.later h) hok
  clear hok
  unfold exV at hright ⊢
  cases h1 : (e.right != 0)
  case true =>
    rw [if_neg (by intro h; rw [h] at h1; simp at h1)] at hv
    have HV := Lib.hid hv; clear hv
    go_enter Tryz.func80, Tryz.ntmps80
    go_wp2_with (first | (go_at_call 50; refine (hright _ belA).mono ?_; rintro r w1 ⟨rfl, hb1⟩; have hc1 := bcell hb1; have hz1 := hb1.size; (try simp at hz1); (try have hy1 := lt0 w w1); (try have hy2 := ltA w 1 w1); (try have hy3 := ltA w 2 w1); (try have hy4 := lt0 wr w1); (try have hy5 := ltA wr 1 w1)))
    go_ret
    exact ⟨ret_bool HV.out.symm, belA⟩
  have hr0 := bneI_false h1
  rw [if_pos hr0] at hv
  cases h2 : (e.kind == 4)
  case false =>
    rw [if_neg (by rintro ⟨h, _⟩; rw [h] at h2; simp at h2)] at hv
    cases h3 : (e.kind == 1)
    case true =>
      rw [h3, Bool.true_or] at hv
      clear hr0
      have HV := Lib.hid hv; clear hv
      go_enter Tryz.func80, Tryz.ntmps80
      go_wp2_with (first | (go_at_call 50; refine (hright _ belA).mono ?_; rintro r w1 ⟨rfl, hb1⟩; have hc1 := bcell hb1; have hz1 := hb1.size; (try simp at hz1); (try have hy1 := lt0 w w1); (try have hy2 := ltA w 1 w1); (try have hy3 := ltA w 2 w1); (try have hy4 := lt0 wr w1); (try have hy5 := ltA wr 1 w1)))
      go_ret
      exact ⟨ret_bool HV.out.symm, belA⟩
    rw [h3, Bool.false_or] at hv
    cases h5 : (e.kind == 2)
    · rw [h5] at hv
      clear hr0
      have HV := Lib.hid hv; clear hv
      go_enter Tryz.func80, Tryz.ntmps80
      go_wp2_with (first | (go_at_call 50; refine (hright _ belA).mono ?_; rintro r w1 ⟨rfl, hb1⟩; have hc1 := bcell hb1; have hz1 := hb1.size; (try simp at hz1); (try have hy1 := lt0 w w1); (try have hy2 := ltA w 1 w1); (try have hy3 := ltA w 2 w1); (try have hy4 := lt0 wr w1); (try have hy5 := ltA wr 1 w1)))
      go_ret
      exact ⟨ret_bool HV.out.symm, belA⟩
    · rw [h5] at hv
      clear hr0
      have HV := Lib.hid hv; clear hv
      go_enter Tryz.func80, Tryz.ntmps80
      go_wp2_with (first | (go_at_call 50; refine (hright _ belA).mono ?_; rintro r w1 ⟨rfl, hb1⟩; have hc1 := bcell hb1; have hz1 := hb1.size; (try simp at hz1); (try have hy1 := lt0 w w1); (try have hy2 := ltA w 1 w1); (try have hy3 := ltA w 2 w1); (try have hy4 := lt0 wr w1); (try have hy5 := ltA wr 1 w1)))
      go_ret
      exact ⟨ret_bool HV.out.symm, belA⟩
  have hk4 := beqI_true h2
  have h31 : (e.kind == 1) = false := by rw [hk4]; rfl
  have h32 : (e.kind == 2) = false := by rw [hk4]; rfl
  cases h4 : (e.n == 1)
  case false =>
    rw [if_neg (by rintro ⟨_, h⟩; rw [h] at h4; simp at h4), h31, h32] at hv
    clear hr0 hk4
    replace hv : e.literal = false := by rw [hv]; rfl
    have HV := Lib.hid hv; clear hv
    go_enter Tryz.func80, Tryz.ntmps80
    go_wp2_with (first | (go_at_call 50; refine (hright _ belA).mono ?_; rintro r w1 ⟨rfl, hb1⟩; have hc1 := bcell hb1; have hz1 := hb1.size; (try simp at hz1); (try have hy1 := lt0 w w1); (try have hy2 := ltA w 1 w1); (try have hy3 := ltA w 2 w1); (try have hy4 := lt0 wr w1); (try have hy5 := ltA wr 1 w1)))
    go_ret
    exact ⟨ret_bool HV.out.symm, belA⟩
  rw [if_pos ⟨hk4, beqI_true h4⟩] at hv
  have hf := (Ex.right_zero.1 hr0).2.2
  rw [Ex.formed_eq, formedH, hk4] at hf
  have hlen : e.sub.length = 1 := by
    simp only [formK, Bool.and_eq_true] at hf
    have := beqI_true hf.1.1.1.1.1.2
    simp at this
    omega
  clear hf
  have hx : e.sub[0]? = some e.sub[0] := List.getElem?_eq_getElem (by omega)
  generalize e.sub[0] = x at hx
  have hsub : e.sub = [x] := by
    generalize e.sub = l at hlen hx
    match l, hlen, hx with
    | [y], _, h => simp at h; rw [h]
  rw [hsub] at hv
  obtain ⟨b, off, A', cap', rfl, c0, c1, c2, c3, hs⟩ := he.get hx
  have hb0 : b < w.heap.size := block_lt_of_cell c0
  have hb0' : b < w.heap.size + 1 := by omega
  have hlen' : 0 < e.sub.length := by omega
  simp only [Nat.zero_mul, Nat.add_zero] at c0
  clear hr0 hk4 hx hlen c1 c2 c3
  have HS := Lib.hid hsub; clear hsub
  have HV := Lib.hid hv; clear hv
  go_enter Tryz.func80, Tryz.ntmps80
  go_wp2_with (first | (go_at_call 50; refine (hright _ belA).mono ?_; rintro r w1 ⟨rfl, hb1⟩; have hc1 := bcell hb1; have hz1 := hb1.size; (try simp at hz1); (try have hy1 := lt0 w w1); (try have hy2 := ltA w 1 w1); (try have hy3 := ltA w 2 w1); (try have hy4 := lt0 wr w1); (try have hy5 := ltA wr 1 w1)))
  go_ret
  exact ⟨ret_bool HV.out.symm, belA⟩

end Go.Proofs.YtikmbkojnfmiaaaGreatDoorRRRR
