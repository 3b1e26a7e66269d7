/- Walks over the reference's tree: Ops, part, text: they write what tree.show writes. -/
import Derived.Test.YtikmbkojnfmiaaaGreatDoorRRRRWRefDigits
import Derived.Test.YtikmbkojnfmiaaaGreatDoorRRRRWShow2
import Derived.IntWalk
set_option linter.unusedVariables false
set_option linter.unusedSimpArgs false
set_option maxRecDepth 100000
namespace Go.Proofs.YtikmbkojnfmiaaaGreatDoorRRRR
open Go.RowKit Go.Sort

set_option maxHeartbeats 1000000 in
theorem ops_any (n : Int) (w : World) (h1 : -2147483648 ≤ n) (h2 : n ≤ 2147483647) : Calls Tryz.prog 83 #[.int .i64 n] w fun r w' => r = .returned (.string (markB n)) ∧ Below w.heap.size w w' := by
  by_cases hlo : n < 1
  · have hv : markB n = ⟨#[]⟩ := by
      unfold markB
      repeat' (rw [if_neg (by omega)])
    have HV := Lib.hid hv; clear hv
    go_enter Tryz.func83, Tryz.ntmps83
    go_wp2_with fail
    go_ret
    exact ⟨ret_str HV.out.symm, belA⟩
  by_cases hhi : 17 ≤ n
  · have hv : markB n = ⟨#[]⟩ := by
      unfold markB
      repeat' (rw [if_neg (by omega)])
    have HV := Lib.hid hv; clear hv
    go_enter Tryz.func83, Tryz.ntmps83
    go_wp2_with fail
    go_ret
    exact ⟨ret_str HV.out.symm, belA⟩
  have hn : n = 1 ∨ n = 2 ∨ n = 3 ∨ n = 4 ∨ n = 5 ∨ n = 6 ∨ n = 7 ∨ n = 8 ∨ n = 9 ∨ n = 10 ∨ n = 11 ∨ n = 12 ∨ n = 13 ∨ n = 14 ∨ n = 15 ∨ n = 16 := by omega
  clear hlo hhi h1 h2
  rcases hn with rfl | rfl | rfl | rfl | rfl | rfl | rfl | rfl | rfl | rfl | rfl | rfl | rfl | rfl | rfl | rfl
  all_goals
    go_enter Tryz.func83, Tryz.ntmps83
    go_wp2_with fail
    go_ret
    exact ⟨rfl, belA⟩

theorem rt_size {e x : Ex} (hf : e.formed = true) (hz : e.size ≤ 100000) (hx : x ∈ e.sub) : x.showB.size ≤ 4000000 ∧ x.partB.size ≤ 4000000 := by
  have h1 := Ex.showB_size x (Ex.formed_sub hf hx)
  obtain ⟨k, hk⟩ := List.mem_iff_getElem?.1 hx
  have h2 := Ex.size_sub hk
  have h3 := brk_size x.kind x.showB
  unfold Ex.partB
  omega

set_option maxHeartbeats 1000000 in
theorem rpart_of {e : Ex} (hs : e.showB.size ≤ 100000000) {A : Option Addr} {cap : Nat} {w : World} (he : SubsAt w e A cap)
    (hshow : ∀ W, SubsAt W e A cap → Calls Tryz.prog 61 #[exV e A cap] W fun r w' => r = .returned (.string e.showB) ∧ Below W.heap.size W w') :
    Calls Tryz.prog 82 #[exV e A cap] w fun r w' => r = .returned (.string e.partB) ∧ Below w.heap.size w w' := by
  have hl := he.len
  unfold maxLen at hl
  have hv : e.partB = brk e.kind e.showB := rfl
  unfold brk at hv
  have hcall := fun W h => hshow W (he.later h)
  unfold exV at hcall ⊢
  by_cases hk : e.kind = 1 ∨ e.kind = 2 ∨ e.kind = 3 ∨ e.kind = 8 ∨ e.kind = 9
  · rw [if_pos hk] at hv
    have HV := Lib.hid hv; clear hv
    rcases hk with hk | hk | hk | hk | hk
    · have k1 : (e.kind == 1) = true := by rw [hk]; rfl
      clear hk
      go_enter Tryz.func82, Tryz.ntmps82
      go_wp2_with (first | (go_at_call 61; refine (hcall _ belA).mono ?_; rintro r w1 ⟨rfl, hb1⟩; have hc1 := bcell hb1; have hz1 := hb1.size; (try simp at hz1); (try have hy1 := lt0 w w1); (try have hy2 := ltA w 1 w1); (try have hy3 := ltA w 2 w1); (try have hy4 := lt0 wr w1); (try have hy5 := ltA wr 1 w1)))
      go_ret
      exact ⟨ret_str HV.out.symm, belA⟩
    · have k1 : (e.kind == 1) = false := by rw [hk]; rfl
      have k2 : (e.kind == 2) = true := by rw [hk]; rfl
      clear hk
      go_enter Tryz.func82, Tryz.ntmps82
      go_wp2_with (first | (go_at_call 61; refine (hcall _ belA).mono ?_; rintro r w1 ⟨rfl, hb1⟩; have hc1 := bcell hb1; have hz1 := hb1.size; (try simp at hz1); (try have hy1 := lt0 w w1); (try have hy2 := ltA w 1 w1); (try have hy3 := ltA w 2 w1); (try have hy4 := lt0 wr w1); (try have hy5 := ltA wr 1 w1)))
      go_ret
      exact ⟨ret_str HV.out.symm, belA⟩
    · have k1 : (e.kind == 1) = false := by rw [hk]; rfl
      have k2 : (e.kind == 2) = false := by rw [hk]; rfl
      have k3 : (e.kind == 3) = true := by rw [hk]; rfl
      clear hk
      go_enter Tryz.func82, Tryz.ntmps82
      go_wp2_with (first | (go_at_call 61; refine (hcall _ belA).mono ?_; rintro r w1 ⟨rfl, hb1⟩; have hc1 := bcell hb1; have hz1 := hb1.size; (try simp at hz1); (try have hy1 := lt0 w w1); (try have hy2 := ltA w 1 w1); (try have hy3 := ltA w 2 w1); (try have hy4 := lt0 wr w1); (try have hy5 := ltA wr 1 w1)))
      go_ret
      exact ⟨ret_str HV.out.symm, belA⟩
    · have k1 : (e.kind == 1) = false := by rw [hk]; rfl
      have k2 : (e.kind == 2) = false := by rw [hk]; rfl
      have k3 : (e.kind == 3) = false := by rw [hk]; rfl
      have k8 : (e.kind == 8) = true := by rw [hk]; rfl
      clear hk
      go_enter Tryz.func82, Tryz.ntmps82
      go_wp2_with (first | (go_at_call 61; refine (hcall _ belA).mono ?_; rintro r w1 ⟨rfl, hb1⟩; have hc1 := bcell hb1; have hz1 := hb1.size; (try simp at hz1); (try have hy1 := lt0 w w1); (try have hy2 := ltA w 1 w1); (try have hy3 := ltA w 2 w1); (try have hy4 := lt0 wr w1); (try have hy5 := ltA wr 1 w1)))
      go_ret
      exact ⟨ret_str HV.out.symm, belA⟩
    · have k1 : (e.kind == 1) = false := by rw [hk]; rfl
      have k2 : (e.kind == 2) = false := by rw [hk]; rfl
      have k3 : (e.kind == 3) = false := by rw [hk]; rfl
      have k8 : (e.kind == 8) = false := by rw [hk]; rfl
      have k9 : (e.kind == 9) = true := by rw [hk]; rfl
      clear hk
      go_enter Tryz.func82, Tryz.ntmps82
      go_wp2_with (first | (go_at_call 61; refine (hcall _ belA).mono ?_; rintro r w1 ⟨rfl, hb1⟩; have hc1 := bcell hb1; have hz1 := hb1.size; (try simp at hz1); (try have hy1 := lt0 w w1); (try have hy2 := ltA w 1 w1); (try have hy3 := ltA w 2 w1); (try have hy4 := lt0 wr w1); (try have hy5 := ltA wr 1 w1)))
      go_ret
      exact ⟨ret_str HV.out.symm, belA⟩
  · rw [if_neg hk] at hv
    have HV := Lib.hid hv; clear hv
    have k1 : (e.kind == 1) = false := by simp; omega
    have k2 : (e.kind == 2) = false := by simp; omega
    have k3 : (e.kind == 3) = false := by simp; omega
    have k8 : (e.kind == 8) = false := by simp; omega
    have k9 : (e.kind == 9) = false := by simp; omega
    go_enter Tryz.func82, Tryz.ntmps82
    go_wp2_with (first | (go_at_call 61; refine (hcall _ belA).mono ?_; rintro r w1 ⟨rfl, hb1⟩; have hc1 := bcell hb1; have hz1 := hb1.size; (try simp at hz1); (try have hy1 := lt0 w w1); (try have hy2 := ltA w 1 w1); (try have hy3 := ltA w 2 w1); (try have hy4 := lt0 wr w1); (try have hy5 := ltA wr 1 w1)))
    go_ret
    exact ⟨ret_str HV.out.symm, belA⟩


/-- What is known of the parts of an expression. -/
def RT (e : Ex) : Prop := ∀ x ∈ e.sub, ∀ (B : Option Addr) (c : Nat) (W : World), SubsAt W x B c → (Calls Tryz.prog 61 #[exV x B c] W fun r w' => r = .returned (.string x.showB) ∧ Below W.heap.size W w') ∧
  (Calls Tryz.prog 82 #[exV x B c] W fun r w' => r = .returned (.string x.partB) ∧ Below W.heap.size W w')

end Go.Proofs.YtikmbkojnfmiaaaGreatDoorRRRR

/- Walks over the reference's text: some kinds. -/
namespace Go.Proofs.YtikmbkojnfmiaaaGreatDoorRRRR
open Go.RowKit Go.Sort

set_option maxHeartbeats 1000000 in
set_option maxRecDepth 100000 in
theorem text_1 (e : Ex) (hf : e.formed = true) (hzz : e.size ≤ 100000) (ih : RT e) (A : Option Addr) (cap : Nat) (w : World) (he : SubsAt w e A cap) (hk : e.kind = 1) :
    Calls Tryz.prog 61 #[exV e A cap] w fun r w' => r = .returned (.string e.showB) ∧ Below w.heap.size w w' := by
  have hl := he.len
  unfold maxLen at hl
  obtain ⟨hl1, hl2⟩ := hl
  have hn0 : formedH e.kind e.n e.name e.sub.length = true := by rw [Ex.formed_eq, Bool.and_eq_true] at hf; exact hf.1
  unfold formedH formK at hn0
  rw [hk] at hn0
  simp at hn0
  have q1 : (e.kind == 1) = true := by rw [hk]; rfl
  have hdg := fun W => refDigits_any e.n W (by omega) (by omega)
  have hv : e.showB = digitsB e.n := by rw [Ex.showB_eq, hk]; simp [showK]
  clear hf ih hk hn0
  unfold exV
  have HV := Lib.hid hv; clear hv
  go_enter Tryz.func61, Tryz.ntmps61
  go_wp2_with (first | (go_at_call 81; refine (hdg _).mono ?_; rintro r w1 ⟨rfl, hb1⟩; have hc1 := bcell hb1; have hz1 := hb1.size; (try simp at hz1); (try have hy1 := lt0 w w1); (try have hy2 := ltA w 1 w1); (try have hy3 := ltA w 2 w1); (try have hy4 := lt0 wr w1); (try have hy5 := ltA wr 1 w1)))
  go_ret
  exact ⟨ret_str HV.out.symm, belA⟩

set_option maxHeartbeats 1000000 in
set_option maxRecDepth 100000 in
theorem text_2 (e : Ex) (hf : e.formed = true) (hzz : e.size ≤ 100000) (ih : RT e) (A : Option Addr) (cap : Nat) (w : World) (he : SubsAt w e A cap) (hk : e.kind = 2) :
    Calls Tryz.prog 61 #[exV e A cap] w fun r w' => r = .returned (.string e.showB) ∧ Below w.heap.size w w' := by
  have hl := he.len
  unfold maxLen at hl
  obtain ⟨hl1, hl2⟩ := hl
  have hn0 : formedH e.kind e.n e.name e.sub.length = true := by rw [Ex.formed_eq, Bool.and_eq_true] at hf; exact hf.1
  unfold formedH formK at hn0
  rw [hk] at hn0
  simp at hn0
  have q1 : (e.kind == 1) = false := by rw [hk]; rfl
  have q2 : (e.kind == 2) = true := by rw [hk]; rfl
  have hn : e.n = 0 ∨ e.n = 1 := by omega
  rcases hn with hn | hn
  · have hv : e.showB = ⟨#[102, 97, 108, 115, 101]⟩ := by rw [Ex.showB_eq, hk]; simp [showK, hn]
    have s1 : (e.n == 1) = false := by rw [hn]; rfl
    clear hf ih hk hn0 hn
    unfold exV
    have HV := Lib.hid hv; clear hv
    go_enter Tryz.func61, Tryz.ntmps61
    go_wp2_with fail
    go_ret
    exact ⟨ret_str HV.out.symm, belA⟩
  · have hv : e.showB = ⟨#[116, 114, 117, 101]⟩ := by rw [Ex.showB_eq, hk]; simp [showK, hn]
    have s1 : (e.n == 1) = true := by rw [hn]; rfl
    clear hf ih hk hn0 hn
    unfold exV
    have HV := Lib.hid hv; clear hv
    go_enter Tryz.func61, Tryz.ntmps61
    go_wp2_with fail
    go_ret
    exact ⟨ret_str HV.out.symm, belA⟩

set_option maxHeartbeats 1000000 in
set_option maxRecDepth 100000 in
theorem text_3 (e : Ex) (hf : e.formed = true) (hzz : e.size ≤ 100000) (ih : RT e) (A : Option Addr) (cap : Nat) (w : World) (he : SubsAt w e A cap) (hk : e.kind = 3) :
    Calls Tryz.prog 61 #[exV e A cap] w fun r w' => r = .returned (.string e.showB) ∧ Below w.heap.size w w' := by
  have hl := he.len
  unfold maxLen at hl
  obtain ⟨hl1, hl2⟩ := hl
  have hn0 : formedH e.kind e.n e.name e.sub.length = true := by rw [Ex.formed_eq, Bool.and_eq_true] at hf; exact hf.1
  unfold formedH formK at hn0
  rw [hk] at hn0
  simp at hn0
  have q1 : (e.kind == 1) = false := by rw [hk]; rfl
  have q2 : (e.kind == 2) = false := by rw [hk]; rfl
  have q3 : (e.kind == 3) = true := by rw [hk]; rfl
  have hv : e.showB = e.name := by rw [Ex.showB_eq, hk]; simp [showK]
  clear hf ih hk hn0
  unfold exV
  have HV := Lib.hid hv; clear hv
  go_enter Tryz.func61, Tryz.ntmps61
  go_wp2_with fail
  go_ret
  exact ⟨ret_str HV.out.symm, belA⟩

set_option maxHeartbeats 1000000 in
set_option maxRecDepth 100000 in
theorem text_4_1 (e : Ex) (hf : e.formed = true) (hzz : e.size ≤ 100000) (ih : RT e) (A : Option Addr) (cap : Nat) (w : World) (he : SubsAt w e A cap) (hk : e.kind = 4) (hn : e.n = 1) :
    Calls Tryz.prog 61 #[exV e A cap] w fun r w' => r = .returned (.string e.showB) ∧ Below w.heap.size w w' := by
  have hl := he.len
  unfold maxLen at hl
  obtain ⟨hl1, hl2⟩ := hl
  have hn0 : formedH e.kind e.n e.name e.sub.length = true := by rw [Ex.formed_eq, Bool.and_eq_true] at hf; exact hf.1
  unfold formedH formK at hn0
  rw [hk] at hn0
  simp at hn0
  have q1 : (e.kind == 1) = false := by rw [hk]; rfl
  have q2 : (e.kind == 2) = false := by rw [hk]; rfl
  have q3 : (e.kind == 3) = false := by rw [hk]; rfl
  have q4 : (e.kind == 4) = true := by rw [hk]; rfl
  have s1 : (e.n == 1) = true := by rw [hn]; rfl
  have hlen : e.sub.length = 1 := by omega
  obtain ⟨x, hsub⟩ := list1 hlen
  have hx : e.sub[0]? = some x := by rw [hsub]; rfl
  have mx := List.mem_of_getElem? hx
  obtain ⟨sx1, sx2⟩ := rt_size hf hzz mx
  obtain ⟨b, off, X, cx, rfl, c0, c1, c2, c3, hsx⟩ := he.get hx
  simp only [Nat.zero_mul, Nat.one_mul, Nat.add_zero] at c0 c1 c2 c3
  have hbz : b < w.heap.size := block_lt_of_cell c0
  have hbz1 : b < w.heap.size + 1 := by omega
  have l0 : 0 < e.sub.length := by omega
  have px := fun W h => (ih x mx X cx W (hsx.later h)).2
  have hv : e.showB = ⟨#[45]⟩ ++ x.partB := by rw [Ex.showB_eq, Ex.showL_map, hsub, hk]; simp [showK, hn, Ex.partB]
  clear hf ih hk hsub hlen hn0 hn hx mx
  unfold exV at *
  generalize x.partB = t0 at *
  have z0 : ¬ 9223372036854775807 < 1 + t0.size := by omega
  have HV := Lib.hid hv; clear hv
  go_enter Tryz.func61, Tryz.ntmps61
  go_wp2_with (first | (go_at_call 82; refine (px _ belA).mono ?_; rintro r w1 ⟨rfl, hb1⟩; have hc1 := bcell hb1; have hz1 := hb1.size; (try simp at hz1); (try have hy1 := lt0 w w1); (try have hy2 := ltA w 1 w1); (try have hy3 := ltA w 2 w1); (try have hy4 := lt0 wr w1); (try have hy5 := ltA wr 1 w1)))
  go_ret
  exact ⟨ret_str HV.out.symm, belA⟩

set_option maxHeartbeats 1000000 in
set_option maxRecDepth 100000 in
theorem text_4_2 (e : Ex) (hf : e.formed = true) (hzz : e.size ≤ 100000) (ih : RT e) (A : Option Addr) (cap : Nat) (w : World) (he : SubsAt w e A cap) (hk : e.kind = 4) (hn : e.n = 2) :
    Calls Tryz.prog 61 #[exV e A cap] w fun r w' => r = .returned (.string e.showB) ∧ Below w.heap.size w w' := by
  have hl := he.len
  unfold maxLen at hl
  obtain ⟨hl1, hl2⟩ := hl
  have hn0 : formedH e.kind e.n e.name e.sub.length = true := by rw [Ex.formed_eq, Bool.and_eq_true] at hf; exact hf.1
  unfold formedH formK at hn0
  rw [hk] at hn0
  simp at hn0
  have q1 : (e.kind == 1) = false := by rw [hk]; rfl
  have q2 : (e.kind == 2) = false := by rw [hk]; rfl
  have q3 : (e.kind == 3) = false := by rw [hk]; rfl
  have q4 : (e.kind == 4) = true := by rw [hk]; rfl
  have s1 : (e.n == 1) = false := by rw [hn]; rfl
  have hlen : e.sub.length = 1 := by omega
  obtain ⟨x, hsub⟩ := list1 hlen
  have hx : e.sub[0]? = some x := by rw [hsub]; rfl
  have mx := List.mem_of_getElem? hx
  obtain ⟨sx1, sx2⟩ := rt_size hf hzz mx
  obtain ⟨b, off, X, cx, rfl, c0, c1, c2, c3, hsx⟩ := he.get hx
  simp only [Nat.zero_mul, Nat.one_mul, Nat.add_zero] at c0 c1 c2 c3
  have hbz : b < w.heap.size := block_lt_of_cell c0
  have hbz1 : b < w.heap.size + 1 := by omega
  have l0 : 0 < e.sub.length := by omega
  have px := fun W h => (ih x mx X cx W (hsx.later h)).2
  have hv : e.showB = ⟨#[110, 111, 116, 32]⟩ ++ x.partB := by rw [Ex.showB_eq, Ex.showL_map, hsub, hk]; simp [showK, hn, Ex.partB]
  clear hf ih hk hsub hlen hn0 hn hx mx
  unfold exV at *
  generalize x.partB = t0 at *
  have z0 : ¬ 9223372036854775807 < 4 + t0.size := by omega
  have HV := Lib.hid hv; clear hv
  go_enter Tryz.func61, Tryz.ntmps61
  go_wp2_with (first | (go_at_call 82; refine (px _ belA).mono ?_; rintro r w1 ⟨rfl, hb1⟩; have hc1 := bcell hb1; have hz1 := hb1.size; (try simp at hz1); (try have hy1 := lt0 w w1); (try have hy2 := ltA w 1 w1); (try have hy3 := ltA w 2 w1); (try have hy4 := lt0 wr w1); (try have hy5 := ltA wr 1 w1)))
  go_ret
  exact ⟨ret_str HV.out.symm, belA⟩

end Go.Proofs.YtikmbkojnfmiaaaGreatDoorRRRR

/- Walks over the reference's text: some kinds. -/
namespace Go.Proofs.YtikmbkojnfmiaaaGreatDoorRRRR
open Go.RowKit Go.Sort

set_option maxHeartbeats 1000000 in
set_option maxRecDepth 100000 in
theorem text_5 (e : Ex) (hf : e.formed = true) (hzz : e.size ≤ 100000) (ih : RT e) (A : Option Addr) (cap : Nat) (w : World) (he : SubsAt w e A cap) (hk : e.kind = 5) :
    Calls Tryz.prog 61 #[exV e A cap] w fun r w' => r = .returned (.string e.showB) ∧ Below w.heap.size w w' := by
  have hl := he.len
  unfold maxLen at hl
  obtain ⟨hl1, hl2⟩ := hl
  have hn0 : formedH e.kind e.n e.name e.sub.length = true := by rw [Ex.formed_eq, Bool.and_eq_true] at hf; exact hf.1
  unfold formedH formK at hn0
  rw [hk] at hn0
  simp at hn0
  have q1 : (e.kind == 1) = false := by rw [hk]; rfl
  have q2 : (e.kind == 2) = false := by rw [hk]; rfl
  have q3 : (e.kind == 3) = false := by rw [hk]; rfl
  have q4 : (e.kind == 4) = false := by rw [hk]; rfl
  have q5 : (e.kind == 5) = true := by rw [hk]; rfl
  have hn1 : 1 ≤ e.n := by omega
  have hn2 : e.n ≤ 16 := by omega
  have hms := mark_size e.n
  have hop := fun W => ops_any e.n W (by omega) (by omega)
  have hwr : IntKind.i64.wrap e.n = e.n := IntWalk.i64_in _ (by omega)
  have hlen : e.sub.length = 2 := by omega
  obtain ⟨x, y, hsub⟩ := list2 hlen
  have hx : e.sub[0]? = some x := by rw [hsub]; rfl
  have mx := List.mem_of_getElem? hx
  obtain ⟨sx1, sx2⟩ := rt_size hf hzz mx
  have hy : e.sub[1]? = some y := by rw [hsub]; rfl
  have my := List.mem_of_getElem? hy
  obtain ⟨sy1, sy2⟩ := rt_size hf hzz my
  obtain ⟨b, off, X, cx, rfl, c0, c1, c2, c3, hsx⟩ := he.get hx
  obtain ⟨b1, off1, Y, cy, hb1, d0, d1, d2, d3, hsy⟩ := he.get hy
  simp only [Option.some.injEq, Addr.mk.injEq, and_true] at hb1
  obtain ⟨rfl, rfl⟩ := hb1
  simp only [Nat.zero_mul, Nat.one_mul, Nat.add_zero] at c0 c1 c2 c3 d0 d1 d2 d3
  have hbz : b < w.heap.size := block_lt_of_cell c0
  have hbz1 : b < w.heap.size + 1 := by omega
  have l0 : 0 < e.sub.length := by omega
  have l1 : 1 < e.sub.length := by omega
  have li1 : (1 : Int) < (e.sub.length : Int) := by omega
  have px := fun W h => (ih x mx X cx W (hsx.later h)).2
  have py := fun W h => (ih y my Y cy W (hsy.later h)).2
  have hv : e.showB = x.partB ++ ⟨#[32]⟩ ++ markB e.n ++ ⟨#[32]⟩ ++ y.partB := by rw [Ex.showB_eq, Ex.showL_map, hsub, hk]; simp [showK, Ex.partB]
  clear hf ih hk hsub hlen hn0 hx mx hy my
  unfold exV at *
  generalize x.partB = t0 at *
  generalize y.partB = t1 at *
  generalize markB e.n = mk at *
  have z0 : ¬ 9223372036854775807 < t0.size + 1 := by omega
  have z1 : ¬ 9223372036854775807 < t0.size + 1 + mk.size := by omega
  have z2 : ¬ 9223372036854775807 < t0.size + 1 + mk.size + 1 := by omega
  have z3 : ¬ 9223372036854775807 < t0.size + 1 + mk.size + 1 + t1.size := by omega
  have HV := Lib.hid hv; clear hv
  go_enter Tryz.func61, Tryz.ntmps61
  go_wp2_with fail
  refine wp_region_qb (by kernel_rfl) (by kernel_rfl) (fun hgq => ?_)
  repeat (quiet_step ((first | (go_at_call_of 82 X; exact Calls.regrown_of (px _ belA)) | (go_at_call_of 82 Y; exact Calls.regrown_of (py _ belA)) | (go_at_call 83; exact Calls.regrown_of (hop _)))))
  refine wpQuiet_nil ?_
  intro wq hwq
  replace hwq := bel_of_class hwq
  clear hgq
  have hcq := bcell hwq
  have hzq := hwq.size
  (try simp at hzq)
  (try have hyq1 := lt0 w wq); (try have hyq2 := ltA w 1 wq); (try have hyq3 := ltA w 2 wq); (try have hyq4 := lt0 wr wq)
  go_wp2_with fail
  go_ret
  exact ⟨ret_str HV.out.symm, belA⟩

end Go.Proofs.YtikmbkojnfmiaaaGreatDoorRRRR

/- Walks over the reference's text: some kinds. -/
namespace Go.Proofs.YtikmbkojnfmiaaaGreatDoorRRRR
open Go.RowKit Go.Sort

set_option maxHeartbeats 1000000 in
set_option maxRecDepth 100000 in
theorem text_6 (e : Ex) (hf : e.formed = true) (hzz : e.size ≤ 100000) (ih : RT e) (A : Option Addr) (cap : Nat) (w : World) (he : SubsAt w e A cap) (hk : e.kind = 6) :
    Calls Tryz.prog 61 #[exV e A cap] w fun r w' => r = .returned (.string e.showB) ∧ Below w.heap.size w w' := by
  have hl := he.len
  unfold maxLen at hl
  obtain ⟨hl1, hl2⟩ := hl
  have hn0 : formedH e.kind e.n e.name e.sub.length = true := by rw [Ex.formed_eq, Bool.and_eq_true] at hf; exact hf.1
  unfold formedH formK at hn0
  rw [hk] at hn0
  simp at hn0
  have q1 : (e.kind == 1) = false := by rw [hk]; rfl
  have q2 : (e.kind == 2) = false := by rw [hk]; rfl
  have q3 : (e.kind == 3) = false := by rw [hk]; rfl
  have q4 : (e.kind == 4) = false := by rw [hk]; rfl
  have q5 : (e.kind == 5) = false := by rw [hk]; rfl
  have q6 : (e.kind == 6) = true := by rw [hk]; rfl
  have hlen : e.sub.length = 3 := by omega
  obtain ⟨x, y, z, hsub⟩ := list3 hlen
  have hx : e.sub[0]? = some x := by rw [hsub]; rfl
  have mx := List.mem_of_getElem? hx
  obtain ⟨sx1, sx2⟩ := rt_size hf hzz mx
  have hy : e.sub[1]? = some y := by rw [hsub]; rfl
  have my := List.mem_of_getElem? hy
  obtain ⟨sy1, sy2⟩ := rt_size hf hzz my
  have hz : e.sub[2]? = some z := by rw [hsub]; rfl
  have mz := List.mem_of_getElem? hz
  obtain ⟨sz1, sz2⟩ := rt_size hf hzz mz
  obtain ⟨b, off, X, cx, rfl, c0, c1, c2, c3, hsx⟩ := he.get hx
  obtain ⟨b1, off1, Y, cy, hb1, d0, d1, d2, d3, hsy⟩ := he.get hy
  simp only [Option.some.injEq, Addr.mk.injEq, and_true] at hb1
  obtain ⟨rfl, rfl⟩ := hb1
  obtain ⟨b2, off2, Z, cz, hb2, g0, g1, g2, g3, hsz⟩ := he.get hz
  simp only [Option.some.injEq, Addr.mk.injEq, and_true] at hb2
  obtain ⟨rfl, rfl⟩ := hb2
  simp only [Nat.zero_mul, Nat.one_mul, Nat.add_zero] at c0 c1 c2 c3 d0 d1 d2 d3 g0 g1 g2 g3
  have hbz : b < w.heap.size := block_lt_of_cell c0
  have hbz1 : b < w.heap.size + 1 := by omega
  have l0 : 0 < e.sub.length := by omega
  have l1 : 1 < e.sub.length := by omega
  have l2 : 2 < e.sub.length := by omega
  have li1 : (1 : Int) < (e.sub.length : Int) := by omega
  have li2 : (2 : Int) < (e.sub.length : Int) := by omega
  have px := fun W h => (ih x mx X cx W (hsx.later h)).1
  have py := fun W h => (ih y my Y cy W (hsy.later h)).1
  have pz := fun W h => (ih z mz Z cz W (hsz.later h)).1
  have hv : e.showB = ⟨#[105, 102, 32]⟩ ++ x.showB ++ ⟨#[32, 116, 104, 101, 110, 32]⟩ ++ y.showB ++ ⟨#[32, 101, 108, 115, 101, 32]⟩ ++ z.showB := by rw [Ex.showB_eq, Ex.showL_map, hsub, hk]; simp [showK]
  clear hf ih hk hsub hlen hn0 hx mx hy my hz mz
  unfold exV at *
  generalize x.showB = t0 at *
  generalize y.showB = t1 at *
  generalize z.showB = t2 at *
  have z0 : ¬ 9223372036854775807 < 3 + t0.size := by omega
  have z1 : ¬ 9223372036854775807 < 3 + t0.size + 6 := by omega
  have z2 : ¬ 9223372036854775807 < 3 + t0.size + 6 + t1.size := by omega
  have z3 : ¬ 9223372036854775807 < 3 + t0.size + 6 + t1.size + 6 := by omega
  have z4 : ¬ 9223372036854775807 < 3 + t0.size + 6 + t1.size + 6 + t2.size := by omega
  have HV := Lib.hid hv; clear hv
  go_enter Tryz.func61, Tryz.ntmps61
  go_wp2_with fail
  refine wp_region_qb (by kernel_rfl) (by kernel_rfl) (fun hgq => ?_)
  repeat (quiet_step ((first | (go_at_call_of 61 X; exact Calls.regrown_of (px _ belA)) | (go_at_call_of 61 Y; exact Calls.regrown_of (py _ belA)) | (go_at_call_of 61 Z; exact Calls.regrown_of (pz _ belA)))))
  refine wpQuiet_nil ?_
  intro wq hwq
  replace hwq := bel_of_class hwq
  clear hgq
  have hcq := bcell hwq
  have hzq := hwq.size
  (try simp at hzq)
  (try have hyq1 := lt0 w wq); (try have hyq2 := ltA w 1 wq); (try have hyq3 := ltA w 2 wq); (try have hyq4 := lt0 wr wq)
  go_wp2_with fail
  go_ret
  exact ⟨ret_str HV.out.symm, belA⟩

end Go.Proofs.YtikmbkojnfmiaaaGreatDoorRRRR

/- Walks over the reference's text: some kinds. -/
namespace Go.Proofs.YtikmbkojnfmiaaaGreatDoorRRRR
open Go.RowKit Go.Sort

set_option maxHeartbeats 1000000 in
set_option maxRecDepth 100000 in
theorem text_7 (e : Ex) (hf : e.formed = true) (hzz : e.size ≤ 100000) (ih : RT e) (A : Option Addr) (cap : Nat) (w : World) (he : SubsAt w e A cap) (hk : e.kind = 7) :
    Calls Tryz.prog 61 #[exV e A cap] w fun r w' => r = .returned (.string e.showB) ∧ Below w.heap.size w w' := by
  have hl := he.len
  unfold maxLen at hl
  obtain ⟨hl1, hl2⟩ := hl
  have hn0 : formedH e.kind e.n e.name e.sub.length = true := by rw [Ex.formed_eq, Bool.and_eq_true] at hf; exact hf.1
  unfold formedH formK at hn0
  rw [hk] at hn0
  simp at hn0
  have q1 : (e.kind == 1) = false := by rw [hk]; rfl
  have q2 : (e.kind == 2) = false := by rw [hk]; rfl
  have q3 : (e.kind == 3) = false := by rw [hk]; rfl
  have q4 : (e.kind == 4) = false := by rw [hk]; rfl
  have q5 : (e.kind == 5) = false := by rw [hk]; rfl
  have q6 : (e.kind == 6) = false := by rw [hk]; rfl
  have q7 : (e.kind == 7) = true := by rw [hk]; rfl
  have hlen : e.sub.length = 2 := by omega
  obtain ⟨x, y, hsub⟩ := list2 hlen
  have hx : e.sub[0]? = some x := by rw [hsub]; rfl
  have mx := List.mem_of_getElem? hx
  obtain ⟨sx1, sx2⟩ := rt_size hf hzz mx
  have hy : e.sub[1]? = some y := by rw [hsub]; rfl
  have my := List.mem_of_getElem? hy
  obtain ⟨sy1, sy2⟩ := rt_size hf hzz my
  obtain ⟨b, off, X, cx, rfl, c0, c1, c2, c3, hsx⟩ := he.get hx
  obtain ⟨b1, off1, Y, cy, hb1, d0, d1, d2, d3, hsy⟩ := he.get hy
  simp only [Option.some.injEq, Addr.mk.injEq, and_true] at hb1
  obtain ⟨rfl, rfl⟩ := hb1
  simp only [Nat.zero_mul, Nat.one_mul, Nat.add_zero] at c0 c1 c2 c3 d0 d1 d2 d3
  have hbz : b < w.heap.size := block_lt_of_cell c0
  have hbz1 : b < w.heap.size + 1 := by omega
  have l0 : 0 < e.sub.length := by omega
  have l1 : 1 < e.sub.length := by omega
  have li1 : (1 : Int) < (e.sub.length : Int) := by omega
  have px := fun W h => (ih x mx X cx W (hsx.later h)).2
  have py := fun W h => (ih y my Y cy W (hsy.later h)).2
  have hv : e.showB = x.partB ++ ⟨#[32, 45, 62, 32]⟩ ++ y.partB := by rw [Ex.showB_eq, Ex.showL_map, hsub, hk]; simp [showK, Ex.partB]
  clear hf ih hk hsub hlen hn0 hx mx hy my
  unfold exV at *
  generalize x.partB = t0 at *
  generalize y.partB = t1 at *
  have z0 : ¬ 9223372036854775807 < t0.size + 4 := by omega
  have z1 : ¬ 9223372036854775807 < t0.size + 4 + t1.size := by omega
  have HV := Lib.hid hv; clear hv
  go_enter Tryz.func61, Tryz.ntmps61
  go_wp2_with fail
  refine wp_region_qb (by kernel_rfl) (by kernel_rfl) (fun hgq => ?_)
  repeat (quiet_step ((first | (go_at_call_of 82 X; exact Calls.regrown_of (px _ belA)) | (go_at_call_of 82 Y; exact Calls.regrown_of (py _ belA)))))
  refine wpQuiet_nil ?_
  intro wq hwq
  replace hwq := bel_of_class hwq
  clear hgq
  have hcq := bcell hwq
  have hzq := hwq.size
  (try simp at hzq)
  (try have hyq1 := lt0 w wq); (try have hyq2 := ltA w 1 wq); (try have hyq3 := ltA w 2 wq); (try have hyq4 := lt0 wr wq)
  go_wp2_with fail
  go_ret
  exact ⟨ret_str HV.out.symm, belA⟩

set_option maxHeartbeats 1000000 in
set_option maxRecDepth 100000 in
theorem text_8 (e : Ex) (hf : e.formed = true) (hzz : e.size ≤ 100000) (ih : RT e) (A : Option Addr) (cap : Nat) (w : World) (he : SubsAt w e A cap) (hk : e.kind = 8) :
    Calls Tryz.prog 61 #[exV e A cap] w fun r w' => r = .returned (.string e.showB) ∧ Below w.heap.size w w' := by
  have hl := he.len
  unfold maxLen at hl
  obtain ⟨hl1, hl2⟩ := hl
  have hn0 : formedH e.kind e.n e.name e.sub.length = true := by rw [Ex.formed_eq, Bool.and_eq_true] at hf; exact hf.1
  unfold formedH formK at hn0
  rw [hk] at hn0
  simp at hn0
  have q1 : (e.kind == 1) = false := by rw [hk]; rfl
  have q2 : (e.kind == 2) = false := by rw [hk]; rfl
  have q3 : (e.kind == 3) = false := by rw [hk]; rfl
  have q4 : (e.kind == 4) = false := by rw [hk]; rfl
  have q5 : (e.kind == 5) = false := by rw [hk]; rfl
  have q6 : (e.kind == 6) = false := by rw [hk]; rfl
  have q7 : (e.kind == 7) = false := by rw [hk]; rfl
  have q8 : (e.kind == 8) = true := by rw [hk]; rfl
  have hnm : e.name.size ≤ 16 := nameB_le (by simp_all)
  have hlen : e.sub.length = 1 := by omega
  obtain ⟨x, hsub⟩ := list1 hlen
  have hx : e.sub[0]? = some x := by rw [hsub]; rfl
  have mx := List.mem_of_getElem? hx
  obtain ⟨sx1, sx2⟩ := rt_size hf hzz mx
  obtain ⟨b, off, X, cx, rfl, c0, c1, c2, c3, hsx⟩ := he.get hx
  simp only [Nat.zero_mul, Nat.one_mul, Nat.add_zero] at c0 c1 c2 c3
  have hbz : b < w.heap.size := block_lt_of_cell c0
  have hbz1 : b < w.heap.size + 1 := by omega
  have l0 : 0 < e.sub.length := by omega
  have px := fun W h => (ih x mx X cx W (hsx.later h)).2
  have hv : e.showB = x.partB ++ ⟨#[32, 119, 104, 101, 110, 32]⟩ ++ e.name := by rw [Ex.showB_eq, Ex.showL_map, hsub, hk]; simp [showK, Ex.partB]
  clear hf ih hk hsub hlen hn0 hx mx
  unfold exV at *
  generalize x.partB = t0 at *
  have z0 : ¬ 9223372036854775807 < t0.size + 6 := by omega
  have z1 : ¬ 9223372036854775807 < t0.size + 6 + e.name.size := by omega
  have HV := Lib.hid hv; clear hv
  go_enter Tryz.func61, Tryz.ntmps61
  go_wp2_with fail
  refine wp_region_qb (by kernel_rfl) (by kernel_rfl) (fun hgq => ?_)
  repeat (quiet_step ((first | (go_at_call_of 82 X; exact Calls.regrown_of (px _ belA)))))
  refine wpQuiet_nil ?_
  intro wq hwq
  replace hwq := bel_of_class hwq
  clear hgq
  have hcq := bcell hwq
  have hzq := hwq.size
  (try simp at hzq)
  (try have hyq1 := lt0 w wq); (try have hyq2 := ltA w 1 wq); (try have hyq3 := ltA w 2 wq); (try have hyq4 := lt0 wr wq)
  go_wp2_with fail
  go_ret
  exact ⟨ret_str HV.out.symm, belA⟩

set_option maxHeartbeats 1000000 in
set_option maxRecDepth 100000 in
theorem text_9 (e : Ex) (hf : e.formed = true) (hzz : e.size ≤ 100000) (ih : RT e) (A : Option Addr) (cap : Nat) (w : World) (he : SubsAt w e A cap) (hk : e.kind = 9) :
    Calls Tryz.prog 61 #[exV e A cap] w fun r w' => r = .returned (.string e.showB) ∧ Below w.heap.size w w' := by
  have hl := he.len
  unfold maxLen at hl
  obtain ⟨hl1, hl2⟩ := hl
  have hn0 : formedH e.kind e.n e.name e.sub.length = true := by rw [Ex.formed_eq, Bool.and_eq_true] at hf; exact hf.1
  unfold formedH formK at hn0
  rw [hk] at hn0
  simp at hn0
  have q1 : (e.kind == 1) = false := by rw [hk]; rfl
  have q2 : (e.kind == 2) = false := by rw [hk]; rfl
  have q3 : (e.kind == 3) = false := by rw [hk]; rfl
  have q4 : (e.kind == 4) = false := by rw [hk]; rfl
  have q5 : (e.kind == 5) = false := by rw [hk]; rfl
  have q6 : (e.kind == 6) = false := by rw [hk]; rfl
  have q7 : (e.kind == 7) = false := by rw [hk]; rfl
  have q8 : (e.kind == 8) = false := by rw [hk]; rfl
  have q9 : (e.kind == 9) = true := by rw [hk]; rfl
  have hnm : e.name.size ≤ 16 := nameB_le (by simp_all)
  have hlen : e.sub.length = 1 := by omega
  obtain ⟨x, hsub⟩ := list1 hlen
  have hx : e.sub[0]? = some x := by rw [hsub]; rfl
  have mx := List.mem_of_getElem? hx
  obtain ⟨sx1, sx2⟩ := rt_size hf hzz mx
  obtain ⟨b, off, X, cx, rfl, c0, c1, c2, c3, hsx⟩ := he.get hx
  simp only [Nat.zero_mul, Nat.one_mul, Nat.add_zero] at c0 c1 c2 c3
  have hbz : b < w.heap.size := block_lt_of_cell c0
  have hbz1 : b < w.heap.size + 1 := by omega
  have l0 : 0 < e.sub.length := by omega
  have px := fun W h => (ih x mx X cx W (hsx.later h)).2
  have hv : e.showB = x.partB ++ ⟨#[32, 117, 110, 108, 101, 115, 115, 32]⟩ ++ e.name := by rw [Ex.showB_eq, Ex.showL_map, hsub, hk]; simp [showK, Ex.partB]
  clear hf ih hk hsub hlen hn0 hx mx
  unfold exV at *
  generalize x.partB = t0 at *
  have z0 : ¬ 9223372036854775807 < t0.size + 8 := by omega
  have z1 : ¬ 9223372036854775807 < t0.size + 8 + e.name.size := by omega
  have HV := Lib.hid hv; clear hv
  go_enter Tryz.func61, Tryz.ntmps61
  go_wp2_with fail
  refine wp_region_qb (by kernel_rfl) (by kernel_rfl) (fun hgq => ?_)
  repeat (quiet_step ((first | (go_at_call_of 82 X; exact Calls.regrown_of (px _ belA)))))
  refine wpQuiet_nil ?_
  intro wq hwq
  replace hwq := bel_of_class hwq
  clear hgq
  have hcq := bcell hwq
  have hzq := hwq.size
  (try simp at hzq)
  (try have hyq1 := lt0 w wq); (try have hyq2 := ltA w 1 wq); (try have hyq3 := ltA w 2 wq); (try have hyq4 := lt0 wr wq)
  go_wp2_with fail
  go_ret
  exact ⟨ret_str HV.out.symm, belA⟩

end Go.Proofs.YtikmbkojnfmiaaaGreatDoorRRRR

/- Walks over the reference's text: some kinds. -/
namespace Go.Proofs.YtikmbkojnfmiaaaGreatDoorRRRR
open Go.RowKit Go.Sort

set_option maxHeartbeats 1000000 in
set_option maxRecDepth 100000 in
theorem text_10 (e : Ex) (hf : e.formed = true) (hzz : e.size ≤ 100000) (ih : RT e) (A : Option Addr) (cap : Nat) (w : World) (he : SubsAt w e A cap) (hk : e.kind = 10) :
    Calls Tryz.prog 61 #[exV e A cap] w fun r w' => r = .returned (.string e.showB) ∧ Below w.heap.size w w' := by
  have hl := he.len
  unfold maxLen at hl
  obtain ⟨hl1, hl2⟩ := hl
  have hn0 : formedH e.kind e.n e.name e.sub.length = true := by rw [Ex.formed_eq, Bool.and_eq_true] at hf; exact hf.1
  unfold formedH formK at hn0
  rw [hk] at hn0
  simp at hn0
  have q1 : (e.kind == 1) = false := by rw [hk]; rfl
  have q2 : (e.kind == 2) = false := by rw [hk]; rfl
  have q3 : (e.kind == 3) = false := by rw [hk]; rfl
  have q4 : (e.kind == 4) = false := by rw [hk]; rfl
  have q5 : (e.kind == 5) = false := by rw [hk]; rfl
  have q6 : (e.kind == 6) = false := by rw [hk]; rfl
  have q7 : (e.kind == 7) = false := by rw [hk]; rfl
  have q8 : (e.kind == 8) = false := by rw [hk]; rfl
  have q9 : (e.kind == 9) = false := by rw [hk]; rfl
  have hnm : e.name.size ≤ 16 := nameB_le (by simp_all)
  have hlen : e.sub.length = 2 := by omega
  obtain ⟨x, y, hsub⟩ := list2 hlen
  have hx : e.sub[0]? = some x := by rw [hsub]; rfl
  have mx := List.mem_of_getElem? hx
  obtain ⟨sx1, sx2⟩ := rt_size hf hzz mx
  have hy : e.sub[1]? = some y := by rw [hsub]; rfl
  have my := List.mem_of_getElem? hy
  obtain ⟨sy1, sy2⟩ := rt_size hf hzz my
  obtain ⟨b, off, X, cx, rfl, c0, c1, c2, c3, hsx⟩ := he.get hx
  obtain ⟨b1, off1, Y, cy, hb1, d0, d1, d2, d3, hsy⟩ := he.get hy
  simp only [Option.some.injEq, Addr.mk.injEq, and_true] at hb1
  obtain ⟨rfl, rfl⟩ := hb1
  simp only [Nat.zero_mul, Nat.one_mul, Nat.add_zero] at c0 c1 c2 c3 d0 d1 d2 d3
  have hbz : b < w.heap.size := block_lt_of_cell c0
  have hbz1 : b < w.heap.size + 1 := by omega
  have l0 : 0 < e.sub.length := by omega
  have l1 : 1 < e.sub.length := by omega
  have li1 : (1 : Int) < (e.sub.length : Int) := by omega
  have px := fun W h => (ih x mx X cx W (hsx.later h)).2
  have py := fun W h => (ih y my Y cy W (hsy.later h)).2
  have hv : e.showB = ⟨#[109, 101, 114, 103, 101, 32]⟩ ++ e.name ++ ⟨#[32]⟩ ++ x.partB ++ ⟨#[32]⟩ ++ y.partB := by rw [Ex.showB_eq, Ex.showL_map, hsub, hk]; simp [showK, Ex.partB]
  clear hf ih hk hsub hlen hn0 hx mx hy my
  unfold exV at *
  generalize x.partB = t0 at *
  generalize y.partB = t1 at *
  have z0 : ¬ 9223372036854775807 < 6 + e.name.size := by omega
  have z1 : ¬ 9223372036854775807 < 6 + e.name.size + 1 := by omega
  have z2 : ¬ 9223372036854775807 < 6 + e.name.size + 1 + t0.size := by omega
  have z3 : ¬ 9223372036854775807 < 6 + e.name.size + 1 + t0.size + 1 := by omega
  have z4 : ¬ 9223372036854775807 < 6 + e.name.size + 1 + t0.size + 1 + t1.size := by omega
  have HV := Lib.hid hv; clear hv
  go_enter Tryz.func61, Tryz.ntmps61
  go_wp2_with fail
  refine wp_region_qb (by kernel_rfl) (by kernel_rfl) (fun hgq => ?_)
  repeat (quiet_step ((first | (go_at_call_of 82 X; exact Calls.regrown_of (px _ belA)) | (go_at_call_of 82 Y; exact Calls.regrown_of (py _ belA)))))
  refine wpQuiet_nil ?_
  intro wq hwq
  replace hwq := bel_of_class hwq
  clear hgq
  have hcq := bcell hwq
  have hzq := hwq.size
  (try simp at hzq)
  (try have hyq1 := lt0 w wq); (try have hyq2 := ltA w 1 wq); (try have hyq3 := ltA w 2 wq); (try have hyq4 := lt0 wr wq)
  go_wp2_with fail
  go_ret
  exact ⟨ret_str HV.out.symm, belA⟩

end Go.Proofs.YtikmbkojnfmiaaaGreatDoorRRRR

/- Walk over the reference's text: joined. -/
namespace Go.Proofs.YtikmbkojnfmiaaaGreatDoorRRRR
open Go.RowKit Go.Sort

theorem text_any (e : Ex) : e.formed = true → e.size ≤ 100000 → ∀ (A : Option Addr) (cap : Nat) (w : World), SubsAt w e A cap →
    Calls Tryz.prog 61 #[exV e A cap] w fun r w' => r = .returned (.string e.showB) ∧ Below w.heap.size w w' := by
  induction e using Ex.ind with
  | h e ih =>
  intro hf hz A cap w he
  have hrt : RT e := by
    intro x hx B c W hW
    have h1 := rt_size hf hz hx
    obtain ⟨k, hk⟩ := List.mem_iff_getElem?.1 hx
    have h2 := Ex.size_sub hk
    have ht := fun W' h' => ih x hx (Ex.formed_sub hf hx) (by omega) B c W' h'
    exact ⟨ht W hW, rpart_of (by omega) hW ht⟩
  rcases formed_kinds hf with hk | hk | hk | hk | hk | hk | hk | hk | hk | hk
  · exact text_1 e hf hz hrt A cap w he hk
  · exact text_2 e hf hz hrt A cap w he hk
  · exact text_3 e hf hz hrt A cap w he hk
  · have hn : e.n = 1 ∨ e.n = 2 := by
      rw [Ex.formed_eq, Bool.and_eq_true] at hf
      have hn0 := hf.1
      unfold formedH formK at hn0
      rw [hk] at hn0
      simp at hn0
      omega
    rcases hn with hn | hn
    · exact text_4_1 e hf hz hrt A cap w he hk hn
    · exact text_4_2 e hf hz hrt A cap w he hk hn
  · exact text_5 e hf hz hrt A cap w he hk
  · exact text_6 e hf hz hrt A cap w he hk
  · exact text_7 e hf hz hrt A cap w he hk
  · exact text_8 e hf hz hrt A cap w he hk
  · exact text_9 e hf hz hrt A cap w he hk
  · exact text_10 e hf hz hrt A cap w he hk

end Go.Proofs.YtikmbkojnfmiaaaGreatDoorRRRR
