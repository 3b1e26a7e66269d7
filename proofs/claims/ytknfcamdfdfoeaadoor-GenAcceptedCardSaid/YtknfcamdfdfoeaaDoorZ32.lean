/- Walks over octet's PutRun and Bytes. -/
import Derived.Test.YtknfcamdfdfoeaaDoorZ31
import Derived.Test.YtknfcamdfdfoeaaDoorZ25
import Derived.Test.YtknfcamdfdfoeaaDoorZ30
import Derived.Test.YtknfcamdfdfoeaaDoorZ01
set_option linter.unusedVariables false
set_option linter.unusedSimpArgs false
set_option maxRecDepth 100000
namespace Go.Proofs.YtknfcamdfdfoeaaDoor
open Go.RowKit Go.Sort

set_option maxHeartbeats 4000000 in
theorem oputrun_any (l x : List Int) (A : Option Addr) (cap : Nat) (A2 : Option Addr) (cap2 : Nat) (w : World) (hb : CelAt w (byU l) l.length A cap) (hx : CelAt w (byU x) x.length A2 cap2) (hl : l.length ≤ 100000) (hn : x.length ≤ 65535) :
    Calls Tryd.prog 39 #[.slice A l.length cap, .slice A2 x.length cap2] w (BytesR w (l ++ runB x)) := by
  unfold BytesR
  have hput := fun W h => oput2_any l A cap x.length W (hb.later h) hl (by omega)
  unfold BytesR at hput
  have hx1 := hx.1
  have hx2 := hx.2.1
  unfold maxLen at hx2
  have hll : (l ++ leB 2 x.length).length = l.length + 2 := by rw [List.length_append, leB_len]
  rw [hll] at hput
  have hcv : IntKind.u64.wrap (x.length : Int) = (x.length : Int) := by
    simp [IntKind.wrap, IntKind.bits, IntKind.signed]; omega
  have HX := Lib.hid hx
  clear hb hx hll
  go_enter Tryd.func39, Tryd.ntmps39
  go_wp2_with (first
    | (go_at_call 37; refine (hput _ belA).mono ?_; rintro r w1 ⟨⟨v, rfl, hown⟩, hb1⟩; have hz1 := hb1.size)
    | (at_builtin; go_loud (refine wpList_cat rfl (.tmp 22) (.tmp 23) 46 rfl w.heap.size 5 _ 1 1 Tryd.underlying46 u8info rfl (by omega) v (l.length + 2) (byU (l ++ leB 2 x.length)) A2 x.length cap2 (byU x) rfl hown rfl (HX.out.later belA).2.2 (byU_one _) (by omega) (by omega) (by omega) ?_; intro v2 w2 hown2 hb2)))
  go_ret2
  exact ⟨⟨v2, rfl, by unfold runB; rw [← List.append_assoc, byU_app (l ++ leB 2 x.length), show (l ++ leB 2 x.length ++ x).length = l.length + 2 + x.length by simp [leB_len]; omega]; exact hown2⟩, hb1.trans hb2⟩

/-- Words as bytes. -/
def wordsL (l : List Nat) : List Int := l.flatMap (leB 4)
theorem wordsL_len (l : List Nat) : (wordsL l).length = 4 * l.length := by
  unfold wordsL
  induction l with
  | nil => rfl
  | cons x l ih => rw [List.flatMap_cons, List.length_append, ih, leB_len, List.length_cons]; omega
theorem wordsL_snoc (l : List Nat) (x : Nat) : wordsL (l ++ [x]) = wordsL l ++ leB 4 x := by unfold wordsL; simp
theorem leB4 (x : Nat) : byU (leB 4 x) = [.int .u8 ((x : Int) % 256), .int .u8 ((x : Int) / 256 % 256), .int .u8 ((x : Int) / 65536 % 256), .int .u8 ((x : Int) / 16777216 % 256)] := by
  simp only [leB, byU, List.map_cons, List.map_nil]
  rw [Nat.div_div_eq_div_mul, Nat.div_div_eq_div_mul]
  simp

set_option maxHeartbeats 4000000 in
theorem obytes_any (l : List Nat) (A : Option Addr) (cap : Nat) (w : World) (hb : CelAt w (wdU l) l.length A cap) (hl : l.length ≤ 1000) (hx : ∀ x ∈ l, x < 4294967296) :
    Calls Tryd.prog 41 #[.slice A l.length cap] w fun r w' => (∃ v, r = .returned v ∧ w'.ownsRow w.heap.size 5 1 v (wordsL l).length (byU (wordsL l))) ∧ Below w.heap.size w w' := by
  have hmk := fun W : World => run_make (P := Tryd.prog) W 46 5 (Tryd.prog.info? 5).get! (.int .u8 0) Tryd.underlying46 (by kernel_rfl) (by kernel_rfl) .i64 .i64 0 (4 * (l.length : Int)) (by omega) (by omega) (by rw [show (Tryd.prog.info? 5).get!.bytes = 1 by kernel_rfl]; omega) (by omega)
  rw [show (Tryd.prog.info? 5).get!.size = 1 by kernel_rfl] at hmk
  simp only [show (4 * (l.length : Int)).toNat = 4 * l.length by omega, show (0 : Int).toNat = 0 by omega, Nat.mul_one] at hmk
  have hb1 := hb.1
  have hb2 := hb.2.1
  unfold maxLen at hb2
  have HB := Lib.hid hb
  have HX := Lib.hid hx
  clear hb hx
  go_enter Tryd.func41, Tryd.ntmps41
  go_wp2_with fail
  go_loopw [3, 12] (fun v i wr => ∃ k : Nat, k ≤ l.length ∧ i = .int .i64 k ∧ wr.ownsRow w.heap.size 5 1 v (4 * k) (byU (wordsL (l.take k))) ∧ Below w.heap.size w wr) (fun _ i _ => l.length - (intOf i).toNat)
  case atStart =>
    refine ⟨0, by omega, rfl, ?_, bel_alloc (Below.refl _ _) _⟩
    exact ⟨rfl, .inr ⟨w.heap.size, 4 * l.length, _, rfl, Nat.le_refl _, heap_alloc_new w _, by omega, by unfold maxLen; omega, by rw [size_madeCells]; omega, by simp [wordsL, byU]⟩⟩
  case round =>
    obtain ⟨k, hk, rfl, hown, hbel⟩ := hrel
    have hz := hbel.size
    obtain ⟨A2, c2, rfl, hc1, hc2⟩ := own_slice hown
    unfold maxLen at hc2
    by_cases hlt : k < l.length
    · have hx : l[k]? = some l[k] := List.getElem?_eq_getElem hlt
      have htk : l.take (k + 1) = l.take k ++ [l[k]] := by rw [List.take_succ_eq_append_getElem hlt]
      have hsm := HX.out l[k] (List.getElem_mem hlt)
      generalize l[k] = x at hx htk hsm
      obtain ⟨b, off, rfl, hbb, hcell⟩ := (HB.out.later hbel).get (wdU_get hx)
      have hle : byU (wordsL (l.take (k + 1))) = byU (wordsL (l.take k)) ++ [.int .u8 ((x : Int) % 256), .int .u8 ((x : Int) / 256 % 256), .int .u8 ((x : Int) / 65536 % 256), .int .u8 ((x : Int) / 16777216)] := by
        rw [htk, wordsL_snoc, byU_app, leB4, show (x : Int) / 16777216 % 256 = (x : Int) / 16777216 by omega]
      have HLE := Lib.hid hle
      clear hle htk hx
      go_wp2_with (at_builtin; go_loud (refine wpList_cat rfl (.tmp 16) (.tmp 28) 46 rfl w.heap.size 5 _ 1 1 Tryd.underlying46 u8info rfl (by omega) (.slice A2 (4 * k) c2) (4 * k) (byU (wordsL (l.take k))) (some ⟨wr.heap.size, 0, none⟩) 4 4 [.int .u8 ((x : Int) % 256), .int .u8 ((x : Int) / 256 % 256), .int .u8 ((x : Int) / 65536 % 256), .int .u8 ((x : Int) / 16777216)] rfl (by repeat (first | (with_reducible assumption) | refine own_alloc ?_ | refine own_bel ?_ (by with_reducible assumption) | refine own_drew ?_)) rfl ⟨rfl, fun _ => ⟨wr.heap.size, 0, rfl, fun j u hj => by rw [Nat.zero_add, cell_new]; simpa using hj⟩⟩ (by simp [Value.oneCell']) (by omega) (by omega) (by first | omega | (simp; omega)) ?_); intro v2 w2 hown2 hb2)
      go_roundw
      case rel => exact ⟨k + 1, by omega, by go_num, by rw [HLE.out]; exact hown2, (bel_alloc hbel _).trans hb2⟩
      case measure => simp [intOf]; omega
    · obtain rfl : k = l.length := by omega
      rw [List.take_length] at hown
      go_wp2_with fail
      go_ret
      exact ⟨⟨_, rfl, by rw [wordsL_len]; exact hown⟩, hbel⟩
end Go.Proofs.YtknfcamdfdfoeaaDoor

/- Walks over isa's form, most, Right; judge's Frame, effectOf. -/
namespace Go.Proofs.YtknfcamdfdfoeaaDoor
open Go.RowKit Go.Sort

theorem ops_cases (op : Int) : ((op == 1) = false ∧ (op == 2) = false ∧ (op == 3) = false ∧ (op == 4) = false ∧ (op == 5) = false ∧ (op == 6) = false ∧ (op == 7) = false ∧ (op == 8) = false ∧ (op == 9) = false ∧ (op == 10) = false ∧ (op == 11) = false) ∨
    op = 1 ∨ op = 2 ∨ op = 3 ∨ op = 4 ∨ op = 5 ∨ op = 6 ∨ op = 7 ∨ op = 8 ∨ op = 9 ∨ op = 10 ∨ op = 11 := by
  simp only [beq_eq_false_iff_ne, ne_eq]
  omega

set_option maxHeartbeats 2000000 in
theorem iform_any (op : Int) (w : World) : Calls Tryd.prog 52 #[.int .i64 op] w fun r w' => r = .returned (.int .i64 (insW op)) ∧ Below w.heap.size w w' := by
  by_cases h1 : op = 1
  · subst h1
    go_enter Tryd.func52, Tryd.ntmps52
    go_wp2_with fail
    go_ret
    exact ⟨ret_int (by decide), belA⟩
  by_cases h10 : op = 10
  · subst h10
    go_enter Tryd.func52, Tryd.ntmps52
    go_wp2_with fail
    go_ret
    exact ⟨ret_int (by decide), belA⟩
  by_cases h11 : op = 11
  · subst h11
    go_enter Tryd.func52, Tryd.ntmps52
    go_wp2_with fail
    go_ret
    exact ⟨ret_int (by decide), belA⟩
  have t1 : (op == 1) = false := by simpa using h1
  have t10 : (op == 10) = false := by simpa using h10
  have t11 : (op == 11) = false := by simpa using h11
  by_cases hg : 1 < op
  · by_cases hl : op < 10
    · have hv : insW op = 1 := by unfold insW; rw [if_neg h1, if_neg (by omega), if_pos ⟨hg, hl⟩]
      clear h1 h10 h11
      have HV := Lib.hid hv; clear hv
      go_enter Tryd.func52, Tryd.ntmps52
      go_wp2_with fail
      go_ret
      exact ⟨ret_int HV.out.symm, belA⟩
    · have hv : insW op = 0 := by unfold insW; rw [if_neg h1, if_neg (by omega), if_neg (fun h => hl h.2)]
      clear h1 h10 h11
      have HV := Lib.hid hv; clear hv
      go_enter Tryd.func52, Tryd.ntmps52
      go_wp2_with fail
      go_ret
      exact ⟨ret_int HV.out.symm, belA⟩
  · have hv : insW op = 0 := by unfold insW; rw [if_neg h1, if_neg (by omega), if_neg (fun h => hg h.1)]
    clear h1 h10 h11
    have HV := Lib.hid hv; clear hv
    go_enter Tryd.func52, Tryd.ntmps52
    go_wp2_with fail
    go_ret
    exact ⟨ret_int HV.out.symm, belA⟩

def mostF (op : Int) : Int := if op = 8 then 2 else if op = 9 then 16 else if op = 10 ∨ op = 11 then 65535 else 255
set_option maxHeartbeats 2000000 in
theorem imost_any (op : Int) (w : World) : Calls Tryd.prog 53 #[.int .i64 op] w fun r w' => r = .returned (.int .i32 (mostF op)) ∧ w' = w := by
  by_cases h : op = 8 ∨ op = 9 ∨ op = 10 ∨ op = 11
  · rcases h with rfl | rfl | rfl | rfl
    all_goals
      go_enter Tryd.func53, Tryd.ntmps53
      go_wp2_with fail
      go_ret
      exact ⟨ret_int (by decide), rfl⟩
  · have t8 : (op == 8) = false := by simp; omega
    have t9 : (op == 9) = false := by simp; omega
    have t10 : (op == 10) = false := by simp; omega
    have t11 : (op == 11) = false := by simp; omega
    have hv : mostF op = 255 := by unfold mostF; rw [if_neg (by omega), if_neg (by omega), if_neg (by omega)]
    clear h
    have HV := Lib.hid hv; clear hv
    go_enter Tryd.func53, Tryd.ntmps53
    go_wp2_with fail
    go_ret
    exact ⟨ret_int HV.out.symm, rfl⟩

theorem insW_cases (op : Int) : (insW op = 0) ∨ (op = 1 ∧ insW op = 4) ∨ ((op = 8 ∨ op = 9) ∧ insW op = 1) ∨ ((op = 10 ∨ op = 11) ∧ insW op = 2) ∨ ((2 ≤ op ∧ op ≤ 7) ∧ insW op = 1) := by
  unfold insW
  repeat' split
  all_goals omega
theorem rightF_named {op n : Int} (h1 : op = 8 ∨ op = 9) : rightF (op, n) = if n < 1 ∨ mostF op < n then 9 else 0 := by
  rcases h1 with rfl | rfl
  · simp only [rightF, insW, mostF]
    by_cases h : n < 1 ∨ 2 < n
    · simp [h]
    · simp [h]; omega
  · simp only [rightF, insW, mostF]
    by_cases h : n < 1 ∨ 16 < n
    · simp [h]
    · simp [h]; omega
theorem rightF_plain {op n : Int} (h1 : op = 10 ∨ op = 11 ∨ (2 ≤ op ∧ op ≤ 7)) : rightF (op, n) = if n < 0 ∨ mostF op < n then 10 else 0 := by
  rcases h1 with rfl | rfl | h1
  · simp [rightF, insW, mostF]
  · simp [rightF, insW, mostF]
  · have hw : insW op = 1 := by unfold insW; rw [if_neg (by omega), if_neg (by omega), if_pos (by omega)]
    have hm : mostF op = 255 := by unfold mostF; rw [if_neg (by omega), if_neg (by omega), if_neg (by omega)]
    unfold rightF
    rw [hw, hm]
    dsimp only
    rw [if_neg (by decide), if_neg (by decide), if_neg (fun h => by omega), if_neg (fun h => by omega), if_neg (fun h => absurd h.1 (by decide))]
    simp
def RightC (op n : Int) (w : World) : Prop := Calls Tryd.prog 33 #[.agg #[.int .i64 op, .int .i32 n]] w fun r w' => r = .returned (.int .i64 (rightF (op, n))) ∧ Below w.heap.size w w'
set_option maxHeartbeats 1000000 in
theorem iright_none (op n : Int) (w : World) (h : insW op = 0) : RightC op n w := by
  unfold RightC
  have hform := fun W => iform_any op W
  have hv : rightF (op, n) = 9 := by unfold rightF; rw [if_pos h]
  rw [h] at hform
  clear h
  have HV := Lib.hid hv; clear hv
  go_enter Tryd.func33, Tryd.ntmps33
  go_wp2_with (first | (go_at_call 52; refine (hform _).mono ?_; rintro r w1 ⟨rfl, hb1⟩; have hc1 := bcell hb1; have hz1 := hb1.size; (try simp at hz1); (try have hy1 := lt0 w w1); (try have hy2 := ltA w 1 w1); (try have hy3 := ltA w 2 w1); (try have hy4 := lt0 wr w1); (try have hy5 := ltA wr 1 w1)))
  go_ret
  exact ⟨ret_int HV.out.symm, belA⟩
set_option maxHeartbeats 1000000 in
theorem iright_push (op n : Int) (w : World) (h : insW op = 4) : RightC op n w := by
  unfold RightC
  have hform := fun W => iform_any op W
  have hv : rightF (op, n) = 0 := by unfold rightF; rw [if_neg (by rw [h]; decide), if_pos h]
  rw [h] at hform
  clear h
  have HV := Lib.hid hv; clear hv
  go_enter Tryd.func33, Tryd.ntmps33
  go_wp2_with (first | (go_at_call 52; refine (hform _).mono ?_; rintro r w1 ⟨rfl, hb1⟩; have hc1 := bcell hb1; have hz1 := hb1.size; (try simp at hz1); (try have hy1 := lt0 w w1); (try have hy2 := ltA w 1 w1); (try have hy3 := ltA w 2 w1); (try have hy4 := lt0 wr w1); (try have hy5 := ltA wr 1 w1)))
  go_ret
  exact ⟨ret_int HV.out.symm, belA⟩
set_option maxHeartbeats 1000000 in
theorem iright_named (op n : Int) (w : World) (h1 : op = 8 ∨ op = 9) : RightC op n w := by
  unfold RightC
  have hform := fun W => iform_any op W
  have hmost := fun W => imost_any op W
  have h : insW op = 1 := by rcases h1 with rfl | rfl <;> rfl
  have hr := rightF_named (n := n) h1
  rw [h] at hform
  have tn : ((op == 8) = true ∧ (op == 9) = false) ∨ ((op == 8) = false ∧ (op == 9) = true) := by
    rcases h1 with rfl | rfl
    · exact .inl ⟨rfl, rfl⟩
    · exact .inr ⟨rfl, rfl⟩
  have hm0 : 1 ≤ mostF op := by rcases h1 with rfl | rfl <;> decide
  clear h h1
  generalize mostF op = m at *
  by_cases c1 : n < 1
  · have hv : rightF (op, n) = 9 := by rw [hr, if_pos (.inl c1)]
    have d1 : decide (n < 1) = true := by simpa using c1
    clear hr c1 hm0
    have HV := Lib.hid hv; clear hv
    rcases tn with ⟨t8, t9⟩ | ⟨t8, t9⟩
    all_goals
      go_enter Tryd.func33, Tryd.ntmps33
      go_wp2_with (first | (go_at_call 52; refine (hform _).mono ?_; rintro r w1 ⟨rfl, hb1⟩; have hc1 := bcell hb1; have hz1 := hb1.size; (try simp at hz1); (try have hy1 := lt0 w w1); (try have hy2 := ltA w 1 w1); (try have hy3 := ltA w 2 w1); (try have hy4 := lt0 wr w1); (try have hy5 := ltA wr 1 w1)))
      go_quiet ((go_at_call 53; exact Calls.quiet_of_same (hmost _)))
      go_wp2_with fail
      go_ret
      exact ⟨ret_int HV.out.symm, belA⟩
  have d1 : decide (n < 1) = false := by simpa using c1
  by_cases c2 : m < n
  · have hv : rightF (op, n) = 9 := by rw [hr, if_pos (.inr c2)]
    have d2 : decide (m < n) = true := by simpa using c2
    clear hr c1 c2 hm0
    have HV := Lib.hid hv; clear hv
    rcases tn with ⟨t8, t9⟩ | ⟨t8, t9⟩
    all_goals
      go_enter Tryd.func33, Tryd.ntmps33
      go_wp2_with (first | (go_at_call 52; refine (hform _).mono ?_; rintro r w1 ⟨rfl, hb1⟩; have hc1 := bcell hb1; have hz1 := hb1.size; (try simp at hz1); (try have hy1 := lt0 w w1); (try have hy2 := ltA w 1 w1); (try have hy3 := ltA w 2 w1); (try have hy4 := lt0 wr w1); (try have hy5 := ltA wr 1 w1)))
      go_quiet ((go_at_call 53; exact Calls.quiet_of_same (hmost _)))
      go_wp2_with fail
      go_ret
      exact ⟨ret_int HV.out.symm, belA⟩
  · have hv : rightF (op, n) = 0 := by rw [hr, if_neg (by omega)]
    have d2 : decide (m < n) = false := by simpa using c2
    have d0 : decide (n < 0) = false := by simp; omega
    clear hr c1 c2 hm0
    have HV := Lib.hid hv; clear hv
    rcases tn with ⟨t8, t9⟩ | ⟨t8, t9⟩
    all_goals
      go_enter Tryd.func33, Tryd.ntmps33
      go_wp2_with (first | (go_at_call 52; refine (hform _).mono ?_; rintro r w1 ⟨rfl, hb1⟩; have hc1 := bcell hb1; have hz1 := hb1.size; (try simp at hz1); (try have hy1 := lt0 w w1); (try have hy2 := ltA w 1 w1); (try have hy3 := ltA w 2 w1); (try have hy4 := lt0 wr w1); (try have hy5 := ltA wr 1 w1)))
      go_quiet ((go_at_call 53; exact Calls.quiet_of_same (hmost _)))
      go_wp2_with fail
      refine wp_name fun W1 hW1 => ?_
      have q0 : W1.cell? ⟨w.heap.size, 0, none⟩ = some (.int .i64 op) := by rw [hW1]; go_simp
      have q1 : W1.cell? ⟨w.heap.size, 1, none⟩ = some (.int .i32 n) := by rw [hW1]; go_simp
      have hbw : Below w.heap.size w W1 := by rw [hW1]; exact belA
      clear hW1
      go_quiet ((go_at_call 53; exact Calls.quiet_of_same (hmost _)))
      go_wp2_with fail
      go_ret
      exact ⟨ret_int HV.out.symm, belA⟩
set_option maxHeartbeats 1000000 in
theorem iright_plain (op n : Int) (w : World) (h1 : op = 10 ∨ op = 11 ∨ (2 ≤ op ∧ op ≤ 7)) : RightC op n w := by
  unfold RightC
  have hform := fun W => iform_any op W
  have hmost := fun W => imost_any op W
  have t8 : (op == 8) = false := by simp; omega
  have t9 : (op == 9) = false := by simp; omega
  have hk2 : (insW op == 0) = false ∧ (insW op == 4) = false := by
    have : insW op = 2 ∨ insW op = 1 := by
      unfold insW
      repeat' split
      all_goals omega
    rcases this with h | h <;> rw [h] <;> decide
  obtain ⟨k0, k4⟩ := hk2
  have hr := rightF_plain (n := n) h1
  clear h1
  generalize insW op = k at *
  generalize mostF op = m at *
  by_cases c1 : n < 0
  · have hv : rightF (op, n) = 10 := by rw [hr, if_pos (.inl c1)]
    have d1 : decide (n < 0) = true := by simpa using c1
    clear hr c1
    have HV := Lib.hid hv; clear hv
    go_enter Tryd.func33, Tryd.ntmps33
    go_wp2_with (first | (go_at_call 52; refine (hform _).mono ?_; rintro r w1 ⟨rfl, hb1⟩; have hc1 := bcell hb1; have hz1 := hb1.size; (try simp at hz1); (try have hy1 := lt0 w w1); (try have hy2 := ltA w 1 w1); (try have hy3 := ltA w 2 w1); (try have hy4 := lt0 wr w1); (try have hy5 := ltA wr 1 w1)))
    go_quiet ((go_at_call 53; exact Calls.quiet_of_same (hmost _)))
    go_wp2_with fail
    refine wp_name fun W1 hW1 => ?_
    have q0 : W1.cell? ⟨w.heap.size, 0, none⟩ = some (.int .i64 op) := by rw [hW1]; go_simp
    have q1 : W1.cell? ⟨w.heap.size, 1, none⟩ = some (.int .i32 n) := by rw [hW1]; go_simp
    have hbw : Below w.heap.size w W1 := by rw [hW1]; exact belA
    clear hW1
    go_quiet ((go_at_call 53; exact Calls.quiet_of_same (hmost _)))
    go_wp2_with fail
    go_ret
    exact ⟨ret_int HV.out.symm, belA⟩
  have d1 : decide (n < 0) = false := by simpa using c1
  by_cases c2 : m < n
  · have hv : rightF (op, n) = 10 := by rw [hr, if_pos (.inr c2)]
    have d2 : decide (m < n) = true := by simpa using c2
    clear hr c1 c2
    have HV := Lib.hid hv; clear hv
    go_enter Tryd.func33, Tryd.ntmps33
    go_wp2_with (first | (go_at_call 52; refine (hform _).mono ?_; rintro r w1 ⟨rfl, hb1⟩; have hc1 := bcell hb1; have hz1 := hb1.size; (try simp at hz1); (try have hy1 := lt0 w w1); (try have hy2 := ltA w 1 w1); (try have hy3 := ltA w 2 w1); (try have hy4 := lt0 wr w1); (try have hy5 := ltA wr 1 w1)))
    go_quiet ((go_at_call 53; exact Calls.quiet_of_same (hmost _)))
    go_wp2_with fail
    refine wp_name fun W1 hW1 => ?_
    have q0 : W1.cell? ⟨w.heap.size, 0, none⟩ = some (.int .i64 op) := by rw [hW1]; go_simp
    have q1 : W1.cell? ⟨w.heap.size, 1, none⟩ = some (.int .i32 n) := by rw [hW1]; go_simp
    have hbw : Below w.heap.size w W1 := by rw [hW1]; exact belA
    clear hW1
    go_quiet ((go_at_call 53; exact Calls.quiet_of_same (hmost _)))
    go_wp2_with fail
    go_ret
    exact ⟨ret_int HV.out.symm, belA⟩
  · have hv : rightF (op, n) = 0 := by rw [hr, if_neg (by omega)]
    have d2 : decide (m < n) = false := by simpa using c2
    clear hr c1 c2
    have HV := Lib.hid hv; clear hv
    go_enter Tryd.func33, Tryd.ntmps33
    go_wp2_with (first | (go_at_call 52; refine (hform _).mono ?_; rintro r w1 ⟨rfl, hb1⟩; have hc1 := bcell hb1; have hz1 := hb1.size; (try simp at hz1); (try have hy1 := lt0 w w1); (try have hy2 := ltA w 1 w1); (try have hy3 := ltA w 2 w1); (try have hy4 := lt0 wr w1); (try have hy5 := ltA wr 1 w1)))
    go_quiet ((go_at_call 53; exact Calls.quiet_of_same (hmost _)))
    go_wp2_with fail
    refine wp_name fun W1 hW1 => ?_
    have q0 : W1.cell? ⟨w.heap.size, 0, none⟩ = some (.int .i64 op) := by rw [hW1]; go_simp
    have q1 : W1.cell? ⟨w.heap.size, 1, none⟩ = some (.int .i32 n) := by rw [hW1]; go_simp
    have hbw : Below w.heap.size w W1 := by rw [hW1]; exact belA
    clear hW1
    go_quiet ((go_at_call 53; exact Calls.quiet_of_same (hmost _)))
    go_wp2_with fail
    go_ret
    exact ⟨ret_int HV.out.symm, belA⟩
theorem iright_any (op n : Int) (w : World) : RightC op n w := by
  rcases insW_cases op with h | ⟨h1, h⟩ | ⟨h1, h⟩ | ⟨h1, h⟩ | ⟨h1, h⟩
  · exact iright_none op n w h
  · exact iright_push op n w h
  · exact iright_named op n w h1
  · exact iright_plain op n w (by omega)
  · exact iright_plain op n w (by omega)
end Go.Proofs.YtknfcamdfdfoeaaDoor

/- A region that draws its order: two operations may come up. -/
namespace Go.Proofs.YtknfcamdfdfoeaaDoor
open Go.RowKit Go.Sort

section
variable {P : Program} {ops : Array Oper} {Q : Exit → Act → World → Prop} {md : Region.Mode} {S : World → Prop}
theorem wpHT_two {n g i j : Nat} {oi oj : Oper} {f : Nat} {listed : Array Bool} {a : Act} {w : World} (hr : Region.ready md ops listed = [i, j]) (hi : ops[i]? = some oi) (hj : ops[j]? = some oj) (hg : oi.guard = none) (hgj : oj.guard = none)
    (h : oi.wp P a w (fun a' w' => S w' ∧ wpHT P md ops Q S n g f (listed.setIfInBounds i true) a' w') Q) (h2 : oj.wp P a w (fun a' w' => S w' ∧ wpHT P md ops Q S n g f (listed.setIfInBounds j true) a' w') Q) : wpHT P md ops Q S n g (f + 1) listed a w := by
  refine ⟨fun h0 => (by rw [hr] at h0; cases h0), fun k hk => ?_⟩
  rw [hr] at hk
  simp only [List.mem_cons, List.not_mem_nil, or_false] at hk
  rcases hk with rfl | rfl
  · unfold wpOp
    have hw : Region.wanted oi (yielded ops a.tmps) = true := by simp [Region.wanted, hg]
    simp only [hi, hw, if_true]
    exact .inl h
  · unfold wpOp
    have hw : Region.wanted oj (yielded ops a.tmps) = true := by simp [Region.wanted, hgj]
    simp only [hj, hw, if_true]
    exact .inl h2
theorem wpHT_three {n g i j l : Nat} {oi oj ol : Oper} {f : Nat} {listed : Array Bool} {a : Act} {w : World} (hr : Region.ready md ops listed = [i, j, l]) (hi : ops[i]? = some oi) (hj : ops[j]? = some oj) (hl : ops[l]? = some ol) (hg : oi.guard = none) (hgj : oj.guard = none) (hgl : ol.guard = none)
    (h : oi.wp P a w (fun a' w' => S w' ∧ wpHT P md ops Q S n g f (listed.setIfInBounds i true) a' w') Q) (h2 : oj.wp P a w (fun a' w' => S w' ∧ wpHT P md ops Q S n g f (listed.setIfInBounds j true) a' w') Q) (h3 : ol.wp P a w (fun a' w' => S w' ∧ wpHT P md ops Q S n g f (listed.setIfInBounds l true) a' w') Q) : wpHT P md ops Q S n g (f + 1) listed a w := by
  refine ⟨fun h0 => (by rw [hr] at h0; cases h0), fun k hk => ?_⟩
  rw [hr] at hk
  simp only [List.mem_cons, List.not_mem_nil, or_false] at hk
  rcases hk with rfl | rfl | rfl
  · unfold wpOp
    have hw : Region.wanted oi (yielded ops a.tmps) = true := by simp [Region.wanted, hg]
    simp only [hi, hw, if_true]
    exact .inl h
  · unfold wpOp
    have hw : Region.wanted oj (yielded ops a.tmps) = true := by simp [Region.wanted, hgj]
    simp only [hj, hw, if_true]
    exact .inl h2
  · unfold wpOp
    have hw : Region.wanted ol (yielded ops a.tmps) = true := by simp [Region.wanted, hgl]
    simp only [hl, hw, if_true]
    exact .inl h3
end
end Go.Proofs.YtknfcamdfdfoeaaDoor

/- Walks over isa's Bytes and Encode. -/
namespace Go.Proofs.YtknfcamdfdfoeaaDoor
open Go.RowKit Go.Sort

theorem right_num {op N : Int} (h : rightF (op, N) = 0) (hN : I32 N) : insW op = 4 ∧ op = 1 ∨ insW op = 2 ∧ (plainN N : Int) = N ∧ N ≤ 65535 ∨ insW op = 1 ∧ (plainN N : Int) = N ∧ N ≤ 255 := by
  unfold I32 at hN
  unfold rightF at h
  dsimp only at h
  unfold plainN
  by_cases h0 : insW op = 0
  · rw [if_pos h0] at h; exact absurd h (by decide)
  rw [if_neg h0] at h
  by_cases h4 : insW op = 4
  · left
    refine ⟨h4, ?_⟩
    unfold insW at h4
    repeat' split at h4
    all_goals omega
  rw [if_neg h4] at h
  by_cases h8 : op = 8 ∧ (N < 1 ∨ 2 < N)
  · rw [if_pos h8] at h; exact absurd h (by decide)
  rw [if_neg h8] at h
  by_cases h9 : op = 9 ∧ (N < 1 ∨ 16 < N)
  · rw [if_pos h9] at h; exact absurd h (by decide)
  rw [if_neg h9] at h
  by_cases h2 : insW op = 2 ∧ (N < 0 ∨ 65535 < N)
  · rw [if_pos h2] at h; exact absurd h (by decide)
  rw [if_neg h2] at h
  by_cases h1 : insW op = 1 ∧ (N < 0 ∨ 255 < N)
  · rw [if_pos h1] at h; exact absurd h (by decide)
  have hw := insW_range op
  have h3 : insW op ≠ 3 := by
    unfold insW
    repeat' split
    all_goals omega
  omega

theorem cel1_new (W : World) (c : Array Value) (t : TypeId) {u : Int} (hc : c = #[.int .u8 u]) : CelAt (W.alloc (.cells c t)) (byU [u]) 1 (some ⟨W.heap.size, 0, none⟩) 1 := by
  subst hc
  refine ⟨Nat.le_refl _, by unfold maxLen; omega, rfl, fun _ => ⟨W.heap.size, 0, rfl, fun j u hj => ?_⟩⟩
  rw [Nat.zero_add, cell_new]
  simpa [byU] using hj
set_option maxHeartbeats 1000000 in
theorem ibytes_any (op N : Int) (w : World) (h : rightF (op, N) = 0) (hN : I32 N) (hop : 1 ≤ op ∧ op ≤ 11) :
    Calls Tryd.prog 54 #[.agg #[.int .i64 op, .int .i32 N]] w (BytesR w (insB1 (op, N))) := by
  have hright := fun w => iright_any op N w
  unfold RightC at hright
  rw [h] at hright
  have hcv : IntKind.u8.wrap op = op := by
    simp [IntKind.wrap, IntKind.bits, IntKind.signed]; omega
  have hpl := plainN_lt N
  have hcv2 : IntKind.u64.wrap ((plainN N : Nat) : Int) = ((plainN N : Nat) : Int) := by
    simp [IntKind.wrap, IntKind.bits, IntKind.signed]; omega
  have hput : ∀ (g : Nat) (W : World), CelAt W (byU [op]) 1 (some ⟨g, 0, none⟩) 1 → Calls Tryd.prog 37 #[.slice (some ⟨g, 0, none⟩) 1 1, .int .i64 (insW op), .int .u64 (plainN N : Nat)] W (BytesR W (insB1 (op, N))) := by
    intro g W hc
    unfold insB1
    rcases right_num h hN with ⟨h1, _⟩ | ⟨h1, h2, h3⟩ | ⟨h1, h2, h3⟩
    · dsimp only
      rw [h1]
      exact oput4_any [op] (some ⟨g, 0, none⟩) 1 (plainN N) W hc (by simp) (by omega)
    · dsimp only
      rw [h1]
      exact oput2_any [op] (some ⟨g, 0, none⟩) 1 (plainN N) W hc (by simp) (by omega)
    · dsimp only
      rw [h1]
      exact oput1_any [op] (some ⟨g, 0, none⟩) 1 (plainN N) W hc (by simp) (by omega)
  have HPUT := Lib.hid hput
  have hform := fun W => iform_any op W
  have hplain := fun W => oplain_any N W
  generalize insB1 (op, N) = bs at *
  clear h hN hput
  unfold BytesR
  go_enter Tryd.func54, Tryd.ntmps54
  go_wp2_with (first | (go_at_call 33; refine (hright _).mono ?_; rintro r w1 ⟨rfl, hb1⟩; have hc1 := bcell hb1; have hz1 := hb1.size; (try simp at hz1); (try have hy1 := lt0 w w1); (try have hy2 := ltA w 1 w1); (try have hy3 := ltA w 2 w1); (try have hy4 := lt0 wr w1); (try have hy5 := ltA wr 1 w1)))
  refine wp_name fun W0 hW0 => ?_
  have q0 : W0.cell? ⟨w.heap.size, 0, none⟩ = some (.int .i64 op) := by rw [hW0]; go_simp
  have q1 : W0.cell? ⟨w.heap.size, 1, none⟩ = some (.int .i32 N) := by rw [hW0]; go_simp
  have hbw : Below w.heap.size w W0 := by rw [hW0]; exact belA
  have hz := hbw.size
  have hzl := block_lt_of_cell q0
  clear hW0
  have hS : ∀ w', Below W0.heap.size W0 w' → w'.cell? ⟨w.heap.size, 0, none⟩ = some (.int .i64 op) ∧ w'.cell? ⟨w.heap.size, 1, none⟩ = some (.int .i32 N) := fun w' hb => ⟨bel_cell hb q0, bel_cell hb q1⟩
  have HS := Lib.hid hS
  have hS0 := hS W0.drew (bel_drew (Below.refl _ _))
  have hd0 : Below W0.heap.size W0 W0.drew := bel_drew (Below.refl _ _)
  have hds : W0.drew.heap.size = W0.heap.size := rfl
  clear hS q0 q1 hzl
  refine wp_region_ht (fun w' => w'.cell? ⟨w.heap.size, 0, none⟩ = some (.int .i64 op) ∧ w'.cell? ⟨w.heap.size, 1, none⟩ = some (.int .i32 N)) 14 2 (by kernel_rfl) (by rfl) ?_
  simp only [List.size_toArray, List.length_cons, List.length_nil, Nat.zero_add, Nat.reduceAdd]
  refine takeA (v := ?_) 0 hS0 ?_ ?_
  rotate_left
  · intro w' hSw
    go_simp
    first | done | with_reducible rfl
  try simp only [Act.put, List.setIfInBounds_toArray, List.set_cons_zero, List.set_cons_succ]
  refine takeA (v := ?_) 1 hS0 ?_ ?_
  rotate_left
  · intro w' hSw
    go_simp
    first | done | with_reducible rfl
  try simp only [Act.put, List.setIfInBounds_toArray, List.set_cons_zero, List.set_cons_succ]
  refine takeA (v := ?_) 2 hS0 ?_ ?_
  rotate_left
  · intro w' hSw
    go_simp
    first | done | with_reducible rfl
  try simp only [Act.put, List.setIfInBounds_toArray, List.set_cons_zero, List.set_cons_succ]
  refine takeA (v := ?_) 4 hS0 ?_ ?_
  rotate_left
  · intro w' hSw
    go_simp
    first | done | with_reducible rfl
  try simp only [Act.put, List.setIfInBounds_toArray, List.set_cons_zero, List.set_cons_succ]
  refine takeA (v := ?_) 5 hS0 ?_ ?_
  rotate_left
  · intro w' hSw
    go_simp
    first | done | with_reducible rfl
  try simp only [Act.put, List.setIfInBounds_toArray, List.set_cons_zero, List.set_cons_succ]
  refine takeA (v := ?_) 7 hS0 ?_ ?_
  rotate_left
  · intro w' hSw
    go_simp
    first | done | with_reducible rfl
  try simp only [Act.put, List.setIfInBounds_toArray, List.set_cons_zero, List.set_cons_succ]
  refine takeA (v := ?_) 8 hS0 ?_ ?_
  rotate_left
  · intro w' hSw
    go_simp
    first | done | with_reducible rfl
  try simp only [Act.put, List.setIfInBounds_toArray, List.set_cons_zero, List.set_cons_succ]
  refine wpHT_two (i := 3) (j := 6) (by kernel_rfl) (by simp only [List.getElem?_toArray, List.getElem?_cons_succ, List.getElem?_cons_zero]; rfl) (by simp only [List.getElem?_toArray, List.getElem?_cons_succ, List.getElem?_cons_zero]; rfl) rfl rfl ?_ ?_
  · refine oper_wp_K fun K hK => ?_
    go_simp
    refine hK _ _ ⟨HS.out _ (bel_drew (bel_alloc (Below.refl _ _) _)), ?_⟩
    clear hK K
    try simp only [Act.put, List.setIfInBounds_toArray, List.set_cons_zero, List.set_cons_succ]
    refine oneA 6 ?_
    refine oper_wp_K fun K hK => ?_
    go_simp
    refine (hform _).mono ?_
    rintro r wf ⟨rfl, hbf⟩
    dsimp only
    have hB1 : Below W0.heap.size W0 wf := bel_trans (bel_drew (bel_alloc (Below.refl _ _) _)) hbf
    refine hK _ _ ⟨HS.out wf hB1, ?_⟩
    clear hK K
    try simp only [Act.put, List.setIfInBounds_toArray, List.set_cons_zero, List.set_cons_succ]
    have hcel : CelAt wf (byU [op]) 1 (some ⟨W0.heap.size, 0, none⟩) 1 := ((cel1_new W0 #[.int .u8 op] 5 rfl).later (bel_drew (Below.refl _ _))).later hbf
    refine oneA 9 ?_
    refine oper_wp_K fun K hK => ?_
    go_simp
    refine (hplain _).mono ?_
    rintro r wp ⟨rfl, hwp⟩
    dsimp only
    subst hwp
    refine hK _ _ ⟨HS.out _ hB1, ?_⟩
    clear hK K
    try simp only [Act.put, List.setIfInBounds_toArray, List.set_cons_zero, List.set_cons_succ]
    have hS1 := HS.out _ hB1
    refine takeA (v := ?_) 10 hS1 ?_ ?_
    rotate_left
    · intro w' hSw
      go_simp
      first | done | with_reducible rfl
    try simp only [Act.put, List.setIfInBounds_toArray, List.set_cons_zero, List.set_cons_succ]
    refine oneA 11 ?_
    refine oper_wp_K fun K hK => ?_
    go_simp
    refine (HPUT.out _ _ hcel).mono ?_
    rintro r wz ⟨⟨v, rfl, hown⟩, hbz⟩
    dsimp only
    have hB2 : Below W0.heap.size W0 wz := bel_trans hB1 hbz
    refine hK _ _ ⟨HS.out wz hB2, ?_⟩
    clear hK K
    try simp only [Act.put, List.setIfInBounds_toArray, List.set_cons_zero, List.set_cons_succ]
    have hzz := hB1.size
    have hS2 := HS.out wz hB2
    refine takeA (v := ?_) 12 hS2 ?_ ?_
    rotate_left
    · intro w' hSw
      go_simp
      first | done | with_reducible rfl
    try simp only [Act.put, List.setIfInBounds_toArray, List.set_cons_zero, List.set_cons_succ]
    refine takeA (v := ?_) 13 hS2 ?_ ?_
    rotate_left
    · intro w' hSw
      go_simp
      first | done | with_reducible rfl
    try simp only [Act.put, List.setIfInBounds_toArray, List.set_cons_zero, List.set_cons_succ]
    refine wpHT_done (by kernel_rfl) ?_
    refine anyA 14 ?_
    refine oper_wp_K fun K hK => ?_
    go_simp
    refine hK _ _ ?_
    clear hK K
    try simp only [Act.put, List.setIfInBounds_toArray, List.set_cons_zero, List.set_cons_succ]
    refine anyA 15 ?_
    refine oper_wp_K fun K hK => ?_
    go_simp
    refine hK _ _ ?_
    clear hK K
    try simp only [Act.put, List.setIfInBounds_toArray, List.set_cons_zero, List.set_cons_succ]
    refine wpAny_end (by kernel_rfl) ?_
    have hbE : Below w.heap.size w wz := bel_trans hbw hB2
    have hownE := own_less hown (show w.heap.size ≤ _ by first | omega | (simp; omega))
    clear hS0 hS1 hS2 HPUT
    go_wp2_with fail
    go_ret2
    exact ⟨⟨_, rfl, hownE⟩, hbE⟩
  · refine oper_wp_K fun K hK => ?_
    go_simp
    refine (hform _).mono ?_
    rintro r wf ⟨rfl, hbf⟩
    dsimp only
    have hB1 : Below W0.heap.size W0 wf := bel_trans hd0 hbf
    refine hK _ _ ⟨HS.out wf hB1, ?_⟩
    clear hK K
    try simp only [Act.put, List.setIfInBounds_toArray, List.set_cons_zero, List.set_cons_succ]
    have hS1 := HS.out _ hB1
    have hzz := hB1.size
    refine wpHT_two (i := 3) (j := 9) (by kernel_rfl) (by simp only [List.getElem?_toArray, List.getElem?_cons_succ, List.getElem?_cons_zero]; rfl) (by simp only [List.getElem?_toArray, List.getElem?_cons_succ, List.getElem?_cons_zero]; rfl) rfl rfl ?_ ?_
    · refine oper_wp_K fun K hK => ?_
      go_simp
      refine hK _ _ ⟨HS.out _ (bel_alloc hB1 _), ?_⟩
      clear hK K
      try simp only [Act.put, List.setIfInBounds_toArray, List.set_cons_zero, List.set_cons_succ]
      refine oneA 9 ?_
      refine oper_wp_K fun K hK => ?_
      go_simp
      refine (hplain _).mono ?_
      rintro r wp ⟨rfl, hwp⟩
      dsimp only
      subst hwp
      refine hK _ _ ⟨HS.out _ (bel_alloc hB1 _), ?_⟩
      clear hK K
      try simp only [Act.put, List.setIfInBounds_toArray, List.set_cons_zero, List.set_cons_succ]
      refine takeA (v := ?_) 10 (HS.out _ (bel_alloc hB1 _)) ?_ ?_
      rotate_left
      · intro w' hSw
        go_simp
        first | done | with_reducible rfl
      try simp only [Act.put, List.setIfInBounds_toArray, List.set_cons_zero, List.set_cons_succ]
      refine oneA 11 ?_
      refine oper_wp_K fun K hK => ?_
      go_simp
      refine (HPUT.out _ _ (cel1_new _ _ _ rfl)).mono ?_
      rintro r wz ⟨⟨v, rfl, hown⟩, hbz⟩
      dsimp only
      have hB2 : Below W0.heap.size W0 wz := bel_trans (bel_alloc hB1 _) hbz
      refine hK _ _ ⟨HS.out wz hB2, ?_⟩
      clear hK K
      try simp only [Act.put, List.setIfInBounds_toArray, List.set_cons_zero, List.set_cons_succ]
      have hS2 := HS.out wz hB2
      refine takeA (v := ?_) 12 hS2 ?_ ?_
      rotate_left
      · intro w' hSw
        go_simp
        first | done | with_reducible rfl
      try simp only [Act.put, List.setIfInBounds_toArray, List.set_cons_zero, List.set_cons_succ]
      refine takeA (v := ?_) 13 hS2 ?_ ?_
      rotate_left
      · intro w' hSw
        go_simp
        first | done | with_reducible rfl
      try simp only [Act.put, List.setIfInBounds_toArray, List.set_cons_zero, List.set_cons_succ]
      refine wpHT_done (by kernel_rfl) ?_
      refine anyA 14 ?_
      refine oper_wp_K fun K hK => ?_
      go_simp
      refine hK _ _ ?_
      clear hK K
      try simp only [Act.put, List.setIfInBounds_toArray, List.set_cons_zero, List.set_cons_succ]
      refine anyA 15 ?_
      refine oper_wp_K fun K hK => ?_
      go_simp
      refine hK _ _ ?_
      clear hK K
      try simp only [Act.put, List.setIfInBounds_toArray, List.set_cons_zero, List.set_cons_succ]
      refine wpAny_end (by kernel_rfl) ?_
      have hbE : Below w.heap.size w wz := bel_trans hbw hB2
      have hownE := own_less hown (show w.heap.size ≤ _ by first | omega | (simp; omega))
      clear hS0 hS1 hS2 HPUT
      go_wp2_with fail
      go_ret2
      exact ⟨⟨_, rfl, hownE⟩, hbE⟩
    · refine oper_wp_K fun K hK => ?_
      go_simp
      refine (hplain _).mono ?_
      rintro r wp ⟨rfl, hwp⟩
      dsimp only
      subst hwp
      refine hK _ _ ⟨HS.out _ hB1, ?_⟩
      clear hK K
      try simp only [Act.put, List.setIfInBounds_toArray, List.set_cons_zero, List.set_cons_succ]
      refine takeA (v := ?_) 10 hS1 ?_ ?_
      rotate_left
      · intro w' hSw
        go_simp
        first | done | with_reducible rfl
      try simp only [Act.put, List.setIfInBounds_toArray, List.set_cons_zero, List.set_cons_succ]
      refine oneA 3 ?_
      refine oper_wp_K fun K hK => ?_
      go_simp
      refine hK _ _ ⟨HS.out _ (bel_alloc hB1 _), ?_⟩
      clear hK K
      try simp only [Act.put, List.setIfInBounds_toArray, List.set_cons_zero, List.set_cons_succ]
      refine oneA 11 ?_
      refine oper_wp_K fun K hK => ?_
      go_simp
      refine (HPUT.out _ _ (cel1_new _ _ _ rfl)).mono ?_
      rintro r wz ⟨⟨v, rfl, hown⟩, hbz⟩
      dsimp only
      have hB2 : Below W0.heap.size W0 wz := bel_trans (bel_alloc hB1 _) hbz
      refine hK _ _ ⟨HS.out wz hB2, ?_⟩
      clear hK K
      try simp only [Act.put, List.setIfInBounds_toArray, List.set_cons_zero, List.set_cons_succ]
      have hS2 := HS.out wz hB2
      refine takeA (v := ?_) 12 hS2 ?_ ?_
      rotate_left
      · intro w' hSw
        go_simp
        first | done | with_reducible rfl
      try simp only [Act.put, List.setIfInBounds_toArray, List.set_cons_zero, List.set_cons_succ]
      refine takeA (v := ?_) 13 hS2 ?_ ?_
      rotate_left
      · intro w' hSw
        go_simp
        first | done | with_reducible rfl
      try simp only [Act.put, List.setIfInBounds_toArray, List.set_cons_zero, List.set_cons_succ]
      refine wpHT_done (by kernel_rfl) ?_
      refine anyA 14 ?_
      refine oper_wp_K fun K hK => ?_
      go_simp
      refine hK _ _ ?_
      clear hK K
      try simp only [Act.put, List.setIfInBounds_toArray, List.set_cons_zero, List.set_cons_succ]
      refine anyA 15 ?_
      refine oper_wp_K fun K hK => ?_
      go_simp
      refine hK _ _ ?_
      clear hK K
      try simp only [Act.put, List.setIfInBounds_toArray, List.set_cons_zero, List.set_cons_succ]
      refine wpAny_end (by kernel_rfl) ?_
      have hbE : Below w.heap.size w wz := bel_trans hbw hB2
      have hownE := own_less hown (show w.heap.size ≤ _ by first | omega | (simp; omega))
      clear hS0 hS1 hS2 HPUT
      go_wp2_with fail
      go_ret2
      exact ⟨⟨_, rfl, hownE⟩, hbE⟩
end Go.Proofs.YtknfcamdfdfoeaaDoor
