/- Two faults that are alike. -/
import Derived.Test.YtikmbkojnfmiaaaGreatDoorRRRRBH
import Derived.Test.YtikmbkojnfmiaaaGreatDoorRRRRWOrd11
import Derived.Test.YtikmbkojnfmiaaaGreatDoorRRRRBG
import Derived.Test.YtikmbkojnfmiaaaGreatDoorRRRRBF
set_option linter.unusedVariables false
set_option linter.unusedSimpArgs false
set_option maxRecDepth 100000
namespace Go.Proofs.YtikmbkojnfmiaaaGreatDoorRRRR
open Go.RowKit Go.Sort

theorem eqFaultSelf16 (a b c : Int) (w : World) : (Op.equalIn 10000 31 (.agg #[.int .i64 a, .int .i64 b, .int .i64 c]) (.agg #[.int .i64 a, .int .i64 b, .int .i64 c])).run Tryz.prog w = .ok true w := by
  have hS : Tryz.prog.underlying 31 = some (.struct (Tryz.prog.fieldsOf 31)) := by kernel_rfl
  have hp : Tryz.prog.stoodInHeld 31 = false := by kernel_rfl
  rw [show (10000 : Nat) = 9999 + 1 from rfl, run_equalIn_agg w 9999 31 _ _ hS hp]
  simp only [Program.fieldsOf, Tryz.underlying31]
  go_simp
end Go.Proofs.YtikmbkojnfmiaaaGreatDoorRRRR

/- Both Orders of any program; Needs of any expression; what the laws ask: the clock of a name, and whether a name is ready. -/
namespace Go.Proofs.YtikmbkojnfmiaaaGreatDoorRRRR
open Go.RowKit Go.Sort

theorem order_any (p : Pr) (a : PrA) (w : World) (hg : Always w) (hp : PrAt w p a) (hok : PrOK p) (n1 : p.ins.length ≤ 1000000) (n2 : p.outs.length ≤ 1000000) (n3 : p.locals.length ≤ 1000000) (n4 : p.eqs.length ≤ 1000000) :
    Calls Tryz.prog 25 #[prV p a] w fun r w' => (∃ v, r = .returned (.tuple #[v, fV (orderE p).2]) ∧ w'.ownsRow w.heap.size 3 1 v (orderE p).1.length ((orderE p).1.map (.int .i64))) ∧ Below w.heap.size w w' := by
  by_cases hck : clkF p = (0, 0, 0)
  · have h := order_clean p a w hg hp hok n1 n2 n3 n4 hck
    rw [show orderE p = orderP p by unfold orderE; rw [if_pos hck, order_same hck]]
    exact h
  · refine (order_fault p a w hg hp n1 n2 n3 n4 hck).mono ?_
    rintro r w' ⟨rfl, hb⟩
    rw [show orderE p = ([], clkF p) by unfold orderE; rw [if_neg hck]]
    exact ⟨⟨.slice none 0 0, rfl, World.ownsRow_nil _ _ _ _⟩, hb⟩
theorem rorder_any (p : Pr) (a : PrA) (w : World) (hp : PrAt w p a) (hok : PrOK p) (n1 : p.ins.length ≤ 1000000) (n2 : p.outs.length ≤ 1000000) (n3 : p.locals.length ≤ 1000000) (n4 : p.eqs.length ≤ 1000000) :
    Calls Tryz.prog 26 #[prV p a] w fun r w' => (∃ v, r = .returned (.tuple #[v, fV (orderE p).2]) ∧ w'.ownsRow w.heap.size 3 1 v (orderE p).1.length ((orderE p).1.map (.int .i64))) ∧ Below w.heap.size w w' := by
  by_cases hck : clkF p = (0, 0, 0)
  · have h := rorder_clean p a w hp hok n1 n2 n3 n4 hck
    rw [show orderE p = orderR p by unfold orderE; rw [if_pos hck]]
    exact h
  · refine (rorder_fault p a w hp hok n1 n2 n3 n4 hck).mono ?_
    rintro r w' ⟨rfl, hb⟩
    rw [show orderE p = ([], clkF p) by unfold orderE; rw [if_neg hck]]
    exact ⟨⟨.slice none 0 0, rfl, World.ownsRow_nil _ _ _ _⟩, hb⟩

theorem needsF_big {e : Ex} (h : 400 ≤ e.count 400) : needsF e = [] := by
  unfold needsF
  rw [if_pos]
  by_cases hc : e.count 121 < 121
  · have h1 := Ex.count_size e 121 hc
    have h2 := count_le e 400
    omega
  · omega
set_option maxHeartbeats 1000000 in
theorem needs_all (e : Ex) (A : Option Addr) (cap : Nat) (w : World) (he : SubsAt w e A cap) (hok : e.OK) :
    Calls Tryz.prog 36 #[exV e A cap] w fun r w' => (∃ v, r = .returned v ∧ w'.ownsRow w.heap.size 9 1 v (needsF e).length ((needsF e).map .string)) ∧ Below w.heap.size w w' := by
  by_cases hc : e.count 121 < 121
  · have h1 := Ex.count_size e 121 hc
    exact needs_any e A cap w he hok (by omega)
  · have hsize := fun W h => size16_any e A cap 121 W (he.later h) (by omega) (by omega)
    have hv : needsF e = [] := by unfold needsF; rw [if_pos (by omega)]
    generalize e.count 121 = c at *
    have hc2 : 120 < c := by omega
    unfold exV at *
    have HV := Lib.hid hv; clear hv
    go_enter Tryz.func36, Tryz.ntmps36
    go_wp2_with (first | (go_at_call 46; refine (hsize _ belA).mono ?_; rintro r w1 ⟨rfl, hb1⟩; have hc1 := bcell hb1; have hz1 := hb1.size; (try simp at hz1); (try have hy1 := lt0 w w1); (try have hy2 := ltA w 1 w1); (try have hy3 := ltA w 2 w1); (try have hy4 := lt0 wr w1); (try have hy5 := ltA wr 1 w1)))
    go_ret
    exact ⟨⟨_, rfl, by rw [HV.out]; exact World.ownsRow_nil _ _ _ _⟩, belA⟩

/-- The name of the clock of the variable of a name. -/
def clockN (L : List Va) (s : ByteArray) : ByteArray := match findC L s with | some v => v.cn | none => ⟨#[]⟩
theorem needC_eq (L : List Va) (q : Qe) : needC L q = if (clockN L q.name).toList.isEmpty = true then needsF q.e else needsF q.e ++ [clockN L q.name] := by
  unfold needC clockN
  cases findC L q.name with
  | none => simp
  | some v => rfl
theorem delaysE_cons (q : Qe) (r : List Qe) : delaysE (q :: r) = if (q.delay != 0) = true then q.name :: delaysE r else delaysE r := by
  unfold delaysE
  rw [List.filter_cons]
  split <;> simp [*]
theorem hasB_app (a b : List ByteArray) (s : ByteArray) : hasB (a ++ b) s = (hasB a s || hasB b s) := by unfold hasB; rw [List.any_append]
theorem IntsAt.take {w : World} {l : List Int} {A : Option Addr} {cap : Nat} (h : IntsAt w l A cap) (k : Nat) : IntsAt w (l.take k) A cap :=
  ⟨by have := h.1; simp; omega, h.2.1, fun hl => by
    obtain ⟨b, off, hA, hr⟩ := h.2.2 (by simp at hl; omega)
    exact ⟨b, off, hA, fun j x hj => hr j x (by rw [List.getElem?_take] at hj; split at hj <;> simp_all)⟩⟩

end Go.Proofs.YtikmbkojnfmiaaaGreatDoorRRRR

/- Walk over the law's fixed calls (known) of the order. -/
namespace Go.Proofs.YtikmbkojnfmiaaaGreatDoorRRRR
open Go.RowKit Go.Sort

def zE : Ex := .mk 0 0 ⟨#[]⟩ []
def vK (s : ByteArray) : Va := ⟨s, 1, 0, ⟨#[]⟩⟩
def eK (s : ByteArray) : Ex := .mk 3 0 s []
/-- The fixed program; s: what its second equation names. -/
def pK (s : ByteArray) : Pr := ⟨⟨#[102]⟩, [vK ⟨#[120]⟩], [vK ⟨#[121]⟩], [vK ⟨#[97]⟩], [⟨⟨#[121]⟩, 0, zE, eK ⟨#[97]⟩⟩, ⟨⟨#[97]⟩, 0, zE, eK s⟩]⟩
theorem known16a : orderE (pK ⟨#[120]⟩) = ([1, 0], (0, 0, 0)) := by decide +kernel
theorem known16b : orderE (pK ⟨#[97]⟩) = ([], (3, 0, 22)) := by decide +kernel
theorem known16c : needsF (eK ⟨#[120]⟩) = [⟨#[120]⟩] := by decide +kernel
theorem ok_ex (k : Int) (s : ByteArray) (hk : I64 k) (hs : s.size ≤ maxLen) : (Ex.mk k 0 s []).OK := by
  unfold Ex.OK
  exact ⟨hk, by unfold I32; omega, hs, by unfold Ex.OKL; trivial⟩
theorem ok_known (s : ByteArray) (hs : s.size ≤ maxLen) : PrOK (pK s) := by
  have h1 : ∀ c, (⟨#[c]⟩ : ByteArray).size ≤ maxLen := fun c => by unfold maxLen; show 1 ≤ _; omega
  have h0 : (⟨#[]⟩ : ByteArray).size ≤ maxLen := by unfold maxLen; show 0 ≤ _; omega
  have i0 : I64 0 := by unfold I64; omega
  have i1 : I64 1 := by unfold I64; omega
  have i3 : I64 3 := by unfold I64; omega
  have hv : ∀ c, VaOK (vK ⟨#[c]⟩) := fun c => ⟨h1 c, i1, i0, h0⟩
  refine ⟨h1 _, fun v hv' => ?_, fun v hv' => ?_, fun v hv' => ?_, fun q hq => ?_⟩
  · obtain rfl : v = vK ⟨#[120]⟩ := by simpa [pK] using hv'
    exact hv _
  · obtain rfl : v = vK ⟨#[121]⟩ := by simpa [pK] using hv'
    exact hv _
  · obtain rfl : v = vK ⟨#[97]⟩ := by simpa [pK] using hv'
    exact hv _
  · have : q = ⟨⟨#[121]⟩, 0, zE, eK ⟨#[97]⟩⟩ ∨ q = ⟨⟨#[97]⟩, 0, zE, eK s⟩ := by simpa [pK] using hq
    rcases this with rfl | rfl
    · exact ⟨h1 _, i0, ok_ex _ _ i0 h0, ok_ex _ _ i3 (h1 _)⟩
    · exact ⟨h1 _, i0, ok_ex _ _ i0 h0, ok_ex _ _ i3 hs⟩
theorem vars_one {W : World} {b : Nat} {s : ByteArray} (c0 : W.cell? ⟨b, 0, none⟩ = some (.string s)) (c1 : W.cell? ⟨b, 1, none⟩ = some (.int .i64 1)) (c2 : W.cell? ⟨b, 2, none⟩ = some (.int .i64 0)) (c3 : W.cell? ⟨b, 3, none⟩ = some (.string ⟨#[]⟩)) : VarsAt W [vK s] (some ⟨b, 0, none⟩) 1 := by
  refine ⟨Nat.le_refl _, by unfold maxLen; omega, fun _ => ⟨b, 0, rfl, fun k v hk => ?_⟩⟩
  match k with
  | 0 => obtain rfl : vK s = v := by simpa using hk
         exact ⟨c0, c1, c2, c3⟩
  | k + 1 => simp at hk
theorem eqs_two {W : World} {b : Nat} {s : ByteArray} (c0 : W.cell? ⟨b, 0, none⟩ = some (.string ⟨#[121]⟩)) (c1 : W.cell? ⟨b, 1, none⟩ = some (.int .i64 0)) (c2 : W.cell? ⟨b, 2, none⟩ = some (.int .i64 0)) (c3 : W.cell? ⟨b, 3, none⟩ = some (.int .i32 0)) (c4 : W.cell? ⟨b, 4, none⟩ = some (.string ⟨#[]⟩)) (c5 : W.cell? ⟨b, 5, none⟩ = some (.slice none 0 0))
    (c6 : W.cell? ⟨b, 6, none⟩ = some (.int .i64 3)) (c7 : W.cell? ⟨b, 7, none⟩ = some (.int .i32 0)) (c8 : W.cell? ⟨b, 8, none⟩ = some (.string ⟨#[97]⟩)) (c9 : W.cell? ⟨b, 9, none⟩ = some (.slice none 0 0))
    (d0 : W.cell? ⟨b, 10, none⟩ = some (.string ⟨#[97]⟩)) (d1 : W.cell? ⟨b, 11, none⟩ = some (.int .i64 0)) (d2 : W.cell? ⟨b, 12, none⟩ = some (.int .i64 0)) (d3 : W.cell? ⟨b, 13, none⟩ = some (.int .i32 0)) (d4 : W.cell? ⟨b, 14, none⟩ = some (.string ⟨#[]⟩)) (d5 : W.cell? ⟨b, 15, none⟩ = some (.slice none 0 0))
    (d6 : W.cell? ⟨b, 16, none⟩ = some (.int .i64 3)) (d7 : W.cell? ⟨b, 17, none⟩ = some (.int .i32 0)) (d8 : W.cell? ⟨b, 18, none⟩ = some (.string s)) (d9 : W.cell? ⟨b, 19, none⟩ = some (.slice none 0 0)) :
    EqsAt W [⟨⟨#[121]⟩, 0, zE, eK ⟨#[97]⟩⟩, ⟨⟨#[97]⟩, 0, zE, eK s⟩] (some ⟨b, 0, none⟩) 2 := by
  refine ⟨Nat.le_refl _, by unfold maxLen; omega, fun _ => ⟨b, 0, rfl, fun k q hk => ?_⟩⟩
  match k with
  | 0 => obtain rfl : (⟨⟨#[121]⟩, 0, zE, eK ⟨#[97]⟩⟩ : Qe) = q := by simpa using hk
         exact ⟨none, 0, none, 0, c0, c1, c2, c3, c4, c5, c6, c7, c8, c9, subs_nil _ _ _ _, subs_nil _ _ _ _⟩
  | 1 => obtain rfl : (⟨⟨#[97]⟩, 0, zE, eK s⟩ : Qe) = q := by simpa using hk
         exact ⟨none, 0, none, 0, d0, d1, d2, d3, d4, d5, d6, d7, d8, d9, subs_nil _ _ _ _, subs_nil _ _ _ _⟩
  | k + 2 => simp at hk

theorem ints_two {W : World} {b c : Nat} (h1 : 2 ≤ c) (h2 : c ≤ maxLen) (c0 : W.cell? ⟨b, 0, none⟩ = some (.int .i64 1)) (c1 : W.cell? ⟨b, 1, none⟩ = some (.int .i64 0)) : IntsAt W [1, 0] (some ⟨b, 0, none⟩) c := by
  refine ⟨h1, h2, fun _ => ⟨b, 0, rfl, fun k x hk => ?_⟩⟩
  match k with
  | 0 => obtain rfl : 1 = x := by simpa using hk
         exact c0
  | 1 => obtain rfl : 0 = x := by simpa using hk
         exact c1
  | k + 2 => simp at hk

end Go.Proofs.YtikmbkojnfmiaaaGreatDoorRRRR
