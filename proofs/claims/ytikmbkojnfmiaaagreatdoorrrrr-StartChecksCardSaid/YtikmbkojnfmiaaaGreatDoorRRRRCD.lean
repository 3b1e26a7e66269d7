/- start's and the reference's Loose, start's Check, of any program. -/
import Derived.Test.YtikmbkojnfmiaaaGreatDoorRRRRCB
import Derived.Test.YtikmbkojnfmiaaaGreatDoorRRRRWSta8
import Derived.Test.YtikmbkojnfmiaaaGreatDoorRRRRBU
set_option linter.unusedVariables false
set_option linter.unusedSimpArgs false
set_option maxRecDepth 100000
namespace Go.Proofs.YtikmbkojnfmiaaaGreatDoorRRRR
open Go.RowKit Go.Sort

/-- A slice of truths. -/
def BoolsAt (w : World) (l : List Bool) (A : Option Addr) (cap : Nat) : Prop :=
  l.length ≤ cap ∧ cap ≤ maxLen ∧ (0 < l.length → ∃ b off, A = some ⟨b, off, none⟩ ∧ ∀ (k : Nat) (x : Bool), l[k]? = some x → w.cell? ⟨b, off + k, none⟩ = some (.bool x))
theorem BoolsAt.later {w w' : World} {l : List Bool} {A : Option Addr} {cap : Nat} (h : BoolsAt w l A cap) (hb : Below w.heap.size w w') : BoolsAt w' l A cap :=
  ⟨h.1, h.2.1, fun hl => by
    obtain ⟨b, off, hA, hr⟩ := h.2.2 hl
    exact ⟨b, off, hA, fun k s hk => bel_cell hb (hr k s hk)⟩⟩
theorem BoolsAt.drewN {w : World} {l : List Bool} {A : Option Addr} {cap : Nat} (h : BoolsAt w l A cap) (n : Nat) : BoolsAt (w.drewN n) l A cap := h.later (bel_drewN (Below.refl _ _) n)
theorem BoolsAt.get {w : World} {l : List Bool} {A : Option Addr} {cap k : Nat} {x : Bool} (h : BoolsAt w l A cap) (hk : l[k]? = some x) : ∃ b off, A = some ⟨b, off, none⟩ ∧ b < w.heap.size ∧ w.cell? ⟨b, off + k, none⟩ = some (.bool x) := by
  have hlt : k < l.length := (List.getElem?_eq_some_iff.1 hk).1
  obtain ⟨b, off, hA, hr⟩ := h.2.2 (by omega)
  exact ⟨b, off, hA, block_lt_of_cell (hr k x hk), hr k x hk⟩
theorem BoolsAt.of_own {w : World} {base : Nat} {e : TypeId} {l : List Bool} {A : Option Addr} {cap : Nat} (h : w.ownsRow base e 1 (.slice A l.length cap) l.length (l.map .bool)) : BoolsAt w l A cap := by
  rcases Nat.eq_zero_or_pos l.length with h0 | h0
  · obtain ⟨A', c', hv, h1, h2⟩ := own_slice h
    injection hv with e1 e2 e3
    subst e3
    exact ⟨h1, h2, fun hl => absurd hl (by omega)⟩
  · obtain ⟨g, c', hv, _, _, h1, h2, hc⟩ := own_get h h0
    injection hv with e1 e2 e3
    subst e1 e3
    refine ⟨h1, h2, fun _ => ⟨g, 0, rfl, fun k s hk => ?_⟩⟩
    rw [Nat.zero_add]
    exact hc k _ (by simp [hk])

theorem orderE_E {p : Pr} (h : (orderE p).2 ≠ (0, 0, 0)) : (orderE p).2.2.2 ≠ 0 := by
  unfold orderE at h ⊢
  by_cases hck : clkF p = (0, 0, 0)
  · rw [if_pos hck] at h ⊢
    rcases orderR_cases (clkF_parts hck).1 with ⟨res, h1, _⟩ | ⟨out, m, q, h1, _⟩
    · rw [h1] at h
      exact absurd rfl h
    · rw [h1]
      show (22 : Int) ≠ 0
      decide
  · rw [if_neg hck]
    exact clk_E hck
theorem loose_any (p : Pr) (a : PrA) (w : World) (hg : Always w) (hp : PrAt w p a) (hok : PrOK p) (n1 : p.ins.length ≤ 1000000) (n2 : p.outs.length ≤ 1000000) (n3 : p.locals.length ≤ 1000000) (n4 : p.eqs.length ≤ 1000000) :
    Calls Tryz.prog 11 #[prV p a] w fun r w' => (∃ v, r = .returned (.tuple #[v, fV (orderE p).2]) ∧ w'.ownsRow w.heap.size 4 1 v (looseV p).length ((looseV p).map .bool)) ∧ Below w.heap.size w w' := by
  by_cases hO : (orderE p).2 = (0, 0, 0)
  · have h := loose_clean p a w hg hp hok n1 n2 n3 n4 hO
    rw [hO]
    exact h
  · refine (loose_fault p a w hg hp hok n1 n2 n3 n4 hO).mono ?_
    rintro r w' ⟨rfl, hb⟩
    rw [show looseV p = [] by unfold looseV; rw [if_neg hO]]
    exact ⟨⟨.slice none 0 0, rfl, World.ownsRow_nil _ _ _ _⟩, hb⟩
theorem scheck_any (p : Pr) (a : PrA) (w : World) (hg : Always w) (hp : PrAt w p a) (hok : PrOK p) (n1 : p.ins.length ≤ 1000000) (n2 : p.outs.length ≤ 1000000) (n3 : p.locals.length ≤ 1000000) (n4 : p.eqs.length ≤ 1000000) :
    Calls Tryz.prog 7 #[prV p a] w fun r w' => r = .returned (fV (startF p)) ∧ Below w.heap.size w w' := by
  by_cases hO : (orderE p).2 = (0, 0, 0)
  · exact scheck_clean p a w hg hp hok n1 n2 n3 n4 hO
  · have h := scheck_fault p a w hg hp hok n1 n2 n3 n4 hO
    rw [show startF p = (orderE p).2 by unfold startF; rw [if_neg hO]]
    exact h
end Go.Proofs.YtikmbkojnfmiaaaGreatDoorRRRR

/- Walk over the law's fixed calls (known) of the start. -/
namespace Go.Proofs.YtikmbkojnfmiaaaGreatDoorRRRR
open Go.RowKit Go.Sort

/-- The fixed program; e: what its equation says. -/
def pN (e : Ex) : Pr := ⟨⟨#[102]⟩, [], [], [vK ⟨#[110]⟩], [⟨⟨#[110]⟩, 2, zE, e⟩]⟩
def nE : Ex := .mk 1 0 ⟨#[]⟩ []
theorem known17a : (orderE (pN nE)).2 = (0, 0, 0) := by decide +kernel
theorem known17b : looseV (pN nE) = [true] := by decide +kernel
theorem known17c : startF (pN nE) = (0, 0, 0) := by decide +kernel
theorem known17d : startF (pN (eK ⟨#[110]⟩)) = (3, 0, 23) := by decide +kernel
theorem ok_known17 (e : Ex) (he : e.OK) : PrOK (pN e) := by
  have h1 : ∀ c, (⟨#[c]⟩ : ByteArray).size ≤ maxLen := fun c => by unfold maxLen; show 1 ≤ _; omega
  have h0 : (⟨#[]⟩ : ByteArray).size ≤ maxLen := by unfold maxLen; show 0 ≤ _; omega
  have i0 : I64 0 := by unfold I64; omega
  have i1 : I64 1 := by unfold I64; omega
  have i2 : I64 2 := by unfold I64; omega
  refine ⟨h1 _, fun v hv' => by simp [pN] at hv', fun v hv' => by simp [pN] at hv', fun v hv' => ?_, fun q hq => ?_⟩
  · obtain rfl : v = vK ⟨#[110]⟩ := by simpa [pN] using hv'
    exact ⟨h1 _, i1, i0, h0⟩
  · obtain rfl : q = ⟨⟨#[110]⟩, 2, zE, e⟩ := by simpa [pN] using hq
    exact ⟨h1 _, i2, ok_ex _ _ i0 h0, he⟩
theorem eqs_one {W : World} {b : Nat} {k : Int} {s : ByteArray} (c0 : W.cell? ⟨b, 0, none⟩ = some (.string ⟨#[110]⟩)) (c1 : W.cell? ⟨b, 1, none⟩ = some (.int .i64 2)) (c2 : W.cell? ⟨b, 2, none⟩ = some (.int .i64 0)) (c3 : W.cell? ⟨b, 3, none⟩ = some (.int .i32 0)) (c4 : W.cell? ⟨b, 4, none⟩ = some (.string ⟨#[]⟩)) (c5 : W.cell? ⟨b, 5, none⟩ = some (.slice none 0 0)) (c6 : W.cell? ⟨b, 6, none⟩ = some (.int .i64 k)) (c7 : W.cell? ⟨b, 7, none⟩ = some (.int .i32 0)) (c8 : W.cell? ⟨b, 8, none⟩ = some (.string s)) (c9 : W.cell? ⟨b, 9, none⟩ = some (.slice none 0 0)) : EqsAt W [⟨⟨#[110]⟩, 2, zE, .mk k 0 s []⟩] (some ⟨b, 0, none⟩) 1 := by
  refine ⟨Nat.le_refl _, by unfold maxLen; omega, fun _ => ⟨b, 0, rfl, fun j q hj => ?_⟩⟩
  match j with
  | 0 => obtain rfl : (⟨⟨#[110]⟩, 2, zE, .mk k 0 s []⟩ : Qe) = q := by simpa using hj
         exact ⟨none, 0, none, 0, c0, c1, c2, c3, c4, c5, c6, c7, c8, c9, subs_nil _ _ _ _, subs_nil _ _ _ _⟩
  | j + 1 => simp at hj

set_option maxHeartbeats 4000000 in
theorem known17_any (w : World) (hg : Always w) : Calls Tryz.prog 5 #[] w fun r w' => r = .returned (.bool true) ∧ Below w.heap.size w w' := by
  have hs0 : (⟨#[]⟩ : ByteArray).size ≤ maxLen := by unfold maxLen; show 0 ≤ _; omega
  have hs1 : (⟨#[110]⟩ : ByteArray).size ≤ maxLen := by unfold maxLen; show 1 ≤ _; omega
  have i1 : I64 1 := by unfold I64; omega
  have i3 : I64 3 := by unfold I64; omega
  have h1 := fun A3 A4 W hg hp => loose_any (pN nE) ⟨none, 0, none, 0, A3, 1, A4, 1⟩ W hg hp (ok_known17 _ (ok_ex _ _ i1 hs0)) (by simp [pN]) (by simp [pN]) (by simp [pN]) (by simp [pN])
  have h2 := fun A3 A4 W hg hp => scheck_any (pN nE) ⟨none, 0, none, 0, A3, 1, A4, 1⟩ W hg hp (ok_known17 _ (ok_ex _ _ i1 hs0)) (by simp [pN]) (by simp [pN]) (by simp [pN]) (by simp [pN])
  have h3 := fun A3 A4 W hg hp => scheck_any (pN (eK ⟨#[110]⟩)) ⟨none, 0, none, 0, A3, 1, A4, 1⟩ W hg hp (ok_known17 _ (ok_ex _ _ i3 hs1)) (by simp [pN]) (by simp [pN]) (by simp [pN]) (by simp [pN])
  rw [known17a, known17b] at h1
  rw [known17c] at h2
  rw [known17d] at h3
  unfold prV fV at h1 h2 h3
  dsimp only [pN, nE, eK, Ex.kind, Ex.n, Ex.name, Ex.sub, List.length_cons, List.length_nil, List.map_cons, List.map_nil] at h1 h2 h3
  have hfq1 := fun w => eqFaultSelf16 0 0 0 w
  have hfq2 := fun w => eqFaultSelf16 3 0 23 w
  have hgm : Tryz.prog.eqGuardType Tryz.prog.depth 31 = false := by kernel_rfl
  clear hs0 hs1 i1 i3
  go_enter Tryz.func5, Tryz.ntmps5
  go_wp2_with (first
    | (go_at_call 11; go_loud (refine (h1 _ _ _ (hg.later belA) ⟨vars_nil _, vars_nil _, vars_one (by go_simp) (by go_simp) (by go_simp) (by go_simp), eqs_one (by go_simp) (by go_simp) (by go_simp) (by go_simp) (by go_simp) (by go_simp) (by go_simp) (by go_simp) (by go_simp) (by go_simp)⟩).mono ?_; rintro r w1 ⟨⟨v1, rfl, hv1⟩, hb1⟩; obtain ⟨g, cg, rfl, hgb, hgl, hgn, hgm2, hgc⟩ := own_get hv1 (by decide); have d0 := hgc 0 (.bool true) rfl; clear hgc hv1; have hc1 := bcell hb1; have hf1 := bfrozen hb1; have hz1 := hb1.size; (try simp at hz1); (simp at hgb); have ya0 : w.heap.size < w1.heap.size := (by omega); have ya1 : w.heap.size + 1 < w1.heap.size := (by omega); have ya2 : w.heap.size + 1 + 1 < w1.heap.size := (by omega); have ya3 : w.heap.size + 1 + 1 + 1 < w1.heap.size := (by omega)))
    | (go_at_call 7; have hbX := hb2; clear hbX; go_loud (refine (h3 _ _ _ (hg.later belS2) ⟨vars_nil _, vars_nil _, vars_one (by go_simp) (by go_simp) (by go_simp) (by go_simp), eqs_one (by go_simp) (by go_simp) (by go_simp) (by go_simp) (by go_simp) (by go_simp) (by go_simp) (by go_simp) (by go_simp) (by go_simp)⟩).mono ?_; rintro r w3 ⟨rfl, hb3⟩; have hc3 := bcell hb3; have hz3 := hb3.size; (try simp at hz3)))
    | (go_at_call 7; go_loud (refine (h2 _ _ _ (hg.later belA) ⟨vars_nil _, vars_nil _, vars_one (by go_simp) (by go_simp) (by go_simp) (by go_simp), eqs_one (by go_simp) (by go_simp) (by go_simp) (by go_simp) (by go_simp) (by go_simp) (by go_simp) (by go_simp) (by go_simp) (by go_simp)⟩).mono ?_; rintro r w2 ⟨rfl, hb2⟩; have hc2 := bcell hb2; have hf2 := bfrozen hb2; have hz2 := hb2.size; (try simp at hz2); have hx2 : w1.heap.size < w2.heap.size := (by omega); have hgz2 : g < w2.heap.size := (by omega); have hgne : ¬ g = w.heap.size + 1 + 1 := (by omega); have hgz3 : g < w1.heap.size + 1 := (by omega); have yb0 : w.heap.size < w2.heap.size := (by omega); have yb1 : w.heap.size + 1 < w2.heap.size := (by omega); have yb2 : w.heap.size + 1 + 1 < w2.heap.size := (by omega); have yb3 : w.heap.size + 1 + 1 + 1 < w2.heap.size := (by omega); have yc0 : w.heap.size < w1.heap.size + 1 := (by omega); have yc1 : w.heap.size + 1 < w1.heap.size + 1 := (by omega); have yc2 : w.heap.size + 1 + 1 < w1.heap.size + 1 := (by omega); have yc3 : w.heap.size + 1 + 1 + 1 < w1.heap.size + 1 := (by omega))))
  go_ret
  exact ⟨rfl, belS2⟩

end Go.Proofs.YtikmbkojnfmiaaaGreatDoorRRRR
