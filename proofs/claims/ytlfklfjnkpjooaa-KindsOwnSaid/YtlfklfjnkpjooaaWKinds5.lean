/- Walks over the package kinds: of, Of. -/
import Derived.Test.YtlfklfjnkpjooaaWKinds4a
import Derived.Test.YtlfklfjnkpjooaaWKinds4b
import Derived.Test.YtlfklfjnkpjooaaWKinds4c
import Derived.Test.YtlfklfjnkpjooaaWKinds4d
import Derived.Test.YtlfklfjnkpjooaaWKinds4e
import Derived.Test.YtlfklfjnkpjooaaWTree5
import Derived.WalkKit
import Derived.WalkSpells
import Derived.WalkLawsBesides
import Derived.Deep.QuietTactic
import Derived.BigQuiet
import Derived.Deep.Draws
import Derived.Lib.Hide
import Derived.Deep.LoopGhost
import Derived.StillTailTactics
import Derived.Deep.RegionHeld3
import Derived.Deep.RegionWith
import Derived.Lib.QuietBelow
set_option linter.unusedVariables false
set_option linter.unusedSimpArgs false
namespace Go.Proofs.Ytlfklfjnkpjooaa
open Go.RowKit Go.Sort

set_option maxHeartbeats 2000000 in
set_option maxRecDepth 100000 in
/-- A part has a fault. -/
theorem of_bad (e : Ex) (l : List Va) (A : Option Addr) (cap B : Nat) (Ae : Option Addr) (ce : Nat) (w : World) (h : (Ex.typL l e.sub).2 ≠ 0) (hparts : OfParts e l A cap B Ae ce w) :
    Calls Try.prog 25 #[lookV l A cap B, exV e Ae ce] w fun r w' => r = .returned (.tuple #[.int .i64 (e.typ l).1, .int .i64 (e.typ l).2]) ∧ Below w.heap.size w w' := by
  have hv : e.typ l = (0, (Ex.typL l e.sub).2) := by rw [Ex.typ_eq, if_neg h]
  have hb : ((Ex.typL l e.sub).2 != 0) = true := by simpa using h
  clear h
  have HV := Lib.hid hv; clear hv
  unfold OfParts at hparts
  unfold lookV exV at *
  go_enter Try.func25, Try.ntmps25
  go_wp2_with (go_at_call 38; refine (hparts _ (by repeat (first | exact Below.refl _ _ | (with_reducible assumption) | refine bel_trans ?_ (by with_reducible assumption) | refine bel_trans ?_ (below_regrown _ _ _) | refine bel_drew ?_ | refine bel_drewN ?_ _ | refine bel_alloc ?_ _ | refine bel_grow ?_ (by with_reducible assumption) (by omega)))).mono ?_; rintro r w1 ⟨⟨v, rfl, hown⟩, hb1⟩; have hc1 := bcell hb1)
  go_ret2
  exact ⟨by rw [HV.out]; rfl, (by repeat (first | exact Below.refl _ _ | (with_reducible assumption) | refine bel_trans ?_ (by with_reducible assumption) | refine bel_trans ?_ (below_regrown _ _ _) | refine bel_drew ?_ | refine bel_drewN ?_ _ | refine bel_alloc ?_ _ | refine bel_grow ?_ (by with_reducible assumption) (by omega)))⟩

set_option maxHeartbeats 2000000 in
set_option maxRecDepth 100000 in
/-- The name is nobody's. -/
theorem of_noname (e : Ex) (l : List Va) (A : Option Addr) (cap B : Nat) (Ae : Option Addr) (ce : Nat) (w : World) (h : (Ex.typL l e.sub).2 = 0) (hbn : e.name.toList.isEmpty = false) (hbt : (typeOfP l e.name).2 = false)
    (hparts : OfParts e l A cap B Ae ce w) (htype : OfType e l A cap B w) :
    Calls Try.prog 25 #[lookV l A cap B, exV e Ae ce] w fun r w' => r = .returned (.tuple #[.int .i64 (e.typ l).1, .int .i64 (e.typ l).2]) ∧ Below w.heap.size w w' := by
  have hv : e.typ l = (0, 19) := by rw [Ex.typ_eq, if_pos h, typK, if_pos ⟨hbn, hbt⟩]
  have HV := Lib.hid hv; clear hv
  unfold OfParts at hparts
  unfold OfType at htype
  unfold lookV exV at *
  go_enter Try.func25, Try.ntmps25
  go_wp2_with (first | (go_at_call 38; refine (hparts _ (by repeat (first | exact Below.refl _ _ | (with_reducible assumption) | refine bel_trans ?_ (by with_reducible assumption) | refine bel_trans ?_ (below_regrown _ _ _) | refine bel_drew ?_ | refine bel_drewN ?_ _ | refine bel_alloc ?_ _ | refine bel_grow ?_ (by with_reducible assumption) (by omega)))).mono ?_; rintro r w1 ⟨⟨v, rfl, hown⟩, hb1⟩; have hc1 := bcell hb1; have hz1 := hb1.size; (try simp at hz1); (try have hy1 : w.heap.size < w1.heap.size := by omega); (try have hy2 : w.heap.size + 1 < w1.heap.size := by omega); (try have hy3 : w.heap.size + 2 < w1.heap.size := by omega); (try have hy4 : wr.heap.size < w1.heap.size := by omega); (try have hy5 : wr.heap.size + 1 < w1.heap.size := by omega)) | (go_at_call 39; refine (htype _ (by repeat (first | exact Below.refl _ _ | (with_reducible assumption) | refine bel_trans ?_ (by with_reducible assumption) | refine bel_trans ?_ (below_regrown _ _ _) | refine bel_drew ?_ | refine bel_drewN ?_ _ | refine bel_alloc ?_ _ | refine bel_grow ?_ (by with_reducible assumption) (by omega)))).mono ?_; rintro r w1 ⟨rfl, hb1⟩; have hc1 := bcell hb1; have hz1 := hb1.size; (try simp at hz1); (try have hy1 : w.heap.size < w1.heap.size := by omega); (try have hy2 : w.heap.size + 1 < w1.heap.size := by omega); (try have hy3 : w.heap.size + 2 < w1.heap.size := by omega); (try have hy4 : wr.heap.size < w1.heap.size := by omega); (try have hy5 : wr.heap.size + 1 < w1.heap.size := by omega)))
  go_ret2
  exact ⟨by rw [HV.out]; rfl, (by repeat (first | exact Below.refl _ _ | (with_reducible assumption) | refine bel_trans ?_ (by with_reducible assumption) | refine bel_trans ?_ (below_regrown _ _ _) | refine bel_drew ?_ | refine bel_drewN ?_ _ | refine bel_alloc ?_ _ | refine bel_grow ?_ (by with_reducible assumption) (by omega)))⟩

theorem formed_name {e : Ex} (h : e.formed = true) : ((formK e.kind).2.2.2.1 = true → e.name.toList.isEmpty = false) ∧ ((formK e.kind).2.2.2.1 = false → e.name.toList.isEmpty = true) := by
  rw [Ex.formed_eq, Bool.and_eq_true] at h
  have h1 := h.1
  simp only [formedH, Bool.and_eq_true, Bool.or_eq_true] at h1
  refine ⟨fun h2 => ?_, fun h2 => ?_⟩
  · have h3 := h1.1.2
    rw [h2] at h3
    have h4 : nameB e.name = true := by simpa using h3.symm
    unfold nameB at h4
    split at h4
    · rename_i h5; exact size_pos_toList h5
    · simp at h4
  · rcases h1.2 with h3 | h3
    · rw [h2] at h3; simp at h3
    · exact h3
theorem formed_un {e : Ex} (h : e.formed = true) (hk : e.kind = 4) : e.n = 1 ∨ e.n = 2 := by
  rw [Ex.formed_eq, Bool.and_eq_true] at h
  have h1 := h.1
  rw [formedH, hk] at h1
  simp [formK] at h1
  omega
theorem twoK_12 (n t : Int) (h : t = 1 ∨ t = 2) : (twoK n t).1 = 1 ∨ (twoK n t).1 = 2 := by
  unfold twoK
  repeat' split
  all_goals simp [h]

theorem of_any (e : Ex) : e.formed = true → ∀ (l : List Va) (A : Option Addr) (cap B n : Nat) (Ae : Option Addr) (ce : Nat) (w : World), SubsAt w e Ae ce → LookAt w l A cap B n →
    Calls Try.prog 25 #[lookV l A cap B, exV e Ae ce] w fun r w' => r = .returned (.tuple #[.int .i64 (e.typ l).1, .int .i64 (e.typ l).2]) ∧ Below w.heap.size w w' := by
  induction e using Ex.ind with
  | h e ih =>
  intro hf l A cap B n Ae ce w he hl
  have hlen := Ex.formed_kind hf
  have hl3 : e.sub.length ≤ 3 := by
    have hlen := hlen.1
    unfold formK at hlen
    repeat' split at hlen
    all_goals first | omega | (simp at hlen; omega)
  have hparts : OfParts e l A cap B Ae ce w := fun W h =>
    parts_of e l A cap B n Ae ce W (he.later h) (hl.later h) hl3 fun x hx A' c' W' h1 h2 => ih x hx (Ex.formed_sub hf hx) l A cap B n A' c' W' h1 h2
  have htype : OfType e l A cap B w := fun W h => typeOf_any l A cap B n e.name (by unfold maxLen; omega) W (hl.later h)
  by_cases hbad : (Ex.typL l e.sub).2 = 0
  case neg => exact of_bad e l A cap B Ae ce w hbad hparts
  have hnames := formed_name hf
  have hts : (Ex.typL l e.sub).1.length = e.sub.length := typL_len l e.sub hbad
  have h12 := typL_12 l e.sub hbad
  have hpair : Ex.typL l e.sub = ((Ex.typL l e.sub).1, 0) := by rw [← hbad]
  by_cases hno : e.name.toList.isEmpty = false ∧ (typeOfP l e.name).2 = false
  · exact of_noname e l A cap B Ae ce w hbad hno.1 hno.2 hparts htype
  have hyes : e.name.toList.isEmpty = false → (typeOfP l e.name).2 = true := fun h => by
    cases h2 : (typeOfP l e.name).2
    · exact absurd ⟨h, h2⟩ hno
    · rfl
  generalize (Ex.typL l e.sub).1 = ts at hts h12 hpair
  have hk1 := hlen.1
  rcases formed_kinds hf with hk | hk | hk | hk | hk | hk | hk | hk | hk | hk <;> rw [hk] at hk1 hnames <;> simp [formK] at hk1 hnames
  · obtain rfl : ts = [] := List.length_eq_zero_iff.1 (by rw [hts, hk1]; rfl)
    exact of_k1 e l A cap B Ae ce w hk hpair (by simpa using hnames) hparts htype
  · obtain rfl : ts = [] := List.length_eq_zero_iff.1 (by rw [hts, hk1]; rfl)
    exact of_k2 e l A cap B Ae ce w hk hpair (by simpa using hnames) hparts htype
  · obtain rfl : ts = [] := List.length_eq_zero_iff.1 (by rw [hts, hk1]; rfl)
    have hn : e.name.toList.isEmpty = false := by simpa using hnames
    exact of_k3 e l A cap B Ae ce w hk hpair hn (hyes hn) hparts htype
  · obtain ⟨t0, rfl⟩ := list1 (l := ts) (by omega)
    exact of_k4 e l A cap B Ae ce w t0 hk hpair (h12 _ (by simp)) (formed_un hf hk) (by simpa using hnames) hparts htype
  · obtain ⟨t0, t1, rfl⟩ := list2 (l := ts) (by omega)
    exact of_k5 e l A cap B Ae ce w t0 t1 hk hpair (h12 _ (by simp)) (h12 _ (by simp)) (twoK_12 _ _ (h12 _ (by simp))) (by simpa using hnames) hparts htype
  · obtain ⟨t0, t1, t2, rfl⟩ := list3 (l := ts) (by omega)
    exact of_k6 e l A cap B Ae ce w t0 t1 t2 hk hpair (h12 _ (by simp)) (h12 _ (by simp)) (h12 _ (by simp)) (by simpa using hnames) hparts htype
  · obtain ⟨t0, t1, rfl⟩ := list2 (l := ts) (by omega)
    exact of_k7 e l A cap B Ae ce w t0 t1 hk hpair (h12 _ (by simp)) (h12 _ (by simp)) (by simpa using hnames) hparts htype
  · obtain ⟨t0, rfl⟩ := list1 (l := ts) (by omega)
    have hn : e.name.toList.isEmpty = false := by simpa using hnames
    exact of_k8 e l A cap B Ae ce w t0 hk hpair (h12 _ (by simp)) hn (hyes hn) hparts htype
  · obtain ⟨t0, rfl⟩ := list1 (l := ts) (by omega)
    have hn : e.name.toList.isEmpty = false := by simpa using hnames
    exact of_k9 e l A cap B Ae ce w t0 hk hpair (h12 _ (by simp)) hn (hyes hn) hparts htype
  · obtain ⟨t0, t1, rfl⟩ := list2 (l := ts) (by omega)
    have hn : e.name.toList.isEmpty = false := by simpa using hnames
    exact of_k10 e l A cap B Ae ce w t0 t1 hk hpair (h12 _ (by simp)) (h12 _ (by simp)) hn (hyes hn) hparts htype

end Go.Proofs.Ytlfklfjnkpjooaa
