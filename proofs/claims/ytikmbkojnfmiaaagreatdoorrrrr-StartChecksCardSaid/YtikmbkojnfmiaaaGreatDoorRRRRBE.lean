/- Walks over the package kinds: of, Of. -/
import Derived.Test.YtikmbkojnfmiaaaGreatDoorRRRRWKinds4a
import Derived.Test.YtikmbkojnfmiaaaGreatDoorRRRRWKinds4b
import Derived.Test.YtikmbkojnfmiaaaGreatDoorRRRRWKinds4c
import Derived.Test.YtikmbkojnfmiaaaGreatDoorRRRRWKinds4d
import Derived.Test.YtikmbkojnfmiaaaGreatDoorRRRRWKinds4e
import Derived.Test.YtikmbkojnfmiaaaGreatDoorRRRRBA
import Derived.Test.YtikmbkojnfmiaaaGreatDoorRRRRBB
import Derived.Test.YtikmbkojnfmiaaaGreatDoorRRRRBC
set_option linter.unusedVariables false
set_option linter.unusedSimpArgs false
set_option maxRecDepth 100000
namespace Go.Proofs.YtikmbkojnfmiaaaGreatDoorRRRR
open Go.RowKit Go.Sort

set_option maxHeartbeats 2000000 in
set_option maxRecDepth 100000 in
/-- A part has a fault. -/
theorem of_bad (e : Ex) (l : List Va) (A : Option Addr) (cap B : Nat) (Ae : Option Addr) (ce : Nat) (w : World) (h : (Ex.typL l e.sub).2 ≠ 0) (hparts : OfParts e l A cap B Ae ce w) :
    Calls Tryz.prog 57 #[lookV l A cap B, exV e Ae ce] w fun r w' => r = .returned (.tuple #[.int .i64 (e.typ l).1, .int .i64 (e.typ l).2]) ∧ Below w.heap.size w w' := by
  have hv : e.typ l = (0, (Ex.typL l e.sub).2) := by rw [Ex.typ_eq, if_neg h]
  have hb : ((Ex.typL l e.sub).2 != 0) = true := by simpa using h
  clear h
  have HV := Lib.hid hv; clear hv
  unfold OfParts at hparts
  unfold lookV exV at *
  go_enter Tryz.func57, Tryz.ntmps57
  go_wp2_with (go_at_call 75; refine (hparts _ belA).mono ?_; rintro r w1 ⟨⟨v, rfl, hown⟩, hb1⟩; have hc1 := bcell hb1)
  go_ret2
  exact ⟨by rw [HV.out]; rfl, belA⟩

set_option maxHeartbeats 2000000 in
set_option maxRecDepth 100000 in
/-- The name is nobody's. -/
theorem of_noname (e : Ex) (l : List Va) (A : Option Addr) (cap B : Nat) (Ae : Option Addr) (ce : Nat) (w : World) (h : (Ex.typL l e.sub).2 = 0) (hbn : e.name.toList.isEmpty = false) (hbt : (typeOfP l e.name).2 = false)
    (hparts : OfParts e l A cap B Ae ce w) (htype : OfType e l A cap B w) :
    Calls Tryz.prog 57 #[lookV l A cap B, exV e Ae ce] w fun r w' => r = .returned (.tuple #[.int .i64 (e.typ l).1, .int .i64 (e.typ l).2]) ∧ Below w.heap.size w w' := by
  have hv : e.typ l = (0, 19) := by rw [Ex.typ_eq, if_pos h, typK, if_pos ⟨hbn, hbt⟩]
  have HV := Lib.hid hv; clear hv
  unfold OfParts at hparts
  unfold OfType at htype
  unfold lookV exV at *
  go_enter Tryz.func57, Tryz.ntmps57
  go_wp2_with (first | (go_at_call 75; refine (hparts _ belA).mono ?_; rintro r w1 ⟨⟨v, rfl, hown⟩, hb1⟩; have hc1 := bcell hb1; have hz1 := hb1.size; (try simp at hz1); (try have hy1 := lt0 w w1); (try have hy2 := ltA w 1 w1); (try have hy3 := ltA w 2 w1); (try have hy4 := lt0 wr w1); (try have hy5 := ltA wr 1 w1)) | (go_at_call 76; refine (htype _ belA).mono ?_; rintro r w1 ⟨rfl, hb1⟩; have hc1 := bcell hb1; have hz1 := hb1.size; (try simp at hz1); (try have hy1 := lt0 w w1); (try have hy2 := ltA w 1 w1); (try have hy3 := ltA w 2 w1); (try have hy4 := lt0 wr w1); (try have hy5 := ltA wr 1 w1)))
  go_ret2
  exact ⟨by rw [HV.out]; rfl, belA⟩

theorem formed_name {e : Ex} (h : e.formed = true) : ((formK e.kind).2.2.2.1 = true → e.name.toList.isEmpty = false) ∧ ((formK e.kind).2.2.2.1 = false → e.name.toList.isEmpty = true) := by
  rw [Ex.formed_eq, Bool.and_eq_true] at h
  have h1 := h.1
  simp only [formedH, Bool.and_eq_true, Bool.or_eq_true] at h1
  refine ⟨fun h2 => ?_, fun h2 => ?_⟩
  · have h3 := h1.1.2
    rw [h2] at h3
    have h4 : nameB e.name = true := by simpa using h3.symm
    unfold nameB at h4
    split at h4
    · rename_i h5; exact size_pos_toList h5
    · simp at h4
  · rcases h1.2 with h3 | h3
    · rw [h2] at h3; simp at h3
    · exact h3
theorem formed_un {e : Ex} (h : e.formed = true) (hk : e.kind = 4) : e.n = 1 ∨ e.n = 2 := by
  rw [Ex.formed_eq, Bool.and_eq_true] at h
  have h1 := h.1
  rw [formedH, hk] at h1
  simp [formK] at h1
  omega
theorem twoK_12 (n t : Int) (h : t = 1 ∨ t = 2) : (twoK n t).1 = 1 ∨ (twoK n t).1 = 2 := by
  unfold twoK
  repeat' split
  all_goals simp [h]

theorem of_any (e : Ex) : e.formed = true → ∀ (l : List Va) (A : Option Addr) (cap B n : Nat) (Ae : Option Addr) (ce : Nat) (w : World), SubsAt w e Ae ce → LookAt w l A cap B n →
    Calls Tryz.prog 57 #[lookV l A cap B, exV e Ae ce] w fun r w' => r = .returned (.tuple #[.int .i64 (e.typ l).1, .int .i64 (e.typ l).2]) ∧ Below w.heap.size w w' := by
  induction e using Ex.ind with
  | h e ih =>
  intro hf l A cap B n Ae ce w he hl
  have hlen := Ex.formed_kind hf
  have hl3 : e.sub.length ≤ 3 := by
    have hlen := hlen.1
    unfold formK at hlen
    repeat' split at hlen
    all_goals first | omega | (simp at hlen; omega)
  have hparts : OfParts e l A cap B Ae ce w := fun W h =>
    parts_of e l A cap B n Ae ce W (he.later h) (hl.later h) hl3 fun x hx A' c' W' h1 h2 => ih x hx (Ex.formed_sub hf hx) l A cap B n A' c' W' h1 h2
  have htype : OfType e l A cap B w := fun W h => typeOf_any l A cap B n e.name (by unfold maxLen; omega) W (hl.later h)
  by_cases hbad : (Ex.typL l e.sub).2 = 0
  case neg => exact of_bad e l A cap B Ae ce w hbad hparts
  have hnames := formed_name hf
  have hts : (Ex.typL l e.sub).1.length = e.sub.length := typL_len l e.sub hbad
  have h12 := typL_12 l e.sub hbad
  have hpair : Ex.typL l e.sub = ((Ex.typL l e.sub).1, 0) := by rw [← hbad]
  by_cases hno : e.name.toList.isEmpty = false ∧ (typeOfP l e.name).2 = false
  · exact of_noname e l A cap B Ae ce w hbad hno.1 hno.2 hparts htype
  have hyes : e.name.toList.isEmpty = false → (typeOfP l e.name).2 = true := fun h => by
    cases h2 : (typeOfP l e.name).2
    · exact absurd ⟨h, h2⟩ hno
    · rfl
  generalize (Ex.typL l e.sub).1 = ts at hts h12 hpair
  have hk1 := hlen.1
  rcases formed_kinds hf with hk | hk | hk | hk | hk | hk | hk | hk | hk | hk <;> rw [hk] at hk1 hnames <;> simp [formK] at hk1 hnames
  · obtain rfl : ts = [] := List.length_eq_zero_iff.1 (by rw [hts, hk1]; rfl)
    exact of_k1 e l A cap B Ae ce w hk hpair (by simpa using hnames) hparts htype
  · obtain rfl : ts = [] := List.length_eq_zero_iff.1 (by rw [hts, hk1]; rfl)
    exact of_k2 e l A cap B Ae ce w hk hpair (by simpa using hnames) hparts htype
  · obtain rfl : ts = [] := List.length_eq_zero_iff.1 (by rw [hts, hk1]; rfl)
    have hn : e.name.toList.isEmpty = false := by simpa using hnames
    exact of_k3 e l A cap B Ae ce w hk hpair hn (hyes hn) hparts htype
  · obtain ⟨t0, rfl⟩ := list1 (l := ts) (by omega)
    exact of_k4 e l A cap B Ae ce w t0 hk hpair (h12 _ (by simp)) (formed_un hf hk) (by simpa using hnames) hparts htype
  · obtain ⟨t0, t1, rfl⟩ := list2 (l := ts) (by omega)
    exact of_k5 e l A cap B Ae ce w t0 t1 hk hpair (h12 _ (by simp)) (h12 _ (by simp)) (twoK_12 _ _ (h12 _ (by simp))) (by simpa using hnames) hparts htype
  · obtain ⟨t0, t1, t2, rfl⟩ := list3 (l := ts) (by omega)
    exact of_k6 e l A cap B Ae ce w t0 t1 t2 hk hpair (h12 _ (by simp)) (h12 _ (by simp)) (h12 _ (by simp)) (by simpa using hnames) hparts htype
  · obtain ⟨t0, t1, rfl⟩ := list2 (l := ts) (by omega)
    exact of_k7 e l A cap B Ae ce w t0 t1 hk hpair (h12 _ (by simp)) (h12 _ (by simp)) (by simpa using hnames) hparts htype
  · obtain ⟨t0, rfl⟩ := list1 (l := ts) (by omega)
    have hn : e.name.toList.isEmpty = false := by simpa using hnames
    exact of_k8 e l A cap B Ae ce w t0 hk hpair (h12 _ (by simp)) hn (hyes hn) hparts htype
  · obtain ⟨t0, rfl⟩ := list1 (l := ts) (by omega)
    have hn : e.name.toList.isEmpty = false := by simpa using hnames
    exact of_k9 e l A cap B Ae ce w t0 hk hpair (h12 _ (by simp)) hn (hyes hn) hparts htype
  · obtain ⟨t0, t1, rfl⟩ := list2 (l := ts) (by omega)
    have hn : e.name.toList.isEmpty = false := by simpa using hnames
    exact of_k10 e l A cap B Ae ce w t0 t1 hk hpair (h12 _ (by simp)) (h12 _ (by simp)) hn (hyes hn) hparts htype

end Go.Proofs.YtikmbkojnfmiaaaGreatDoorRRRR

/- Walk over kinds.look.equation. -/
namespace Go.Proofs.YtikmbkojnfmiaaaGreatDoorRRRR
open Go.RowKit Go.Sort

set_option maxHeartbeats 4000000 in
set_option maxRecDepth 100000 in
theorem equation_any (q : Qe) (hq : eqB q = true) (l : List Va) (A : Option Addr) (cap B n : Nat) (E1 : Option Addr) (k1 : Nat) (E2 : Option Addr) (k2 : Nat) (ins : Int) (Bd nd : Nat) (fd : ByteArray → Option Int) (w : World)
    (h1 : SubsAt w q.first E1 k1) (h2 : SubsAt w q.e E2 k2) (hl : LookAt w l A cap B n) (hd : MapI Tryz.prog 9 3 w Bd nd fd) :
    Calls Tryz.prog 43 #[lookV l A cap B, qeV q E1 k1 E2 k2, .int .i64 ins, .map (some Bd)] w fun r w' => r = .returned (.int .i64 (eqE l ins fd q)) ∧ Below w.heap.size w w' := by
  obtain ⟨hqn, hqf, hqz, hq1, hqd⟩ := eqB_parts hq
  clear hq
  have hs : q.name.size ≤ maxLen := by unfold maxLen; omega
  have hl2 := hl.vars.len
  unfold maxLen at hl2
  obtain ⟨hl3, hl4⟩ := hl2
  have hm := hl.map
  have hBz := hm.lt
  have hBd := hd.lt
  have hof2 := fun W h => of_any q.e hqf l A cap B n E2 k2 W (h2.later h) (hl.later h)
  have hof1 : q.delay = 1 → ∀ W, Below w.heap.size w W → Calls Tryz.prog 57 #[lookV l A cap B, exV q.first E1 k1] W fun r w' => r = .returned (.tuple #[.int .i64 (q.first.typ l).1, .int .i64 (q.first.typ l).2]) ∧ Below W.heap.size W w' :=
    fun hd1 W h => of_any q.first (hq1 hd1).1 l A cap B n E1 k1 W (h1.later h) (hl.later h)
  clear hq1 hqf hqz hqn
  have hv : eqE l ins fd q = eqE l ins fd q := rfl
  rw (occs := .pos [2]) [eqE] at hv
  unfold lookV qeV exV at *
  cases hf : findV l q.name with
  | none =>
    rw [hf] at hv
    clear hof1
    dsimp only at hv
    have HV := Lib.hid hv; clear hv
    go_enter Tryz.func43, Tryz.ntmps43
    go_wp2_with (first | (at_lookup; refine wpList_lkokI rfl (.tmp 17) (.tmp 19) 48 rfl Tryz.underlying9 Tryz.underlying48 Tryz.underlying3 (zeroInt _) B n (findV l) q.name rfl (by repeat (first | (with_reducible assumption) | refine MapI.alloc ?_ | refine MapI.bel ?_ (by with_reducible assumption) | refine MapI.drew ?_)) rfl hs ?_) | (at_lookup; refine wpList_lkI rfl (.tmp 32) (.tmp 34) 48 rfl Tryz.underlying9 Tryz.underlying48 Tryz.underlying3 (zeroInt _) Bd nd fd q.name rfl (by repeat (first | (with_reducible assumption) | refine MapI.alloc ?_ | refine MapI.bel ?_ (by with_reducible assumption) | refine MapI.drew ?_)) rfl hs ?_) | (go_at_call_of 57 E2; refine (hof2 _ belA).mono ?_; rintro r w1 ⟨rfl, hb1⟩; have hc1 := bcell hb1; have hz1 := hb1.size; (try simp at hz1); (try have hy1 := lt0 w w1); (try have hy2 := ltA w 1 w1); (try have hy3 := ltA w 2 w1); (try have hy4 := lt0 wr w1); (try have hy5 := ltA wr 1 w1); (try have hyb : b < w1.heap.size := by omega)) | (go_at_call_of 57 E1; refine (hof1 _ belA).mono ?_; rintro r w1 ⟨rfl, hb1⟩; have hc1 := bcell hb1; have hz1 := hb1.size; (try simp at hz1); (try have hy1 := lt0 w w1); (try have hy2 := ltA w 1 w1); (try have hy3 := ltA w 2 w1); (try have hy4 := lt0 wr w1); (try have hy5 := ltA wr 1 w1); (try have hyb : b < w1.heap.size := by omega)))
    go_ret
    exact ⟨ret_int HV.out.symm, belA⟩
  | some j =>
    rw [hf] at hv
    dsimp only at hv
    obtain ⟨k, v, rfl, hx, _⟩ := findV_some hf
    have hkl : k < l.length := (List.getElem?_eq_some_iff.1 hx).1
    obtain ⟨b, off, rfl, hbb, ⟨d0, d1, d2, d3⟩⟩ := hl.vars.get hx
    have hty : typeAt l k = v.type := by unfold typeAt; rw [Int.toNat_natCast, hx]
    rw [hty] at hv
    clear hx hty
    have hbb2 : b < w.heap.size + 1 := by omega
    have hbb3 : b < w.heap.size + 2 := by omega
    by_cases c1 : (k : Int) < ins
    · rw [if_pos c1] at hv
      clear hof1
      have HV := Lib.hid hv; clear hv
      go_enter Tryz.func43, Tryz.ntmps43
      go_wp2_with (first | (at_lookup; refine wpList_lkokI rfl (.tmp 17) (.tmp 19) 48 rfl Tryz.underlying9 Tryz.underlying48 Tryz.underlying3 (zeroInt _) B n (findV l) q.name rfl (by repeat (first | (with_reducible assumption) | refine MapI.alloc ?_ | refine MapI.bel ?_ (by with_reducible assumption) | refine MapI.drew ?_)) rfl hs ?_) | (at_lookup; refine wpList_lkI rfl (.tmp 32) (.tmp 34) 48 rfl Tryz.underlying9 Tryz.underlying48 Tryz.underlying3 (zeroInt _) Bd nd fd q.name rfl (by repeat (first | (with_reducible assumption) | refine MapI.alloc ?_ | refine MapI.bel ?_ (by with_reducible assumption) | refine MapI.drew ?_)) rfl hs ?_) | (go_at_call_of 57 E2; refine (hof2 _ belA).mono ?_; rintro r w1 ⟨rfl, hb1⟩; have hc1 := bcell hb1; have hz1 := hb1.size; (try simp at hz1); (try have hy1 := lt0 w w1); (try have hy2 := ltA w 1 w1); (try have hy3 := ltA w 2 w1); (try have hy4 := lt0 wr w1); (try have hy5 := ltA wr 1 w1); (try have hyb : b < w1.heap.size := by omega)) | (go_at_call_of 57 E1; refine (hof1 _ belA).mono ?_; rintro r w1 ⟨rfl, hb1⟩; have hc1 := bcell hb1; have hz1 := hb1.size; (try simp at hz1); (try have hy1 := lt0 w w1); (try have hy2 := ltA w 1 w1); (try have hy3 := ltA w 2 w1); (try have hy4 := lt0 wr w1); (try have hy5 := ltA wr 1 w1); (try have hyb : b < w1.heap.size := by omega)))
      go_ret
      exact ⟨ret_int HV.out.symm, belA⟩
    rw [if_neg c1] at hv
    by_cases c2 : 0 < (fd q.name).getD 0
    · rw [if_pos c2] at hv
      clear hof1
      have HV := Lib.hid hv; clear hv
      go_enter Tryz.func43, Tryz.ntmps43
      go_wp2_with (first | (at_lookup; refine wpList_lkokI rfl (.tmp 17) (.tmp 19) 48 rfl Tryz.underlying9 Tryz.underlying48 Tryz.underlying3 (zeroInt _) B n (findV l) q.name rfl (by repeat (first | (with_reducible assumption) | refine MapI.alloc ?_ | refine MapI.bel ?_ (by with_reducible assumption) | refine MapI.drew ?_)) rfl hs ?_) | (at_lookup; refine wpList_lkI rfl (.tmp 32) (.tmp 34) 48 rfl Tryz.underlying9 Tryz.underlying48 Tryz.underlying3 (zeroInt _) Bd nd fd q.name rfl (by repeat (first | (with_reducible assumption) | refine MapI.alloc ?_ | refine MapI.bel ?_ (by with_reducible assumption) | refine MapI.drew ?_)) rfl hs ?_) | (go_at_call_of 57 E2; refine (hof2 _ belA).mono ?_; rintro r w1 ⟨rfl, hb1⟩; have hc1 := bcell hb1; have hz1 := hb1.size; (try simp at hz1); (try have hy1 := lt0 w w1); (try have hy2 := ltA w 1 w1); (try have hy3 := ltA w 2 w1); (try have hy4 := lt0 wr w1); (try have hy5 := ltA wr 1 w1); (try have hyb : b < w1.heap.size := by omega)) | (go_at_call_of 57 E1; refine (hof1 _ belA).mono ?_; rintro r w1 ⟨rfl, hb1⟩; have hc1 := bcell hb1; have hz1 := hb1.size; (try simp at hz1); (try have hy1 := lt0 w w1); (try have hy2 := ltA w 1 w1); (try have hy3 := ltA w 2 w1); (try have hy4 := lt0 wr w1); (try have hy5 := ltA wr 1 w1); (try have hyb : b < w1.heap.size := by omega)))
      go_ret
      exact ⟨ret_int HV.out.symm, belA⟩
    rw [if_neg c2] at hv
    cases c3 : ((q.e.typ l).2 != 0)
    case true =>
      rw [if_pos (by simpa using c3)] at hv
      clear hof1
      have HV := Lib.hid hv; clear hv
      go_enter Tryz.func43, Tryz.ntmps43
      go_wp2_with (first | (at_lookup; refine wpList_lkokI rfl (.tmp 17) (.tmp 19) 48 rfl Tryz.underlying9 Tryz.underlying48 Tryz.underlying3 (zeroInt _) B n (findV l) q.name rfl (by repeat (first | (with_reducible assumption) | refine MapI.alloc ?_ | refine MapI.bel ?_ (by with_reducible assumption) | refine MapI.drew ?_)) rfl hs ?_) | (at_lookup; refine wpList_lkI rfl (.tmp 32) (.tmp 34) 48 rfl Tryz.underlying9 Tryz.underlying48 Tryz.underlying3 (zeroInt _) Bd nd fd q.name rfl (by repeat (first | (with_reducible assumption) | refine MapI.alloc ?_ | refine MapI.bel ?_ (by with_reducible assumption) | refine MapI.drew ?_)) rfl hs ?_) | (go_at_call_of 57 E2; refine (hof2 _ belA).mono ?_; rintro r w1 ⟨rfl, hb1⟩; have hc1 := bcell hb1; have hz1 := hb1.size; (try simp at hz1); (try have hy1 := lt0 w w1); (try have hy2 := ltA w 1 w1); (try have hy3 := ltA w 2 w1); (try have hy4 := lt0 wr w1); (try have hy5 := ltA wr 1 w1); (try have hyb : b < w1.heap.size := by omega)) | (go_at_call_of 57 E1; refine (hof1 _ belA).mono ?_; rintro r w1 ⟨rfl, hb1⟩; have hc1 := bcell hb1; have hz1 := hb1.size; (try simp at hz1); (try have hy1 := lt0 w w1); (try have hy2 := ltA w 1 w1); (try have hy3 := ltA w 2 w1); (try have hy4 := lt0 wr w1); (try have hy5 := ltA wr 1 w1); (try have hyb : b < w1.heap.size := by omega)))
      go_ret
      exact ⟨ret_int HV.out.symm, belA⟩
    rw [if_neg (by simpa using c3)] at hv
    by_cases qd : q.delay = 1
    · replace hof1 := hof1 qd
      have q1 : (q.delay == 1) = true := by rw [qd]; rfl
      cases c4 : ((q.first.typ l).1 != v.type)
      case true =>
        rw [if_pos ⟨qd, by simpa using c4⟩] at hv
        clear qd
        have HV := Lib.hid hv; clear hv
        go_enter Tryz.func43, Tryz.ntmps43
        go_wp2_with (first | (at_lookup; refine wpList_lkokI rfl (.tmp 17) (.tmp 19) 48 rfl Tryz.underlying9 Tryz.underlying48 Tryz.underlying3 (zeroInt _) B n (findV l) q.name rfl (by repeat (first | (with_reducible assumption) | refine MapI.alloc ?_ | refine MapI.bel ?_ (by with_reducible assumption) | refine MapI.drew ?_)) rfl hs ?_) | (at_lookup; refine wpList_lkI rfl (.tmp 32) (.tmp 34) 48 rfl Tryz.underlying9 Tryz.underlying48 Tryz.underlying3 (zeroInt _) Bd nd fd q.name rfl (by repeat (first | (with_reducible assumption) | refine MapI.alloc ?_ | refine MapI.bel ?_ (by with_reducible assumption) | refine MapI.drew ?_)) rfl hs ?_) | (go_at_call_of 57 E2; refine (hof2 _ belA).mono ?_; rintro r w1 ⟨rfl, hb1⟩; have hc1 := bcell hb1; have hz1 := hb1.size; (try simp at hz1); (try have hy1 := lt0 w w1); (try have hy2 := ltA w 1 w1); (try have hy3 := ltA w 2 w1); (try have hy4 := lt0 wr w1); (try have hy5 := ltA wr 1 w1); (try have hyb : b < w1.heap.size := by omega)) | (go_at_call_of 57 E1; refine (hof1 _ belA).mono ?_; rintro r w1 ⟨rfl, hb1⟩; have hc1 := bcell hb1; have hz1 := hb1.size; (try simp at hz1); (try have hy1 := lt0 w w1); (try have hy2 := ltA w 1 w1); (try have hy3 := ltA w 2 w1); (try have hy4 := lt0 wr w1); (try have hy5 := ltA wr 1 w1); (try have hyb : b < w1.heap.size := by omega)))
        go_ret
        exact ⟨ret_int HV.out.symm, belA⟩
      rw [if_neg (by rintro ⟨_, h⟩; exact h (by simpa using c4))] at hv
      clear qd
      cases c5 : ((q.e.typ l).1 != v.type)
      case true =>
        rw [if_pos (by simpa using c5)] at hv
        have HV := Lib.hid hv; clear hv
        go_enter Tryz.func43, Tryz.ntmps43
        go_wp2_with (first | (at_lookup; refine wpList_lkokI rfl (.tmp 17) (.tmp 19) 48 rfl Tryz.underlying9 Tryz.underlying48 Tryz.underlying3 (zeroInt _) B n (findV l) q.name rfl (by repeat (first | (with_reducible assumption) | refine MapI.alloc ?_ | refine MapI.bel ?_ (by with_reducible assumption) | refine MapI.drew ?_)) rfl hs ?_) | (at_lookup; refine wpList_lkI rfl (.tmp 32) (.tmp 34) 48 rfl Tryz.underlying9 Tryz.underlying48 Tryz.underlying3 (zeroInt _) Bd nd fd q.name rfl (by repeat (first | (with_reducible assumption) | refine MapI.alloc ?_ | refine MapI.bel ?_ (by with_reducible assumption) | refine MapI.drew ?_)) rfl hs ?_) | (go_at_call_of 57 E2; refine (hof2 _ belA).mono ?_; rintro r w1 ⟨rfl, hb1⟩; have hc1 := bcell hb1; have hz1 := hb1.size; (try simp at hz1); (try have hy1 := lt0 w w1); (try have hy2 := ltA w 1 w1); (try have hy3 := ltA w 2 w1); (try have hy4 := lt0 wr w1); (try have hy5 := ltA wr 1 w1); (try have hyb : b < w1.heap.size := by omega)) | (go_at_call_of 57 E1; refine (hof1 _ belA).mono ?_; rintro r w1 ⟨rfl, hb1⟩; have hc1 := bcell hb1; have hz1 := hb1.size; (try simp at hz1); (try have hy1 := lt0 w w1); (try have hy2 := ltA w 1 w1); (try have hy3 := ltA w 2 w1); (try have hy4 := lt0 wr w1); (try have hy5 := ltA wr 1 w1); (try have hyb : b < w1.heap.size := by omega)))
        go_ret
        exact ⟨ret_int HV.out.symm, belA⟩
      rw [if_neg (by simpa using c5)] at hv
      have HV := Lib.hid hv; clear hv
      go_enter Tryz.func43, Tryz.ntmps43
      go_wp2_with (first | (at_lookup; refine wpList_lkokI rfl (.tmp 17) (.tmp 19) 48 rfl Tryz.underlying9 Tryz.underlying48 Tryz.underlying3 (zeroInt _) B n (findV l) q.name rfl (by repeat (first | (with_reducible assumption) | refine MapI.alloc ?_ | refine MapI.bel ?_ (by with_reducible assumption) | refine MapI.drew ?_)) rfl hs ?_) | (at_lookup; refine wpList_lkI rfl (.tmp 32) (.tmp 34) 48 rfl Tryz.underlying9 Tryz.underlying48 Tryz.underlying3 (zeroInt _) Bd nd fd q.name rfl (by repeat (first | (with_reducible assumption) | refine MapI.alloc ?_ | refine MapI.bel ?_ (by with_reducible assumption) | refine MapI.drew ?_)) rfl hs ?_) | (go_at_call_of 57 E2; refine (hof2 _ belA).mono ?_; rintro r w1 ⟨rfl, hb1⟩; have hc1 := bcell hb1; have hz1 := hb1.size; (try simp at hz1); (try have hy1 := lt0 w w1); (try have hy2 := ltA w 1 w1); (try have hy3 := ltA w 2 w1); (try have hy4 := lt0 wr w1); (try have hy5 := ltA wr 1 w1); (try have hyb : b < w1.heap.size := by omega)) | (go_at_call_of 57 E1; refine (hof1 _ belA).mono ?_; rintro r w1 ⟨rfl, hb1⟩; have hc1 := bcell hb1; have hz1 := hb1.size; (try simp at hz1); (try have hy1 := lt0 w w1); (try have hy2 := ltA w 1 w1); (try have hy3 := ltA w 2 w1); (try have hy4 := lt0 wr w1); (try have hy5 := ltA wr 1 w1); (try have hyb : b < w1.heap.size := by omega)))
      go_ret
      exact ⟨ret_int HV.out.symm, belA⟩
    · clear hof1
      have q1 : (q.delay == 1) = false := by simpa using qd
      rw [if_neg (by rintro ⟨h, _⟩; exact qd h)] at hv
      clear qd
      cases c5 : ((q.e.typ l).1 != v.type)
      case true =>
        rw [if_pos (by simpa using c5)] at hv
        have HV := Lib.hid hv; clear hv
        go_enter Tryz.func43, Tryz.ntmps43
        go_wp2_with (first | (at_lookup; refine wpList_lkokI rfl (.tmp 17) (.tmp 19) 48 rfl Tryz.underlying9 Tryz.underlying48 Tryz.underlying3 (zeroInt _) B n (findV l) q.name rfl (by repeat (first | (with_reducible assumption) | refine MapI.alloc ?_ | refine MapI.bel ?_ (by with_reducible assumption) | refine MapI.drew ?_)) rfl hs ?_) | (at_lookup; refine wpList_lkI rfl (.tmp 32) (.tmp 34) 48 rfl Tryz.underlying9 Tryz.underlying48 Tryz.underlying3 (zeroInt _) Bd nd fd q.name rfl (by repeat (first | (with_reducible assumption) | refine MapI.alloc ?_ | refine MapI.bel ?_ (by with_reducible assumption) | refine MapI.drew ?_)) rfl hs ?_) | (go_at_call_of 57 E2; refine (hof2 _ belA).mono ?_; rintro r w1 ⟨rfl, hb1⟩; have hc1 := bcell hb1; have hz1 := hb1.size; (try simp at hz1); (try have hy1 := lt0 w w1); (try have hy2 := ltA w 1 w1); (try have hy3 := ltA w 2 w1); (try have hy4 := lt0 wr w1); (try have hy5 := ltA wr 1 w1); (try have hyb : b < w1.heap.size := by omega)) | (go_at_call_of 57 E1; refine (hof1 _ belA).mono ?_; rintro r w1 ⟨rfl, hb1⟩; have hc1 := bcell hb1; have hz1 := hb1.size; (try simp at hz1); (try have hy1 := lt0 w w1); (try have hy2 := ltA w 1 w1); (try have hy3 := ltA w 2 w1); (try have hy4 := lt0 wr w1); (try have hy5 := ltA wr 1 w1); (try have hyb : b < w1.heap.size := by omega)))
        go_ret
        exact ⟨ret_int HV.out.symm, belA⟩
      rw [if_neg (by simpa using c5)] at hv
      have HV := Lib.hid hv; clear hv
      go_enter Tryz.func43, Tryz.ntmps43
      go_wp2_with (first | (at_lookup; refine wpList_lkokI rfl (.tmp 17) (.tmp 19) 48 rfl Tryz.underlying9 Tryz.underlying48 Tryz.underlying3 (zeroInt _) B n (findV l) q.name rfl (by repeat (first | (with_reducible assumption) | refine MapI.alloc ?_ | refine MapI.bel ?_ (by with_reducible assumption) | refine MapI.drew ?_)) rfl hs ?_) | (at_lookup; refine wpList_lkI rfl (.tmp 32) (.tmp 34) 48 rfl Tryz.underlying9 Tryz.underlying48 Tryz.underlying3 (zeroInt _) Bd nd fd q.name rfl (by repeat (first | (with_reducible assumption) | refine MapI.alloc ?_ | refine MapI.bel ?_ (by with_reducible assumption) | refine MapI.drew ?_)) rfl hs ?_) | (go_at_call_of 57 E2; refine (hof2 _ belA).mono ?_; rintro r w1 ⟨rfl, hb1⟩; have hc1 := bcell hb1; have hz1 := hb1.size; (try simp at hz1); (try have hy1 := lt0 w w1); (try have hy2 := ltA w 1 w1); (try have hy3 := ltA w 2 w1); (try have hy4 := lt0 wr w1); (try have hy5 := ltA wr 1 w1); (try have hyb : b < w1.heap.size := by omega)) | (go_at_call_of 57 E1; refine (hof1 _ belA).mono ?_; rintro r w1 ⟨rfl, hb1⟩; have hc1 := bcell hb1; have hz1 := hb1.size; (try simp at hz1); (try have hy1 := lt0 w w1); (try have hy2 := ltA w 1 w1); (try have hy3 := ltA w 2 w1); (try have hy4 := lt0 wr w1); (try have hy5 := ltA wr 1 w1); (try have hyb : b < w1.heap.size := by omega)))
      go_ret
      exact ⟨ret_int HV.out.symm, belA⟩

end Go.Proofs.YtikmbkojnfmiaaaGreatDoorRRRR

/- Walk over kinds.Check. -/
namespace Go.Proofs.YtikmbkojnfmiaaaGreatDoorRRRR
open Go.RowKit Go.Sort

/-- A Fault as a value. -/
def fV (f : Int × Int × Int) : Value := .agg #[.int .i64 f.1, .int .i64 f.2.1, .int .i64 f.2.2]

set_option maxHeartbeats 4000000 in
set_option maxRecDepth 100000 in
theorem check_form (p : Pr) (a : PrA) (w : World) (hp : PrAt w p a) (n1 : p.ins.length ≤ 1000000) (n2 : p.outs.length ≤ 1000000) (n3 : p.locals.length ≤ 1000000) (n4 : p.eqs.length ≤ 1000000) (he : printE p ≠ 0) :
    Calls Tryz.prog 32 #[prV p a] w fun r w' => r = .returned (fV (checkF p)) ∧ Below w.heap.size w w' := by
  have hv : checkF p = (4, 0, printE p) := by unfold checkF; rw [if_pos he]
  have hprint := fun W h => print_any p a W (hp.later h) n1 n2 n3 n4
  have he' : (printE p != 0) = true := by simpa using he
  clear he
  obtain ⟨A1, c1, A2, c2, A3, c3, A4, c4⟩ := a
  unfold prV at *
  unfold fV
  dsimp only at *
  have HV := Lib.hid hv; clear hv
  go_enter Tryz.func32, Tryz.ntmps32
  go_wp2_with (go_at_call 41; refine (hprint _ belA).mono ?_; rintro r w1 ⟨rfl, hb1⟩; have hc1 := bcell hb1; have hfz1 := bfrozen hb1; have hz1 := hb1.size; (try simp at hz1); (try have hy1 := lt0 w w1); (try have hy2 := ltA w 1 w1); (try have hy3 := ltA w 2 w1); (try have hy4 := lt0 wr w1); (try have hy5 := ltA wr 1 w1))
  go_ways
  refine bodyPost_ret (v := .agg #[.int .i64 (4), .int .i64 (0), .int .i64 (printE p)]) (by simp [results, Tryz.results32, go_sem, *]) rfl ⟨by rw [HV.out], ?_⟩
  exact belS

end Go.Proofs.YtikmbkojnfmiaaaGreatDoorRRRR

/- Walk over kinds.Check: programs that can be. -/
namespace Go.Proofs.YtikmbkojnfmiaaaGreatDoorRRRR
open Go.RowKit Go.Sort

theorem vars_short {p : Pr} (h : wholeB p = true) : ∀ v ∈ varsOf p, Short v := by
  obtain ⟨_, h1, h2, h3, _⟩ := whole_parts h
  intro v hv
  simp only [varsOf, List.mem_append] at hv
  rcases hv with (hv | hv) | hv
  · exact h1 v hv
  · exact h2 v hv
  · exact h3 v hv
theorem whole_of_print {p : Pr} (h : printE p = 0) : wholeB p = true := by
  unfold printE at h
  split at h
  · omega
  · rename_i h2; simpa using h2

set_option maxHeartbeats 4000000 in
set_option maxRecDepth 100000 in
theorem check_big (p : Pr) (a : PrA) (w : World) (hp : PrAt w p a) (n1 : p.ins.length ≤ 1000000) (n2 : p.outs.length ≤ 1000000) (n3 : p.locals.length ≤ 1000000) (n4 : p.eqs.length ≤ 1000000) (he : printE p = 0)
    (hbig : 8 < p.ins.length ∨ 8 < p.outs.length ∨ 24 < (varsOf p).length) :
    Calls Tryz.prog 32 #[prV p a] w fun r w' => r = .returned (fV (checkF p)) ∧ Below w.heap.size w w' := by
  have hv : checkF p = (4, 0, 3) := by unfold checkF; rw [if_neg (by omega), if_pos hbig]
  have hprint := fun W h => print_any p a W (hp.later h) n1 n2 n3 n4
  have hvars := fun W h => vars_any p a W (hp.later h) n1 n2 n3
  rw [he] at hprint
  clear he
  obtain ⟨A1, c1, A2, c2, A3, c3, A4, c4⟩ := a
  unfold prV at *
  unfold fV
  dsimp only at *
  have hnames : True := trivial
  by_cases g1 : 8 < p.ins.length
  · have HV := Lib.hid hv; clear hv
    go_enter Tryz.func32, Tryz.ntmps32
    go_wp2_with (first | (go_at_call 41; refine (hprint _ belA).mono ?_; rintro r wa ⟨rfl, hba⟩; have hca := bcell hba; have hfa := bfrozen hba; have hza : w.heap.size + 2 ≤ wa.heap.size := (by have := hba.size; simpa using this); have hya : w.heap.size < wa.heap.size := (by omega); have hya' : w.heap.size + 1 < wa.heap.size := (by omega)) | (go_at_call 14; refine (hvars _ belA).mono ?_; rintro r wb ⟨⟨A, cap, rfl, hown⟩, hbb⟩; have hcb := bcell hbb; have hfb := bfrozen hbb; have hzb := hbb.size; have hyb : w.heap.size < wb.heap.size := (by omega); have hyb' : w.heap.size + 1 < wb.heap.size := (by omega); have hva := VarsAt.of_own hown) | (go_at_call 42; refine (hnames _ _ _ (hva.later belA)).mono ?_; rintro r wc ⟨⟨B, rfl, hB, hmap⟩, hbc⟩; have hcc := bcell hbc; have hfc := bfrozen hbc; have hzc := hbc.size; have hyc : w.heap.size < wc.heap.size := (by omega); have hyc' : w.heap.size + 1 < wc.heap.size := (by omega)))
    refine bodyPost_ret (v := .agg #[.int .i64 (4), .int .i64 (0), .int .i64 (3)]) (by simp [results, Tryz.results32, go_sem, *]) rfl ⟨by rw [HV.out], ?_⟩
    exact belS
  by_cases g2 : 8 < p.outs.length
  · have HV := Lib.hid hv; clear hv
    go_enter Tryz.func32, Tryz.ntmps32
    go_wp2_with (first | (go_at_call 41; refine (hprint _ belA).mono ?_; rintro r wa ⟨rfl, hba⟩; have hca := bcell hba; have hfa := bfrozen hba; have hza : w.heap.size + 2 ≤ wa.heap.size := (by have := hba.size; simpa using this); have hya : w.heap.size < wa.heap.size := (by omega); have hya' : w.heap.size + 1 < wa.heap.size := (by omega)) | (go_at_call 14; refine (hvars _ belA).mono ?_; rintro r wb ⟨⟨A, cap, rfl, hown⟩, hbb⟩; have hcb := bcell hbb; have hfb := bfrozen hbb; have hzb := hbb.size; have hyb : w.heap.size < wb.heap.size := (by omega); have hyb' : w.heap.size + 1 < wb.heap.size := (by omega); have hva := VarsAt.of_own hown) | (go_at_call 42; refine (hnames _ _ _ (hva.later belA)).mono ?_; rintro r wc ⟨⟨B, rfl, hB, hmap⟩, hbc⟩; have hcc := bcell hbc; have hfc := bfrozen hbc; have hzc := hbc.size; have hyc : w.heap.size < wc.heap.size := (by omega); have hyc' : w.heap.size + 1 < wc.heap.size := (by omega)))
    refine bodyPost_ret (v := .agg #[.int .i64 (4), .int .i64 (0), .int .i64 (3)]) (by simp [results, Tryz.results32, go_sem, *]) rfl ⟨by rw [HV.out], ?_⟩
    exact belS
  have g3 : 24 < (varsOf p).length := by omega
  clear hbig
  have HV := Lib.hid hv; clear hv
  go_enter Tryz.func32, Tryz.ntmps32
  go_wp2_with (first | (go_at_call 41; refine (hprint _ belA).mono ?_; rintro r wa ⟨rfl, hba⟩; have hca := bcell hba; have hfa := bfrozen hba; have hza : w.heap.size + 2 ≤ wa.heap.size := (by have := hba.size; simpa using this); have hya : w.heap.size < wa.heap.size := (by omega); have hya' : w.heap.size + 1 < wa.heap.size := (by omega)) | (go_at_call 14; refine (hvars _ belA).mono ?_; rintro r wb ⟨⟨A, cap, rfl, hown⟩, hbb⟩; have hcb := bcell hbb; have hfb := bfrozen hbb; have hzb := hbb.size; have hyb : w.heap.size < wb.heap.size := (by omega); have hyb' : w.heap.size + 1 < wb.heap.size := (by omega); have hva := VarsAt.of_own hown) | (go_at_call 42; refine (hnames _ _ _ (hva.later belA)).mono ?_; rintro r wc ⟨⟨B, rfl, hB, hmap⟩, hbc⟩; have hcc := bcell hbc; have hfc := bfrozen hbc; have hzc := hbc.size; have hyc : w.heap.size < wc.heap.size := (by omega); have hyc' : w.heap.size + 1 < wc.heap.size := (by omega)))
  refine bodyPost_ret (v := .agg #[.int .i64 (4), .int .i64 (0), .int .i64 (3)]) (by simp [results, Tryz.results32, go_sem, *]) rfl ⟨by rw [HV.out], ?_⟩
  exact belS

end Go.Proofs.YtikmbkojnfmiaaaGreatDoorRRRR
