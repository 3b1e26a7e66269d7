/- Walk over kinds.look.parts. -/
import Derived.Test.YtknfcamdfdfoeaaDoorZ11
set_option linter.unusedVariables false
set_option linter.unusedSimpArgs false
set_option maxRecDepth 100000
namespace Go.Proofs.YtknfcamdfdfoeaaDoor
open Go.RowKit Go.Sort

theorem intinfo : (Tryd.prog.info? 3).map (fun i => (i.zero, i.size, i.bytes)) = some (some (.int .i64 0), 1, 8) := by kernel_rfl

theorem own_base {w : World} {base base' : Nat} {e : TypeId} {size n : Nat} {v : Value} {xs : List Value} (h : w.ownsRow base e size v n xs) (hb : base' ≤ base) : w.ownsRow base' e size v n xs := by
  refine ⟨h.1, ?_⟩
  rcases h.2 with h2 | ⟨g, cap, cur, hv, hg, r⟩
  · exact .inl h2
  · exact .inr ⟨g, cap, cur, hv, by omega, r⟩

set_option maxHeartbeats 2000000 in
theorem parts_of (e : Ex) (l : List Va) (A : Option Addr) (cap B n : Nat) (Ae : Option Addr) (ce : Nat) (w : World) (he : SubsAt w e Ae ce) (hl : LookAt w l A cap B n) (h3 : e.sub.length ≤ 3)
    (hof : ∀ x ∈ e.sub, ∀ (A' : Option Addr) (c' : Nat) (W : World), SubsAt W x A' c' → LookAt W l A cap B n →
      Calls Tryd.prog 69 #[lookV l A cap B, exV x A' c'] W fun r w' => r = .returned (.tuple #[.int .i64 (x.typ l).1, .int .i64 (x.typ l).2]) ∧ Below W.heap.size W w') :
    Calls Tryd.prog 78 #[lookV l A cap B, exV e Ae ce] w fun r w' =>
      (∃ v, r = .returned (.tuple #[v, .int .i64 (Ex.typL l e.sub).2]) ∧ w'.ownsRow w.heap.size 3 1 v (Ex.typL l e.sub).1.length ((Ex.typL l e.sub).1.map (Value.int .i64))) ∧ Below w.heap.size w w' := by
  have hlen := he.len
  unfold maxLen at hlen
  obtain ⟨hl1, hl2⟩ := hlen
  have hT := Lib.hid (show joinT [] (Ex.typL l (e.sub.drop 0)) = Ex.typL l e.sub from joinT_nil _ (typL_err l e.sub))
  unfold lookV exV at *
  go_enter Tryd.func78, Tryd.ntmps78
  go_wp2_with fail
  refine wp_name fun W0 hW0 => ?_
  have hb0 : Below w.heap.size w W0 := by rw [hW0]; exact belA
  have hz0 : w.heap.size < W0.heap.size := by rw [hW0]; first | omega | (simp; done) | (simp; omega)
  have hz01 : w.heap.size + 1 < W0.heap.size := by rw [hW0]; simp
  have l0 : W0.cell? ⟨w.heap.size, 0, none⟩ = some (.slice A l.length cap) := by rw [hW0]; go_simp
  have l1 : W0.cell? ⟨w.heap.size, 1, none⟩ = some (.map (some B)) := by rw [hW0]; go_simp
  clear hW0
  replace he := he.later hb0
  replace hl := hl.later hb0
  go_loopw [6, 14] (fun v i wr => ∃ (k : Nat) (acc : List Int), k ≤ e.sub.length ∧ i = .int .i64 k ∧ acc.length = k ∧ wr.ownsRow W0.heap.size 3 1 v k (acc.map (Value.int .i64)) ∧ joinT acc (Ex.typL l (e.sub.drop k)) = Ex.typL l e.sub ∧ Below W0.heap.size W0 wr) (fun _ i _ => e.sub.length - (intOf i).toNat)
  case atStart => exact ⟨0, [], Nat.zero_le _, rfl, rfl, World.ownsRow_nil _ _ _ _, hT.out, Below.refl _ _⟩
  case round =>
    obtain ⟨k, acc, hk, rfl, hacc, hown, hrem, hbel⟩ := hrel
    have hc := bcell hbel
    have hzr := hbel.size
    have hz1 : w.heap.size < wr.heap.size := by omega
    have hz2 : w.heap.size + 1 < wr.heap.size := by omega
    have HACC := Lib.hid hacc; clear hacc
    by_cases hlt : k < e.sub.length
    · have hx : e.sub[k]? = some e.sub[k] := List.getElem?_eq_getElem hlt
      have hmem : e.sub[k] ∈ e.sub := List.getElem_mem hlt
      have hd : e.sub.drop k = e.sub[k] :: e.sub.drop (k + 1) := List.drop_eq_getElem_cons hlt
      generalize e.sub[k] = x at hx hmem hd
      obtain ⟨b, off, A', cap', rfl, c0, c1, c2, c3, hs⟩ := (he.later hbel).get hx
      rw [hd] at hrem
      have hof' := hof x hmem A' cap'
      cases hfx : ((x.typ l).2 != 0)
      · have h0 : (x.typ l).2 = 0 := by simpa using hfx
        rw [joinT_step l acc x _ h0] at hrem
        have HR := Lib.hid hrem; clear hrem hd hx h0
        go_wp2_with (first | (go_at_call 69; refine (hof' _ (hs.later belA) (hl.later belA)).mono ?_; rintro r w1 ⟨rfl, hb1⟩; have hc1 := bcell hb1; have hz1 := hb1.size; (try simp at hz1); (try have hy1 := lt0 w w1); (try have hy2 := ltA w 1 w1); (try have hy3 := ltA w 2 w1); (try have hy4 := lt0 wr w1); (try have hy5 := ltA wr 1 w1)) | (at_builtin; refine wpList_app rfl (.tmp 27) (.tmp 29) 79 rfl W0.heap.size 3 (.int .i64 0) 1 8 Tryd.underlying79 intinfo rfl (by omega) u6 k (acc.map (Value.int .i64)) _ 1 [.int .i64 (x.typ l).1] rfl (by repeat (first | (with_reducible assumption) | refine own_alloc ?_ | refine own_bel ?_ (by with_reducible assumption) | refine own_drew ?_)) rfl rfl (fun j u hj => by rw [cell_new]; simpa using hj) (by simp [Value.oneCell']) (by omega) (by omega) (by first | omega | (simp; omega)) ?_; intro v2 w2 hown2 hb2; have hz2 := hb2.size; (try simp at hz2)))
        go_roundw
        case rel => exact ⟨k + 1, acc ++ [(x.typ l).1], by omega, by go_num, by have := HACC.out; simp [this], by rw [List.map_append]; exact hown2, HR.out, belA⟩
        case measure => simp [intOf]; omega
      · have h0 : (x.typ l).2 ≠ 0 := by simpa using hfx
        rw [joinT_stop l acc x _ h0] at hrem
        have HR := Lib.hid hrem.symm; clear hrem hd hx h0
        go_wp2_with (first | (go_at_call 69; refine (hof' _ (hs.later belA) (hl.later belA)).mono ?_; rintro r w1 ⟨rfl, hb1⟩; have hc1 := bcell hb1; have hz1 := hb1.size; (try simp at hz1); (try have hy1 := lt0 w w1); (try have hy2 := ltA w 1 w1); (try have hy3 := ltA w 2 w1); (try have hy4 := lt0 wr w1); (try have hy5 := ltA wr 1 w1)))
        go_ret2
        exact ⟨⟨.slice none 0 0, by rw [HR.out]; rfl, by rw [HR.out]; exact World.ownsRow_nil _ _ _ _⟩, belA⟩
    · obtain rfl : k = e.sub.length := by omega
      rw [List.drop_length, Ex.typL, joinT, if_pos rfl, List.append_nil] at hrem
      have HR := Lib.hid hrem.symm; clear hrem
      go_wp2_with fail
      go_ret2
      refine ⟨⟨_, by rw [HR.out]; rfl, ?_⟩, belA⟩
      rw [HR.out]
      have := HACC.out
      dsimp only
      rw [this]
      exact own_base hown (by omega)

end Go.Proofs.YtknfcamdfdfoeaaDoor

/- Walk over kinds.look.of. -/
namespace Go.Proofs.YtknfcamdfdfoeaaDoor
open Go.RowKit Go.Sort

theorem typ_12 (l : List Va) (e : Ex) (h : (e.typ l).2 = 0) : (e.typ l).1 = 1 ∨ (e.typ l).1 = 2 := by
  rw [Ex.typ_eq] at h ⊢
  split at h
  · rename_i h0
    rw [if_pos h0]
    unfold typK at h ⊢
    split at h
    · simp at h
    · rename_i h1
      rw [if_neg h1]
      unfold endK at h ⊢
      split at h
      · rename_i h2
        rw [if_pos h2]
        exact h2.2
      · simp at h
  · rename_i h0; exact absurd h h0
theorem typL_12 (l : List Va) : ∀ sub : List Ex, (Ex.typL l sub).2 = 0 → ∀ t ∈ (Ex.typL l sub).1, t = 1 ∨ t = 2
  | [], _, t, ht => by simp [Ex.typL] at ht
  | x :: r, h, t, ht => by
    simp only [Ex.typL, joinT] at h ht
    split at h
    · rename_i h0
      rw [if_pos h0] at ht
      split at h
      · rename_i h1
        rw [if_pos h1] at ht
        simp only [List.singleton_append, List.mem_cons] at ht
        rcases ht with rfl | ht
        · exact typ_12 l x h0
        · exact typL_12 l r h1 t ht
      · rename_i h1; exact absurd h h1
    · rename_i h0; exact absurd h h0

/-- What is called first: the parts' types, the name's. -/
def OfParts (e : Ex) (l : List Va) (A : Option Addr) (cap B : Nat) (Ae : Option Addr) (ce : Nat) (w : World) : Prop :=
  ∀ W, Below w.heap.size w W → Calls Tryd.prog 78 #[lookV l A cap B, exV e Ae ce] W fun r w' =>
      (∃ v, r = .returned (.tuple #[v, .int .i64 (Ex.typL l e.sub).2]) ∧ w'.ownsRow W.heap.size 3 1 v (Ex.typL l e.sub).1.length ((Ex.typL l e.sub).1.map (Value.int .i64))) ∧ Below W.heap.size W w'
def OfType (e : Ex) (l : List Va) (A : Option Addr) (cap B : Nat) (w : World) : Prop :=
  ∀ W, Below w.heap.size w W → Calls Tryd.prog 79 #[lookV l A cap B, .string e.name] W fun r w' => r = .returned (.tuple #[.int .i64 (typeOfP l e.name).1, .bool (typeOfP l e.name).2]) ∧ Below W.heap.size W w'

end Go.Proofs.YtknfcamdfdfoeaaDoor

/- Walk over kinds.look.of: the kinds 1, 2, 3, 4. -/
namespace Go.Proofs.YtknfcamdfdfoeaaDoor
open Go.RowKit Go.Sort

set_option maxHeartbeats 4000000 in
set_option maxRecDepth 100000 in
theorem of_k1 (e : Ex) (l : List Va) (A : Option Addr) (cap B : Nat) (Ae : Option Addr) (ce : Nat) (w : World) (hk : e.kind = 1) (hts : Ex.typL l e.sub = ([], 0)) (hbn : e.name.toList.isEmpty = true)
    (hparts : OfParts e l A cap B Ae ce w) (htype : OfType e l A cap B w) :
    Calls Tryd.prog 69 #[lookV l A cap B, exV e Ae ce] w fun r w' => r = .returned (.tuple #[.int .i64 (e.typ l).1, .int .i64 (e.typ l).2]) ∧ Below w.heap.size w w' := by
  have hv : e.typ l = typK l e.kind e.n e.name [] := by rw [Ex.typ_eq, hts]; rfl
  rw [hk, typK, if_neg (by rintro ⟨h1, h2⟩; simp_all)] at hv
  have hpl : (Ex.typL l e.sub).1 = [] := by rw [hts]
  have hpe : (Ex.typL l e.sub).2 = 0 := by rw [hts]
  clear hts
  unfold OfParts at hparts
  unfold OfType at htype
  have q1 : (e.kind == 1) = true := by rw [hk]; rfl
  clear hk
  unfold lookV exV at *
  simp [outK, endK] at hv
  have HV := Lib.hid hv; clear hv
  go_enter Tryd.func69, Tryd.ntmps69
  go_wp2_with (first | (go_at_call 78; refine (hparts _ belA).mono ?_; rintro r w1 ⟨⟨v, rfl, hown⟩, hb1⟩; have hc1 := bcell hb1; have hz1 := hb1.size; (try simp at hz1); (try have hy1 := lt0 w w1); (try have hy2 := ltA w 1 w1); (try have hy3 := ltA w 2 w1); (try have hy4 := lt0 wr w1); (try have hy5 := ltA wr 1 w1); rw [hpl] at hown; skip) | (go_at_call 79; refine (htype _ belA).mono ?_; rintro r w1 ⟨rfl, hb1⟩; have hc1 := bcell hb1; have hz1 := hb1.size; (try simp at hz1); (try have hy1 := lt0 w w1); (try have hy2 := ltA w 1 w1); (try have hy3 := ltA w 2 w1); (try have hy4 := lt0 wr w1); (try have hy5 := ltA wr 1 w1); (try have hgz := Nat.lt_of_lt_of_le hg2 hb1.size)))
  go_ret2
  exact ⟨by rw [HV.out]; rfl, belA⟩

set_option maxHeartbeats 4000000 in
set_option maxRecDepth 100000 in
theorem of_k2 (e : Ex) (l : List Va) (A : Option Addr) (cap B : Nat) (Ae : Option Addr) (ce : Nat) (w : World) (hk : e.kind = 2) (hts : Ex.typL l e.sub = ([], 0)) (hbn : e.name.toList.isEmpty = true)
    (hparts : OfParts e l A cap B Ae ce w) (htype : OfType e l A cap B w) :
    Calls Tryd.prog 69 #[lookV l A cap B, exV e Ae ce] w fun r w' => r = .returned (.tuple #[.int .i64 (e.typ l).1, .int .i64 (e.typ l).2]) ∧ Below w.heap.size w w' := by
  have hv : e.typ l = typK l e.kind e.n e.name [] := by rw [Ex.typ_eq, hts]; rfl
  rw [hk, typK, if_neg (by rintro ⟨h1, h2⟩; simp_all)] at hv
  have hpl : (Ex.typL l e.sub).1 = [] := by rw [hts]
  have hpe : (Ex.typL l e.sub).2 = 0 := by rw [hts]
  clear hts
  unfold OfParts at hparts
  unfold OfType at htype
  have q1 : (e.kind == 1) = false := by rw [hk]; rfl
  have q2 : (e.kind == 2) = true := by rw [hk]; rfl
  clear hk
  unfold lookV exV at *
  simp [outK, endK] at hv
  have HV := Lib.hid hv; clear hv
  go_enter Tryd.func69, Tryd.ntmps69
  go_wp2_with (first | (go_at_call 78; refine (hparts _ belA).mono ?_; rintro r w1 ⟨⟨v, rfl, hown⟩, hb1⟩; have hc1 := bcell hb1; have hz1 := hb1.size; (try simp at hz1); (try have hy1 := lt0 w w1); (try have hy2 := ltA w 1 w1); (try have hy3 := ltA w 2 w1); (try have hy4 := lt0 wr w1); (try have hy5 := ltA wr 1 w1); rw [hpl] at hown; skip) | (go_at_call 79; refine (htype _ belA).mono ?_; rintro r w1 ⟨rfl, hb1⟩; have hc1 := bcell hb1; have hz1 := hb1.size; (try simp at hz1); (try have hy1 := lt0 w w1); (try have hy2 := ltA w 1 w1); (try have hy3 := ltA w 2 w1); (try have hy4 := lt0 wr w1); (try have hy5 := ltA wr 1 w1); (try have hgz := Nat.lt_of_lt_of_le hg2 hb1.size)))
  go_ret2
  exact ⟨by rw [HV.out]; rfl, belA⟩

set_option maxHeartbeats 4000000 in
set_option maxRecDepth 100000 in
theorem of_k3 (e : Ex) (l : List Va) (A : Option Addr) (cap B : Nat) (Ae : Option Addr) (ce : Nat) (w : World) (hk : e.kind = 3) (hts : Ex.typL l e.sub = ([], 0)) (hbn : e.name.toList.isEmpty = false) (hbt : (typeOfP l e.name).2 = true)
    (hparts : OfParts e l A cap B Ae ce w) (htype : OfType e l A cap B w) :
    Calls Tryd.prog 69 #[lookV l A cap B, exV e Ae ce] w fun r w' => r = .returned (.tuple #[.int .i64 (e.typ l).1, .int .i64 (e.typ l).2]) ∧ Below w.heap.size w w' := by
  have hv : e.typ l = typK l e.kind e.n e.name [] := by rw [Ex.typ_eq, hts]; rfl
  rw [hk, typK, if_neg (by rintro ⟨h1, h2⟩; simp_all)] at hv
  have hpl : (Ex.typL l e.sub).1 = [] := by rw [hts]
  have hpe : (Ex.typL l e.sub).2 = 0 := by rw [hts]
  clear hts
  unfold OfParts at hparts
  unfold OfType at htype
  have q1 : (e.kind == 1) = false := by rw [hk]; rfl
  have q2 : (e.kind == 2) = false := by rw [hk]; rfl
  have q3 : (e.kind == 3) = true := by rw [hk]; rfl
  clear hk
  unfold lookV exV at *
  generalize hnm : (typeOfP l e.name).1 = nm at hv htype
  clear hnm
  rcases (show nm = 1 ∨ nm = 2 ∨ (nm ≠ 1 ∧ nm ≠ 2) from by omega) with rfl | rfl | ⟨n1, n2⟩
  · replace hv : e.typ l = (1, 0) := by rw [hv]; rfl
    have HV := Lib.hid hv; clear hv
    go_enter Tryd.func69, Tryd.ntmps69
    go_wp2_with (first | (go_at_call 78; refine (hparts _ belA).mono ?_; rintro r w1 ⟨⟨v, rfl, hown⟩, hb1⟩; have hc1 := bcell hb1; have hz1 := hb1.size; (try simp at hz1); (try have hy1 := lt0 w w1); (try have hy2 := ltA w 1 w1); (try have hy3 := ltA w 2 w1); (try have hy4 := lt0 wr w1); (try have hy5 := ltA wr 1 w1); rw [hpl] at hown; skip) | (go_at_call 79; refine (htype _ belA).mono ?_; rintro r w1 ⟨rfl, hb1⟩; have hc1 := bcell hb1; have hz1 := hb1.size; (try simp at hz1); (try have hy1 := lt0 w w1); (try have hy2 := ltA w 1 w1); (try have hy3 := ltA w 2 w1); (try have hy4 := lt0 wr w1); (try have hy5 := ltA wr 1 w1); (try have hgz := Nat.lt_of_lt_of_le hg2 hb1.size)))
    go_ret2
    exact ⟨by rw [HV.out]; rfl, belA⟩
  · replace hv : e.typ l = (2, 0) := by rw [hv]; rfl
    have HV := Lib.hid hv; clear hv
    go_enter Tryd.func69, Tryd.ntmps69
    go_wp2_with (first | (go_at_call 78; refine (hparts _ belA).mono ?_; rintro r w1 ⟨⟨v, rfl, hown⟩, hb1⟩; have hc1 := bcell hb1; have hz1 := hb1.size; (try simp at hz1); (try have hy1 := lt0 w w1); (try have hy2 := ltA w 1 w1); (try have hy3 := ltA w 2 w1); (try have hy4 := lt0 wr w1); (try have hy5 := ltA wr 1 w1); rw [hpl] at hown; skip) | (go_at_call 79; refine (htype _ belA).mono ?_; rintro r w1 ⟨rfl, hb1⟩; have hc1 := bcell hb1; have hz1 := hb1.size; (try simp at hz1); (try have hy1 := lt0 w w1); (try have hy2 := ltA w 1 w1); (try have hy3 := ltA w 2 w1); (try have hy4 := lt0 wr w1); (try have hy5 := ltA wr 1 w1); (try have hgz := Nat.lt_of_lt_of_le hg2 hb1.size)))
    go_ret2
    exact ⟨by rw [HV.out]; rfl, belA⟩
  · replace hv : e.typ l = (0, 20) := by rw [hv]; exact if_neg (by rintro ⟨_, h⟩; exact h.elim n1 n2)
    have m1 : (nm != 1) = true := by simpa using n1
    have m2 : (nm != 2) = true := by simpa using n2
    clear n1 n2
    have HV := Lib.hid hv; clear hv
    go_enter Tryd.func69, Tryd.ntmps69
    go_wp2_with (first | (go_at_call 78; refine (hparts _ belA).mono ?_; rintro r w1 ⟨⟨v, rfl, hown⟩, hb1⟩; have hc1 := bcell hb1; have hz1 := hb1.size; (try simp at hz1); (try have hy1 := lt0 w w1); (try have hy2 := ltA w 1 w1); (try have hy3 := ltA w 2 w1); (try have hy4 := lt0 wr w1); (try have hy5 := ltA wr 1 w1); rw [hpl] at hown; skip) | (go_at_call 79; refine (htype _ belA).mono ?_; rintro r w1 ⟨rfl, hb1⟩; have hc1 := bcell hb1; have hz1 := hb1.size; (try simp at hz1); (try have hy1 := lt0 w w1); (try have hy2 := ltA w 1 w1); (try have hy3 := ltA w 2 w1); (try have hy4 := lt0 wr w1); (try have hy5 := ltA wr 1 w1); (try have hgz := Nat.lt_of_lt_of_le hg2 hb1.size)))
    go_ret2
    exact ⟨by rw [HV.out]; rfl, belA⟩

set_option maxHeartbeats 4000000 in
set_option maxRecDepth 100000 in
theorem of_k4 (e : Ex) (l : List Va) (A : Option Addr) (cap B : Nat) (Ae : Option Addr) (ce : Nat) (w : World) (t0 : Int) (hk : e.kind = 4) (hts : Ex.typL l e.sub = ([t0], 0)) (ht0 : t0 = 1 ∨ t0 = 2) (hn : e.n = 1 ∨ e.n = 2) (hbn : e.name.toList.isEmpty = true)
    (hparts : OfParts e l A cap B Ae ce w) (htype : OfType e l A cap B w) :
    Calls Tryd.prog 69 #[lookV l A cap B, exV e Ae ce] w fun r w' => r = .returned (.tuple #[.int .i64 (e.typ l).1, .int .i64 (e.typ l).2]) ∧ Below w.heap.size w w' := by
  have hv : e.typ l = typK l e.kind e.n e.name [t0] := by rw [Ex.typ_eq, hts]; rfl
  rw [hk, typK, if_neg (by rintro ⟨h1, h2⟩; simp_all)] at hv
  have hpl : (Ex.typL l e.sub).1 = [t0] := by rw [hts]
  have hpe : (Ex.typL l e.sub).2 = 0 := by rw [hts]
  clear hts
  unfold OfParts at hparts
  unfold OfType at htype
  have q1 : (e.kind == 1) = false := by rw [hk]; rfl
  have q2 : (e.kind == 2) = false := by rw [hk]; rfl
  have q3 : (e.kind == 3) = false := by rw [hk]; rfl
  have q4 : (e.kind == 4) = true := by rw [hk]; rfl
  clear hk
  unfold lookV exV at *
  rcases ht0 with rfl | rfl <;> rcases hn with hn | hn <;> 
  · rw [hn] at hv
    simp [outK, endK] at hv
    (try have hn1 : (e.n == 1) = true := by rw [hn]; rfl)
    (try have hn1 : (e.n == 1) = false := by rw [hn]; rfl)
    (try have hn2 : (e.n == 2) = true := by rw [hn]; rfl)
    (try have hn2 : (e.n == 2) = false := by rw [hn]; rfl)
    clear hn
    have HV := Lib.hid hv; clear hv
    go_enter Tryd.func69, Tryd.ntmps69
    go_wp2_with (first | (go_at_call 78; refine (hparts _ belA).mono ?_; rintro r w1 ⟨⟨v, rfl, hown⟩, hb1⟩; have hc1 := bcell hb1; have hz1 := hb1.size; (try simp at hz1); (try have hy1 := lt0 w w1); (try have hy2 := ltA w 1 w1); (try have hy3 := ltA w 2 w1); (try have hy4 := lt0 wr w1); (try have hy5 := ltA wr 1 w1); rw [hpl] at hown; simp only [List.map_cons, List.map_nil, List.length_cons, List.length_nil, Nat.zero_add, Nat.reduceAdd] at hown; obtain ⟨g, gc, rfl, hg1, hg2, hg3, hg4, hcells⟩ := own_get hown (by omega); unfold maxLen at hg4; have e0 := hcells 0 _ rfl; clear hcells hown) | (go_at_call 79; refine (htype _ belA).mono ?_; rintro r w1 ⟨rfl, hb1⟩; have hc1 := bcell hb1; have hz1 := hb1.size; (try simp at hz1); (try have hy1 := lt0 w w1); (try have hy2 := ltA w 1 w1); (try have hy3 := ltA w 2 w1); (try have hy4 := lt0 wr w1); (try have hy5 := ltA wr 1 w1); (try have hgz := Nat.lt_of_lt_of_le hg2 hb1.size)))
    go_ret2
    exact ⟨by rw [HV.out]; rfl, belA⟩

end Go.Proofs.YtknfcamdfdfoeaaDoor

/- Walk over kinds.look.of: the kinds 6. -/
namespace Go.Proofs.YtknfcamdfdfoeaaDoor
open Go.RowKit Go.Sort

set_option maxHeartbeats 4000000 in
set_option maxRecDepth 100000 in
theorem of_k6 (e : Ex) (l : List Va) (A : Option Addr) (cap B : Nat) (Ae : Option Addr) (ce : Nat) (w : World) (t0 t1 t2 : Int) (hk : e.kind = 6) (hts : Ex.typL l e.sub = ([t0, t1, t2], 0)) (ht0 : t0 = 1 ∨ t0 = 2) (ht1 : t1 = 1 ∨ t1 = 2) (ht2 : t2 = 1 ∨ t2 = 2) (hbn : e.name.toList.isEmpty = true)
    (hparts : OfParts e l A cap B Ae ce w) (htype : OfType e l A cap B w) :
    Calls Tryd.prog 69 #[lookV l A cap B, exV e Ae ce] w fun r w' => r = .returned (.tuple #[.int .i64 (e.typ l).1, .int .i64 (e.typ l).2]) ∧ Below w.heap.size w w' := by
  have hv : e.typ l = typK l e.kind e.n e.name [t0, t1, t2] := by rw [Ex.typ_eq, hts]; rfl
  rw [hk, typK, if_neg (by rintro ⟨h1, h2⟩; simp_all)] at hv
  have hpl : (Ex.typL l e.sub).1 = [t0, t1, t2] := by rw [hts]
  have hpe : (Ex.typL l e.sub).2 = 0 := by rw [hts]
  clear hts
  unfold OfParts at hparts
  unfold OfType at htype
  have q1 : (e.kind == 1) = false := by rw [hk]; rfl
  have q2 : (e.kind == 2) = false := by rw [hk]; rfl
  have q3 : (e.kind == 3) = false := by rw [hk]; rfl
  have q4 : (e.kind == 4) = false := by rw [hk]; rfl
  have q5 : (e.kind == 5) = false := by rw [hk]; rfl
  have q6 : (e.kind == 6) = true := by rw [hk]; rfl
  clear hk
  unfold lookV exV at *
  have hv0 : ∀ (p q : Bool), (t0 == 2) = p → (t1 == t2) = q → e.typ l = if (p && q) = true ∧ (t1 = 1 ∨ t1 = 2) then (t1, 0) else (0, 20) := by
    rintro p q rfl rfl; rw [hv]; rfl
  clear hv
  cases a : (t0 == 2)
  · have hv : e.typ l = (0, 20) := by rw [hv0 _ _ a rfl]; rfl
    clear hv0
    have HV := Lib.hid hv; clear hv
    go_enter Tryd.func69, Tryd.ntmps69
    go_wp2_with (first | (go_at_call 78; refine (hparts _ belA).mono ?_; rintro r w1 ⟨⟨v, rfl, hown⟩, hb1⟩; have hc1 := bcell hb1; have hz1 := hb1.size; (try simp at hz1); (try have hy1 := lt0 w w1); (try have hy2 := ltA w 1 w1); (try have hy3 := ltA w 2 w1); (try have hy4 := lt0 wr w1); (try have hy5 := ltA wr 1 w1); rw [hpl] at hown; simp only [List.map_cons, List.map_nil, List.length_cons, List.length_nil, Nat.zero_add, Nat.reduceAdd] at hown; obtain ⟨g, gc, rfl, hg1, hg2, hg3, hg4, hcells⟩ := own_get hown (by omega); unfold maxLen at hg4; have e0 := hcells 0 _ rfl; have e1 := hcells 1 _ rfl; have e2 := hcells 2 _ rfl; clear hcells hown) | (go_at_call 79; refine (htype _ belA).mono ?_; rintro r w1 ⟨rfl, hb1⟩; have hc1 := bcell hb1; have hz1 := hb1.size; (try simp at hz1); (try have hy1 := lt0 w w1); (try have hy2 := ltA w 1 w1); (try have hy3 := ltA w 2 w1); (try have hy4 := lt0 wr w1); (try have hy5 := ltA wr 1 w1); (try have hgz := Nat.lt_of_lt_of_le hg2 hb1.size)))
    refine wp_region_qb (by kernel_rfl) (by kernel_rfl) (fun hgq => ?_)
    repeat (quiet_step (fail))
    refine wpQuiet_nil ?_
    intro wq hwq
    replace hwq := bel_of_class hwq
    clear hgq
    have hcq := bcell hwq
    have hzq := hwq.size
    (try simp at hzq)
    (try have hyq1 := lt0 w wq); (try have hyq2 := ltA w 1 wq); (try have hyq3 := ltA w 2 wq); (try have hyq4 := lt0 wr wq)
    go_wp2_with fail
    go_ret2
    exact ⟨by rw [HV.out]; rfl, belA⟩
  cases b : (t1 == t2)
  · have hv : e.typ l = (0, 20) := by rw [hv0 _ _ a b]; rfl
    clear hv0
    have HV := Lib.hid hv; clear hv
    go_enter Tryd.func69, Tryd.ntmps69
    go_wp2_with (first | (go_at_call 78; refine (hparts _ belA).mono ?_; rintro r w1 ⟨⟨v, rfl, hown⟩, hb1⟩; have hc1 := bcell hb1; have hz1 := hb1.size; (try simp at hz1); (try have hy1 := lt0 w w1); (try have hy2 := ltA w 1 w1); (try have hy3 := ltA w 2 w1); (try have hy4 := lt0 wr w1); (try have hy5 := ltA wr 1 w1); rw [hpl] at hown; simp only [List.map_cons, List.map_nil, List.length_cons, List.length_nil, Nat.zero_add, Nat.reduceAdd] at hown; obtain ⟨g, gc, rfl, hg1, hg2, hg3, hg4, hcells⟩ := own_get hown (by omega); unfold maxLen at hg4; have e0 := hcells 0 _ rfl; have e1 := hcells 1 _ rfl; have e2 := hcells 2 _ rfl; clear hcells hown) | (go_at_call 79; refine (htype _ belA).mono ?_; rintro r w1 ⟨rfl, hb1⟩; have hc1 := bcell hb1; have hz1 := hb1.size; (try simp at hz1); (try have hy1 := lt0 w w1); (try have hy2 := ltA w 1 w1); (try have hy3 := ltA w 2 w1); (try have hy4 := lt0 wr w1); (try have hy5 := ltA wr 1 w1); (try have hgz := Nat.lt_of_lt_of_le hg2 hb1.size)))
    refine wp_region_qb (by kernel_rfl) (by kernel_rfl) (fun hgq => ?_)
    repeat (quiet_step (fail))
    refine wpQuiet_nil ?_
    intro wq hwq
    replace hwq := bel_of_class hwq
    clear hgq
    have hcq := bcell hwq
    have hzq := hwq.size
    (try simp at hzq)
    (try have hyq1 := lt0 w wq); (try have hyq2 := ltA w 1 wq); (try have hyq3 := ltA w 2 wq); (try have hyq4 := lt0 wr wq)
    go_wp2_with fail
    go_ret2
    exact ⟨by rw [HV.out]; rfl, belA⟩
  have hv := hv0 _ _ a b
  clear hv0
  rcases ht1 with rfl | rfl
  · replace hv : e.typ l = (1, 0) := hv
    have HV := Lib.hid hv; clear hv
    go_enter Tryd.func69, Tryd.ntmps69
    go_wp2_with (first | (go_at_call 78; refine (hparts _ belA).mono ?_; rintro r w1 ⟨⟨v, rfl, hown⟩, hb1⟩; have hc1 := bcell hb1; have hz1 := hb1.size; (try simp at hz1); (try have hy1 := lt0 w w1); (try have hy2 := ltA w 1 w1); (try have hy3 := ltA w 2 w1); (try have hy4 := lt0 wr w1); (try have hy5 := ltA wr 1 w1); rw [hpl] at hown; simp only [List.map_cons, List.map_nil, List.length_cons, List.length_nil, Nat.zero_add, Nat.reduceAdd] at hown; obtain ⟨g, gc, rfl, hg1, hg2, hg3, hg4, hcells⟩ := own_get hown (by omega); unfold maxLen at hg4; have e0 := hcells 0 _ rfl; have e1 := hcells 1 _ rfl; have e2 := hcells 2 _ rfl; clear hcells hown) | (go_at_call 79; refine (htype _ belA).mono ?_; rintro r w1 ⟨rfl, hb1⟩; have hc1 := bcell hb1; have hz1 := hb1.size; (try simp at hz1); (try have hy1 := lt0 w w1); (try have hy2 := ltA w 1 w1); (try have hy3 := ltA w 2 w1); (try have hy4 := lt0 wr w1); (try have hy5 := ltA wr 1 w1); (try have hgz := Nat.lt_of_lt_of_le hg2 hb1.size)))
    refine wp_region_qb (by kernel_rfl) (by kernel_rfl) (fun hgq => ?_)
    repeat (quiet_step (fail))
    refine wpQuiet_nil ?_
    intro wq hwq
    replace hwq := bel_of_class hwq
    clear hgq
    have hcq := bcell hwq
    have hzq := hwq.size
    (try simp at hzq)
    (try have hyq1 := lt0 w wq); (try have hyq2 := ltA w 1 wq); (try have hyq3 := ltA w 2 wq); (try have hyq4 := lt0 wr wq)
    go_wp2_with fail
    go_ret2
    exact ⟨by rw [HV.out]; rfl, belA⟩
  · replace hv : e.typ l = (2, 0) := hv
    have HV := Lib.hid hv; clear hv
    go_enter Tryd.func69, Tryd.ntmps69
    go_wp2_with (first | (go_at_call 78; refine (hparts _ belA).mono ?_; rintro r w1 ⟨⟨v, rfl, hown⟩, hb1⟩; have hc1 := bcell hb1; have hz1 := hb1.size; (try simp at hz1); (try have hy1 := lt0 w w1); (try have hy2 := ltA w 1 w1); (try have hy3 := ltA w 2 w1); (try have hy4 := lt0 wr w1); (try have hy5 := ltA wr 1 w1); rw [hpl] at hown; simp only [List.map_cons, List.map_nil, List.length_cons, List.length_nil, Nat.zero_add, Nat.reduceAdd] at hown; obtain ⟨g, gc, rfl, hg1, hg2, hg3, hg4, hcells⟩ := own_get hown (by omega); unfold maxLen at hg4; have e0 := hcells 0 _ rfl; have e1 := hcells 1 _ rfl; have e2 := hcells 2 _ rfl; clear hcells hown) | (go_at_call 79; refine (htype _ belA).mono ?_; rintro r w1 ⟨rfl, hb1⟩; have hc1 := bcell hb1; have hz1 := hb1.size; (try simp at hz1); (try have hy1 := lt0 w w1); (try have hy2 := ltA w 1 w1); (try have hy3 := ltA w 2 w1); (try have hy4 := lt0 wr w1); (try have hy5 := ltA wr 1 w1); (try have hgz := Nat.lt_of_lt_of_le hg2 hb1.size)))
    refine wp_region_qb (by kernel_rfl) (by kernel_rfl) (fun hgq => ?_)
    repeat (quiet_step (fail))
    refine wpQuiet_nil ?_
    intro wq hwq
    replace hwq := bel_of_class hwq
    clear hgq
    have hcq := bcell hwq
    have hzq := hwq.size
    (try simp at hzq)
    (try have hyq1 := lt0 w wq); (try have hyq2 := ltA w 1 wq); (try have hyq3 := ltA w 2 wq); (try have hyq4 := lt0 wr wq)
    go_wp2_with fail
    go_ret2
    exact ⟨by rw [HV.out]; rfl, belA⟩

end Go.Proofs.YtknfcamdfdfoeaaDoor
