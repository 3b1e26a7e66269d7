/- Walks over the package kinds: typeOf, parts, of. -/
import Derived.Test.YtikmbkojnfmiaaaGreatDoorRRRRBB
import Derived.Test.YtikmbkojnfmiaaaGreatDoorRRRRWShow2
set_option linter.unusedVariables false
set_option linter.unusedSimpArgs false
set_option maxRecDepth 100000
namespace Go.Proofs.YtikmbkojnfmiaaaGreatDoorRRRR
open Go.RowKit Go.Sort

/-- What a look needs: its variables lie there, its map holds their places. -/
structure LookAt (w : World) (l : List Va) (A : Option Addr) (cap B n : Nat) : Prop where
  vars : VarsAt w l A cap
  map : MapI Tryz.prog 9 3 w B n (findV l)
theorem LookAt.later {w w' : World} {l : List Va} {A : Option Addr} {cap B n : Nat} (h : LookAt w l A cap B n) (hb : Below w.heap.size w w') : LookAt w' l A cap B n := ⟨h.vars.later hb, h.map.bel hb⟩
def lookV (l : List Va) (A : Option Addr) (cap B : Nat) : Value := .agg #[.slice A l.length cap, .map (some B)]

set_option maxHeartbeats 1000000 in
theorem typeOf_any (l : List Va) (A : Option Addr) (cap B n : Nat) (s : ByteArray) (hs : s.size ≤ maxLen) (w : World) (hl : LookAt w l A cap B n) :
    Calls Tryz.prog 76 #[lookV l A cap B, .string s] w fun r w' => r = .returned (.tuple #[.int .i64 (typeOfP l s).1, .bool (typeOfP l s).2]) ∧ Below w.heap.size w w' := by
  have hl2 := hl.vars.len
  unfold maxLen at hl2
  obtain ⟨hl3, hl4⟩ := hl2
  have hm := hl.map
  have hBz := hm.lt
  have hv : typeOfP l s = typeOfP l s := rfl
  rw (occs := .pos [2]) [typeOfP] at hv
  unfold lookV
  cases hf : findV l s with
  | none =>
    rw [hf] at hv
    have HV := Lib.hid hv; clear hv
    go_enter Tryz.func76, Tryz.ntmps76
    go_wp2_with (first | (at_lookup; refine wpList_lkokI rfl (.tmp 10) (.tmp 11) 48 rfl Tryz.underlying9 Tryz.underlying48 Tryz.underlying3 (zeroInt _) B n (findV l) s rfl (by repeat (first | (with_reducible assumption) | refine MapI.alloc ?_ | refine MapI.bel ?_ (by with_reducible assumption) | refine MapI.drew ?_)) rfl hs ?_))
    go_wp2_with fail
    go_ret2
    exact ⟨by rw [HV.out]; rfl, belA⟩
  | some j =>
    rw [hf] at hv
    obtain ⟨k, v, rfl, hx, _⟩ := findV_some hf
    have hkl : k < l.length := (List.getElem?_eq_some_iff.1 hx).1
    obtain ⟨b, off, rfl, hbb, ⟨d0, d1, d2, d3⟩⟩ := hl.vars.get hx
    simp only [Int.toNat_natCast, hx] at hv
    have hbb' : b < w.heap.size + 1 := by omega
    clear hx
    have HV := Lib.hid hv; clear hv
    go_enter Tryz.func76, Tryz.ntmps76
    go_wp2_with (first | (at_lookup; refine wpList_lkokI rfl (.tmp 10) (.tmp 11) 48 rfl Tryz.underlying9 Tryz.underlying48 Tryz.underlying3 (zeroInt _) B n (findV l) s rfl (by repeat (first | (with_reducible assumption) | refine MapI.alloc ?_ | refine MapI.bel ?_ (by with_reducible assumption) | refine MapI.drew ?_)) rfl hs ?_))
    go_wp2_with fail
    go_ret2
    exact ⟨by rw [HV.out]; rfl, belA⟩

end Go.Proofs.YtikmbkojnfmiaaaGreatDoorRRRR

/- Walk over kinds.look.parts. -/
namespace Go.Proofs.YtikmbkojnfmiaaaGreatDoorRRRR
open Go.RowKit Go.Sort

theorem intinfo : (Tryz.prog.info? 3).map (fun i => (i.zero, i.size, i.bytes)) = some (some (.int .i64 0), 1, 8) := by kernel_rfl

theorem own_base {w : World} {base base' : Nat} {e : TypeId} {size n : Nat} {v : Value} {xs : List Value} (h : w.ownsRow base e size v n xs) (hb : base' ≤ base) : w.ownsRow base' e size v n xs := by
  refine ⟨h.1, ?_⟩
  rcases h.2 with h2 | ⟨g, cap, cur, hv, hg, r⟩
  · exact .inl h2
  · exact .inr ⟨g, cap, cur, hv, by omega, r⟩

set_option maxHeartbeats 2000000 in
theorem parts_of (e : Ex) (l : List Va) (A : Option Addr) (cap B n : Nat) (Ae : Option Addr) (ce : Nat) (w : World) (he : SubsAt w e Ae ce) (hl : LookAt w l A cap B n) (h3 : e.sub.length ≤ 3)
    (hof : ∀ x ∈ e.sub, ∀ (A' : Option Addr) (c' : Nat) (W : World), SubsAt W x A' c' → LookAt W l A cap B n →
      Calls Tryz.prog 57 #[lookV l A cap B, exV x A' c'] W fun r w' => r = .returned (.tuple #[.int .i64 (x.typ l).1, .int .i64 (x.typ l).2]) ∧ Below W.heap.size W w') :
    Calls Tryz.prog 75 #[lookV l A cap B, exV e Ae ce] w fun r w' =>
      (∃ v, r = .returned (.tuple #[v, .int .i64 (Ex.typL l e.sub).2]) ∧ w'.ownsRow w.heap.size 3 1 v (Ex.typL l e.sub).1.length ((Ex.typL l e.sub).1.map (Value.int .i64))) ∧ Below w.heap.size w w' := by
  have hlen := he.len
  unfold maxLen at hlen
  obtain ⟨hl1, hl2⟩ := hlen
  have hT := Lib.hid (show joinT [] (Ex.typL l (e.sub.drop 0)) = Ex.typL l e.sub from joinT_nil _ (typL_err l e.sub))
  unfold lookV exV at *
  go_enter Tryz.func75, Tryz.ntmps75
  go_wp2_with fail
  refine wp_name fun W0 hW0 => ?_
  have hb0 : Below w.heap.size w W0 := by rw [hW0]; exact belA
  have hz0 : w.heap.size < W0.heap.size := by rw [hW0]; first | omega | (simp; done) | (simp; omega)
  have hz01 : w.heap.size + 1 < W0.heap.size := by rw [hW0]; simp
  have l0 : W0.cell? ⟨w.heap.size, 0, none⟩ = some (.slice A l.length cap) := by rw [hW0]; go_simp
  have l1 : W0.cell? ⟨w.heap.size, 1, none⟩ = some (.map (some B)) := by rw [hW0]; go_simp
  clear hW0
  replace he := he.later hb0
  replace hl := hl.later hb0
  go_loopw [6, 14] (fun v i wr => ∃ (k : Nat) (acc : List Int), k ≤ e.sub.length ∧ i = .int .i64 k ∧ acc.length = k ∧ wr.ownsRow W0.heap.size 3 1 v k (acc.map (Value.int .i64)) ∧ joinT acc (Ex.typL l (e.sub.drop k)) = Ex.typL l e.sub ∧ Below W0.heap.size W0 wr) (fun _ i _ => e.sub.length - (intOf i).toNat)
  case atStart => exact ⟨0, [], Nat.zero_le _, rfl, rfl, World.ownsRow_nil _ _ _ _, hT.out, Below.refl _ _⟩
  case round =>
    obtain ⟨k, acc, hk, rfl, hacc, hown, hrem, hbel⟩ := hrel
    have hc := bcell hbel
    have hzr := hbel.size
    have hz1 : w.heap.size < wr.heap.size := by omega
    have hz2 : w.heap.size + 1 < wr.heap.size := by omega
    have HACC := Lib.hid hacc; clear hacc
    by_cases hlt : k < e.sub.length
    · have hx : e.sub[k]? = some e.sub[k] := List.getElem?_eq_getElem hlt
      have hmem : e.sub[k] ∈ e.sub := List.getElem_mem hlt
      have hd : e.sub.drop k = e.sub[k] :: e.sub.drop (k + 1) := List.drop_eq_getElem_cons hlt
      generalize e.sub[k] = x at hx hmem hd
      obtain ⟨b, off, A', cap', rfl, c0, c1, c2, c3, hs⟩ := (he.later hbel).get hx
      rw [hd] at hrem
      have hof' := hof x hmem A' cap'
      cases hfx : ((x.typ l).2 != 0)
      · have h0 : (x.typ l).2 = 0 := by simpa using hfx
        rw [joinT_step l acc x _ h0] at hrem
        have HR := Lib.hid hrem; clear hrem hd hx h0
        go_wp2_with (first | (go_at_call 57; refine (hof' _ (hs.later belA) (hl.later belA)).mono ?_; rintro r w1 ⟨rfl, hb1⟩; have hc1 := bcell hb1; have hz1 := hb1.size; (try simp at hz1); (try have hy1 := lt0 w w1); (try have hy2 := ltA w 1 w1); (try have hy3 := ltA w 2 w1); (try have hy4 := lt0 wr w1); (try have hy5 := ltA wr 1 w1)) | (at_builtin; refine wpList_app rfl (.tmp 27) (.tmp 29) 63 rfl W0.heap.size 3 (.int .i64 0) 1 8 Tryz.underlying63 intinfo rfl (by omega) u6 k (acc.map (Value.int .i64)) _ 1 [.int .i64 (x.typ l).1] rfl (by repeat (first | (with_reducible assumption) | refine own_alloc ?_ | refine own_bel ?_ (by with_reducible assumption) | refine own_drew ?_)) rfl rfl (fun j u hj => by rw [cell_new]; simpa using hj) (by simp [Value.oneCell']) (by omega) (by omega) (by first | omega | (simp; omega)) ?_; intro v2 w2 hown2 hb2; have hz2 := hb2.size; (try simp at hz2)))
        go_roundw
        case rel => exact ⟨k + 1, acc ++ [(x.typ l).1], by omega, by go_num, by have := HACC.out; simp [this], by rw [List.map_append]; exact hown2, HR.out, belA⟩
        case measure => simp [intOf]; omega
      · have h0 : (x.typ l).2 ≠ 0 := by simpa using hfx
        rw [joinT_stop l acc x _ h0] at hrem
        have HR := Lib.hid hrem.symm; clear hrem hd hx h0
        go_wp2_with (first | (go_at_call 57; refine (hof' _ (hs.later belA) (hl.later belA)).mono ?_; rintro r w1 ⟨rfl, hb1⟩; have hc1 := bcell hb1; have hz1 := hb1.size; (try simp at hz1); (try have hy1 := lt0 w w1); (try have hy2 := ltA w 1 w1); (try have hy3 := ltA w 2 w1); (try have hy4 := lt0 wr w1); (try have hy5 := ltA wr 1 w1)))
        go_ret2
        exact ⟨⟨.slice none 0 0, by rw [HR.out]; rfl, by rw [HR.out]; exact World.ownsRow_nil _ _ _ _⟩, belA⟩
    · obtain rfl : k = e.sub.length := by omega
      rw [List.drop_length, Ex.typL, joinT, if_pos rfl, List.append_nil] at hrem
      have HR := Lib.hid hrem.symm; clear hrem
      go_wp2_with fail
      go_ret2
      refine ⟨⟨_, by rw [HR.out]; rfl, ?_⟩, belA⟩
      rw [HR.out]
      have := HACC.out
      dsimp only
      rw [this]
      exact own_base hown (by omega)

end Go.Proofs.YtikmbkojnfmiaaaGreatDoorRRRR

/- Walk over kinds.look.of. -/
namespace Go.Proofs.YtikmbkojnfmiaaaGreatDoorRRRR
open Go.RowKit Go.Sort

theorem typ_12 (l : List Va) (e : Ex) (h : (e.typ l).2 = 0) : (e.typ l).1 = 1 ∨ (e.typ l).1 = 2 := by
  rw [Ex.typ_eq] at h ⊢
  split at h
  · rename_i h0
    rw [if_pos h0]
    unfold typK at h ⊢
    split at h
    · simp at h
    · rename_i h1
      rw [if_neg h1]
      unfold endK at h ⊢
      split at h
      · rename_i h2
        rw [if_pos h2]
        exact h2.2
      · simp at h
  · rename_i h0; exact absurd h h0
theorem typL_12 (l : List Va) : ∀ sub : List Ex, (Ex.typL l sub).2 = 0 → ∀ t ∈ (Ex.typL l sub).1, t = 1 ∨ t = 2
  | [], _, t, ht => by simp [Ex.typL] at ht
  | x :: r, h, t, ht => by
    simp only [Ex.typL, joinT] at h ht
    split at h
    · rename_i h0
      rw [if_pos h0] at ht
      split at h
      · rename_i h1
        rw [if_pos h1] at ht
        simp only [List.singleton_append, List.mem_cons] at ht
        rcases ht with rfl | ht
        · exact typ_12 l x h0
        · exact typL_12 l r h1 t ht
      · rename_i h1; exact absurd h h1
    · rename_i h0; exact absurd h h0

/-- What is called first: the parts' types, the name's. -/
def OfParts (e : Ex) (l : List Va) (A : Option Addr) (cap B : Nat) (Ae : Option Addr) (ce : Nat) (w : World) : Prop :=
  ∀ W, Below w.heap.size w W → Calls Tryz.prog 75 #[lookV l A cap B, exV e Ae ce] W fun r w' =>
      (∃ v, r = .returned (.tuple #[v, .int .i64 (Ex.typL l e.sub).2]) ∧ w'.ownsRow W.heap.size 3 1 v (Ex.typL l e.sub).1.length ((Ex.typL l e.sub).1.map (Value.int .i64))) ∧ Below W.heap.size W w'
def OfType (e : Ex) (l : List Va) (A : Option Addr) (cap B : Nat) (w : World) : Prop :=
  ∀ W, Below w.heap.size w W → Calls Tryz.prog 76 #[lookV l A cap B, .string e.name] W fun r w' => r = .returned (.tuple #[.int .i64 (typeOfP l e.name).1, .bool (typeOfP l e.name).2]) ∧ Below W.heap.size W w'

end Go.Proofs.YtikmbkojnfmiaaaGreatDoorRRRR
