/- What the reference says of an equation is what the package kinds says. No program of Go in sight. -/
import Derived.Test.YtknfcamdfdfoeaaDoorZ10
import Derived.Test.YtknfcamdfdfoeaaDoorZ02
import Derived.Test.YtknfcamdfdfoeaaDoorZ09
import Derived.Test.YtknfcamdfdfoeaaDoorRows
import Derived.Test.YtknfcamdfdfoeaaDoorZ01
import Derived.Test.YtknfcamdfdfoeaaDoorZ07
set_option linter.unusedVariables false
set_option linter.unusedSimpArgs false
set_option maxRecDepth 100000
namespace Go.Proofs.YtknfcamdfdfoeaaDoor
open Go.RowKit

/-- kinds.Of. -/
def ofF (e : Ex) (l : List Va) : Int × Int := if e.right ≠ 0 then (0, e.right) else e.typ l

end Go.Proofs.YtknfcamdfdfoeaaDoor

/- Walks over the package kinds: two, names, typeOf. -/
namespace Go.Proofs.YtknfcamdfdfoeaaDoor
open Go.RowKit Go.Sort


set_option maxHeartbeats 1000000 in
theorem two_any (a b : Int) (w : World) :
    Calls Tryd.prog 80 #[.int .i32 a, .int .i64 b] w fun e w' => e = .returned (.tuple #[.int .i64 (twoK a b).1, .bool (twoK a b).2]) ∧ w = w' := by
  go_enter Tryd.func80, Tryd.ntmps80
  go_wp2_with fail
  all_goals (go_ret2; exact ⟨by simp_all [twoK], rfl⟩)

/-- What the loop in kinds.names has laid. -/
def fromK (l : List Va) (k : Nat) : ByteArray → Option Int := fun s => findI (l.drop k) s k
theorem fromK_step {l : List Va} {k : Nat} {v : Va} (h : l[k]? = some v) : upd (fromK l (k + 1)) v.name k = fromK l k := by
  funext s
  unfold upd fromK
  have hlt : k < l.length := (List.getElem?_eq_some_iff.1 h).1
  have hd : l.drop k = v :: l.drop (k + 1) := by
    rw [List.drop_eq_getElem_cons hlt]
    have : l[k] = v := (List.getElem?_eq_some_iff.1 h).2
    rw [this]
  rw [hd, findI]
  rfl

theorem makeHint (n : Int) (w : World) : (Instr.makeMap 107 (some (.int .i64 n))).run Tryd.prog w = .ok (.map (some w.heap.size)) (w.alloc (.map #[] 0)) := by
  have hu : Tryd.prog.underlying 107 = some (.map 9 3) := Tryd.underlying107
  simp only [Instr.makeMap, Sem.run_bind, run_underlying hu, Result.andThen]
  rfl
theorem bel_store {w a b : World} {g : Nat} (h : Below w.heap.size w a) (hg : a.grownBy b (some g)) (hw : w.heap.size ≤ g) : Below w.heap.size w b :=
  h.grown hg h.size (fun k hk => by injection hk with hk; omega)

set_option maxHeartbeats 1000000 in
theorem names_any (l : List Va) (A : Option Addr) (cap : Nat) (hs : ∀ v ∈ l, v.name.size ≤ maxLen) (hn : l.length ≤ 1000000) (w : World) (hl : VarsAt w l A cap) :
    Calls Tryd.prog 59 #[.slice A l.length cap] w fun r w' => (∃ B, r = .returned (.map (some B)) ∧ w.heap.size ≤ B ∧ MapI Tryd.prog 9 3 w' B l.length (findV l)) ∧ Below w.heap.size w w' := by
  have hl2 := hl.len
  unfold maxLen at hl2
  obtain ⟨hl3, hl4⟩ := hl2
  have hmk := makeHint (l.length : Int)
  have hst : fromK l l.length = fun _ => none := by funext s; simp [fromK, findI]
  have HST := Lib.hid hst; clear hst
  go_enter Tryd.func59, Tryd.ntmps59
  go_wp2_with fail
  go_loopw [4] (fun i wr => ∃ k : Nat, k ≤ l.length ∧ i = .int .i64 ((k : Int) - 1) ∧ MapI Tryd.prog 9 3 wr w.heap.size (l.length - k) (fromK l k) ∧ Below w.heap.size w wr) (fun i _ => (intOf i + 1).toNat)
  case atStart => exact ⟨l.length, Nat.le_refl _, rfl, by rw [HST.out, Nat.sub_self]; exact MapI.made w, belA⟩
  case round =>
    obtain ⟨k, hk, rfl, hm, hbel⟩ := hrel
    by_cases hlt : 0 < k
    · obtain ⟨j, rfl⟩ : ∃ j, k = j + 1 := ⟨k - 1, by omega⟩
      have hjl : j < l.length := by omega
      have hx : l[j]? = some l[j] := List.getElem?_eq_getElem hjl
      generalize l[j] = x at hx
      obtain ⟨b, off, rfl, hbb, ⟨d0, d1, d2, d3⟩⟩ := (hl.later hbel).get hx
      have hsz := hs x (List.mem_of_getElem? hx)
      have hstep := fromK_step hx
      have HSTEP := Lib.hid hstep; clear hstep hx
      have hj0 : ((j + 1 : Nat) : Int) - 1 = j := by omega
      rw [hj0]
      have hle : (0 : Int) ≤ j := by omega
      go_wp2_with (at_mapUpdate; refine wpList_stI rfl (.tmp 15) (.tmp 20) (.tmp 21) 107 rfl Tryd.underlying9 Tryd.underlying107 Tryd.underlying3 w.heap.size _ _ x.name j rfl hm (by omega) rfl rfl hsz (by omega) ?_; intro w2 hm2 hg2)
      rw [HSTEP.out] at hm2
      go_wp2_with fail
      go_roundw
      case rel => exact ⟨j, by omega, by first | rfl | go_num, by rw [show l.length - j = l.length - (j + 1) + 1 from by omega]; exact hm2, bel_store hbel hg2 (Nat.le_refl _)⟩
      case measure => first | (simp [intOf]; done) | (simp [intOf]; omega)
    · obtain rfl : k = 0 := by omega
      have hf : fromK l 0 = findV l := by funext s; simp [fromK, findV]
      rw [hf, Nat.sub_zero] at hm
      go_wp2_with fail
      go_ret
      exact ⟨⟨w.heap.size, rfl, Nat.le_refl _, hm⟩, hbel⟩

end Go.Proofs.YtknfcamdfdfoeaaDoor

/- Walk over tree.show. -/
namespace Go.Proofs.YtknfcamdfdfoeaaDoor
open Go.RowKit Go.Sort

theorem take_snoc {α : Type} (l : List α) (k : Nat) (x : α) (h : l[k]? = some x) : l.take (k + 1) = l.take k ++ [x] := by
  rw [List.take_add_one, h]; rfl
theorem shows_size {e : Ex} (hf : e.formed = true) (hz : e.size ≤ 100000) (f : Bool) : ∀ t ∈ Ex.showL f e.sub, t.size ≤ 4000000 := by
  intro t ht
  rw [Ex.showL_map] at ht
  obtain ⟨x, hx, rfl⟩ := List.mem_map.1 ht
  have h1 := Ex.showB_size x (Ex.formed_sub hf hx)
  obtain ⟨k, hk⟩ := List.mem_iff_getElem?.1 hx
  have h2 := Ex.size_sub hk
  have h3 := brk_size x.kind x.showB
  split
  · omega
  · unfold Ex.partB; omega

theorem list1 {α : Type} {l : List α} (h : l.length = 1) : ∃ a, l = [a] := by
  match l, h with
  | [a], _ => exact ⟨a, rfl⟩
theorem list2 {α : Type} {l : List α} (h : l.length = 2) : ∃ a b, l = [a, b] := by
  match l, h with
  | [a, b], _ => exact ⟨a, b, rfl⟩
theorem list3 {α : Type} {l : List α} (h : l.length = 3) : ∃ a b c, l = [a, b, c] := by
  match l, h with
  | [a, b, c], _ => exact ⟨a, b, c, rfl⟩
theorem formed_kinds {e : Ex} (h : e.formed = true) : e.kind = 1 ∨ e.kind = 2 ∨ e.kind = 3 ∨ e.kind = 4 ∨ e.kind = 5 ∨ e.kind = 6 ∨ e.kind = 7 ∨ e.kind = 8 ∨ e.kind = 9 ∨ e.kind = 10 := by
  rw [Ex.formed_eq, Bool.and_eq_true] at h
  have h1 := h.1
  simp only [formedH, Bool.and_eq_true] at h1
  have h2 := h1.1.1.1.1.1
  unfold formK at h2
  repeat' split at h2
  all_goals first | omega | (simp at h2)

set_option maxHeartbeats 4000000 in
theorem show_any (e : Ex) : e.formed = true → e.size ≤ 100000 → ∀ (A : Option Addr) (cap : Nat) (w : World), SubsAt w e A cap →
    Calls Tryd.prog 68 #[exV e A cap] w fun r w' => r = .returned (.string e.showB) ∧ Below w.heap.size w w' := by
  induction e using Ex.ind with
  | h e ih =>
  intro hf hz A cap w he
  have hl := he.len
  unfold maxLen at hl
  obtain ⟨hl1, hl2⟩ := hl
  have hlen := (Ex.formed_kind hf).1
  have hnm := (Ex.formed_kind hf).2
  have hsize := shows_size hf hz (e.kind == 6)
  have hts := Ex.showL_len (e.kind == 6) e.sub
  have hval := Ex.showB_eq e
  have hint : -2147483648 ≤ e.n ∧ e.n ≤ 2147483647 ∨ e.kind ≠ 1 := by
    rw [Ex.formed_eq, Bool.and_eq_true] at hf
    by_cases h1 : e.kind = 1
    · left
      have hh := hf.1
      rw [h1] at hh
      simp [formedH, formK] at hh
      omega
    · exact .inr h1
  have hpart : ∀ x ∈ e.sub, ∀ (B : Option Addr) (c : Nat) (W : World), SubsAt W x B c → Calls Tryd.prog 75 #[exV x B c] W fun r w' => r = .returned (.string x.partB) ∧ Below W.heap.size W w' := by
    intro x hx B c W hW
    have h1 := Ex.showB_size x (Ex.formed_sub hf hx)
    obtain ⟨k, hk⟩ := List.mem_iff_getElem?.1 hx
    have h2 := Ex.size_sub hk
    exact part_of (by omega) hW fun W' h' => ih x hx (Ex.formed_sub hf hx) (by omega) B c W' h'
  have hshow : ∀ x ∈ e.sub, ∀ (B : Option Addr) (c : Nat) (W : World), SubsAt W x B c → Calls Tryd.prog 68 #[exV x B c] W fun r w' => r = .returned (.string x.showB) ∧ Below W.heap.size W w' := by
    intro x hx B c W hW
    obtain ⟨k, hk⟩ := List.mem_iff_getElem?.1 hx
    have h2 := Ex.size_sub hk
    exact ih x hx (Ex.formed_sub hf hx) (by omega) B c W hW
  have hget : ∀ (k : Nat) (x : Ex), e.sub[k]? = some x → (Ex.showL (e.kind == 6) e.sub)[k]? = some (if (e.kind == 6) = true then x.showB else x.partB) := by
    intro k x hk
    rw [Ex.showL_map, List.getElem?_map, hk]; rfl
  clear ih
  have hl3 : e.sub.length ≤ 3 := by
    unfold formK at hlen
    repeat' split at hlen
    all_goals first | omega | (simp at hlen; omega)
  have HLEN := Lib.hid hlen; clear hlen
  have HTS := Lib.hid hts; clear hts
  have HVAL := Lib.hid hval; clear hval
  have HSZ := Lib.hid hsize; clear hsize
  have HGET := Lib.hid hget; clear hget
  generalize hT : Ex.showL (e.kind == 6) e.sub = ts at HTS HVAL HSZ HGET
  clear hT
  have HF := Lib.hid hf; clear hf
  unfold exV
  go_enter Tryd.func68, Tryd.ntmps68
  go_wp2_with fail
  refine wp_name fun W0 hW0 => ?_
  have hb0 : Below w.heap.size w W0 := by rw [hW0]; exact belA
  have hz0 : w.heap.size < W0.heap.size := by rw [hW0]; first | omega | (simp; omega) | simp
  have k0 : W0.cell? ⟨w.heap.size, 0, none⟩ = some (.int .i64 e.kind) := by rw [hW0]; go_simp
  have k1 : W0.cell? ⟨w.heap.size, 1, none⟩ = some (.int .i32 e.n) := by rw [hW0]; go_simp
  have k2 : W0.cell? ⟨w.heap.size, 2, none⟩ = some (.string e.name) := by rw [hW0]; go_simp
  clear hW0
  replace he := he.later hb0
  go_loopw [3, 9] (fun v i wr => ∃ (k : Nat), k ≤ e.sub.length ∧ i = .int .i64 k ∧ wr.ownsRow W0.heap.size 9 1 v k ((ts.take k).map Value.string) ∧ Below W0.heap.size W0 wr) (fun _ i _ => e.sub.length - (intOf i).toNat)
  case atStart => exact ⟨0, Nat.zero_le _, rfl, World.ownsRow_nil _ _ _ _, Below.refl _ _⟩
  case round =>
    obtain ⟨k, hk, rfl, hown, hbel⟩ := hrel
    have hc := bcell hbel
    have hzr := hbel.size
    have hz1 : w.heap.size < wr.heap.size := by omega
    by_cases hlt : k < e.sub.length
    · have hx : e.sub[k]? = some e.sub[k] := List.getElem?_eq_getElem hlt
      have hmem : e.sub[k] ∈ e.sub := List.getElem_mem hlt
      have hd : e.sub.drop k = e.sub[k] :: e.sub.drop (k + 1) := List.drop_eq_getElem_cons hlt
      generalize e.sub[k] = x at hx hmem hd
      obtain ⟨b, off, A', cap', rfl, c0, c1, c2, c3, hs⟩ := (he.later hbel).get hx
      have hg := HGET.out k x hx
      have htk := congrArg (List.map Value.string) (take_snoc ts k _ hg)
      rw [List.map_append, List.map_cons, List.map_nil] at htk
      have HTK := Lib.hid htk
      clear htk hg hd hx
      cases h6 : (e.kind == 6)
      · rw [h6, if_neg (by simp)] at HTK
        have hp := hpart x hmem A' cap'
        unfold exV at hp
        go_wp2_with (first | (go_at_call 75; refine (hp _ (hs.later belA)).mono ?_; rintro r w1 ⟨rfl, hb1⟩; have hc1 := bcell hb1; have hz1 := hb1.size; (try simp at hz1); (try have hy1 := lt0 w w1); (try have hy2 := ltA w 1 w1); (try have hy3 := ltA w 2 w1); (try have hy4 := lt0 wr w1); (try have hy5 := ltA wr 1 w1)) | (at_builtin; refine wpList_app rfl (.tmp 21) (.tmp 24) 113 rfl W0.heap.size 9 (.string ⟨#[]⟩) 1 16 Tryd.underlying113 strinfo rfl (by omega) u3 k ((ts.take k).map Value.string) _ 1 [.string x.partB] rfl (by repeat (first | (with_reducible assumption) | refine own_alloc ?_ | refine own_bel ?_ (by with_reducible assumption) | refine own_drew ?_)) rfl rfl (fun j u hj => by rw [cell_new]; simpa using hj) (by simp [Value.oneCell']) (by omega) (by omega) (by first | omega | (simp; omega)) ?_; intro v2 w2 hown2 hb2; have hz2 := hb2.size; (try simp at hz2)))
        go_roundw
        case rel => exact ⟨k + 1, by omega, by go_num, by rw [HTK.out]; exact hown2, belA⟩
        case measure => simp [intOf]; omega
      · rw [h6, if_pos rfl] at HTK
        have hp := hshow x hmem A' cap'
        unfold exV at hp
        go_wp2_with (first | (go_at_call 68; refine (hp _ (hs.later belA)).mono ?_; rintro r w1 ⟨rfl, hb1⟩; have hc1 := bcell hb1; have hz1 := hb1.size; (try simp at hz1); (try have hy1 := lt0 w w1); (try have hy2 := ltA w 1 w1); (try have hy3 := ltA w 2 w1); (try have hy4 := lt0 wr w1); (try have hy5 := ltA wr 1 w1)) | (at_builtin; refine wpList_app rfl (.tmp 16) (.tmp 19) 113 rfl W0.heap.size 9 (.string ⟨#[]⟩) 1 16 Tryd.underlying113 strinfo rfl (by omega) u3 k ((ts.take k).map Value.string) _ 1 [.string x.showB] rfl (by repeat (first | (with_reducible assumption) | refine own_alloc ?_ | refine own_bel ?_ (by with_reducible assumption) | refine own_drew ?_)) rfl rfl (fun j u hj => by rw [cell_new]; simpa using hj) (by simp [Value.oneCell']) (by omega) (by omega) (by first | omega | (simp; omega)) ?_; intro v2 w2 hown2 hb2; have hz2 := hb2.size; (try simp at hz2)))
        go_roundw
        case rel => exact ⟨k + 1, by omega, by go_num, by rw [HTK.out]; exact hown2, belA⟩
        case measure => simp [intOf]; omega
    · obtain rfl : k = e.sub.length := by omega
      rw [← HTS.out, List.take_length] at hown
      have hms := mark_size e.n
      rcases formed_kinds HF.out with hk | hk | hk | hk | hk | hk | hk | hk | hk | hk
      · have hlen := HLEN.out
        rw [hk] at hlen
        have hl0 : ts.length = 0 := by have := HTS.out; simp [formK] at hlen; simp [this, hlen]
        obtain rfl := List.length_eq_zero_iff.1 hl0
        clear hl0 hlen
        have hi : -2147483648 ≤ e.n ∧ e.n ≤ 2147483647 := by omega
        have hv : e.showB = digitsB e.n := by rw [HVAL.out, hk]; rfl
        have q1 : (e.kind == 1) = true := by rw [hk]; rfl
        have q2 : (e.kind == 2) = false := by rw [hk]; rfl
        have q4 : (e.kind == 4) = false := by rw [hk]; rfl
        have q5 : (e.kind == 5) = false := by rw [hk]; rfl
        have q6 : (e.kind == 6) = false := by rw [hk]; rfl
        have q7 : (e.kind == 7) = false := by rw [hk]; rfl
        have q8 : (e.kind == 8) = false := by rw [hk]; rfl
        have q9 : (e.kind == 9) = false := by rw [hk]; rfl
        have q10 : (e.kind == 10) = false := by rw [hk]; rfl
        clear hk hint
        have hdg := fun W => digits_any e.n W hi.1 hi.2
        have HV := Lib.hid hv; clear hv
        go_wp2_with (first | (go_at_call 76; refine (hdg _).mono ?_; rintro r w1 ⟨rfl, hb1⟩; have hc1 := bcell hb1; have hz1 := hb1.size; (try simp at hz1); (try have hy1 := lt0 w w1); (try have hy2 := ltA w 1 w1); (try have hy3 := ltA w 2 w1); (try have hy4 := lt0 wr w1); (try have hy5 := ltA wr 1 w1)))
        go_ret
        exact ⟨ret_str HV.out.symm, belA⟩
      · have hlen := HLEN.out
        rw [hk] at hlen
        have hl0 : ts.length = 0 := by have := HTS.out; simp [formK] at hlen; simp [this, hlen]
        obtain rfl := List.length_eq_zero_iff.1 hl0
        clear hl0 hlen
        have q1 : (e.kind == 1) = false := by rw [hk]; rfl
        have q2 : (e.kind == 2) = true := by rw [hk]; rfl
        have q4 : (e.kind == 4) = false := by rw [hk]; rfl
        have q5 : (e.kind == 5) = false := by rw [hk]; rfl
        have q6 : (e.kind == 6) = false := by rw [hk]; rfl
        have q7 : (e.kind == 7) = false := by rw [hk]; rfl
        have q8 : (e.kind == 8) = false := by rw [hk]; rfl
        have q9 : (e.kind == 9) = false := by rw [hk]; rfl
        have q10 : (e.kind == 10) = false := by rw [hk]; rfl
        cases hn : (e.n == 0)
        · have hv : e.showB = ⟨#[116, 114, 117, 101]⟩ := by rw [HVAL.out, hk]; simp [showK]; simpa using hn
          clear hk hint
          have HV := Lib.hid hv; clear hv
          go_wp2_with fail
          go_ret
          exact ⟨ret_str HV.out.symm, belA⟩
        · have hv : e.showB = ⟨#[102, 97, 108, 115, 101]⟩ := by rw [HVAL.out, hk]; simp [showK]; simpa using hn
          clear hk hint
          have HV := Lib.hid hv; clear hv
          go_wp2_with fail
          go_ret
          exact ⟨ret_str HV.out.symm, belA⟩
      · have hlen := HLEN.out
        rw [hk] at hlen
        have hl0 : ts.length = 0 := by have := HTS.out; simp [formK] at hlen; simp [this, hlen]
        obtain rfl := List.length_eq_zero_iff.1 hl0
        clear hl0 hlen
        have q1 : (e.kind == 1) = false := by rw [hk]; rfl
        have q2 : (e.kind == 2) = false := by rw [hk]; rfl
        have q4 : (e.kind == 4) = false := by rw [hk]; rfl
        have q5 : (e.kind == 5) = false := by rw [hk]; rfl
        have q6 : (e.kind == 6) = false := by rw [hk]; rfl
        have q7 : (e.kind == 7) = false := by rw [hk]; rfl
        have q8 : (e.kind == 8) = false := by rw [hk]; rfl
        have q9 : (e.kind == 9) = false := by rw [hk]; rfl
        have q10 : (e.kind == 10) = false := by rw [hk]; rfl
        have hv : e.showB = e.name := by rw [HVAL.out, hk]; rfl
        clear hk hint
        have HV := Lib.hid hv; clear hv
        go_wp2_with fail
        go_ret
        exact ⟨ret_str HV.out.symm, belA⟩
      · have hlen := HLEN.out
        rw [hk] at hlen
        have hl0 : ts.length = 1 := by have := HTS.out; simp [formK] at hlen; omega
        obtain ⟨t0, rfl⟩ := list1 hl0
        clear hl0 hlen
        replace hown : wr.ownsRow W0.heap.size 9 1 u3 1 [.string t0] := hown
        obtain ⟨g, gcap, rfl, hg1, hg2, hg3, hg4, hcells⟩ := own_get hown (by omega)
        unfold maxLen at hg4
        have e0 := hcells 0 _ rfl
        have s0 := HSZ.out t0 (by simp)
        clear hcells hown
        have q1 : (e.kind == 1) = false := by rw [hk]; rfl
        have q2 : (e.kind == 2) = false := by rw [hk]; rfl
        have q4 : (e.kind == 4) = true := by rw [hk]; rfl
        have q5 : (e.kind == 5) = false := by rw [hk]; rfl
        have q6 : (e.kind == 6) = false := by rw [hk]; rfl
        have q7 : (e.kind == 7) = false := by rw [hk]; rfl
        have q8 : (e.kind == 8) = false := by rw [hk]; rfl
        have q9 : (e.kind == 9) = false := by rw [hk]; rfl
        have q10 : (e.kind == 10) = false := by rw [hk]; rfl
        cases hn : (e.n == 2)
        · have hv : e.showB = ⟨#[45]⟩ ++ t0 := by rw [HVAL.out, hk]; simp [showK]; simpa using hn
          clear hk hint
          have HV := Lib.hid hv; clear hv
          go_wp2_with fail
          go_ret
          exact ⟨ret_str HV.out.symm, belA⟩
        · have hv : e.showB = ⟨#[110, 111, 116, 32]⟩ ++ t0 := by rw [HVAL.out, hk]; simp [showK]; simpa using hn
          clear hk hint
          have HV := Lib.hid hv; clear hv
          go_wp2_with fail
          go_ret
          exact ⟨ret_str HV.out.symm, belA⟩
      · have hlen := HLEN.out
        rw [hk] at hlen
        have hl0 : ts.length = 2 := by have := HTS.out; simp [formK] at hlen; omega
        obtain ⟨t0, t1, rfl⟩ := list2 hl0
        clear hl0 hlen
        replace hown : wr.ownsRow W0.heap.size 9 1 u3 2 [.string t0, .string t1] := hown
        obtain ⟨g, gcap, rfl, hg1, hg2, hg3, hg4, hcells⟩ := own_get hown (by omega)
        unfold maxLen at hg4
        have e0 := hcells 0 _ rfl
        have s0 := HSZ.out t0 (by simp)
        have e1 := hcells 1 _ rfl
        have s1 := HSZ.out t1 (by simp)
        clear hcells hown
        have q1 : (e.kind == 1) = false := by rw [hk]; rfl
        have q2 : (e.kind == 2) = false := by rw [hk]; rfl
        have q4 : (e.kind == 4) = false := by rw [hk]; rfl
        have q5 : (e.kind == 5) = true := by rw [hk]; rfl
        have q6 : (e.kind == 6) = false := by rw [hk]; rfl
        have q7 : (e.kind == 7) = false := by rw [hk]; rfl
        have q8 : (e.kind == 8) = false := by rw [hk]; rfl
        have q9 : (e.kind == 9) = false := by rw [hk]; rfl
        have q10 : (e.kind == 10) = false := by rw [hk]; rfl
        have z2 : ¬ 9223372036854775807 < t0.size + 1 := by omega
        have z3 : ¬ 9223372036854775807 < t0.size + 1 + (markB e.n).size := by omega
        have z4 : ¬ 9223372036854775807 < t0.size + 1 + (markB e.n).size + 1 := by omega
        have z5 : ¬ 9223372036854775807 < t0.size + 1 + (markB e.n).size + 1 + t1.size := by omega
        have hv : e.showB = t0 ++ ⟨#[32]⟩ ++ markB e.n ++ ⟨#[32]⟩ ++ t1 := by rw [HVAL.out, hk]; simp [showK]
        clear hk hint
        have HV := Lib.hid hv; clear hv
        go_wp2_with fail
        refine wp_region_qb (by kernel_rfl) (by kernel_rfl) (fun hgq => ?_)
        repeat (quiet_step ((go_at_call 77; exact Calls.regrown_of ((mark_any _ _).mono fun _ _ h => ⟨h.1, by rw [← h.2]; exact Below.refl _ _⟩))))
        refine wpQuiet_nil ?_
        intro wq hwq
        replace hwq := bel_of_class hwq
        clear hgq
        have hcq := bcell hwq
        have hzq := hwq.size
        (try simp at hzq)
        (try have hyq1 := lt0 w wq); (try have hyq2 := ltA w 1 wq); (try have hyq3 := ltA w 2 wq); (try have hyq4 := lt0 wr wq)
        go_wp2_with fail
        go_ret
        exact ⟨ret_str HV.out.symm, belA⟩
      · have hlen := HLEN.out
        rw [hk] at hlen
        have hl0 : ts.length = 3 := by have := HTS.out; simp [formK] at hlen; omega
        obtain ⟨t0, t1, t2, rfl⟩ := list3 hl0
        clear hl0 hlen
        replace hown : wr.ownsRow W0.heap.size 9 1 u3 3 [.string t0, .string t1, .string t2] := hown
        obtain ⟨g, gcap, rfl, hg1, hg2, hg3, hg4, hcells⟩ := own_get hown (by omega)
        unfold maxLen at hg4
        have e0 := hcells 0 _ rfl
        have s0 := HSZ.out t0 (by simp)
        have e1 := hcells 1 _ rfl
        have s1 := HSZ.out t1 (by simp)
        have e2 := hcells 2 _ rfl
        have s2 := HSZ.out t2 (by simp)
        clear hcells hown
        have q1 : (e.kind == 1) = false := by rw [hk]; rfl
        have q2 : (e.kind == 2) = false := by rw [hk]; rfl
        have q4 : (e.kind == 4) = false := by rw [hk]; rfl
        have q5 : (e.kind == 5) = false := by rw [hk]; rfl
        have q6 : (e.kind == 6) = true := by rw [hk]; rfl
        have q7 : (e.kind == 7) = false := by rw [hk]; rfl
        have q8 : (e.kind == 8) = false := by rw [hk]; rfl
        have q9 : (e.kind == 9) = false := by rw [hk]; rfl
        have q10 : (e.kind == 10) = false := by rw [hk]; rfl
        have z2 : ¬ 9223372036854775807 < 3 + t0.size := by omega
        have z3 : ¬ 9223372036854775807 < 3 + t0.size + 6 := by omega
        have z4 : ¬ 9223372036854775807 < 3 + t0.size + 6 + t1.size := by omega
        have z5 : ¬ 9223372036854775807 < 3 + t0.size + 6 + t1.size + 6 := by omega
        have z6 : ¬ 9223372036854775807 < 3 + t0.size + 6 + t1.size + 6 + t2.size := by omega
        have hv : e.showB = ⟨#[105, 102, 32]⟩ ++ t0 ++ ⟨#[32, 116, 104, 101, 110, 32]⟩ ++ t1 ++ ⟨#[32, 101, 108, 115, 101, 32]⟩ ++ t2 := by rw [HVAL.out, hk]; simp [showK]
        clear hk hint
        have HV := Lib.hid hv; clear hv
        go_wp2_with fail
        refine wp_region_qb (by kernel_rfl) (by kernel_rfl) (fun hgq => ?_)
        repeat (quiet_step (fail))
        refine wpQuiet_nil ?_
        intro wq hwq
        replace hwq := bel_of_class hwq
        clear hgq
        have hcq := bcell hwq
        have hzq := hwq.size
        (try simp at hzq)
        (try have hyq1 := lt0 w wq); (try have hyq2 := ltA w 1 wq); (try have hyq3 := ltA w 2 wq); (try have hyq4 := lt0 wr wq)
        go_wp2_with fail
        go_ret
        exact ⟨ret_str HV.out.symm, belA⟩
      · have hlen := HLEN.out
        rw [hk] at hlen
        have hl0 : ts.length = 2 := by have := HTS.out; simp [formK] at hlen; omega
        obtain ⟨t0, t1, rfl⟩ := list2 hl0
        clear hl0 hlen
        replace hown : wr.ownsRow W0.heap.size 9 1 u3 2 [.string t0, .string t1] := hown
        obtain ⟨g, gcap, rfl, hg1, hg2, hg3, hg4, hcells⟩ := own_get hown (by omega)
        unfold maxLen at hg4
        have e0 := hcells 0 _ rfl
        have s0 := HSZ.out t0 (by simp)
        have e1 := hcells 1 _ rfl
        have s1 := HSZ.out t1 (by simp)
        clear hcells hown
        have q1 : (e.kind == 1) = false := by rw [hk]; rfl
        have q2 : (e.kind == 2) = false := by rw [hk]; rfl
        have q4 : (e.kind == 4) = false := by rw [hk]; rfl
        have q5 : (e.kind == 5) = false := by rw [hk]; rfl
        have q6 : (e.kind == 6) = false := by rw [hk]; rfl
        have q7 : (e.kind == 7) = true := by rw [hk]; rfl
        have q8 : (e.kind == 8) = false := by rw [hk]; rfl
        have q9 : (e.kind == 9) = false := by rw [hk]; rfl
        have q10 : (e.kind == 10) = false := by rw [hk]; rfl
        have z2 : ¬ 9223372036854775807 < t0.size + 4 := by omega
        have z3 : ¬ 9223372036854775807 < t0.size + 4 + t1.size := by omega
        have hv : e.showB = t0 ++ ⟨#[32, 45, 62, 32]⟩ ++ t1 := by rw [HVAL.out, hk]; simp [showK]
        clear hk hint
        have HV := Lib.hid hv; clear hv
        go_wp2_with fail
        refine wp_region_qb (by kernel_rfl) (by kernel_rfl) (fun hgq => ?_)
        repeat (quiet_step (fail))
        refine wpQuiet_nil ?_
        intro wq hwq
        replace hwq := bel_of_class hwq
        clear hgq
        have hcq := bcell hwq
        have hzq := hwq.size
        (try simp at hzq)
        (try have hyq1 := lt0 w wq); (try have hyq2 := ltA w 1 wq); (try have hyq3 := ltA w 2 wq); (try have hyq4 := lt0 wr wq)
        go_wp2_with fail
        go_ret
        exact ⟨ret_str HV.out.symm, belA⟩
      · have hlen := HLEN.out
        rw [hk] at hlen
        have hl0 : ts.length = 1 := by have := HTS.out; simp [formK] at hlen; omega
        obtain ⟨t0, rfl⟩ := list1 hl0
        clear hl0 hlen
        replace hown : wr.ownsRow W0.heap.size 9 1 u3 1 [.string t0] := hown
        obtain ⟨g, gcap, rfl, hg1, hg2, hg3, hg4, hcells⟩ := own_get hown (by omega)
        unfold maxLen at hg4
        have e0 := hcells 0 _ rfl
        have s0 := HSZ.out t0 (by simp)
        clear hcells hown
        have q1 : (e.kind == 1) = false := by rw [hk]; rfl
        have q2 : (e.kind == 2) = false := by rw [hk]; rfl
        have q4 : (e.kind == 4) = false := by rw [hk]; rfl
        have q5 : (e.kind == 5) = false := by rw [hk]; rfl
        have q6 : (e.kind == 6) = false := by rw [hk]; rfl
        have q7 : (e.kind == 7) = false := by rw [hk]; rfl
        have q8 : (e.kind == 8) = true := by rw [hk]; rfl
        have q9 : (e.kind == 9) = false := by rw [hk]; rfl
        have q10 : (e.kind == 10) = false := by rw [hk]; rfl
        have z2 : ¬ 9223372036854775807 < t0.size + 6 := by omega
        have z3 : ¬ 9223372036854775807 < t0.size + 6 + e.name.size := by omega
        have hv : e.showB = t0 ++ ⟨#[32, 119, 104, 101, 110, 32]⟩ ++ e.name := by rw [HVAL.out, hk]; simp [showK]
        clear hk hint
        have HV := Lib.hid hv; clear hv
        go_wp2_with fail
        refine wp_region_qb (by kernel_rfl) (by kernel_rfl) (fun hgq => ?_)
        repeat (quiet_step (fail))
        refine wpQuiet_nil ?_
        intro wq hwq
        replace hwq := bel_of_class hwq
        clear hgq
        have hcq := bcell hwq
        have hzq := hwq.size
        (try simp at hzq)
        (try have hyq1 := lt0 w wq); (try have hyq2 := ltA w 1 wq); (try have hyq3 := ltA w 2 wq); (try have hyq4 := lt0 wr wq)
        go_wp2_with fail
        go_ret
        exact ⟨ret_str HV.out.symm, belA⟩
      · have hlen := HLEN.out
        rw [hk] at hlen
        have hl0 : ts.length = 1 := by have := HTS.out; simp [formK] at hlen; omega
        obtain ⟨t0, rfl⟩ := list1 hl0
        clear hl0 hlen
        replace hown : wr.ownsRow W0.heap.size 9 1 u3 1 [.string t0] := hown
        obtain ⟨g, gcap, rfl, hg1, hg2, hg3, hg4, hcells⟩ := own_get hown (by omega)
        unfold maxLen at hg4
        have e0 := hcells 0 _ rfl
        have s0 := HSZ.out t0 (by simp)
        clear hcells hown
        have q1 : (e.kind == 1) = false := by rw [hk]; rfl
        have q2 : (e.kind == 2) = false := by rw [hk]; rfl
        have q4 : (e.kind == 4) = false := by rw [hk]; rfl
        have q5 : (e.kind == 5) = false := by rw [hk]; rfl
        have q6 : (e.kind == 6) = false := by rw [hk]; rfl
        have q7 : (e.kind == 7) = false := by rw [hk]; rfl
        have q8 : (e.kind == 8) = false := by rw [hk]; rfl
        have q9 : (e.kind == 9) = true := by rw [hk]; rfl
        have q10 : (e.kind == 10) = false := by rw [hk]; rfl
        have z2 : ¬ 9223372036854775807 < t0.size + 8 := by omega
        have z3 : ¬ 9223372036854775807 < t0.size + 8 + e.name.size := by omega
        have hv : e.showB = t0 ++ ⟨#[32, 117, 110, 108, 101, 115, 115, 32]⟩ ++ e.name := by rw [HVAL.out, hk]; simp [showK]
        clear hk hint
        have HV := Lib.hid hv; clear hv
        go_wp2_with fail
        refine wp_region_qb (by kernel_rfl) (by kernel_rfl) (fun hgq => ?_)
        repeat (quiet_step (fail))
        refine wpQuiet_nil ?_
        intro wq hwq
        replace hwq := bel_of_class hwq
        clear hgq
        have hcq := bcell hwq
        have hzq := hwq.size
        (try simp at hzq)
        (try have hyq1 := lt0 w wq); (try have hyq2 := ltA w 1 wq); (try have hyq3 := ltA w 2 wq); (try have hyq4 := lt0 wr wq)
        go_wp2_with fail
        go_ret
        exact ⟨ret_str HV.out.symm, belA⟩
      · have hlen := HLEN.out
        rw [hk] at hlen
        have hl0 : ts.length = 2 := by have := HTS.out; simp [formK] at hlen; omega
        obtain ⟨t0, t1, rfl⟩ := list2 hl0
        clear hl0 hlen
        replace hown : wr.ownsRow W0.heap.size 9 1 u3 2 [.string t0, .string t1] := hown
        obtain ⟨g, gcap, rfl, hg1, hg2, hg3, hg4, hcells⟩ := own_get hown (by omega)
        unfold maxLen at hg4
        have e0 := hcells 0 _ rfl
        have s0 := HSZ.out t0 (by simp)
        have e1 := hcells 1 _ rfl
        have s1 := HSZ.out t1 (by simp)
        clear hcells hown
        have q1 : (e.kind == 1) = false := by rw [hk]; rfl
        have q2 : (e.kind == 2) = false := by rw [hk]; rfl
        have q4 : (e.kind == 4) = false := by rw [hk]; rfl
        have q5 : (e.kind == 5) = false := by rw [hk]; rfl
        have q6 : (e.kind == 6) = false := by rw [hk]; rfl
        have q7 : (e.kind == 7) = false := by rw [hk]; rfl
        have q8 : (e.kind == 8) = false := by rw [hk]; rfl
        have q9 : (e.kind == 9) = false := by rw [hk]; rfl
        have q10 : (e.kind == 10) = true := by rw [hk]; rfl
        have z2 : ¬ 9223372036854775807 < 6 + e.name.size := by omega
        have z3 : ¬ 9223372036854775807 < 6 + e.name.size + 1 := by omega
        have z4 : ¬ 9223372036854775807 < 6 + e.name.size + 1 + t0.size := by omega
        have z5 : ¬ 9223372036854775807 < 6 + e.name.size + 1 + t0.size + 1 := by omega
        have z6 : ¬ 9223372036854775807 < 6 + e.name.size + 1 + t0.size + 1 + t1.size := by omega
        have hv : e.showB = ⟨#[109, 101, 114, 103, 101, 32]⟩ ++ e.name ++ ⟨#[32]⟩ ++ t0 ++ ⟨#[32]⟩ ++ t1 := by rw [HVAL.out, hk]; simp [showK]
        clear hk hint
        have HV := Lib.hid hv; clear hv
        go_wp2_with fail
        refine wp_region_qb (by kernel_rfl) (by kernel_rfl) (fun hgq => ?_)
        repeat (quiet_step (fail))
        refine wpQuiet_nil ?_
        intro wq hwq
        replace hwq := bel_of_class hwq
        clear hgq
        have hcq := bcell hwq
        have hzq := hwq.size
        (try simp at hzq)
        (try have hyq1 := lt0 w wq); (try have hyq2 := ltA w 1 wq); (try have hyq3 := ltA w 2 wq); (try have hyq4 := lt0 wr wq)
        go_wp2_with fail
        go_ret
        exact ⟨ret_str HV.out.symm, belA⟩

end Go.Proofs.YtknfcamdfdfoeaaDoor

/- Walks over the package kinds: typeOf, parts, of. -/
namespace Go.Proofs.YtknfcamdfdfoeaaDoor
open Go.RowKit Go.Sort

/-- What a look needs: its variables lie there, its map holds their places. -/
structure LookAt (w : World) (l : List Va) (A : Option Addr) (cap B n : Nat) : Prop where
  vars : VarsAt w l A cap
  map : MapI Tryd.prog 9 3 w B n (findV l)
theorem LookAt.later {w w' : World} {l : List Va} {A : Option Addr} {cap B n : Nat} (h : LookAt w l A cap B n) (hb : Below w.heap.size w w') : LookAt w' l A cap B n := ⟨h.vars.later hb, h.map.bel hb⟩
def lookV (l : List Va) (A : Option Addr) (cap B : Nat) : Value := .agg #[.slice A l.length cap, .map (some B)]

set_option maxHeartbeats 1000000 in
theorem typeOf_any (l : List Va) (A : Option Addr) (cap B n : Nat) (s : ByteArray) (hs : s.size ≤ maxLen) (w : World) (hl : LookAt w l A cap B n) :
    Calls Tryd.prog 79 #[lookV l A cap B, .string s] w fun r w' => r = .returned (.tuple #[.int .i64 (typeOfP l s).1, .bool (typeOfP l s).2]) ∧ Below w.heap.size w w' := by
  have hl2 := hl.vars.len
  unfold maxLen at hl2
  obtain ⟨hl3, hl4⟩ := hl2
  have hm := hl.map
  have hBz := hm.lt
  have hv : typeOfP l s = typeOfP l s := rfl
  rw (occs := .pos [2]) [typeOfP] at hv
  unfold lookV
  cases hf : findV l s with
  | none =>
    rw [hf] at hv
    have HV := Lib.hid hv; clear hv
    go_enter Tryd.func79, Tryd.ntmps79
    go_wp2_with (first | (at_lookup; refine wpList_lkokI rfl (.tmp 10) (.tmp 11) 107 rfl Tryd.underlying9 Tryd.underlying107 Tryd.underlying3 (zeroInt _) B n (findV l) s rfl (by repeat (first | (with_reducible assumption) | refine MapI.alloc ?_ | refine MapI.bel ?_ (by with_reducible assumption) | refine MapI.drew ?_)) rfl hs ?_))
    go_wp2_with fail
    go_ret2
    exact ⟨by rw [HV.out]; rfl, belA⟩
  | some j =>
    rw [hf] at hv
    obtain ⟨k, v, rfl, hx, _⟩ := findV_some hf
    have hkl : k < l.length := (List.getElem?_eq_some_iff.1 hx).1
    obtain ⟨b, off, rfl, hbb, ⟨d0, d1, d2, d3⟩⟩ := hl.vars.get hx
    simp only [Int.toNat_natCast, hx] at hv
    have hbb' : b < w.heap.size + 1 := by omega
    clear hx
    have HV := Lib.hid hv; clear hv
    go_enter Tryd.func79, Tryd.ntmps79
    go_wp2_with (first | (at_lookup; refine wpList_lkokI rfl (.tmp 10) (.tmp 11) 107 rfl Tryd.underlying9 Tryd.underlying107 Tryd.underlying3 (zeroInt _) B n (findV l) s rfl (by repeat (first | (with_reducible assumption) | refine MapI.alloc ?_ | refine MapI.bel ?_ (by with_reducible assumption) | refine MapI.drew ?_)) rfl hs ?_))
    go_wp2_with fail
    go_ret2
    exact ⟨by rw [HV.out]; rfl, belA⟩

end Go.Proofs.YtknfcamdfdfoeaaDoor
