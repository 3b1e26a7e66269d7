/- What an expression names. No program of Go in sight. -/
import Derived.Test.YtikmbkojnfmiaaaGreatDoorRRRRBA
import Derived.Test.YtikmbkojnfmiaaaGreatDoorRRRRWRefLex
import Derived.Test.YtikmbkojnfmiaaaGreatDoorRRRRBB
import Derived.Test.YtikmbkojnfmiaaaGreatDoorRRRRBJ
import Derived.Test.YtikmbkojnfmiaaaGreatDoorRRRRBY
set_option linter.unusedVariables false
set_option linter.unusedSimpArgs false
set_option maxRecDepth 100000
namespace Go.Proofs.YtikmbkojnfmiaaaGreatDoorRRRR
open Go.RowKit

/-- Is a text among some? -/
def hasB (l : List ByteArray) (s : ByteArray) : Bool := l.any fun x => x.toList == s.toList
theorem hasB_cons (x : ByteArray) (l : List ByteArray) (s : ByteArray) : hasB (x :: l) s = (x.toList == s.toList || hasB l s) := rfl
theorem hasB_snoc (l : List ByteArray) (x s : ByteArray) : hasB (l ++ [x]) s = (hasB l s || x.toList == s.toList) := by
  unfold hasB; rw [List.any_append]; simp
/-- A name behind others, if it is one and not among them. -/
def addN (l : List ByteArray) (s : ByteArray) : List ByteArray := if s.toList.isEmpty = true then l else if hasB l s = true then l else l ++ [s]
theorem addN_len (l : List ByteArray) (s : ByteArray) : l.length ≤ (addN l s).length ∧ (addN l s).length ≤ l.length + 1 := by
  unfold addN
  split
  · omega
  · split
    · omega
    · simp
namespace Ex
mutual
def named : List ByteArray → Ex → List ByteArray
  | l, mk _ _ s sub => namedL (addN l s) sub
def namedL : List ByteArray → List Ex → List ByteArray
  | l, [] => l
  | l, x :: r => namedL (named l x) r
end
theorem named_eq (l : List ByteArray) (e : Ex) : e.named l = namedL (addN l e.name) e.sub := by cases e; rw [named]; rfl
theorem namedL_len : ∀ (r : List Ex), (∀ x ∈ r, ∀ l, l.length ≤ (named l x).length ∧ (named l x).length ≤ l.length + x.size) → ∀ l, l.length ≤ (namedL l r).length ∧ (namedL l r).length ≤ l.length + sizeL r
  | [], _, l => by simp [namedL]
  | x :: r, h, l => by
    have h1 := h x (by simp) l
    have h2 := namedL_len r (fun y hy => h y (by simp [hy])) (named l x)
    simp only [namedL, sizeL]
    omega
theorem named_len (e : Ex) : ∀ l, l.length ≤ (named l e).length ∧ (named l e).length ≤ l.length + e.size := by
  induction e using ind with
  | h e ih =>
    intro l
    have h1 := addN_len l e.name
    have h2 := namedL_len e.sub ih (addN l e.name)
    rw [named_eq, size_eq]
    omega
end Ex
/-- Needs. -/
def needsF (e : Ex) : List ByteArray := if 120 < e.count 121 then [] else e.named []
end Go.Proofs.YtikmbkojnfmiaaaGreatDoorRRRR

/- Walks over the reference's order: Has, named, Needs. -/
namespace Go.Proofs.YtikmbkojnfmiaaaGreatDoorRRRR
open Go.RowKit Go.Sort

set_option maxHeartbeats 1000000 in
theorem has_any (l : List ByteArray) (A : Option Addr) (cap : Nat) (s : ByteArray) (w : World) (hl : StrsAt w l A cap) :
    Calls Tryz.prog 21 #[.slice A l.length cap, .string s] w fun r w' => r = .returned (.bool (hasB l s)) ∧ Below w.heap.size w w' := by
  have hlen := hl.len
  unfold maxLen at hlen
  obtain ⟨hlen1, hlen2⟩ := hlen
  go_enter Tryz.func21, Tryz.ntmps21
  go_wp2_with fail
  go_loopw [5] (fun i wr => ∃ k : Nat, k ≤ l.length ∧ i = .int .i64 k ∧ hasB (l.drop k) s = hasB l s ∧ Below w.heap.size w wr) (fun i _ => l.length - (intOf i).toNat)
  case atStart => exact ⟨0, Nat.zero_le _, rfl, rfl, belA⟩
  case round =>
    obtain ⟨k, hk, rfl, hrem, hbel⟩ := hrel
    by_cases hlt : k < l.length
    · have hx : l[k]? = some l[k] := List.getElem?_eq_getElem hlt
      have hd : l.drop k = l[k] :: l.drop (k + 1) := List.drop_eq_getElem_cons hlt
      generalize l[k] = x at hx hd
      obtain ⟨b, off, rfl, hbb, d0⟩ := (hl.later hbel).get hx
      rw [hd, hasB_cons] at hrem
      clear hd hx
      cases hcs : (x.toList == s.toList)
      · rw [hcs, Bool.false_or] at hrem
        have HR := Lib.hid hrem; clear hrem
        go_wp2_with fail
        go_roundw
        case rel => exact ⟨k + 1, by omega, by go_num, HR.out, belA⟩
        case measure => simp [intOf]; omega
      · rw [hcs, Bool.true_or] at hrem
        have HR := Lib.hid hrem; clear hrem
        go_wp2_with fail
        go_ret
        exact ⟨ret_bool HR.out, belA⟩
    · obtain rfl : k = l.length := by omega
      rw [List.drop_length] at hrem
      have HR := Lib.hid hrem; clear hrem
      go_wp2_with fail
      go_ret
      exact ⟨ret_bool HR.out, belA⟩

theorem StrsAt.of_own {w : World} {base : Nat} {e : TypeId} {l : List ByteArray} {A : Option Addr} {cap : Nat} (h : w.ownsRow base e 1 (.slice A l.length cap) l.length (l.map .string)) : StrsAt w l A cap := by
  rcases Nat.eq_zero_or_pos l.length with h0 | h0
  · obtain ⟨A', c', hv, h1, h2⟩ := own_slice h
    injection hv with e1 e2 e3
    subst e3
    exact ⟨h1, h2, fun hl => absurd hl (by omega)⟩
  · obtain ⟨g, c', hv, _, _, h1, h2, hc⟩ := own_get h h0
    injection hv with e1 e2 e3
    subst e1 e3
    refine ⟨h1, h2, fun _ => ⟨g, 0, rfl, fun k s hk => ?_⟩⟩
    rw [Nat.zero_add]
    exact hc k _ (by simp [hk])

theorem grown_step {a b c : World} {r0 r1 : Option Nat} (h1 : a.grownBy b r0) (h2 : b.grownBy c r1) (hr : r1 = r0 ∨ ∀ k, r1 = some k → a.heap.size ≤ k) : a.grownBy c r0 :=
  ⟨h2.os.trans h1.os, h2.tape.trans h1.tape, h2.output.trans h1.output, Nat.le_trans h1.size h2.size, fun k hk hne => (h2.block k (Nat.lt_of_lt_of_le hk h1.size) (by
    rcases hr with rfl | hr
    · exact hne
    · intro he
      have := hr k he.symm
      omega)).trans (h1.block k hk hne)⟩
theorem grown_bel {a b : World} {r0 : Option Nat} (h : Below a.heap.size a b) : a.grownBy b r0 := ⟨h.os, h.tape, h.output, h.size, fun k hk _ => h.block k hk⟩

/-- The contract of named: it writes to the row that it gets, and to new memory. -/
def NamedP (w0 : World) (x : Ex) : Prop := ∀ (A : Option Addr) (c : Nat), SubsAt w0 x A c → ∀ (W : World) (v : Value) (l : List ByteArray), Below w0.heap.size w0 W → W.ownsRow w0.heap.size 9 1 v l.length (l.map .string) → l.length + x.size ≤ 1000000 →
    Calls Tryz.prog 52 #[v, exV x A c] W fun r w' => (∃ v', r = .returned v' ∧ w'.ownsRow w0.heap.size 9 1 v' (x.named l).length ((x.named l).map .string) ∧ (v'.ownBlock = v.ownBlock ∨ ∀ b, v'.ownBlock = some b → W.heap.size ≤ b)) ∧ W.grownBy w' v.ownBlock

set_option maxHeartbeats 4000000 in
theorem named_any (w0 : World) (e : Ex) : NamedP w0 e := by
  induction e using Ex.ind with
  | h e ih =>
  intro Ae ce he W v l hbW hown hsz
  obtain ⟨Av, cv, rfl, hcv1, hcv2⟩ := own_slice hown
  have hlen := he.len
  unfold maxLen at hlen hcv2
  obtain ⟨hl1, hl2⟩ := hlen
  have hvb : ∀ b, (Value.slice Av l.length cv).ownBlock = some b → w0.heap.size ≤ b ∧ b < W.heap.size := fun b hb => hown.lt b hb
  have hw0 := hbW.size
  have hszz := Ex.size_eq e
  have hadd := addN_len l e.name
  have hfin := Lib.hid (Ex.named_eq l e)
  have hhas := fun W' h => has_any l Av cv e.name W' ((StrsAt.of_own hown).later h)
  unfold exV
  have hkeepz : ∀ (V1 : Value) (a b : World), (V1.ownBlock = (Value.slice Av l.length cv).ownBlock ∨ ∀ k, V1.ownBlock = some k → W.heap.size < k) → a.grownBy b V1.ownBlock → W.heap.size < a.heap.size → ∀ u, a.cell? ⟨W.heap.size, 3, none⟩ = some u → b.cell? ⟨W.heap.size, 3, none⟩ = some u := by
    intro V1 a b h hg hz u hu
    refine cell_block (hg.block W.heap.size hz fun he => ?_) hu
    rcases h with h | h
    · rw [h] at he
      have := (hvb _ he.symm).2
      omega
    · have := h _ he.symm
      omega
  have HK := Lib.hid hkeepz; clear hkeepz
  have HVB := Lib.hid hvb; clear hvb
  cases hnm : e.name.toList.isEmpty
  case true =>
    have hl1' : addN l e.name = l := by unfold addN; rw [if_pos hnm]
    rw [hl1'] at hfin hadd
    clear hl1'
    go_enter Tryz.func52, Tryz.ntmps52
    go_wp2_with fail
    refine wp_name fun W0 hW0 => ?_
    have hown0 : W0.ownsRow w0.heap.size 9 1 (.slice Av l.length cv) l.length (l.map .string) := by rw [hW0]; exact hown.alloc _
    have hvb0 : (Value.slice Av l.length cv).ownBlock = (Value.slice Av l.length cv).ownBlock ∨ ∀ b, (Value.slice Av l.length cv).ownBlock = some b → W.heap.size < b := .inl rfl
    have hgr0 : W.grownBy W0 (Value.slice Av l.length cv).ownBlock := by rw [hW0]; exact World.grownBy_alloc W _ _
    have hc0 : W0.cell? ⟨W.heap.size, 3, none⟩ = some (.slice Ae e.sub.length ce) := by rw [hW0]; go_simp
    have hz0 : W.heap.size < W0.heap.size := by rw [hW0]; simp
    clear hW0
    go_loopw [0, 5] (fun u0 i wr => ∃ (k : Nat) (V1 : Value) (l2 : List ByteArray), k ≤ e.sub.length ∧ i = .int .i64 k ∧ u0 = V1 ∧ Ex.namedL l2 (e.sub.drop k) = e.named l ∧ wr.ownsRow w0.heap.size 9 1 V1 l2.length (l2.map .string) ∧ (V1.ownBlock = (Value.slice Av l.length cv).ownBlock ∨ ∀ b, V1.ownBlock = some b → W.heap.size < b) ∧ W.grownBy wr (Value.slice Av l.length cv).ownBlock ∧ wr.cell? ⟨W.heap.size, 3, none⟩ = some (.slice Ae e.sub.length ce) ∧ W.heap.size < wr.heap.size ∧ l2.length + Ex.sizeL (e.sub.drop k) ≤ 1000000) (fun _ i _ => e.sub.length - (intOf i).toNat)
    case atStart => exact ⟨0, _, (l), Nat.zero_le _, rfl, rfl, by rw [hfin.out]; rfl, hown0, hvb0, hgr0, hc0, hz0, by rw [List.drop_zero]; omega⟩
    case round =>
      obtain ⟨k, V1, l2, hk, rfl, rfl, hrem, hownk, hvbk, hgrk, hck, hzk, hszk⟩ := hrel
      obtain ⟨Ak, cvk, rfl, hk1, hk2⟩ := own_slice hownk
      by_cases hlt : k < e.sub.length
      · have hx : e.sub[k]? = some e.sub[k] := List.getElem?_eq_getElem hlt
        have hmem : e.sub[k] ∈ e.sub := List.getElem_mem hlt
        have hd : e.sub.drop k = e.sub[k] :: e.sub.drop (k + 1) := List.drop_eq_getElem_cons hlt
        generalize e.sub[k] = x at hx hmem hd
        have hbw : Below w0.heap.size w0 wr := bel_grown hbW hgrk (fun b hb => (HVB.out b hb).1) (by omega)
        obtain ⟨b, off, A', cap', rfl, c0, c1, c2, c3, hs⟩ := he.get hx
        have c0' := bel_cell hbw c0
        have c1' := bel_cell hbw c1
        have c2' := bel_cell hbw c2
        have c3' := bel_cell hbw c3
        rw [hd, Ex.namedL] at hrem
        rw [hd, Ex.sizeL] at hszk
        have hnl := Ex.named_len x l2
        have hcall := ih x hmem A' cap' hs wr _ l2 hbw hownk (by omega)
        unfold exV at hcall
        have HR := Lib.hid hrem
        have HVK := Lib.hid hvbk
        have HGK := Lib.hid hgrk
        clear hrem hd hx c0 c1 c2 c3 hvbk hgrk
        go_wp2_with (first | (go_at_call 52; refine hcall.mono ?_; rintro r w3 ⟨⟨v3, rfl, hown3, hvb3⟩, hg3⟩))
        go_roundw
        case rel =>
          have hzg := hg3.size
          refine ⟨k + 1, _, x.named l2, by omega, by go_num, rfl, HR.out, hown3, ?_, ?_, HK.out _ _ _ HVK.out hg3 hzk _ hck, by omega, by omega⟩
          · rcases hvb3 with h3 | h3
            · rw [h3]; exact HVK.out
            · exact .inr fun b hb => by have := h3 b hb; omega
          · refine grown_step HGK.out hg3 ?_
            rcases HVK.out with h | h
            · exact .inl h
            · exact .inr fun b hb => by have := h b hb; omega
        case measure => simp [intOf]; omega
      · obtain rfl : k = e.sub.length := by omega
        rw [List.drop_length, Ex.namedL] at hrem
        subst hrem
        have HGK := Lib.hid hgrk
        have HVK := Lib.hid hvbk
        clear hgrk hvbk
        go_wp2_with fail
        go_ret
        exact ⟨⟨_, rfl, hownk, HVK.out.imp id fun h b hb => by have := h b hb; omega⟩, HGK.out⟩
  case false =>
    cases hh : hasB l e.name
    case true =>
      have hl1' : addN l e.name = l := by unfold addN; rw [hnm, if_neg (by simp), if_pos hh]
      rw [hl1'] at hfin hadd
      rw [hh] at hhas
      clear hl1' hh
      go_enter Tryz.func52, Tryz.ntmps52
      go_wp2_with (first | (go_at_call 21; refine (hhas _ belA).mono ?_; rintro r w1 ⟨rfl, hb1⟩; have hc1 := bcell hb1; have hz1 := hb1.size; (try simp at hz1); have hyw : W.heap.size < w1.heap.size := (by omega)))
      refine wp_name fun W0 hW0 => ?_
      have hown0 : W0.ownsRow w0.heap.size 9 1 (.slice Av l.length cv) l.length (l.map .string) := by rw [hW0]; exact own_bel (hown.alloc _) hb1
      have hvb0 : (Value.slice Av l.length cv).ownBlock = (Value.slice Av l.length cv).ownBlock ∨ ∀ b, (Value.slice Av l.length cv).ownBlock = some b → W.heap.size < b := .inl rfl
      have hgr0 : W.grownBy W0 (Value.slice Av l.length cv).ownBlock := by rw [hW0]; exact grown_bel (bel_trans (bel_alloc (Below.refl _ _) _) hb1)
      have hc0 : W0.cell? ⟨W.heap.size, 3, none⟩ = some (.slice Ae e.sub.length ce) := by rw [hW0]; go_simp
      have hz0 : W.heap.size < W0.heap.size := by rw [hW0]; omega
      clear hW0 hb1 hc1
      go_loopw [0, 5] (fun u0 i wr => ∃ (k : Nat) (V1 : Value) (l2 : List ByteArray), k ≤ e.sub.length ∧ i = .int .i64 k ∧ u0 = V1 ∧ Ex.namedL l2 (e.sub.drop k) = e.named l ∧ wr.ownsRow w0.heap.size 9 1 V1 l2.length (l2.map .string) ∧ (V1.ownBlock = (Value.slice Av l.length cv).ownBlock ∨ ∀ b, V1.ownBlock = some b → W.heap.size < b) ∧ W.grownBy wr (Value.slice Av l.length cv).ownBlock ∧ wr.cell? ⟨W.heap.size, 3, none⟩ = some (.slice Ae e.sub.length ce) ∧ W.heap.size < wr.heap.size ∧ l2.length + Ex.sizeL (e.sub.drop k) ≤ 1000000) (fun _ i _ => e.sub.length - (intOf i).toNat)
      case atStart => exact ⟨0, _, (l), Nat.zero_le _, rfl, rfl, by rw [hfin.out]; rfl, hown0, hvb0, hgr0, hc0, hz0, by rw [List.drop_zero]; omega⟩
      case round =>
        obtain ⟨k, V1, l2, hk, rfl, rfl, hrem, hownk, hvbk, hgrk, hck, hzk, hszk⟩ := hrel
        obtain ⟨Ak, cvk, rfl, hk1, hk2⟩ := own_slice hownk
        by_cases hlt : k < e.sub.length
        · have hx : e.sub[k]? = some e.sub[k] := List.getElem?_eq_getElem hlt
          have hmem : e.sub[k] ∈ e.sub := List.getElem_mem hlt
          have hd : e.sub.drop k = e.sub[k] :: e.sub.drop (k + 1) := List.drop_eq_getElem_cons hlt
          generalize e.sub[k] = x at hx hmem hd
          have hbw : Below w0.heap.size w0 wr := bel_grown hbW hgrk (fun b hb => (HVB.out b hb).1) (by omega)
          obtain ⟨b, off, A', cap', rfl, c0, c1, c2, c3, hs⟩ := he.get hx
          have c0' := bel_cell hbw c0
          have c1' := bel_cell hbw c1
          have c2' := bel_cell hbw c2
          have c3' := bel_cell hbw c3
          rw [hd, Ex.namedL] at hrem
          rw [hd, Ex.sizeL] at hszk
          have hnl := Ex.named_len x l2
          have hcall := ih x hmem A' cap' hs wr _ l2 hbw hownk (by omega)
          unfold exV at hcall
          have HR := Lib.hid hrem
          have HVK := Lib.hid hvbk
          have HGK := Lib.hid hgrk
          clear hrem hd hx c0 c1 c2 c3 hvbk hgrk
          go_wp2_with (first | (go_at_call 52; refine hcall.mono ?_; rintro r w3 ⟨⟨v3, rfl, hown3, hvb3⟩, hg3⟩))
          go_roundw
          case rel =>
            have hzg := hg3.size
            refine ⟨k + 1, _, x.named l2, by omega, by go_num, rfl, HR.out, hown3, ?_, ?_, HK.out _ _ _ HVK.out hg3 hzk _ hck, by omega, by omega⟩
            · rcases hvb3 with h3 | h3
              · rw [h3]; exact HVK.out
              · exact .inr fun b hb => by have := h3 b hb; omega
            · refine grown_step HGK.out hg3 ?_
              rcases HVK.out with h | h
              · exact .inl h
              · exact .inr fun b hb => by have := h b hb; omega
          case measure => simp [intOf]; omega
        · obtain rfl : k = e.sub.length := by omega
          rw [List.drop_length, Ex.namedL] at hrem
          subst hrem
          have HGK := Lib.hid hgrk
          have HVK := Lib.hid hvbk
          clear hgrk hvbk
          go_wp2_with fail
          go_ret
          exact ⟨⟨_, rfl, hownk, HVK.out.imp id fun h b hb => by have := h b hb; omega⟩, HGK.out⟩
    case false =>
      have hl1' : addN l e.name = l ++ [e.name] := by unfold addN; rw [hnm, if_neg (by simp), if_neg (by simp [hh])]
      rw [hl1'] at hfin hadd
      rw [hh] at hhas
      clear hl1' hh
      go_enter Tryz.func52, Tryz.ntmps52
      go_wp2_with (first | (go_at_call 21; refine (hhas _ belA).mono ?_; rintro r w1 ⟨rfl, hb1⟩; have hc1 := bcell hb1; have hz1 := hb1.size; (try simp at hz1); have hyw : W.heap.size < w1.heap.size := (by omega)) | (at_builtin; go_loud (refine wpList_cat2 rfl (.tmp 16) (.tmp 19) 55 rfl w0.heap.size 9 _ 1 16 Tryz.underlying55 strinfo rfl (by omega) (.slice Av l.length cv) l.length (l.map .string) w1.heap.size 1 1 [.string e.name] rfl (own_alloc (own_bel (hown.alloc _) hb1)) rfl rfl (fun j u hj => by rw [cell_new' (by simp)]; simpa using hj) (by simp [Value.oneCell']) (by omega) (by omega) (by simp; omega) ?_; intro v2 w2 hown2 hg2 hv2; obtain ⟨A2, cv2, rfl, hcb1, hcb2⟩ := own_slice hown2)))
      refine wp_name fun W0 hW0 => ?_
      have hz2 := hg2.size
      simp at hz2
      have hown0 : W0.ownsRow w0.heap.size 9 1 (.slice A2 (l.length + 1) cv2) (l ++ [e.name]).length ((l ++ [e.name]).map .string) := by rw [hW0, List.map_append, List.length_append]; exact hown2
      have hvb0 : (Value.slice A2 (l.length + 1) cv2).ownBlock = (Value.slice Av l.length cv).ownBlock ∨ ∀ b, (Value.slice A2 (l.length + 1) cv2).ownBlock = some b → W.heap.size < b := by
        rcases hv2 with hv2 | hv2
        · exact .inl hv2
        · exact .inr fun b hb => by have := hv2 b hb; simp at this; omega
      have hgr0 : W.grownBy W0 (Value.slice Av l.length cv).ownBlock := by rw [hW0]; exact grown_step (grown_bel (bel_alloc (bel_trans (bel_alloc (Below.refl _ _) _) hb1) _)) hg2 (.inl rfl)
      have hc0 : W0.cell? ⟨W.heap.size, 3, none⟩ = some (.slice Ae e.sub.length ce) := by
        rw [hW0]
        refine HK.out (.slice Av l.length cv) _ _ (.inl rfl) hg2 (by simp; omega) _ ?_
        go_simp
      have hz0 : W.heap.size < W0.heap.size := by rw [hW0]; omega
      clear hW0 hb1 hc1 hg2 hv2 hown2
      go_loopw [0, 5] (fun u0 i wr => ∃ (k : Nat) (V1 : Value) (l2 : List ByteArray), k ≤ e.sub.length ∧ i = .int .i64 k ∧ u0 = V1 ∧ Ex.namedL l2 (e.sub.drop k) = e.named l ∧ wr.ownsRow w0.heap.size 9 1 V1 l2.length (l2.map .string) ∧ (V1.ownBlock = (Value.slice Av l.length cv).ownBlock ∨ ∀ b, V1.ownBlock = some b → W.heap.size < b) ∧ W.grownBy wr (Value.slice Av l.length cv).ownBlock ∧ wr.cell? ⟨W.heap.size, 3, none⟩ = some (.slice Ae e.sub.length ce) ∧ W.heap.size < wr.heap.size ∧ l2.length + Ex.sizeL (e.sub.drop k) ≤ 1000000) (fun _ i _ => e.sub.length - (intOf i).toNat)
      case atStart => exact ⟨0, _, (l ++ [e.name]), Nat.zero_le _, rfl, rfl, by rw [hfin.out]; rfl, hown0, hvb0, hgr0, hc0, hz0, by rw [List.drop_zero]; omega⟩
      case round =>
        obtain ⟨k, V1, l2, hk, rfl, rfl, hrem, hownk, hvbk, hgrk, hck, hzk, hszk⟩ := hrel
        obtain ⟨Ak, cvk, rfl, hk1, hk2⟩ := own_slice hownk
        by_cases hlt : k < e.sub.length
        · have hx : e.sub[k]? = some e.sub[k] := List.getElem?_eq_getElem hlt
          have hmem : e.sub[k] ∈ e.sub := List.getElem_mem hlt
          have hd : e.sub.drop k = e.sub[k] :: e.sub.drop (k + 1) := List.drop_eq_getElem_cons hlt
          generalize e.sub[k] = x at hx hmem hd
          have hbw : Below w0.heap.size w0 wr := bel_grown hbW hgrk (fun b hb => (HVB.out b hb).1) (by omega)
          obtain ⟨b, off, A', cap', rfl, c0, c1, c2, c3, hs⟩ := he.get hx
          have c0' := bel_cell hbw c0
          have c1' := bel_cell hbw c1
          have c2' := bel_cell hbw c2
          have c3' := bel_cell hbw c3
          rw [hd, Ex.namedL] at hrem
          rw [hd, Ex.sizeL] at hszk
          have hnl := Ex.named_len x l2
          have hcall := ih x hmem A' cap' hs wr _ l2 hbw hownk (by omega)
          unfold exV at hcall
          have HR := Lib.hid hrem
          have HVK := Lib.hid hvbk
          have HGK := Lib.hid hgrk
          clear hrem hd hx c0 c1 c2 c3 hvbk hgrk
          go_wp2_with (first | (go_at_call 52; refine hcall.mono ?_; rintro r w3 ⟨⟨v3, rfl, hown3, hvb3⟩, hg3⟩))
          go_roundw
          case rel =>
            have hzg := hg3.size
            refine ⟨k + 1, _, x.named l2, by omega, by go_num, rfl, HR.out, hown3, ?_, ?_, HK.out _ _ _ HVK.out hg3 hzk _ hck, by omega, by omega⟩
            · rcases hvb3 with h3 | h3
              · rw [h3]; exact HVK.out
              · exact .inr fun b hb => by have := h3 b hb; omega
            · refine grown_step HGK.out hg3 ?_
              rcases HVK.out with h | h
              · exact .inl h
              · exact .inr fun b hb => by have := h b hb; omega
          case measure => simp [intOf]; omega
        · obtain rfl : k = e.sub.length := by omega
          rw [List.drop_length, Ex.namedL] at hrem
          subst hrem
          have HGK := Lib.hid hgrk
          have HVK := Lib.hid hvbk
          clear hgrk hvbk
          go_wp2_with fail
          go_ret
          exact ⟨⟨_, rfl, hownk, HVK.out.imp id fun h b hb => by have := h b hb; omega⟩, HGK.out⟩

end Go.Proofs.YtikmbkojnfmiaaaGreatDoorRRRR

/- Walks over the reference's Needs, and over order's size. -/
namespace Go.Proofs.YtikmbkojnfmiaaaGreatDoorRRRR
open Go.RowKit Go.Sort

theorem bel_of_grown {a b : World} {B : Nat} (h : a.grownBy b none) (hB : B ≤ a.heap.size) : Below B a b :=
  ⟨h.os, h.tape, h.output, h.size, fun k hk => h.block k (by omega) (by simp)⟩

set_option maxHeartbeats 1000000 in
theorem refNeeds_any (e : Ex) (A : Option Addr) (cap : Nat) (w : World) (he : SubsAt w e A cap) (hz : e.size ≤ 1000000) :
    Calls Tryz.prog 40 #[exV e A cap] w fun r w' => (∃ v, r = .returned v ∧ w'.ownsRow w.heap.size 9 1 v (needsF e).length ((needsF e).map .string)) ∧ Below w.heap.size w w' := by
  have hparts := fun W h => parts_any e A cap 121 W (he.later h) (by omega) (by omega)
  have hbd := Ex.count_bd e 121
  have hnam := fun (W : World) (h : Below w.heap.size w W) => named_any W e A cap (he.later h) W (.slice none 0 0) [] (Below.refl _ _) (World.ownsRow_nil _ _ _ _) (by simpa using hz)
  have hv : needsF e = if 120 < e.count 121 then [] else e.named [] := rfl
  unfold exV at *
  generalize e.count 121 = c at *
  by_cases hc : 120 < c
  · rw [if_pos hc] at hv
    have HV := Lib.hid hv; clear hv
    go_enter Tryz.func40, Tryz.ntmps40
    go_wp2_with (first | (go_at_call 10; refine (hparts _ belA).mono ?_; rintro r w1 ⟨rfl, hb1⟩; have hc1 := bcell hb1; have hz1 := hb1.size; (try simp at hz1); (try have hy1 := lt0 w w1); (try have hy2 := ltA w 1 w1); (try have hy3 := ltA w 2 w1); (try have hy4 := lt0 wr w1); (try have hy5 := ltA wr 1 w1)))
    go_ret
    exact ⟨⟨_, rfl, by rw [HV.out]; exact World.ownsRow_nil _ _ _ _⟩, belA⟩
  · rw [if_neg hc] at hv
    have HV := Lib.hid hv; clear hv
    go_enter Tryz.func40, Tryz.ntmps40
    go_wp2_with (first | (go_at_call 10; refine (hparts _ belA).mono ?_; rintro r w1 ⟨rfl, hb1⟩; have hc1 := bcell hb1; have hz1 := hb1.size; (try simp at hz1); (try have hy1 := lt0 w w1); (try have hy2 := ltA w 1 w1); (try have hy3 := ltA w 2 w1); (try have hy4 := lt0 wr w1); (try have hy5 := ltA wr 1 w1)) | (go_at_call 52; refine (hnam _ belA).mono ?_; rintro r w2 ⟨⟨v2, rfl, hown2, _⟩, hg2⟩))
    go_ret
    exact ⟨⟨_, rfl, by rw [HV.out]; exact own_less hown2 (by omega)⟩, bel_grow (a := w) (by exact belA) (bel_of_grown hg2 (Nat.le_refl _)) (by omega)⟩

end Go.Proofs.YtikmbkojnfmiaaaGreatDoorRRRR

/- Walks over order's size and over the closure of its Needs. -/
namespace Go.Proofs.YtikmbkojnfmiaaaGreatDoorRRRR
open Go.RowKit Go.Sort

set_option maxHeartbeats 1000000 in
theorem size16_any (e : Ex) : ∀ (A : Option Addr) (cap : Nat) (most : Int) (w : World), SubsAt w e A cap → -1000000 ≤ most → most ≤ 1000000 →
    Calls Tryz.prog 46 #[exV e A cap, .int .i64 most] w fun r w' => r = .returned (.int .i64 (e.count most)) ∧ Below w.heap.size w w' := by
  induction e using Ex.ind with
  | h e ih =>
  intro A cap most w he hm hm2
  have hl := he.len
  unfold maxLen at hl
  obtain ⟨hl1, hl2⟩ := hl
  unfold exV
  go_enter Tryz.func46, Tryz.ntmps46
  go_wp2_with fail
  refine wp_name fun W0 hW0 => ?_
  have hb0 : Below w.heap.size w W0 := by rw [hW0]; exact belA
  have hz0 : w.heap.size < W0.heap.size := by rw [hW0]; simp
  have p3 : W0.cell? ⟨w.heap.size, 3, none⟩ = some (.slice A e.sub.length cap) := by rw [hW0]; go_simp
  clear hW0
  replace he := he.later hb0
  go_loopw [5, 6] (fun m i wr => ∃ (k : Nat) (m' : Int), k ≤ e.sub.length ∧ i = .int .i64 k ∧ m = .int .i64 m' ∧ 1 ≤ m' ∧ m' ≤ max 1 most ∧ Ex.countL (e.sub.drop k) m' most = e.count most ∧ Below W0.heap.size W0 wr) (fun _ i _ => e.sub.length - (intOf i).toNat)
  case atStart => exact ⟨0, 1, Nat.zero_le _, rfl, rfl, by omega, by omega, by simp [Ex.count_eq], Below.refl _ _⟩
  case round =>
    obtain ⟨k, m', hk, rfl, rfl, h0, h1, hrem, hbel⟩ := hrel
    have hc := bcell hbel
    have hzr := hbel.size
    by_cases hlt : k < e.sub.length
    · have hx : e.sub[k]? = some e.sub[k] := List.getElem?_eq_getElem hlt
      have hmem : e.sub[k] ∈ e.sub := List.getElem_mem hlt
      have hd : e.sub.drop k = e.sub[k] :: e.sub.drop (k + 1) := List.drop_eq_getElem_cons hlt
      generalize e.sub[k] = x at hx hmem hd
      obtain ⟨b, off, A', cap', rfl, c0, c1, c2, c3, hs⟩ := (he.later hbel).get hx
      rw [hd, Ex.countL] at hrem
      have hbd := Ex.count_bd x (most - m')
      have ihx := ih x hmem
      by_cases hge : m' ≥ most
      · rw [if_pos hge] at hrem
        have HR := Lib.hid hrem; clear hrem hd hx
        have hge' : ¬ m' < most := by omega
        go_wp2_with fail
        go_ret
        exact ⟨ret_int HR.out, belA⟩
      · rw [if_neg hge] at hrem
        have HR := Lib.hid hrem; clear hrem hd hx
        have hge' : m' < most := by omega
        go_wp2_with (go_at_call 46; refine (ihx A' cap' (most - m') _ (hs.later belA) (by omega) (by omega)).mono ?_; rintro r w1 ⟨rfl, hb1⟩)
        go_roundw
        case rel => exact ⟨k + 1, m' + x.count (most - m'), by omega, by go_num, by go_num, by omega, by omega, HR.out, belA⟩
        case measure => simp [intOf]; omega
    · have hke : k = e.sub.length := by omega
      rw [hke, List.drop_length, Ex.countL] at hrem
      have HR := Lib.hid hrem; clear hrem hke
      go_wp2_with fail
      go_ret
      exact ⟨ret_int HR.out, belA⟩

theorem MapI.keep1 {P : Program} {k e : TypeId} {w w' : World} {b n : Nat} {f : ByteArray → Option Int} (h : MapI P k e w b n f) (hb : w'.heap[b]? = w.heap[b]?) : MapI P k e w' b n f := by
  obtain ⟨D, h1, h2, h3⟩ := h
  obtain ⟨es, clock, hh, F, hs, hD⟩ := h1
  exact ⟨D, ⟨es, clock, hb.trans hh, F, hs, hD⟩, h2, h3⟩

/-- What a call of the closure may change: the variable out, the map, the row of names. -/
structure Chg (bo B : Nat) (r : Option Nat) (W W' : World) : Prop where
  os : W'.os = W.os
  tape : W'.tape = W.tape
  output : W'.output = W.output
  size : W.heap.size ≤ W'.heap.size
  block : ∀ k, k < W.heap.size → k ≠ bo → k ≠ B → some k ≠ r → W'.heap[k]? = W.heap[k]?
theorem Chg.bel {bo B : Nat} {r : Option Nat} {W W' : World} (h : Below W.heap.size W W') : Chg bo B r W W' := ⟨h.os, h.tape, h.output, h.size, fun k hk _ _ _ => h.block k hk⟩
theorem Chg.grown {bo B : Nat} {r r' : Option Nat} {W W' : World} (h : W.grownBy W' r') (hr : r' = some bo ∨ r' = some B ∨ r' = r) : Chg bo B r W W' :=
  ⟨h.os, h.tape, h.output, h.size, fun k hk h1 h2 h3 => h.block k hk fun he => by
    rcases hr with hr | hr | hr
    · rw [hr] at he; injection he with he; exact h1 he
    · rw [hr] at he; injection he with he; exact h2 he
    · rw [hr] at he; exact h3 he⟩
theorem Chg.trans {bo B : Nat} {r0 r1 : Option Nat} {a b c : World} (h1 : Chg bo B r0 a b) (h2 : Chg bo B r1 b c) (hr : r1 = r0 ∨ ∀ k, r1 = some k → a.heap.size ≤ k) : Chg bo B r0 a c :=
  ⟨h2.os.trans h1.os, h2.tape.trans h1.tape, h2.output.trans h1.output, Nat.le_trans h1.size h2.size, fun k hk hbo hB hne => (h2.block k (Nat.lt_of_lt_of_le hk h1.size) hbo hB (by
    rcases hr with rfl | hr
    · exact hne
    · intro he
      have := hr k he.symm
      omega)).trans (h1.block k hk hbo hB hne)⟩
theorem Chg.setCell {bo B : Nat} {r : Option Nat} {W W' : World} (h : Chg bo B r W W') (o : Nat) (u : Value) : Chg bo B r W (W'.setCell ⟨bo, o, none⟩ u) :=
  ⟨h.os, h.tape, h.output, by have := h.size; simpa using this, fun k hk h1 h2 h3 => (heap_setCell_other W' ⟨bo, o, none⟩ k u h1).trans (h.block k hk h1 h2 h3)⟩

end Go.Proofs.YtikmbkojnfmiaaaGreatDoorRRRR
