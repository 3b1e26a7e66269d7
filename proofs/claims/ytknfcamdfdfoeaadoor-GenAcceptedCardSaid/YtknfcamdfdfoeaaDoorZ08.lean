/- Walks over order's size and over the closure of its Needs. -/
import Derived.Test.YtknfcamdfdfoeaaDoorZ07
import Derived.Test.YtknfcamdfdfoeaaDoorZ02
set_option linter.unusedVariables false
set_option linter.unusedSimpArgs false
set_option maxRecDepth 100000
namespace Go.Proofs.YtknfcamdfdfoeaaDoor
open Go.RowKit Go.Sort

set_option maxHeartbeats 1000000 in
theorem size16_any (e : Ex) : ∀ (A : Option Addr) (cap : Nat) (most : Int) (w : World), SubsAt w e A cap → -1000000 ≤ most → most ≤ 1000000 →
    Calls Tryd.prog 63 #[exV e A cap, .int .i64 most] w fun r w' => r = .returned (.int .i64 (e.count most)) ∧ Below w.heap.size w w' := by
  induction e using Ex.ind with
  | h e ih =>
  intro A cap most w he hm hm2
  have hl := he.len
  unfold maxLen at hl
  obtain ⟨hl1, hl2⟩ := hl
  unfold exV
  go_enter Tryd.func63, Tryd.ntmps63
  go_wp2_with fail
  refine wp_name fun W0 hW0 => ?_
  have hb0 : Below w.heap.size w W0 := by rw [hW0]; exact belA
  have hz0 : w.heap.size < W0.heap.size := by rw [hW0]; simp
  have p3 : W0.cell? ⟨w.heap.size, 3, none⟩ = some (.slice A e.sub.length cap) := by rw [hW0]; go_simp
  clear hW0
  replace he := he.later hb0
  go_loopw [5, 6] (fun m i wr => ∃ (k : Nat) (m' : Int), k ≤ e.sub.length ∧ i = .int .i64 k ∧ m = .int .i64 m' ∧ 1 ≤ m' ∧ m' ≤ max 1 most ∧ Ex.countL (e.sub.drop k) m' most = e.count most ∧ Below W0.heap.size W0 wr) (fun _ i _ => e.sub.length - (intOf i).toNat)
  case atStart => exact ⟨0, 1, Nat.zero_le _, rfl, rfl, by omega, by omega, by simp [Ex.count_eq], Below.refl _ _⟩
  case round =>
    obtain ⟨k, m', hk, rfl, rfl, h0, h1, hrem, hbel⟩ := hrel
    have hc := bcell hbel
    have hzr := hbel.size
    by_cases hlt : k < e.sub.length
    · have hx : e.sub[k]? = some e.sub[k] := List.getElem?_eq_getElem hlt
      have hmem : e.sub[k] ∈ e.sub := List.getElem_mem hlt
      have hd : e.sub.drop k = e.sub[k] :: e.sub.drop (k + 1) := List.drop_eq_getElem_cons hlt
      generalize e.sub[k] = x at hx hmem hd
      obtain ⟨b, off, A', cap', rfl, c0, c1, c2, c3, hs⟩ := (he.later hbel).get hx
      rw [hd, Ex.countL] at hrem
      have hbd := Ex.count_bd x (most - m')
      have ihx := ih x hmem
      by_cases hge : m' ≥ most
      · rw [if_pos hge] at hrem
        have HR := Lib.hid hrem; clear hrem hd hx
        have hge' : ¬ m' < most := by omega
        go_wp2_with fail
        go_ret
        exact ⟨ret_int HR.out, belA⟩
      · rw [if_neg hge] at hrem
        have HR := Lib.hid hrem; clear hrem hd hx
        have hge' : m' < most := by omega
        go_wp2_with (go_at_call 63; refine (ihx A' cap' (most - m') _ (hs.later belA) (by omega) (by omega)).mono ?_; rintro r w1 ⟨rfl, hb1⟩)
        go_roundw
        case rel => exact ⟨k + 1, m' + x.count (most - m'), by omega, by go_num, by go_num, by omega, by omega, HR.out, belA⟩
        case measure => simp [intOf]; omega
    · have hke : k = e.sub.length := by omega
      rw [hke, List.drop_length, Ex.countL] at hrem
      have HR := Lib.hid hrem; clear hrem hke
      go_wp2_with fail
      go_ret
      exact ⟨ret_int HR.out, belA⟩

theorem MapI.keep1 {P : Program} {k e : TypeId} {w w' : World} {b n : Nat} {f : ByteArray → Option Int} (h : MapI P k e w b n f) (hb : w'.heap[b]? = w.heap[b]?) : MapI P k e w' b n f := by
  obtain ⟨D, h1, h2, h3⟩ := h
  obtain ⟨es, clock, hh, F, hs, hD⟩ := h1
  exact ⟨D, ⟨es, clock, hb.trans hh, F, hs, hD⟩, h2, h3⟩

/-- What a call of the closure may change: the variable out, the map, the row of names. -/
structure Chg (bo B : Nat) (r : Option Nat) (W W' : World) : Prop where
  os : W'.os = W.os
  tape : W'.tape = W.tape
  output : W'.output = W.output
  size : W.heap.size ≤ W'.heap.size
  block : ∀ k, k < W.heap.size → k ≠ bo → k ≠ B → some k ≠ r → W'.heap[k]? = W.heap[k]?
theorem Chg.bel {bo B : Nat} {r : Option Nat} {W W' : World} (h : Below W.heap.size W W') : Chg bo B r W W' := ⟨h.os, h.tape, h.output, h.size, fun k hk _ _ _ => h.block k hk⟩
theorem Chg.grown {bo B : Nat} {r r' : Option Nat} {W W' : World} (h : W.grownBy W' r') (hr : r' = some bo ∨ r' = some B ∨ r' = r) : Chg bo B r W W' :=
  ⟨h.os, h.tape, h.output, h.size, fun k hk h1 h2 h3 => h.block k hk fun he => by
    rcases hr with hr | hr | hr
    · rw [hr] at he; injection he with he; exact h1 he
    · rw [hr] at he; injection he with he; exact h2 he
    · rw [hr] at he; exact h3 he⟩
theorem Chg.trans {bo B : Nat} {r0 r1 : Option Nat} {a b c : World} (h1 : Chg bo B r0 a b) (h2 : Chg bo B r1 b c) (hr : r1 = r0 ∨ ∀ k, r1 = some k → a.heap.size ≤ k) : Chg bo B r0 a c :=
  ⟨h2.os.trans h1.os, h2.tape.trans h1.tape, h2.output.trans h1.output, Nat.le_trans h1.size h2.size, fun k hk hbo hB hne => (h2.block k (Nat.lt_of_lt_of_le hk h1.size) hbo hB (by
    rcases hr with rfl | hr
    · exact hne
    · intro he
      have := hr k he.symm
      omega)).trans (h1.block k hk hbo hB hne)⟩
theorem Chg.setCell {bo B : Nat} {r : Option Nat} {W W' : World} (h : Chg bo B r W W') (o : Nat) (u : Value) : Chg bo B r W (W'.setCell ⟨bo, o, none⟩ u) :=
  ⟨h.os, h.tape, h.output, by have := h.size; simpa using this, fun k hk h1 h2 h3 => (heap_setCell_other W' ⟨bo, o, none⟩ k u h1).trans (h.block k hk h1 h2 h3)⟩

end Go.Proofs.YtknfcamdfdfoeaaDoor

/- Walk over the closure of order's Needs. -/
namespace Go.Proofs.YtknfcamdfdfoeaaDoor
open Go.RowKit Go.Sort

/-- The closure as a value. -/
def cloV (bs bo bw : Nat) : Value := .func (.func 64) #[] #[.pointer (some ⟨bs, 0, none⟩), .pointer (some ⟨bo, 0, none⟩), .pointer (some ⟨bw, 0, none⟩)]
/-- What stands between two calls. -/
structure NSt (bs bo bw B base : Nat) (W : World) (v : Value) (l : List ByteArray) (d : ByteArray → Option Int) (n N : Nat) : Prop where
  seen : W.cell? ⟨bs, 0, none⟩ = some (.map (some B))
  map : MapI Tryd.prog 9 3 W B n d
  out : W.cell? ⟨bo, 0, none⟩ = some v
  outf : W.frozen? ⟨bo, 0, none⟩ = false
  walk : W.cell? ⟨bw, 0, none⟩ = some (cloV bs bo bw)
  own : W.ownsRow base 9 1 v l.length (l.map .string)
  cnt : ∀ s, (hasB l s = true → 1 ≤ (d s).getD 0) ∧ (hasB l s = false → (d s).getD 0 = 0) ∧ (d s).getD 0 ≤ (N : Int)
  size : base ≤ W.heap.size
/-- Blocks that stay, and the row's. -/
theorem NSt.keep {bs bo bw B base : Nat} {W W' : World} {v : Value} {l : List ByteArray} {d : ByteArray → Option Int} {n N : Nat} (h : NSt bs bo bw B base W v l d n N) (hs : ∀ k, k < W.heap.size → W'.heap[k]? = W.heap[k]?) (hz : W.heap.size ≤ W'.heap.size) : NSt bs bo bw B base W' v l d n N := by
  have hb : ∀ {p : Addr} {u : Value}, W.cell? p = some u → W'.cell? p = some u := fun hc => cell_block (hs _ (block_lt_of_cell hc)) hc
  exact ⟨hb h.seen, h.map.keep hs, hb h.out, (World.frozen?_of_block (a := ⟨bo, 0, none⟩) (hs bo (block_lt_of_cell (a := ⟨bo, 0, none⟩) h.out))).trans h.outf, hb h.walk, own_keep h.own hs, h.cnt, by have := h.size; omega⟩

/-- The contract. -/
def NeedP (bs bo bw B base : Nat) (w0 : World) (x : Ex) : Prop := ∀ (A : Option Addr) (c : Nat), SubsAt w0 x A c → ∀ (W : World) (v : Value) (l : List ByteArray) (d : ByteArray → Option Int) (n N : Nat), Below w0.heap.size w0 W → NSt bs bo bw B base W v l d n N →
    l.length + x.size ≤ 1000000 → n + x.size ≤ 1000000 → N + x.size ≤ 1000000 →
    Calls Tryd.prog 64 #[exV x A c, .pointer (some ⟨bs, 0, none⟩), .pointer (some ⟨bo, 0, none⟩), .pointer (some ⟨bw, 0, none⟩)] W fun r w' => r = .returned (.tuple #[]) ∧ (∃ v' d' n', NSt bs bo bw B base w' v' (x.named l) d' n' (N + x.size) ∧ n' ≤ n + x.size ∧ (v'.ownBlock = v.ownBlock ∨ ∀ b, v'.ownBlock = some b → W.heap.size ≤ b)) ∧ Chg bo B v.ownBlock W w'

theorem chg_below {bo B base : Nat} {r : Option Nat} {w0 W wr : World} (hb : Below w0.heap.size w0 W) (h : Chg bo B r W wr) (h1 : w0.heap.size ≤ bo) (h2 : w0.heap.size ≤ B) (h3 : ∀ b, r = some b → w0.heap.size ≤ b) : Below w0.heap.size w0 wr :=
  ⟨h.os.trans hb.os, h.tape.trans hb.tape, h.output.trans hb.output, Nat.le_trans hb.size h.size, fun k hk => (h.block k (Nat.lt_of_lt_of_le hk hb.size) (by omega) (by omega) (fun he => by have := h3 k he.symm; omega)).trans (hb.block k hk)⟩
theorem cnt_more {l : List ByteArray} {d : ByteArray → Option Int} {N N' : Nat} (h : ∀ s, (hasB l s = true → 1 ≤ (d s).getD 0) ∧ (hasB l s = false → (d s).getD 0 = 0) ∧ (d s).getD 0 ≤ (N : Int)) (hN : N ≤ N') :
    ∀ s, (hasB l s = true → 1 ≤ (d s).getD 0) ∧ (hasB l s = false → (d s).getD 0 = 0) ∧ (d s).getD 0 ≤ (N' : Int) := fun s => ⟨(h s).1, (h s).2.1, by have := (h s).2.2; omega⟩
theorem cnt_upd {l : List ByteArray} {d : ByteArray → Option Int} {N : Nat} {s0 : ByteArray} (h : ∀ s, (hasB l s = true → 1 ≤ (d s).getD 0) ∧ (hasB l s = false → (d s).getD 0 = 0) ∧ (d s).getD 0 ≤ (N : Int)) (h0 : s0.toList.isEmpty = false) :
    ∀ s, (hasB (addN l s0) s = true → 1 ≤ ((upd d s0 ((d s0).getD 0 + 1)) s).getD 0) ∧ (hasB (addN l s0) s = false → ((upd d s0 ((d s0).getD 0 + 1)) s).getD 0 = 0) ∧ ((upd d s0 ((d s0).getD 0 + 1)) s).getD 0 ≤ ((N + 1 : Nat) : Int) := by
  intro s
  have hs := h s
  have h00 := h s0
  have hpos : 0 ≤ (d s0).getD 0 := by
    cases hb : hasB l s0
    · rw [h00.2.1 hb]; omega
    · have := h00.1 hb; omega
  unfold upd
  by_cases hd : s.data = s0.data
  · have he : s = s0 := by ext1; exact hd
    subst he
    rw [if_pos rfl]
    simp only [Option.getD_some]
    have hin : hasB (addN l s) s = true := by
      unfold addN
      rw [h0, if_neg (by simp)]
      cases hb : hasB l s
      · rw [if_neg (by simp), hasB_snoc]; simp
      · rw [if_pos rfl]; exact hb
    refine ⟨fun _ => by omega, fun hf => by rw [hin] at hf; simp at hf, by have := hs.2.2; omega⟩
  · rw [if_neg hd]
    have hne : (s0.toList == s.toList) = false := by
      cases hb : (s0.toList == s.toList)
      · rfl
      · have : s0 = s := eqS_iff.1 hb
        exact absurd (by rw [this]) hd
    have hsame : hasB (addN l s0) s = hasB l s := by
      unfold addN
      rw [h0, if_neg (by simp)]
      cases hb : hasB l s0
      · rw [if_neg (by simp), hasB_snoc, hne, Bool.or_false]
      · rw [if_pos rfl]
    rw [hsame]
    exact ⟨hs.1, hs.2.1, by have := hs.2.2; omega⟩

set_option maxHeartbeats 4000000 in
theorem need_any (bs bo bw B base : Nat) (hbs : bs < base) (hbo : bo < base) (hbw : bw < base) (hB : B < base) (n1 : bs ≠ bo) (n2 : bs ≠ B) (n3 : bw ≠ bo) (n4 : bw ≠ B) (n5 : bo ≠ B) (w0 : World) (m1 : w0.heap.size ≤ bo) (m2 : w0.heap.size ≤ B) (m3 : w0.heap.size ≤ base) (e : Ex) : e.OK → NeedP bs bo bw B base w0 e := by
  induction e using Ex.ind with
  | h e ih0 =>
  intro hok Ae ce he W v l d n N hbW hst hs1 hs2 hs3
  have ih : ∀ x ∈ e.sub, NeedP bs bo bw B base w0 x := fun x hx => ih0 x hx (Ex.OK_sub hok hx)
  have hsn : e.name.size ≤ maxLen := by cases e; exact hok.2.2.1
  clear ih0 hok
  have hlen := he.len
  unfold maxLen at hlen
  obtain ⟨hl1, hl2⟩ := hlen
  have hsz1 : Ex.sizeL e.sub + 1 ≤ e.size := by have := Ex.size_eq e; omega
  have hsz2 : e.size ≤ Ex.sizeL e.sub + 1 := by have := Ex.size_eq e; omega
  have hadd := addN_len l e.name
  have hfin := Lib.hid (Ex.named_eq l e)
  obtain ⟨c1, c2, c3, c4, c5, c6, c7, c8⟩ := hst
  obtain ⟨hq1, hq2, hq3⟩ := c7 e.name
  have C7 := Lib.hid c7; clear c7
  have hvb := Lib.hid (fun b hb => c6.lt b hb)
  have hBW := c2.lt
  unfold exV cloV at *
  cases hnm : e.name.toList.isEmpty
  case true =>
    have hl1' : addN l e.name = l := by unfold addN; rw [if_pos hnm]
    rw [hl1'] at hfin hadd
    clear hl1'
    go_enter Tryd.func64, Tryd.ntmps64
    go_wp2_with fail
    refine wp_name fun W0 hW0 => ?_
    have hst0 : NSt bs bo bw B base W0 v l d n (N + 1) := by
      have := NSt.keep (W' := W0) ⟨c1, c2, c3, c4, c5, c6, C7.out, c8⟩ (fun k hk => by rw [hW0]; exact heap_alloc_old W _ hk) (by rw [hW0]; simp)
      exact ⟨this.seen, this.map, this.out, this.outf, this.walk, this.own, cnt_more this.cnt (by omega), this.size⟩
    have hvb0 : v.ownBlock = v.ownBlock ∨ ∀ b, v.ownBlock = some b → W.heap.size ≤ b := .inl rfl
    have hchg0 : Chg bo B v.ownBlock W W0 := by rw [hW0]; exact Chg.bel (bel_alloc (Below.refl _ _) _)
    have hz0 : W.heap.size ≤ W0.heap.size := by rw [hW0]; simp
    have hn0 : n ≤ n + 1 := by omega
    clear hW0 c1 c2 c3 c4 c5 c6
    go_loopw [28] (fun i wr => ∃ (k : Nat) (V : Value) (l2 : List ByteArray) (d2 : ByteArray → Option Int) (n2 N2 : Nat), k ≤ e.sub.length ∧ i = .int .i64 k ∧ Ex.namedL l2 (e.sub.drop k) = e.named l ∧ NSt bs bo bw B base wr V l2 d2 n2 N2 ∧ (V.ownBlock = v.ownBlock ∨ ∀ b, V.ownBlock = some b → W.heap.size ≤ b) ∧ Chg bo B v.ownBlock W wr ∧ l2.length + Ex.sizeL (e.sub.drop k) ≤ 1000000 ∧ n2 + Ex.sizeL (e.sub.drop k) ≤ n + e.size ∧ N2 + Ex.sizeL (e.sub.drop k) ≤ N + e.size) (fun i _ => e.sub.length - (intOf i).toNat)
    case atStart => exact ⟨0, v, l, d, n, N + 1, Nat.zero_le _, rfl, by rw [hfin.out]; rfl, hst0, hvb0, hchg0, by rw [List.drop_zero]; omega, by rw [List.drop_zero]; omega, by rw [List.drop_zero]; omega⟩
    case round =>
      obtain ⟨k, V, l2, d2, n2, N2, hk, rfl, hrem, hstk, hvbk, hchk, hb1, hb2, hb3⟩ := hrel
      have hbw0 : Below w0.heap.size w0 wr := chg_below (base := base) hbW hchk m1 m2 (fun b hb => by have := (hvb.out b hb).1; omega)
      have hkz := hchk.size
      have hbsz := hstk.size
      by_cases hlt : k < e.sub.length
      · have hx : e.sub[k]? = some e.sub[k] := List.getElem?_eq_getElem hlt
        have hmem : e.sub[k] ∈ e.sub := List.getElem_mem hlt
        have hd : e.sub.drop k = e.sub[k] :: e.sub.drop (k + 1) := List.drop_eq_getElem_cons hlt
        generalize e.sub[k] = x at hx hmem hd
        obtain ⟨b, off, A', cap', rfl, x0, x1, x2, x3, hs⟩ := he.get hx
        have x0' := bel_cell hbw0 x0
        have x1' := bel_cell hbw0 x1
        have x2' := bel_cell hbw0 x2
        have x3' := bel_cell hbw0 x3
        have hwk := hstk.walk
        unfold cloV at hwk
        have hbwz : bw < wr.heap.size := by omega
        rw [hd, Ex.namedL] at hrem
        rw [hd, Ex.sizeL] at hb1 hb2 hb3
        have hnl := Ex.named_len x l2
        have hcall := fun W' (hW' : Below wr.heap.size wr W') => ih x hmem A' cap' hs W' V l2 d2 n2 N2 (hbw0.trans (hW'.mono hbw0.size)) (hstk.keep (fun k hk => hW'.block k hk) hW'.size) (by omega) (by omega) (by omega)
        have HST := Lib.hid hstk
        have HR := Lib.hid hrem
        have HVK := Lib.hid hvbk
        have HCK := Lib.hid hchk
        clear hrem hd hx x0 x1 x2 x3 hvbk hchk hstk
        go_wp2_with (first | (go_at_call 64; go_loud (refine (hcall _ belA).mono ?_; rintro r w3 ⟨rfl, ⟨v3, d3, n3, hst3, hn3, hvb3⟩, hch3⟩)))
        go_roundw
        case rel =>
          have hzg := hch3.size
          refine ⟨k + 1, v3, x.named l2, d3, n3, N2 + x.size, by omega, by go_num, HR.out, hst3, ?_, ?_, by omega, by omega, by omega⟩
          · rcases hvb3 with h3 | h3
            · rw [h3]; exact HVK.out
            · exact .inr fun b hb => by have := h3 b hb; simp at this; omega
          · refine HCK.out.trans (Chg.trans (Chg.bel (bel_alloc (Below.refl _ _) _)) hch3 (.inl rfl)) ?_
            exact HVK.out
        case measure => simp [intOf]; omega
      · obtain rfl : k = e.sub.length := by omega
        rw [List.drop_length, Ex.namedL] at hrem
        rw [List.drop_length, Ex.sizeL] at hb1 hb2 hb3
        subst hrem
        have HST := Lib.hid hstk
        have HVK := Lib.hid hvbk
        have HCK := Lib.hid hchk
        clear hvbk hchk hstk
        go_wp2_with fail
        go_end0
        exact ⟨rfl, ⟨V, d2, n2, ⟨HST.out.seen, HST.out.map, HST.out.out, HST.out.outf, HST.out.walk, HST.out.own, cnt_more HST.out.cnt (by omega), HST.out.size⟩, by omega, HVK.out⟩, HCK.out⟩
  case false =>
    have hN : (N : Int) ≤ 1000000 := by omega
    have hbsw : bs < W.heap.size := by omega
    have hbow : bo < W.heap.size := by omega
    have hbww : bw < W.heap.size := by omega
    have hC := Lib.hid (cnt_upd (s0 := e.name) C7.out hnm)
    have HNE := Lib.hid (show ∀ b, b < base → v.ownBlock = none ∨ v.ownBlock ≠ some b from fun b hb => by
      cases hv : v.ownBlock with
      | none => exact .inl rfl
      | some g =>
        right
        intro he
        injection he with he
        have := (hvb.out g hv).1
        omega)
    have hup : ((upd d e.name ((d e.name).getD 0 + 1)) e.name).getD 0 = (d e.name).getD 0 + 1 := by unfold upd; rw [if_pos rfl]; rfl
    cases hh : hasB l e.name
    case true =>
      have hl1' : addN l e.name = l := by unfold addN; rw [hnm, if_neg (by simp), if_pos hh]
      have hq0 := hq1 hh
      have ht : ((((upd d e.name ((d e.name).getD 0 + 1)) e.name).getD 0) == 1) = false := by rw [hup]; simp; omega
      rw [hl1'] at hfin hadd hC
      clear hl1' hh hup hq1 hq2
      go_enter Tryd.func64, Tryd.ntmps64
      go_wp2_with (first | (at_lookup; refine wpList_lkI rfl (.tmp _) (.tmp _) 107 rfl Tryd.underlying9 Tryd.underlying107 Tryd.underlying3 (zeroInt _) B n d e.name rfl (by with_reducible exact MapI.alloc c2) rfl hsn ?_) | (at_mapUpdate; go_loud (refine wpList_stI rfl (.tmp 10) (.tmp 12) (.tmp 14) 107 rfl Tryd.underlying9 Tryd.underlying107 Tryd.underlying3 B n d e.name ((d e.name).getD 0 + 1) rfl (by repeat (first | (with_reducible assumption) | refine MapI.alloc ?_ | refine MapI.bel ?_ (by with_reducible assumption) | refine MapI.drew ?_)) (by omega) rfl rfl hsn (by omega) ?_; intro w2 hm2 hg2; have hz2 : W.heap.size + 1 ≤ w2.heap.size := (by have := hg2.size; simpa using this); have hk2 := (fun b (h1 : b < W.heap.size + 1) (h2 : b ≠ B) => hg2.block b (by simpa using h1) (by simpa using h2)); have kz2 : w2.cell? ⟨W.heap.size, 2, none⟩ = some (.string e.name) := cell_block (hk2 W.heap.size (by omega) (by omega)) (by go_simp); have kz3 : w2.cell? ⟨W.heap.size, 3, none⟩ = some (.slice Ae e.sub.length ce) := cell_block (hk2 W.heap.size (by omega) (by omega)) (by go_simp); have ks : w2.cell? ⟨bs, 0, none⟩ = some (.map (some B)) := cell_block (hk2 bs (by omega) n2) (bel_cell (bel_alloc (Below.refl _ _) _) c1); have ko : w2.cell? ⟨bo, 0, none⟩ = some v := cell_block (hk2 bo (by omega) n5) (bel_cell (bel_alloc (Below.refl _ _) _) c3); have kof : w2.frozen? ⟨bo, 0, none⟩ = false := ((World.frozen?_of_block (a := ⟨bo, 0, none⟩) (hk2 bo (by omega) n5)).trans (((bel_alloc (Below.refl _ _) _).frozen (p := ⟨bo, 0, none⟩) (show bo < W.heap.size by omega)).trans c4)); have kw : w2.cell? ⟨bw, 0, none⟩ = some (cloV bs bo bw) := cell_block (hk2 bw (by omega) n4) (bel_cell (bel_alloc (Below.refl _ _) _) c5); have hownw := (own_alloc c6 (o := _)).kept hg2 (HNE.out B hB); have HK2 := Lib.hid hk2; have HG2 := Lib.hid hg2; have KW := Lib.hid kw; clear hk2 hg2 kw c1 c3 c4 c5)) | (at_lookup; refine wpList_lkI rfl (.tmp _) (.tmp _) 107 rfl Tryd.underlying9 Tryd.underlying107 Tryd.underlying3 (zeroInt _) B (n + 1) (upd d e.name ((d e.name).getD 0 + 1)) e.name rfl (by with_reducible exact hm2) rfl hsn ?_))
      refine wp_name fun W0 hW0 => ?_
      have hst0 : NSt bs bo bw B base W0 v l (upd d e.name ((d e.name).getD 0 + 1)) (n + 1) (N + 1) := by
        rw [hW0]; exact ⟨ks, hm2, ko, kof, KW.out, hownw, hC.out, by omega⟩
      have hvb0 : v.ownBlock = v.ownBlock ∨ ∀ b, v.ownBlock = some b → W.heap.size ≤ b := .inl rfl
      have hchg0 : Chg bo B v.ownBlock W W0 := by rw [hW0]; exact Chg.trans (Chg.bel (bel_alloc (Below.refl _ _) _)) (Chg.grown HG2.out (.inr (.inl rfl))) (.inl rfl)
      have hz0 : W.heap.size ≤ W0.heap.size := by rw [hW0]; omega
      have hn0 : n + 1 ≤ n + 1 := by omega
      clear hW0 ks hm2 ko kof kz2 kz3 hownw
      go_loopw [28] (fun i wr => ∃ (k : Nat) (V : Value) (l2 : List ByteArray) (d2 : ByteArray → Option Int) (n2 N2 : Nat), k ≤ e.sub.length ∧ i = .int .i64 k ∧ Ex.namedL l2 (e.sub.drop k) = e.named l ∧ NSt bs bo bw B base wr V l2 d2 n2 N2 ∧ (V.ownBlock = v.ownBlock ∨ ∀ b, V.ownBlock = some b → W.heap.size ≤ b) ∧ Chg bo B v.ownBlock W wr ∧ l2.length + Ex.sizeL (e.sub.drop k) ≤ 1000000 ∧ n2 + Ex.sizeL (e.sub.drop k) ≤ n + e.size ∧ N2 + Ex.sizeL (e.sub.drop k) ≤ N + e.size) (fun i _ => e.sub.length - (intOf i).toNat)
      case atStart => exact ⟨0, v, l, (upd d e.name ((d e.name).getD 0 + 1)), (n + 1), N + 1, Nat.zero_le _, rfl, by rw [hfin.out]; rfl, hst0, hvb0, hchg0, by rw [List.drop_zero]; omega, by rw [List.drop_zero]; omega, by rw [List.drop_zero]; omega⟩
      case round =>
        obtain ⟨k, V, l2, d2, n2, N2, hk, rfl, hrem, hstk, hvbk, hchk, hb1, hb2, hb3⟩ := hrel
        have hbw0 : Below w0.heap.size w0 wr := chg_below (base := base) hbW hchk m1 m2 (fun b hb => by have := (hvb.out b hb).1; omega)
        have hkz := hchk.size
        have hbsz := hstk.size
        by_cases hlt : k < e.sub.length
        · have hx : e.sub[k]? = some e.sub[k] := List.getElem?_eq_getElem hlt
          have hmem : e.sub[k] ∈ e.sub := List.getElem_mem hlt
          have hd : e.sub.drop k = e.sub[k] :: e.sub.drop (k + 1) := List.drop_eq_getElem_cons hlt
          generalize e.sub[k] = x at hx hmem hd
          obtain ⟨b, off, A', cap', rfl, x0, x1, x2, x3, hs⟩ := he.get hx
          have x0' := bel_cell hbw0 x0
          have x1' := bel_cell hbw0 x1
          have x2' := bel_cell hbw0 x2
          have x3' := bel_cell hbw0 x3
          have hwk := hstk.walk
          unfold cloV at hwk
          have hbwz : bw < wr.heap.size := by omega
          rw [hd, Ex.namedL] at hrem
          rw [hd, Ex.sizeL] at hb1 hb2 hb3
          have hnl := Ex.named_len x l2
          have hcall := fun W' (hW' : Below wr.heap.size wr W') => ih x hmem A' cap' hs W' V l2 d2 n2 N2 (hbw0.trans (hW'.mono hbw0.size)) (hstk.keep (fun k hk => hW'.block k hk) hW'.size) (by omega) (by omega) (by omega)
          have HST := Lib.hid hstk
          have HR := Lib.hid hrem
          have HVK := Lib.hid hvbk
          have HCK := Lib.hid hchk
          clear hrem hd hx x0 x1 x2 x3 hvbk hchk hstk
          go_wp2_with (first | (go_at_call 64; go_loud (refine (hcall _ belA).mono ?_; rintro r w3 ⟨rfl, ⟨v3, d3, n3, hst3, hn3, hvb3⟩, hch3⟩)))
          go_roundw
          case rel =>
            have hzg := hch3.size
            refine ⟨k + 1, v3, x.named l2, d3, n3, N2 + x.size, by omega, by go_num, HR.out, hst3, ?_, ?_, by omega, by omega, by omega⟩
            · rcases hvb3 with h3 | h3
              · rw [h3]; exact HVK.out
              · exact .inr fun b hb => by have := h3 b hb; simp at this; omega
            · refine HCK.out.trans (Chg.trans (Chg.bel (bel_alloc (Below.refl _ _) _)) hch3 (.inl rfl)) ?_
              exact HVK.out
          case measure => simp [intOf]; omega
        · obtain rfl : k = e.sub.length := by omega
          rw [List.drop_length, Ex.namedL] at hrem
          rw [List.drop_length, Ex.sizeL] at hb1 hb2 hb3
          subst hrem
          have HST := Lib.hid hstk
          have HVK := Lib.hid hvbk
          have HCK := Lib.hid hchk
          clear hvbk hchk hstk
          go_wp2_with fail
          go_end0
          exact ⟨rfl, ⟨V, d2, n2, ⟨HST.out.seen, HST.out.map, HST.out.out, HST.out.outf, HST.out.walk, HST.out.own, cnt_more HST.out.cnt (by omega), HST.out.size⟩, by omega, HVK.out⟩, HCK.out⟩
    case false =>
      have hl1' : addN l e.name = l ++ [e.name] := by unfold addN; rw [hnm, if_neg (by simp), if_neg (by simp [hh])]
      have hq0 := hq2 hh
      have hq00 : 0 ≤ (d e.name).getD 0 := by omega
      have ht : ((((upd d e.name ((d e.name).getD 0 + 1)) e.name).getD 0) == 1) = true := by rw [hup]; simp; omega
      have HQ0 := Lib.hid hq0
      rw [hl1'] at hfin hadd hC
      clear hl1' hh hup hq1 hq2 hq0
      go_enter Tryd.func64, Tryd.ntmps64
      go_wp2_with (first | (at_lookup; refine wpList_lkI rfl (.tmp _) (.tmp _) 107 rfl Tryd.underlying9 Tryd.underlying107 Tryd.underlying3 (zeroInt _) B n d e.name rfl (by with_reducible exact MapI.alloc c2) rfl hsn ?_) | (at_mapUpdate; go_loud (refine wpList_stI rfl (.tmp 10) (.tmp 12) (.tmp 14) 107 rfl Tryd.underlying9 Tryd.underlying107 Tryd.underlying3 B n d e.name ((d e.name).getD 0 + 1) rfl (by repeat (first | (with_reducible assumption) | refine MapI.alloc ?_ | refine MapI.bel ?_ (by with_reducible assumption) | refine MapI.drew ?_)) (by omega) rfl rfl hsn (by omega) ?_; intro w2 hm2 hg2; have hz2 : W.heap.size + 1 ≤ w2.heap.size := (by have := hg2.size; simpa using this); have hk2 := (fun b (h1 : b < W.heap.size + 1) (h2 : b ≠ B) => hg2.block b (by simpa using h1) (by simpa using h2)); have kz2 : w2.cell? ⟨W.heap.size, 2, none⟩ = some (.string e.name) := cell_block (hk2 W.heap.size (by omega) (by omega)) (by go_simp); have kz3 : w2.cell? ⟨W.heap.size, 3, none⟩ = some (.slice Ae e.sub.length ce) := cell_block (hk2 W.heap.size (by omega) (by omega)) (by go_simp); have ks : w2.cell? ⟨bs, 0, none⟩ = some (.map (some B)) := cell_block (hk2 bs (by omega) n2) (bel_cell (bel_alloc (Below.refl _ _) _) c1); have ko : w2.cell? ⟨bo, 0, none⟩ = some v := cell_block (hk2 bo (by omega) n5) (bel_cell (bel_alloc (Below.refl _ _) _) c3); have kof : w2.frozen? ⟨bo, 0, none⟩ = false := ((World.frozen?_of_block (a := ⟨bo, 0, none⟩) (hk2 bo (by omega) n5)).trans (((bel_alloc (Below.refl _ _) _).frozen (p := ⟨bo, 0, none⟩) (show bo < W.heap.size by omega)).trans c4)); have kw : w2.cell? ⟨bw, 0, none⟩ = some (cloV bs bo bw) := cell_block (hk2 bw (by omega) n4) (bel_cell (bel_alloc (Below.refl _ _) _) c5); have hownw := (own_alloc c6 (o := _)).kept hg2 (HNE.out B hB); have HK2 := Lib.hid hk2; have HG2 := Lib.hid hg2; have KW := Lib.hid kw; clear hk2 hg2 kw c1 c3 c4 c5)) | (at_lookup; refine wpList_lkI rfl (.tmp _) (.tmp _) 107 rfl Tryd.underlying9 Tryd.underlying107 Tryd.underlying3 (zeroInt _) B (n + 1) (upd d e.name ((d e.name).getD 0 + 1)) e.name rfl (by with_reducible exact hm2) rfl hsn ?_) | (at_builtin; go_loud (refine wpList_cat2 rfl (.tmp 20) (.tmp 23) 113 rfl base 9 _ 1 16 Tryd.underlying113 strinfo rfl (by omega) v l.length (l.map .string) w2.heap.size 1 1 [.string e.name] rfl (own_alloc hownw) rfl rfl (fun j u hj => by rw [cell_new' rfl]; simpa using hj) (by simp [Value.oneCell']) (by omega) (by omega) (by simp; omega) ?_; intro v3 w3 hown3 hg3 hv3; have hz3 : w2.heap.size + 1 ≤ w3.heap.size := (by have := hg3.size; simpa using this); have hk3 := (fun b (h1 : b < base) => own_below hownw (by omega) (bel_alloc (Below.refl _ _) _) hg3 b h1); have ks3 : w3.cell? ⟨bs, 0, none⟩ = some (.map (some B)) := cell_block (hk3 bs hbs) ks; have ko3 : w3.cell? ⟨bo, 0, none⟩ = some v := cell_block (hk3 bo hbo) ko; have kof3 : w3.frozen? ⟨bo, 0, none⟩ = false := ((World.frozen?_of_block (a := ⟨bo, 0, none⟩) (hk3 bo hbo)).trans kof); have kw3 : w3.cell? ⟨bw, 0, none⟩ = some (cloV bs bo bw) := cell_block (hk3 bw hbw) KW.out; have kz3' : w3.cell? ⟨W.heap.size, 3, none⟩ = some (.slice Ae e.sub.length ce) := cell_block ((hg3.block W.heap.size (by simp; omega) (fun he => by have := (hvb.out _ he.symm).2; omega)).trans (heap_alloc_old _ _ (by omega))) kz3; have hm3 := hm2.keep1 (hk3 B hB); obtain ⟨A3, cv3, rfl, hcb1, hcb2⟩ := own_slice hown3; have HG3 := Lib.hid hg3; have HM3 := Lib.hid hm3; have HO3 := Lib.hid hown3; have KW3 := Lib.hid kw3; have HV3 := Lib.hid hv3; clear hg3 hk3 hm3 hown3 kw3 hv3)))
      refine wp_name fun W0 hW0 => ?_
      have hst0 : NSt bs bo bw B base W0 (.slice A3 (l.length + 1) cv3) (l ++ [e.name]) (upd d e.name ((d e.name).getD 0 + 1)) (n + 1) (N + 1) := by
        rw [hW0]
        refine ⟨?_, HM3.out.keep1 (heap_setCell_other w3 ⟨bo, 0, none⟩ B _ (fun h => n5 h.symm)), World.cell?_setCell_same _ _ _ ko3, (World.frozen?_setCell ..).trans kof3, ?_, ?_, hC.out, by simp; omega⟩
        · exact (World.cell?_setCell_other _ _ _ _ (by intro h; injection h with h1; exact n1 h1.symm)).trans ks3
        · exact (World.cell?_setCell_other _ _ _ _ (by intro h; injection h with h1; exact n3 h1.symm)).trans KW3.out
        · rw [List.map_append, List.length_append]
          exact own_aside HO3.out hbo _ _
      have hvb0 : (Value.slice A3 (l.length + 1) cv3).ownBlock = v.ownBlock ∨ ∀ b, (Value.slice A3 (l.length + 1) cv3).ownBlock = some b → W.heap.size ≤ b := by
        rcases HV3.out with h | h
        · exact .inl h
        · exact .inr fun b hb => by have := h b hb; simp at this; omega
      have hchg0 : Chg bo B v.ownBlock W W0 := by
        rw [hW0]
        exact (Chg.trans (Chg.trans (Chg.trans (Chg.bel (bel_alloc (Below.refl _ _) _)) (Chg.grown HG2.out (.inr (.inl rfl)) (r := v.ownBlock)) (.inl rfl)) (Chg.bel (bel_alloc (Below.refl _ _) _) (r := v.ownBlock)) (.inl rfl)) (Chg.grown HG3.out (.inr (.inr rfl))) (.inl rfl)).setCell _ _
      have hz0 : W.heap.size ≤ W0.heap.size := by rw [hW0]; simp; omega
      have hn0 : n + 1 ≤ n + 1 := by omega
      clear hW0 ks hm2 ko kof kz2 kz3 hownw ks3 ko3 kof3 kz3'
      go_loopw [28] (fun i wr => ∃ (k : Nat) (V : Value) (l2 : List ByteArray) (d2 : ByteArray → Option Int) (n2 N2 : Nat), k ≤ e.sub.length ∧ i = .int .i64 k ∧ Ex.namedL l2 (e.sub.drop k) = e.named l ∧ NSt bs bo bw B base wr V l2 d2 n2 N2 ∧ (V.ownBlock = v.ownBlock ∨ ∀ b, V.ownBlock = some b → W.heap.size ≤ b) ∧ Chg bo B v.ownBlock W wr ∧ l2.length + Ex.sizeL (e.sub.drop k) ≤ 1000000 ∧ n2 + Ex.sizeL (e.sub.drop k) ≤ n + e.size ∧ N2 + Ex.sizeL (e.sub.drop k) ≤ N + e.size) (fun i _ => e.sub.length - (intOf i).toNat)
      case atStart => exact ⟨0, (.slice A3 (l.length + 1) cv3), (l ++ [e.name]), (upd d e.name ((d e.name).getD 0 + 1)), (n + 1), N + 1, Nat.zero_le _, rfl, by rw [hfin.out]; rfl, hst0, hvb0, hchg0, by rw [List.drop_zero]; omega, by rw [List.drop_zero]; omega, by rw [List.drop_zero]; omega⟩
      case round =>
        obtain ⟨k, V, l2, d2, n2, N2, hk, rfl, hrem, hstk, hvbk, hchk, hb1, hb2, hb3⟩ := hrel
        have hbw0 : Below w0.heap.size w0 wr := chg_below (base := base) hbW hchk m1 m2 (fun b hb => by have := (hvb.out b hb).1; omega)
        have hkz := hchk.size
        have hbsz := hstk.size
        by_cases hlt : k < e.sub.length
        · have hx : e.sub[k]? = some e.sub[k] := List.getElem?_eq_getElem hlt
          have hmem : e.sub[k] ∈ e.sub := List.getElem_mem hlt
          have hd : e.sub.drop k = e.sub[k] :: e.sub.drop (k + 1) := List.drop_eq_getElem_cons hlt
          generalize e.sub[k] = x at hx hmem hd
          obtain ⟨b, off, A', cap', rfl, x0, x1, x2, x3, hs⟩ := he.get hx
          have x0' := bel_cell hbw0 x0
          have x1' := bel_cell hbw0 x1
          have x2' := bel_cell hbw0 x2
          have x3' := bel_cell hbw0 x3
          have hwk := hstk.walk
          unfold cloV at hwk
          have hbwz : bw < wr.heap.size := by omega
          rw [hd, Ex.namedL] at hrem
          rw [hd, Ex.sizeL] at hb1 hb2 hb3
          have hnl := Ex.named_len x l2
          have hcall := fun W' (hW' : Below wr.heap.size wr W') => ih x hmem A' cap' hs W' V l2 d2 n2 N2 (hbw0.trans (hW'.mono hbw0.size)) (hstk.keep (fun k hk => hW'.block k hk) hW'.size) (by omega) (by omega) (by omega)
          have HST := Lib.hid hstk
          have HR := Lib.hid hrem
          have HVK := Lib.hid hvbk
          have HCK := Lib.hid hchk
          clear hrem hd hx x0 x1 x2 x3 hvbk hchk hstk
          go_wp2_with (first | (go_at_call 64; go_loud (refine (hcall _ belA).mono ?_; rintro r w3 ⟨rfl, ⟨v3, d3, n3, hst3, hn3, hvb3⟩, hch3⟩)))
          go_roundw
          case rel =>
            have hzg := hch3.size
            refine ⟨k + 1, v3, x.named l2, d3, n3, N2 + x.size, by omega, by go_num, HR.out, hst3, ?_, ?_, by omega, by omega, by omega⟩
            · rcases hvb3 with h3 | h3
              · rw [h3]; exact HVK.out
              · exact .inr fun b hb => by have := h3 b hb; simp at this; omega
            · refine HCK.out.trans (Chg.trans (Chg.bel (bel_alloc (Below.refl _ _) _)) hch3 (.inl rfl)) ?_
              exact HVK.out
          case measure => simp [intOf]; omega
        · obtain rfl : k = e.sub.length := by omega
          rw [List.drop_length, Ex.namedL] at hrem
          rw [List.drop_length, Ex.sizeL] at hb1 hb2 hb3
          subst hrem
          have HST := Lib.hid hstk
          have HVK := Lib.hid hvbk
          have HCK := Lib.hid hchk
          clear hvbk hchk hstk
          go_wp2_with fail
          go_end0
          exact ⟨rfl, ⟨V, d2, n2, ⟨HST.out.seen, HST.out.map, HST.out.out, HST.out.outf, HST.out.walk, HST.out.own, cnt_more HST.out.cnt (by omega), HST.out.size⟩, by omega, HVK.out⟩, HCK.out⟩

end Go.Proofs.YtknfcamdfdfoeaaDoor

/- Walk over order's Needs. -/
namespace Go.Proofs.YtknfcamdfdfoeaaDoor
open Go.RowKit Go.Sort

theorem calls_name' {P : Program} {f : FuncId} {args : Array Value} {R : Ending → World → Prop} {W : World} (h : ∀ W0, W0 = W → Calls P f args W0 R) : Calls P f args W R := h W rfl

set_option maxHeartbeats 4000000 in
theorem needs_any (e : Ex) (A : Option Addr) (cap : Nat) (w : World) (he : SubsAt w e A cap) (hok : e.OK) (hz : e.size ≤ 1000000) :
    Calls Tryd.prog 51 #[exV e A cap] w fun r w' => (∃ v, r = .returned v ∧ w'.ownsRow w.heap.size 9 1 v (needsF e).length ((needsF e).map .string)) ∧ Below w.heap.size w w' := by
  have hsize := fun W h => size16_any e A cap 121 W (he.later h) (by omega) (by omega)
  have hbd := Ex.count_bd e 121
  have hv : needsF e = if 120 < e.count 121 then [] else e.named [] := rfl
  generalize e.count 121 = c at *
  by_cases hc : 120 < c
  · rw [if_pos hc] at hv
    unfold exV at *
    have HV := Lib.hid hv; clear hv
    go_enter Tryd.func51, Tryd.ntmps51
    go_wp2_with (first | (go_at_call 63; refine (hsize _ belA).mono ?_; rintro r w1 ⟨rfl, hb1⟩; have hc1 := bcell hb1; have hz1 := hb1.size; (try simp at hz1); (try have hy1 := lt0 w w1); (try have hy2 := ltA w 1 w1); (try have hy3 := ltA w 2 w1); (try have hy4 := lt0 wr w1); (try have hy5 := ltA wr 1 w1)))
    go_ret
    exact ⟨⟨_, rfl, by rw [HV.out]; exact World.ownsRow_nil _ _ _ _⟩, belA⟩
  · rw [if_neg hc] at hv
    have hneed := Lib.hid (fun (bs bo bw B base : Nat) (hbs : bs < base) (hbo : bo < base) (hbw : bw < base) (hB : B < base) (n1 : bs ≠ bo) (n2 : bs ≠ B) (n3 : bw ≠ bo) (n4 : bw ≠ B) (n5 : bo ≠ B) (w0 : World) (m1 : w0.heap.size ≤ bo) (m2 : w0.heap.size ≤ B) (m3 : w0.heap.size ≤ base) => need_any bs bo bw B base hbs hbo hbw hB n1 n2 n3 n4 n5 w0 m1 m2 m3 e hok)
    have HE := Lib.hid he
    clear hok he
    unfold exV at *
    have HV := Lib.hid hv; clear hv
    have hmm := @run_makeMap Tryd.prog
    have hmf : ∀ (fn : Fn) (first cap : Array Value) (w : World), (Instr.makeFunc fn first cap).run Tryd.prog w = .ok (.func fn first cap) w := fun _ _ _ _ => rfl
    have hsf := fun (a : Addr) (fn : Fn) (x y : Array Value) (m : Mode) (w : World) => run_store Tryd.prog w a (.func fn x y) m rfl
    go_enter Tryd.func51, Tryd.ntmps51
    go_wp2_with (first | (go_at_call 63; refine (hsize _ belA).mono ?_; rintro r w1 ⟨rfl, hb1⟩; have hc1 := bcell hb1; have hz1 := hb1.size; (try simp at hz1); have hy1 : w.heap.size < w1.heap.size := (by omega); have hy2 : w.heap.size < w1.heap.size + 1 := (by omega); have hy3 : w.heap.size < w1.heap.size + 1 + 1 := (by omega); have hy4 : w.heap.size < w1.heap.size + 1 + 1 + 1 := (by omega); have hy5 : ¬ w1.heap.size + 1 + 1 + 1 = w.heap.size := (by omega)))
    refine calls_name' fun Wc hWc => ?_
    have hbc : Below w1.heap.size w1 Wc := by rw [hWc]; exact bel_alloc (bel_alloc (bel_alloc (bel_alloc (Below.refl _ _) _) _) _) _
    have hbw1 : Below w.heap.size w w1 := belA
    have hbwc : Below w.heap.size w Wc := bel_trans hbw1 hbc
    have hzc : Wc.heap.size = w1.heap.size + 4 := by rw [hWc]; simp
    have hst : NSt (w1.heap.size + 1 + 1) w1.heap.size (w1.heap.size + 1 + 1 + 1) (w1.heap.size + 1) (w1.heap.size + 4) Wc (.slice none 0 0) [] (fun _ => none) 0 0 := by
      refine ⟨by rw [hWc]; go_simp, ?_, by rw [hWc]; go_simp, by rw [hWc]; go_simp, by rw [hWc]; unfold cloV; go_simp, World.ownsRow_nil _ _ _ _, fun s => ⟨fun h => by simp [hasB] at h, fun _ => rfl, by simp⟩, by omega⟩
      rw [hWc]
      have := (MapI.made (P := Tryd.prog) (k := 9) (e := 3) (w1.alloc (.cells #[.slice none 0 0] 113))).alloc (o := .cells #[.map (some (w1.heap.size + 1))] 107)
      have h2 := this.alloc (o := .cells #[.func (.func 64) #[] #[.pointer (some ⟨w1.heap.size + 1 + 1, 0, none⟩), .pointer (some ⟨w1.heap.size, 0, none⟩), .pointer (some ⟨w1.heap.size + 1 + 1 + 1, 0, none⟩)]] 154)
      simpa using h2
    have he1 := HE.out.later hbw1
    clear hWc hmf hmm hsf
    refine ((hneed.out (w1.heap.size + 1 + 1) w1.heap.size (w1.heap.size + 1 + 1 + 1) (w1.heap.size + 1) (w1.heap.size + 4) (by omega) (by omega) (by omega) (by omega) (by omega) (by omega) (by omega) (by omega) (by omega) w1 (by omega) (by omega) (by omega)) A cap he1 Wc (.slice none 0 0) [] (fun _ => none) 0 0 hbc hst (by simpa using hz) (by simpa using hz) (by simpa using hz)).mono ?_
    rintro r w3 ⟨rfl, ⟨v3, d3, n3, hst3, hn3, hvb3⟩, hch3⟩
    have ko := hst3.out
    have HST := Lib.hid hst3
    have HCH := Lib.hid hch3
    clear hst3 hch3 hst hvb3
    go_wp2_with fail
    go_ret
    exact ⟨⟨_, rfl, by rw [HV.out]; exact own_less HST.out.own (by omega)⟩, chg_below (base := w1.heap.size + 4) hbwc HCH.out (by omega) (by omega) (fun b hb => by simp [Value.ownBlock] at hb)⟩

end Go.Proofs.YtknfcamdfdfoeaaDoor

/- Walks over the reference's Ints, and over waiting.ready. -/
namespace Go.Proofs.YtknfcamdfdfoeaaDoor
open Go.RowKit Go.Sort

/-- A slice of numbers. -/
def IntsAt (w : World) (l : List Int) (A : Option Addr) (cap : Nat) : Prop :=
  l.length ≤ cap ∧ cap ≤ maxLen ∧ (0 < l.length → ∃ b off, A = some ⟨b, off, none⟩ ∧ ∀ (k : Nat) (x : Int), l[k]? = some x → w.cell? ⟨b, off + k, none⟩ = some (.int .i64 x))
theorem IntsAt.later {w w' : World} {l : List Int} {A : Option Addr} {cap : Nat} (h : IntsAt w l A cap) (hb : Below w.heap.size w w') : IntsAt w' l A cap :=
  ⟨h.1, h.2.1, fun hl => by
    obtain ⟨b, off, hA, hr⟩ := h.2.2 hl
    exact ⟨b, off, hA, fun k s hk => bel_cell hb (hr k s hk)⟩⟩
theorem IntsAt.drewN {w : World} {l : List Int} {A : Option Addr} {cap : Nat} (h : IntsAt w l A cap) (n : Nat) : IntsAt (w.drewN n) l A cap := h.later (bel_drewN (Below.refl _ _) n)
theorem IntsAt.get {w : World} {l : List Int} {A : Option Addr} {cap k : Nat} {x : Int} (h : IntsAt w l A cap) (hk : l[k]? = some x) : ∃ b off, A = some ⟨b, off, none⟩ ∧ b < w.heap.size ∧ w.cell? ⟨b, off + k, none⟩ = some (.int .i64 x) := by
  have hlt : k < l.length := (List.getElem?_eq_some_iff.1 hk).1
  obtain ⟨b, off, hA, hr⟩ := h.2.2 (by omega)
  exact ⟨b, off, hA, block_lt_of_cell (hr k x hk), hr k x hk⟩
theorem IntsAt.of_own {w : World} {base : Nat} {e : TypeId} {l : List Int} {A : Option Addr} {cap : Nat} (h : w.ownsRow base e 1 (.slice A l.length cap) l.length (l.map (.int .i64))) : IntsAt w l A cap := by
  rcases Nat.eq_zero_or_pos l.length with h0 | h0
  · obtain ⟨A', c', hv, h1, h2⟩ := own_slice h
    injection hv with e1 e2 e3
    subst e3
    exact ⟨h1, h2, fun hl => absurd hl (by omega)⟩
  · obtain ⟨g, c', hv, _, _, h1, h2, hc⟩ := own_get h h0
    injection hv with e1 e2 e3
    subst e1 e3
    refine ⟨h1, h2, fun _ => ⟨g, 0, rfl, fun k s hk => ?_⟩⟩
    rw [Nat.zero_add]
    exact hc k _ (by simp [hk])

/-- None of some names waits. -/
def readyB (d : ByteArray → Option Int) (l : List ByteArray) : Bool := l.all fun s => !(d s).isSome

set_option maxHeartbeats 1000000 in
theorem ready_any (l : List ByteArray) (A : Option Addr) (cap : Nat) (B n : Nat) (d : ByteArray → Option Int) (w : World) (hl : StrsAt w l A cap) (hm : MapI Tryd.prog 9 3 w B n d) (hs : ∀ s ∈ l, s.size ≤ maxLen) :
    Calls Tryd.prog 31 #[.map (some B), .slice A l.length cap] w fun r w' => r = .returned (.bool (readyB d l)) ∧ Below w.heap.size w w' := by
  have hlen := hl.len
  unfold maxLen at hlen
  obtain ⟨hlen1, hlen2⟩ := hlen
  have HS := Lib.hid hs; clear hs
  go_enter Tryd.func31, Tryd.ntmps31
  go_wp2_with fail
  go_loopw [4, 11] (fun o i wr => ∃ k : Nat, k ≤ l.length ∧ i = .int .i64 k ∧ o = .bool false ∧ readyB d (l.drop k) = readyB d l ∧ Below w.heap.size w wr) (fun _ i _ => l.length - (intOf i).toNat)
  case atStart => exact ⟨0, Nat.zero_le _, rfl, rfl, rfl, belA⟩
  case round =>
    obtain ⟨k, hk, rfl, rfl, hrem, hbel⟩ := hrel
    have hmr := hm.bel hbel
    by_cases hlt : k < l.length
    · have hx : l[k]? = some l[k] := List.getElem?_eq_getElem hlt
      have hmem : l[k] ∈ l := List.getElem_mem hlt
      have hd : l.drop k = l[k] :: l.drop (k + 1) := List.drop_eq_getElem_cons hlt
      generalize l[k] = x at hx hd hmem
      have hsx := HS.out x hmem
      obtain ⟨b, off, rfl, hbb, d0⟩ := (hl.later hbel).get hx
      rw [hd] at hrem
      rw [show readyB d (x :: l.drop (k + 1)) = (!(d x).isSome && readyB d (l.drop (k + 1))) from rfl] at hrem
      clear hd hx hmem
      cases hcs : (d x).isSome
      · rw [hcs, Bool.not_false, Bool.true_and] at hrem
        have HR := Lib.hid hrem; clear hrem
        go_wp2_with (first | (at_lookup; refine wpList_lkokI rfl (.tmp 16) (.tmp 17) 108 rfl Tryd.underlying9 Tryd.underlying108 Tryd.underlying3 (zeroInt _) B n d x rfl hmr rfl hsx ?_))
        go_roundw
        case rel => exact ⟨k + 1, by omega, by go_num, rfl, HR.out, belA⟩
        case measure => simp [intOf]; omega
      · rw [hcs, Bool.not_true, Bool.false_and] at hrem
        have HR := Lib.hid hrem; clear hrem
        go_wp2_with (first | (at_lookup; refine wpList_lkokI rfl (.tmp 16) (.tmp 17) 108 rfl Tryd.underlying9 Tryd.underlying108 Tryd.underlying3 (zeroInt _) B n d x rfl hmr rfl hsx ?_))
        go_ret
        exact ⟨ret_bool HR.out, belA⟩
    · obtain rfl : k = l.length := by omega
      rw [List.drop_length] at hrem
      have HR := Lib.hid hrem; clear hrem
      go_wp2_with fail
      go_ret
      exact ⟨ret_bool HR.out, belA⟩

end Go.Proofs.YtknfcamdfdfoeaaDoor
