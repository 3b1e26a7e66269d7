/- Walks over gen's expr: sums, choices, constants. -/
import Derived.Test.YtknfcamdfdfoeaaDoorZ23
import Derived.Test.YtknfcamdfdfoeaaDoorZ02
set_option linter.unusedVariables false
set_option linter.unusedSimpArgs false
set_option maxRecDepth 100000
namespace Go.Proofs.YtknfcamdfdfoeaaDoor
open Go.RowKit Go.Sort Go.Maps

section
variable (X Bs Bf : Nat) (sl : ByteArray → Int) (fl : Int × ByteArray → Int) (e : Ex)

set_option maxHeartbeats 4000000 in
theorem expr5 (hk : e.kind = 5) (hs : 1 < e.sub.length) (hsz : e.size ≤ 200000) (ih : ∀ x ∈ e.sub, ExprP X Bs Bf sl fl x) : ExprP X Bs Bf sl fl e := by
  intro A cap ck cs w hp he hc
  obtain ⟨hl1, hl2⟩ := he.len
  unfold maxLen at hl2
  have hx : e.sub[0]? = some (e.sub[0]'(by omega)) := List.getElem?_eq_getElem _
  have hy : e.sub[1]? = some e.sub[1] := List.getElem?_eq_getElem hs
  generalize e.sub[0]'(by omega) = x at hx
  generalize e.sub[1] = y at hy
  have hw : ∀ i, withC e.kind e.name (ck, cs) i = (ck, cs) := by intro i; unfold withC; simp [hk]
  have hv : e.gen sl fl (ck, cs) = x.gen sl fl (ck, cs) ++ y.gen sl fl (ck, cs) ++ [(9, e.n)] := by
    rw [Ex.gen_eq, genK, if_neg (by omega), if_neg (by omega), if_pos hk, Ex.genL_get sl fl e.kind e.name (ck, cs) e.sub 0 0 x hx, Ex.genL_get sl fl e.kind e.name (ck, cs) e.sub 0 1 y hy, hw, hw]
  have hgl := Ex.gen_len sl fl e (ck, cs)
  rw [hv] at hgl ⊢
  have t3 : (e.kind == 3) = false := by simp [hk]
  have t4 : (e.kind == 4) = false := by simp [hk]
  have t5 : (e.kind == 5) = true := by simpa using hk
  have HP := Lib.hid hp
  have HE := Lib.hid he
  have HX := Lib.hid hx
  have HY := Lib.hid hy
  have HC := Lib.hid hc
  unfold exV
  have HG := Lib.hid hgl
  clear hk hv hp he hc hw hx hy hgl
  have hmf : ∀ (fn : Fn) (first cap : Array Value) (w : World), (Instr.makeFunc fn first cap).run Tryd.prog w = .ok (.func fn first cap) w := fun _ _ _ _ => rfl
  go_enter Tryd.func17, Tryd.ntmps17
  go_wp2_with fail
  refine wp_name fun W0 hW0 => ?_
  have hb0 : Below w.heap.size w W0 := by rw [hW0]; exact belA
  have hz0 : W0.heap.size = w.heap.size + 3 := by rw [hW0]; simp
  have p0 : W0.cell? ⟨w.heap.size, 0, none⟩ = some (.pointer (some ⟨X, 0, none⟩)) := by rw [hW0]; go_simp
  have e0 : W0.cell? ⟨w.heap.size + 1, 0, none⟩ = some (.int .i64 e.kind) := by rw [hW0]; go_simp
  have e1 : W0.cell? ⟨w.heap.size + 1, 1, none⟩ = some (.int .i32 e.n) := by rw [hW0]; go_simp
  have e2 : W0.cell? ⟨w.heap.size + 1, 2, none⟩ = some (.string e.name) := by rw [hW0]; go_simp
  have e3 : W0.cell? ⟨w.heap.size + 1, 3, none⟩ = some (.slice A e.sub.length cap) := by rw [hW0]; go_simp
  have k0 : W0.cell? ⟨w.heap.size + 2, 0, none⟩ = some (.int .i64 ck) := by rw [hW0]; go_simp
  have k1 : W0.cell? ⟨w.heap.size + 2, 1, none⟩ = some (.string cs) := by rw [hW0]; go_simp
  have hy0 : w.heap.size < W0.heap.size := by omega
  have hy1 : w.heap.size + 1 < W0.heap.size := by omega
  have hy2 : w.heap.size + 2 < W0.heap.size := by omega
  have hz : w.heap.size ≤ W0.heap.size := by omega
  clear hW0 hmf hz0
  have hp0 := part_at HX.out ih ⟨p0, e3, k0, k1⟩ (HP.out.later hb0) (HE.out.later hb0) HC.out
  have hp1 := part_at HY.out ih ⟨p0, e3, k0, k1⟩ (HP.out.later hb0) (HE.out.later hb0) HC.out
  have hgx : (x.gen sl fl (ck, cs)).length + (y.gen sl fl (ck, cs)).length ≤ 700000 := by have := HG.out; rw [List.length_append, List.length_append] at this; omega
  generalize x.gen sl fl (ck, cs) = g at *
  generalize y.gen sl fl (ck, cs) = h at *
  have hrow := Lib.hid (fun (A1 : Option Addr) (c1 : Nat) (A2 : Option Addr) (c2 g2 : Nat) (W : World) (hi1 : InsAt W g A1 c1) (hi2 : InsAt W h A2 c2) (hi3 : InsAt W [(9, e.n)] (some ⟨g2, 0, none⟩) 1) (t : TypeId) =>
    row_any [⟨g, A1, c1⟩, ⟨h, A2, c2⟩, ⟨[(9, e.n)], some ⟨g2, 0, none⟩, 1⟩] (some ⟨W.heap.size, 0, none⟩) 3
      (W.alloc (.cells #[.slice A1 g.length c1, .slice A2 h.length c2, .slice (some ⟨g2, 0, none⟩) 1 1] t))
      (pieces_new rfl fun x hx => by
        simp only [List.mem_cons, List.not_mem_nil, or_false] at hx
        rcases hx with rfl | rfl | rfl
        · exact hi1
        · exact hi2
        · exact hi3)
      (by simp [flatP]; omega) (by simp))
  have hfl : ∀ (A1 : Option Addr) (c1 : Nat) (A2 : Option Addr) (c2 g2 : Nat), flatP [⟨g, A1, c1⟩, ⟨h, A2, c2⟩, ⟨[(9, e.n)], some ⟨g2, 0, none⟩, 1⟩] = g ++ h ++ [(9, e.n)] := fun _ _ _ _ _ => by simp [flatP]
  have HFL := Lib.hid hfl
  clear hfl
  go_region_law (go_simp; go_wp2_with (first
    | (go_at_call_of 27 (Value.int IntKind.i64 0); go_loud (refine (hp0.out _ belA).mono ?_; rintro r w1 ⟨⟨A1, c1, rfl, hi1⟩, hb1⟩; have d1 := bel_cell hb1 (cel_drew e1); have hz1 := hb1.size; have hB1 : Below W0.heap.size W0 w1 := (bel_drew (Below.refl _ _)).trans (hb1.mono (by simp))))
    | (go_at_call_of 27 (Value.int IntKind.i64 1); go_loud (refine (hp1.out _ hB1).mono ?_; rintro r w2 ⟨⟨A2, c2, rfl, hi2⟩, hb2⟩; have d2 := bel_cell hb2 d1; have hz2 := hb2.size; have hB2 := hB1.trans (hb2.mono hB1.size)))
    | (go_at_call_of 15 (Value.int IntKind.i64 9); go_loud (refine (one_any _ _ _).mono ?_; rintro r w3 ⟨⟨rfl, hown3⟩, hb3⟩; have hi3 := InsAt.one hown3; have hz3 := hb3.size; have d3 := bel_cell hb3 d2; have hB3 := hB2.trans (hb3.mono hB2.size); clear hown3))
    | (go_at_call 14; go_loud (refine (hrow.out _ _ _ _ _ w3 ((hi1.later hb2).later hb3) (hi2.later hb3) hi3 _).mono ?_; rw [HFL.out]; intro r w4 hcode; obtain ⟨⟨A4, c4, rfl, hat4⟩, hb4⟩ := hcode.at.less (bel_alloc (hb0.trans (hB3.mono hb0.size)) _); clear hcode))))
  all_goals
    go_wp2_with fail
    go_ret
    exact ⟨⟨A4, c4, by rw [List.length_append, List.length_append]; rfl, hat4⟩, hb4⟩

set_option maxHeartbeats 4000000 in
theorem expr1 (hk : e.kind ≠ 3 ∧ e.kind ≠ 4 ∧ e.kind ≠ 5 ∧ e.kind ≠ 6 ∧ e.kind ≠ 7 ∧ e.kind ≠ 8 ∧ e.kind ≠ 9 ∧ e.kind ≠ 10) : ExprP X Bs Bf sl fl e := by
  intro A cap ck cs w hp he hc
  obtain ⟨hl1, hl2⟩ := he.len
  unfold maxLen at hl2
  obtain ⟨h3, h4, h5, h6, h7, h8, h9, h10⟩ := hk
  have hv : e.gen sl fl (ck, cs) = [(1, e.n)] := by rw [Ex.gen_eq]; unfold genK; simp [*]
  rw [hv]
  have t3 : (e.kind == 3) = false := by simpa using h3
  have t4 : (e.kind == 4) = false := by simpa using h4
  have t5 : (e.kind == 5) = false := by simpa using h5
  have t6 : (e.kind == 6) = false := by simpa using h6
  have t7 : (e.kind == 7) = false := by simpa using h7
  have t8 : (e.kind == 8) = false := by simpa using h8
  have t9 : (e.kind == 9) = false := by simpa using h9
  have t10 : (e.kind == 10) = false := by simpa using h10
  unfold exV
  clear h3 h4 h5 h6 h7 h8 h9 h10 hv hp he hc
  have hmf : ∀ (fn : Fn) (first cap : Array Value) (w : World), (Instr.makeFunc fn first cap).run Tryd.prog w = .ok (.func fn first cap) w := fun _ _ _ _ => rfl
  go_enter Tryd.func17, Tryd.ntmps17
  go_wp2_with (go_at_call_of 15 (Value.int IntKind.i64 1); go_loud (refine (one_any _ _ _).mono ?_; rintro r w1 ⟨⟨rfl, hown1⟩, hb1⟩; have hi1 := InsAt.one hown1; have hz1 := hb1.size; clear hown1))
  go_ret
  exact ⟨⟨_, _, rfl, by simpa using hi1⟩, belA⟩
end
end Go.Proofs.YtknfcamdfdfoeaaDoor

/- Walks over gen's expr: choices. -/
namespace Go.Proofs.YtknfcamdfdfoeaaDoor
open Go.RowKit Go.Sort Go.Maps

theorem held_new (w : World) (X : Nat) (v0 v1 v2 : Value) (A : Option Addr) (len cap : Nat) (ck : Int) (cs : ByteArray) (t1 t2 t3 : TypeId) : HeldAt (((w.alloc (.cells #[.pointer (some ⟨X, 0, none⟩)] t1)).alloc (.cells #[v0, v1, v2, .slice A len cap] t2)).alloc (.cells #[.int .i64 ck, .string cs] t3)) w.heap.size (w.heap.size + 1) (w.heap.size + 1 + 1) X A len cap ck cs :=
  ⟨by go_simp, by go_simp, by go_simp, by go_simp⟩

section
variable (X Bs Bf : Nat) (sl : ByteArray → Int) (fl : Int × ByteArray → Int) (e : Ex)

set_option maxHeartbeats 4000000 in
theorem expr6 (hk : e.kind = 6) (hs : 2 < e.sub.length) (hsz : e.size ≤ 200000) (ih : ∀ x ∈ e.sub, ExprP X Bs Bf sl fl x) : ExprP X Bs Bf sl fl e := by
  intro A cap ck cs w hp he hc
  obtain ⟨hl1, hl2⟩ := he.len
  unfold maxLen at hl2
  have hx : e.sub[0]? = some (e.sub[0]'(by omega)) := List.getElem?_eq_getElem _
  have hy : e.sub[1]? = some (e.sub[1]'(by omega)) := List.getElem?_eq_getElem _
  have hz : e.sub[2]? = some e.sub[2] := List.getElem?_eq_getElem hs
  generalize e.sub[0]'(by omega) = x at hx
  generalize e.sub[1]'(by omega) = y at hy
  generalize e.sub[2] = z at hz
  have hw : ∀ i, withC e.kind e.name (ck, cs) i = (ck, cs) := by intro i; unfold withC; simp [hk]
  have hv : e.gen sl fl (ck, cs) = choiceC (x.gen sl fl (ck, cs)) (y.gen sl fl (ck, cs)) (z.gen sl fl (ck, cs)) := by
    rw [Ex.gen_eq, genK, if_neg (by omega), if_neg (by omega), if_neg (by omega), if_pos hk, Ex.genL_get sl fl e.kind e.name (ck, cs) e.sub 0 0 x hx, Ex.genL_get sl fl e.kind e.name (ck, cs) e.sub 0 1 y hy, Ex.genL_get sl fl e.kind e.name (ck, cs) e.sub 0 2 z hz, hw, hw, hw]
  have hgl := Ex.gen_len sl fl e (ck, cs)
  rw [hv] at hgl ⊢
  rw [Ex.choice_len] at hgl
  have t3 : (e.kind == 3) = false := by simp [hk]
  have t4 : (e.kind == 4) = false := by simp [hk]
  have t5 : (e.kind == 5) = false := by simp [hk]
  have t6 : (e.kind == 6) = true := by simpa using hk
  have hB0 : ∀ (o1 o2 o3 : Obj), Below w.heap.size w (((w.alloc o1).alloc o2).alloc o3) := fun _ _ _ => bel_alloc (bel_alloc (bel_alloc (Below.refl _ _) _) _) _
  have hp0 := part_at hx ih (held_new w X (.int .i64 e.kind) (.int .i32 e.n) (.string e.name) A e.sub.length cap ck cs 66 54 58) (hp.later (hB0 _ _ _)) (he.later (hB0 _ _ _)) hc
  have hp1 := part_at hy ih (held_new w X (.int .i64 e.kind) (.int .i32 e.n) (.string e.name) A e.sub.length cap ck cs 66 54 58) (hp.later (hB0 _ _ _)) (he.later (hB0 _ _ _)) hc
  have hp2 := part_at hz ih (held_new w X (.int .i64 e.kind) (.int .i32 e.n) (.string e.name) A e.sub.length cap ck cs 66 54 58) (hp.later (hB0 _ _ _)) (he.later (hB0 _ _ _)) hc
  unfold exV
  clear hk hv hp he hc hw hx hy hz
  have hmf : ∀ (fn : Fn) (first cap : Array Value) (w : World), (Instr.makeFunc fn first cap).run Tryd.prog w = .ok (.func fn first cap) w := fun _ _ _ _ => rfl
  have hgx : (x.gen sl fl (ck, cs)).length + (y.gen sl fl (ck, cs)).length + (z.gen sl fl (ck, cs)).length ≤ 700000 := by omega
  clear hgl
  generalize x.gen sl fl (ck, cs) = g at *
  generalize y.gen sl fl (ck, cs) = h at *
  generalize z.gen sl fl (ck, cs) = k at *
  go_enter Tryd.func17, Tryd.ntmps17
  go_wp2_with (first
    | (go_at_call_of 27 (Value.int IntKind.i64 0); go_loud (refine (hp0.out _ (Below.refl _ _)).mono ?_; rintro r w1 ⟨⟨A1, c1, rfl, hi1⟩, hb1⟩; have hz1 := hb1.size))
    | (go_at_call_of 27 (Value.int IntKind.i64 1); go_loud (refine (hp1.out _ hb1).mono ?_; rintro r w2 ⟨⟨A2, c2, rfl, hi2⟩, hb2⟩; have hz2 := hb2.size; have hB2 := hb1.trans (hb2.mono hz1)))
    | (go_at_call_of 27 (Value.int IntKind.i64 2); go_loud (refine (hp2.out _ hB2).mono ?_; rintro r w3 ⟨⟨A3, c3, rfl, hi3⟩, hb3⟩; have hz3 := hb3.size; have hB3 := (hB0 _ _ _).trans (Below.mono (hB2.trans (hb3.mono hB2.size)) (hB0 _ _ _).size)))
    | (go_at_call 28; go_loud (refine (choice_any g h k _ _ _ _ _ _ w3 ((hi1.later hb2).later hb3) (hi2.later hb3) hi3 (by omega)).mono ?_; intro r w4 hcode; obtain ⟨⟨A4, c4, rfl, hat4⟩, hb4⟩ := hcode.at.less hB3; clear hcode)))
  go_ret
  exact ⟨⟨A4, c4, rfl, hat4⟩, hb4⟩

set_option maxHeartbeats 4000000 in
theorem expr7 (hk : e.kind = 7) (hs : 1 < e.sub.length) (hsz : e.size ≤ 200000) (ih : ∀ x ∈ e.sub, ExprP X Bs Bf sl fl x) : ExprP X Bs Bf sl fl e := by
  intro A cap ck cs w hp he hc
  obtain ⟨hl1, hl2⟩ := he.len
  unfold maxLen at hl2
  have hx : e.sub[0]? = some (e.sub[0]'(by omega)) := List.getElem?_eq_getElem _
  have hy : e.sub[1]? = some e.sub[1] := List.getElem?_eq_getElem hs
  generalize e.sub[0]'(by omega) = x at hx
  generalize e.sub[1] = y at hy
  have hw : ∀ i, withC e.kind e.name (ck, cs) i = (ck, cs) := by intro i; unfold withC; simp [hk]
  have hv : e.gen sl fl (ck, cs) = choiceC [(4, fl (ck, cs))] (y.gen sl fl (ck, cs)) (x.gen sl fl (ck, cs)) := by
    rw [Ex.gen_eq, genK, if_neg (by omega), if_neg (by omega), if_neg (by omega), if_neg (by omega), if_pos hk, Ex.genL_get sl fl e.kind e.name (ck, cs) e.sub 0 0 x hx, Ex.genL_get sl fl e.kind e.name (ck, cs) e.sub 0 1 y hy, hw, hw]
  have hgl := Ex.gen_len sl fl e (ck, cs)
  rw [hv] at hgl ⊢
  rw [Ex.choice_len] at hgl
  have t3 : (e.kind == 3) = false := by simp [hk]
  have t4 : (e.kind == 4) = false := by simp [hk]
  have t5 : (e.kind == 5) = false := by simp [hk]
  have t6 : (e.kind == 6) = false := by simp [hk]
  have t7 : (e.kind == 7) = true := by simpa using hk
  have HP := Lib.hid hp
  have HE := Lib.hid he
  have HX := Lib.hid hx
  have HY := Lib.hid hy
  have HC := Lib.hid hc
  unfold exV
  have HG := Lib.hid hgl
  clear hk hv hp he hc hw hx hy hgl
  have hmf : ∀ (fn : Fn) (first cap : Array Value) (w : World), (Instr.makeFunc fn first cap).run Tryd.prog w = .ok (.func fn first cap) w := fun _ _ _ _ => rfl
  go_enter Tryd.func17, Tryd.ntmps17
  go_wp2_with fail
  refine wp_name fun W0 hW0 => ?_
  have hb0 : Below w.heap.size w W0 := by rw [hW0]; exact belA
  have hz0 : W0.heap.size = w.heap.size + 3 := by rw [hW0]; simp
  have p0 : W0.cell? ⟨w.heap.size, 0, none⟩ = some (.pointer (some ⟨X, 0, none⟩)) := by rw [hW0]; go_simp
  have e0 : W0.cell? ⟨w.heap.size + 1, 0, none⟩ = some (.int .i64 e.kind) := by rw [hW0]; go_simp
  have e1 : W0.cell? ⟨w.heap.size + 1, 1, none⟩ = some (.int .i32 e.n) := by rw [hW0]; go_simp
  have e2 : W0.cell? ⟨w.heap.size + 1, 2, none⟩ = some (.string e.name) := by rw [hW0]; go_simp
  have e3 : W0.cell? ⟨w.heap.size + 1, 3, none⟩ = some (.slice A e.sub.length cap) := by rw [hW0]; go_simp
  have k0 : W0.cell? ⟨w.heap.size + 2, 0, none⟩ = some (.int .i64 ck) := by rw [hW0]; go_simp
  have k1 : W0.cell? ⟨w.heap.size + 2, 1, none⟩ = some (.string cs) := by rw [hW0]; go_simp
  have hy0 : w.heap.size < W0.heap.size := by omega
  have hy1 : w.heap.size + 1 < W0.heap.size := by omega
  have hy2 : w.heap.size + 2 < W0.heap.size := by omega
  have hz : w.heap.size ≤ W0.heap.size := by omega
  clear hW0 hmf hz0
  have hp0 := part_at HX.out ih ⟨p0, e3, k0, k1⟩ (HP.out.later hb0) (HE.out.later hb0) HC.out
  have hp1 := part_at HY.out ih ⟨p0, e3, k0, k1⟩ (HP.out.later hb0) (HE.out.later hb0) HC.out
  have hgx : (x.gen sl fl (ck, cs)).length + (y.gen sl fl (ck, cs)).length ≤ 700000 := by have := HG.out; omega
  generalize x.gen sl fl (ck, cs) = g at *
  generalize y.gen sl fl (ck, cs) = h at *
  have hpl := HP.out.later hb0
  obtain ⟨c0, c2, _, ⟨n, f, c, hm, hf⟩⟩ := hpl
  have hX : X < W0.heap.size := block_lt_of_cell c0
  have hlk := run_lkG (w := W0.drew) (keyC) (x := .agg #[.int .i64 ck, .string cs]) Tryd.underlying72 Tryd.underlying21 (zeroI32 _) rfl hm.drew HC.out (hf _ HC.out)
  clear hm hf
  go_region_law (go_simp; go_wp2_with (first
    | (go_at_call_of 15 (Value.int IntKind.i64 4); go_loud (refine (one_any _ _ _).mono ?_; rintro r w1 ⟨⟨rfl, hown1⟩, hb1⟩; have hi1 := InsAt.one hown1; have hz1 := hb1.size; have hB1 : Below W0.heap.size W0 w1 := (bel_drew (Below.refl _ _)).trans (hb1.mono (by simp)); clear hown1))
    | (go_at_call_of 27 (Value.int IntKind.i64 1); go_loud (refine (hp1.out _ hB1).mono ?_; rintro r w2 ⟨⟨A2, c2', rfl, hi2⟩, hb2⟩; have hz2 := hb2.size; have hB2 := hB1.trans (hb2.mono hB1.size)))
    | (go_at_call_of 27 (Value.int IntKind.i64 0); go_loud (refine (hp0.out _ hB2).mono ?_; rintro r w3 ⟨⟨A3, c3', rfl, hi3⟩, hb3⟩; have hz3 := hb3.size; have hB3 := hB2.trans (hb3.mono hB2.size)))
    | (go_at_call 28; go_loud (refine (choice_any [(4, fl (ck, cs))] h g _ _ _ _ _ _ w3 ((hi1.later hb2).later hb3) (hi2.later hb3) hi3 (by simp; omega)).mono ?_; intro r w4 hcode; obtain ⟨⟨A4, c4, rfl, hat4⟩, hb4⟩ := hcode.at.less (hb0.trans (hB3.mono hb0.size)); clear hcode))))
  all_goals
    go_wp2_with fail
    go_ret
    exact ⟨⟨A4, c4, rfl, hat4⟩, hb4⟩
end
end Go.Proofs.YtknfcamdfdfoeaaDoor

/- Walks over gen's expr: clocks changed; expr as a whole. -/
namespace Go.Proofs.YtknfcamdfdfoeaaDoor
open Go.RowKit Go.Sort Go.Maps

section
variable (X Bs Bf : Nat) (sl : ByteArray → Int) (fl : Int × ByteArray → Int) (e : Ex)

set_option maxHeartbeats 4000000 in
theorem expr89 (hk : e.kind = 8 ∨ e.kind = 9) (hs : 0 < e.sub.length) (ih : ∀ x ∈ e.sub, ExprP X Bs Bf sl fl x) : ExprP X Bs Bf sl fl e := by
  intro A cap ck cs w hp he hc
  obtain ⟨hl1, hl2⟩ := he.len
  unfold maxLen at hl2
  have hx : e.sub[0]? = some e.sub[0] := List.getElem?_eq_getElem hs
  generalize e.sub[0] = x at hx
  have hih := ih x (List.mem_of_getElem? hx)
  have hw : withC e.kind e.name (ck, cs) 0 = (0, ⟨#[]⟩) := by
    unfold withC
    rw [if_neg (by omega), if_pos (by omega)]
  have hv : e.gen sl fl (ck, cs) = x.gen sl fl (0, ⟨#[]⟩) := by
    rw [Ex.gen_eq, genK, if_neg (by omega), if_neg (by omega), if_neg (by omega), if_neg (by omega), if_neg (by omega), if_pos hk, Ex.genL_get sl fl e.kind e.name (ck, cs) e.sub 0 0 x hx, hw]
  rw [hv]
  have t3 : (e.kind == 3) = false := by simp; omega
  have t4 : (e.kind == 4) = false := by simp; omega
  have t5 : (e.kind == 5) = false := by simp; omega
  have t6 : (e.kind == 6) = false := by simp; omega
  have t7 : (e.kind == 7) = false := by simp; omega
  have t89 : (e.kind == 8) = true ∨ (e.kind == 8) = false ∧ (e.kind == 9) = true := by
    rcases hk with h | h
    · exact .inl (by simp [h])
    · exact .inr ⟨by simp [h], by simp [h]⟩
  have HP := Lib.hid hp
  have HE := Lib.hid he
  have HX := Lib.hid hx
  clear hk hv hp he hc hw hx ih
  rcases t89 with t8 | ⟨t8, t9⟩
  all_goals
    unfold exV
    have hmf : ∀ (fn : Fn) (first cap : Array Value) (w : World), (Instr.makeFunc fn first cap).run Tryd.prog w = .ok (.func fn first cap) w := fun _ _ _ _ => rfl
    go_enter Tryd.func17, Tryd.ntmps17
    go_wp2_with fail
    refine wp_name fun W0 hW0 => ?_
    have hb0 : Below w.heap.size w W0 := by rw [hW0]; exact belA
    have hz0 : W0.heap.size = w.heap.size + 3 := by rw [hW0]; simp
    have p0 : W0.cell? ⟨w.heap.size, 0, none⟩ = some (.pointer (some ⟨X, 0, none⟩)) := by rw [hW0]; go_simp
    have e0 : W0.cell? ⟨w.heap.size + 1, 0, none⟩ = some (.int .i64 e.kind) := by rw [hW0]; go_simp
    have e1 : W0.cell? ⟨w.heap.size + 1, 1, none⟩ = some (.int .i32 e.n) := by rw [hW0]; go_simp
    have e2 : W0.cell? ⟨w.heap.size + 1, 2, none⟩ = some (.string e.name) := by rw [hW0]; go_simp
    have e3 : W0.cell? ⟨w.heap.size + 1, 3, none⟩ = some (.slice A e.sub.length cap) := by rw [hW0]; go_simp
    have k0 : W0.cell? ⟨w.heap.size + 2, 0, none⟩ = some (.int .i64 ck) := by rw [hW0]; go_simp
    have k1 : W0.cell? ⟨w.heap.size + 2, 1, none⟩ = some (.string cs) := by rw [hW0]; go_simp
    have hy0 : w.heap.size < W0.heap.size := by omega
    have hy1 : w.heap.size + 1 < W0.heap.size := by omega
    have hy2 : w.heap.size + 2 < W0.heap.size := by omega
    have hz : w.heap.size ≤ W0.heap.size := by omega
    clear hW0 hmf hz0
    obtain ⟨b, off, A', cap', hA, c0, c1, c2, c3, hs2⟩ := (HE.out.later hb0).get HX.out
    subst hA
    simp only [Nat.zero_mul, Nat.add_zero] at c0 c1 c2 c3
    have hbb := block_lt_of_cell c0
    have hcall := hih A' cap' 0 ⟨#[]⟩ W0.drew (HP.out.later hb0).drew (hs2.later (bel_drew (Below.refl _ _))) ⟨by unfold I64; omega, by decide⟩
    unfold exV at hcall
    have HCA := Lib.hid hcall
    clear hcall hs2
    go_region_law (go_simp; go_wp2_with (go_at_call 17; go_loud (refine HCA.out.mono ?_; rintro r w1 ⟨⟨A1, c1', rfl, hi1⟩, hb1⟩)))
    all_goals
      go_wp2_with fail
      go_ret
      exact ⟨⟨_, _, rfl, hi1⟩, hb0.trans (Below.mono ((bel_drew (Below.refl _ _)).trans (hb1.mono (by simp))) hz)⟩
end
end Go.Proofs.YtknfcamdfdfoeaaDoor

/- Walk over gen's expr at a merge; expr as a whole. -/
namespace Go.Proofs.YtknfcamdfdfoeaaDoor
open Go.RowKit Go.Sort Go.Maps

section
variable (X Bs Bf : Nat) (sl : ByteArray → Int) (fl : Int × ByteArray → Int) (e : Ex)

set_option maxHeartbeats 8000000 in
theorem expr10 (hk : e.kind = 10) (hs : 1 < e.sub.length) (hsz : e.size ≤ 200000) (hok : okS e.name) (ih : ∀ x ∈ e.sub, ExprP X Bs Bf sl fl x) : ExprP X Bs Bf sl fl e := by
  intro A cap ck cs w hp he hc
  obtain ⟨hl1, hl2⟩ := he.len
  unfold maxLen at hl2
  have hx : e.sub[0]? = some (e.sub[0]'(by omega)) := List.getElem?_eq_getElem _
  have hy : e.sub[1]? = some e.sub[1] := List.getElem?_eq_getElem hs
  generalize e.sub[0]'(by omega) = x at hx
  generalize e.sub[1] = y at hy
  have hs0 : 0 < e.sub.length := by omega
  have hs1 : (1 : Int) < (e.sub.length : Int) := by omega
  have hihx := ih x (List.mem_of_getElem? hx)
  have hihy := ih y (List.mem_of_getElem? hy)
  have hw0 : withC e.kind e.name (ck, cs) (0 + 0) = (1, e.name) := by
    unfold withC
    rw [if_pos hk]; rfl
  have hw1 : withC e.kind e.name (ck, cs) (0 + 1) = (2, e.name) := by
    unfold withC
    rw [if_pos hk]; rfl
  have hv : e.gen sl fl (ck, cs) = choiceC [(2, sl e.name)] (x.gen sl fl (1, e.name)) (y.gen sl fl (2, e.name)) := by
    rw [Ex.gen_eq, genK, if_neg (by omega), if_neg (by omega), if_neg (by omega), if_neg (by omega), if_neg (by omega), if_neg (by omega), if_pos hk, Ex.genL_get sl fl e.kind e.name (ck, cs) e.sub 0 0 x hx, Ex.genL_get sl fl e.kind e.name (ck, cs) e.sub 0 1 y hy, hw0, hw1]
  have hgl := Ex.gen_len sl fl e (ck, cs)
  rw [hv] at hgl ⊢
  rw [Ex.choice_len] at hgl
  have t3 : (e.kind == 3) = false := by simp [hk]
  have t4 : (e.kind == 4) = false := by simp [hk]
  have t5 : (e.kind == 5) = false := by simp [hk]
  have t6 : (e.kind == 6) = false := by simp [hk]
  have t7 : (e.kind == 7) = false := by simp [hk]
  have t8 : (e.kind == 8) = false := by simp [hk]
  have t9 : (e.kind == 9) = false := by simp [hk]
  have t10 : (e.kind == 10) = true := by simp [hk]
  have HP := Lib.hid hp
  have HE := Lib.hid he
  have HX := Lib.hid hx
  have HY := Lib.hid hy
  unfold exV
  have HG := Lib.hid hgl
  clear hk hv hp he hc hw0 hw1 hx hy hgl ih
  have hmf : ∀ (fn : Fn) (first cap : Array Value) (w : World), (Instr.makeFunc fn first cap).run Tryd.prog w = .ok (.func fn first cap) w := fun _ _ _ _ => rfl
  go_enter Tryd.func17, Tryd.ntmps17
  go_wp2_with fail
  refine wp_name fun W0 hW0 => ?_
  have hb0 : Below w.heap.size w W0 := by rw [hW0]; exact belA
  have hz0 : W0.heap.size = w.heap.size + 3 := by rw [hW0]; simp
  have p0 : W0.cell? ⟨w.heap.size, 0, none⟩ = some (.pointer (some ⟨X, 0, none⟩)) := by rw [hW0]; go_simp
  have e0 : W0.cell? ⟨w.heap.size + 1, 0, none⟩ = some (.int .i64 e.kind) := by rw [hW0]; go_simp
  have e1 : W0.cell? ⟨w.heap.size + 1, 1, none⟩ = some (.int .i32 e.n) := by rw [hW0]; go_simp
  have e2 : W0.cell? ⟨w.heap.size + 1, 2, none⟩ = some (.string e.name) := by rw [hW0]; go_simp
  have e3 : W0.cell? ⟨w.heap.size + 1, 3, none⟩ = some (.slice A e.sub.length cap) := by rw [hW0]; go_simp
  have k0 : W0.cell? ⟨w.heap.size + 2, 0, none⟩ = some (.int .i64 ck) := by rw [hW0]; go_simp
  have k1 : W0.cell? ⟨w.heap.size + 2, 1, none⟩ = some (.string cs) := by rw [hW0]; go_simp
  have hy0 : w.heap.size < W0.heap.size := by omega
  have hy1 : w.heap.size + 1 < W0.heap.size := by omega
  have hy2 : w.heap.size + 2 < W0.heap.size := by omega
  have hz : w.heap.size ≤ W0.heap.size := by omega
  clear hW0 hmf hz0
  obtain ⟨b, off, A', cap', hA, c0, c1, c2, c3, hs2⟩ := (HE.out.later hb0).get HX.out
  obtain ⟨b', off', A'', cap'', hA', g0, g1, g2, g3, hs3⟩ := (HE.out.later hb0).get HY.out
  rw [hA] at hA'
  injection hA' with hA'
  injection hA' with hA1 hA2 hA3
  subst hA1 hA2 hA
  simp only [Nat.zero_mul, Nat.add_zero, Nat.one_mul] at c0 c1 c2 c3 g0 g1 g2 g3
  have hbb := block_lt_of_cell c0
  have hcall := hihx A' cap' 1 e.name W0.drew (HP.out.later hb0).drew (hs2.later (bel_drew (Below.refl _ _))) ⟨by unfold I64; omega, hok⟩
  have hcall2 := fun W (hb : Below W0.heap.size W0 W) => hihy A'' cap'' 2 e.name W ((HP.out.later hb0).later hb) (hs3.later hb) ⟨by unfold I64; omega, hok⟩
  unfold exV at hcall hcall2
  have HCA := Lib.hid hcall
  have HCB := Lib.hid hcall2
  have hgx : (x.gen sl fl (1, e.name)).length + (y.gen sl fl (2, e.name)).length ≤ 700000 := by have := HG.out; omega
  clear hcall hcall2 hs2 hs3
  generalize x.gen sl fl (1, e.name) = g at *
  generalize y.gen sl fl (2, e.name) = h at *
  go_region_law (go_simp; go_wp2_with (go_at_call 17; go_loud (refine HCA.out.mono ?_; rintro r w1 ⟨⟨A1, c1', rfl, hi1⟩, hb1⟩)))
  all_goals
    have hB1 : Below W0.heap.size W0 w1 := (bel_drew (Below.refl _ _)).trans (hb1.mono (by simp))
    replace p0 := bel_cell hB1 p0
    replace e0 := bel_cell hB1 e0
    replace e2 := bel_cell hB1 e2
    replace e3 := bel_cell hB1 e3
    replace g0 := bel_cell hB1 g0
    replace g1 := bel_cell hB1 g1
    replace g2 := bel_cell hB1 g2
    replace g3 := bel_cell hB1 g3
    clear e1 k0 k1 c0 c1 c2 c3
    have hp1 := (HP.out.later hb0).later hB1
    obtain ⟨m0, m2, ⟨n, f, c, hm, hf⟩, _⟩ := hp1
    have hX : X < w1.heap.size := block_lt_of_cell m0
    have hz1 := hB1.size
    have hbb1 := block_lt_of_cell g0
    have hS : ∀ w', Below w1.heap.size w1 w' → w'.cell? ⟨w.heap.size, 0, none⟩ = some (.pointer (some ⟨X, 0, none⟩)) ∧ w'.cell? ⟨w.heap.size + 1, 2, none⟩ = some (.string e.name) ∧ w'.cell? ⟨w.heap.size + 1, 3, none⟩ = some (.slice (some ⟨b, off, none⟩) e.sub.length cap) ∧
        w'.cell? ⟨b, off + 4, none⟩ = some (.int .i64 y.kind) ∧ w'.cell? ⟨b, off + 4 + 1, none⟩ = some (.int .i32 y.n) ∧ w'.cell? ⟨b, off + 4 + 2, none⟩ = some (.string y.name) ∧ w'.cell? ⟨b, off + 4 + 3, none⟩ = some (.slice A'' y.sub.length cap'') ∧ w'.cell? ⟨X, 0, none⟩ = some (.map (some Bs)) ∧
        (Instr.lookup 70 (.map (some Bs)) (.string e.name) false).run Tryd.prog w' = .ok (.int .i32 (sl e.name)) w' := fun w' hb =>
      ⟨bel_cell hb p0, bel_cell hb e2, bel_cell hb e3, bel_cell hb g0, bel_cell hb g1, bel_cell hb g2, bel_cell hb g3, bel_cell hb m0, run_lkG (keyS Tryd.underlying9) (x := .string e.name) Tryd.underlying70 Tryd.underlying21 (zeroI32 _) rfl (hm.bel hb) hok (hf _ hok)⟩
    have HSS := Lib.hid hS
    clear hm hf hb1 hS
    go_wp2_with fail
    go_region_held3 (fun w' => w'.cell? ⟨w.heap.size, 0, none⟩ = some (.pointer (some ⟨X, 0, none⟩)) ∧ w'.cell? ⟨w.heap.size + 1, 2, none⟩ = some (.string e.name) ∧ w'.cell? ⟨w.heap.size + 1, 3, none⟩ = some (.slice (some ⟨b, off, none⟩) e.sub.length cap) ∧
        w'.cell? ⟨b, off + 4, none⟩ = some (.int .i64 y.kind) ∧ w'.cell? ⟨b, off + 4 + 1, none⟩ = some (.int .i32 y.n) ∧ w'.cell? ⟨b, off + 4 + 2, none⟩ = some (.string y.name) ∧ w'.cell? ⟨b, off + 4 + 3, none⟩ = some (.slice A'' y.sub.length cap'') ∧ w'.cell? ⟨X, 0, none⟩ = some (.map (some Bs)) ∧
        (Instr.lookup 70 (.map (some Bs)) (.string e.name) false).run Tryd.prog w' = .ok (.int .i32 (sl e.name)) w')
      (first | exact HSS.out _ (bel_drew (Below.refl _ _)) | exact HSS.out _ hC4 | exact HSS.out _ hC3 | exact HSS.out _ hC2)
      (first
      | (go_at_call_of 15 (Value.int IntKind.i64 2); refine (one_any _ _ _).mono ?_; rintro r w2 ⟨⟨rfl, hown2⟩, hb2⟩; have hi2 := InsAt.one hown2; have hz2 := hb2.size; have hC2 : Below w1.heap.size w1 w2 := (bel_drew (Below.refl _ _)).trans (hb2.mono (by simp)); have hB2 := hB1.trans (Below.mono hC2 hB1.size); clear hown2)
      | (go_at_call 17; refine (HCB.out _ hB2).mono ?_; rintro r w3 ⟨⟨A3, c3', rfl, hi3⟩, hb3⟩; have hz3 := hb3.size; have hC3 := hC2.trans (hb3.mono hC2.size); have hB3 := hB2.trans (hb3.mono hB2.size))
      | (go_at_call 28; refine (choice_any [(2, sl e.name)] g h _ _ _ _ _ _ w3 (hi2.later hb3) ((hi1.later hC2).later hb3) hi3 (by simp; omega)).mono ?_; intro r w4 hcode; obtain ⟨⟨A4, c4, rfl, hat4⟩, hb4⟩ := hcode.at.less (hb0.trans (hB3.mono hb0.size)); have hC4 := hC3.trans (hcode.2.mono hC3.size); clear hcode))
    all_goals
      go_wp2_with fail
      go_ret
      exact ⟨⟨A4, c4, rfl, hat4⟩, hb4⟩
end

/-- The code of an expression that is well formed. -/
theorem expr_any (X Bs Bf : Nat) (sl : ByteArray → Int) (fl : Int × ByteArray → Int) (e : Ex) : e.formed = true → e.size ≤ 200000 → ExprP X Bs Bf sl fl e := by
  induction e using Ex.ind with
  | h e ih =>
    intro hf hz
    have ih2 : ∀ x ∈ e.sub, ExprP X Bs Bf sl fl x := fun x hx => ih x hx (formed_subs hf x hx) (by
      obtain ⟨k, hk⟩ := List.getElem?_of_mem hx
      have := Ex.size_mem e.sub k x hk
      have := Ex.size_eq e
      omega)
    obtain ⟨hn, hs⟩ := Ex.formed_kind hf
    have hok : okS e.name := by unfold okS maxLen; omega
    by_cases h3 : e.kind = 3
    · exact expr3 X Bs Bf sl fl e h3 hok
    by_cases h4 : e.kind = 4
    · exact expr4 X Bs Bf sl fl e h4 (by rw [h4] at hn; simp [formK] at hn; omega) hz ih2
    by_cases h5 : e.kind = 5
    · exact expr5 X Bs Bf sl fl e h5 (by rw [h5] at hn; simp [formK] at hn; omega) hz ih2
    by_cases h6 : e.kind = 6
    · exact expr6 X Bs Bf sl fl e h6 (by rw [h6] at hn; simp [formK] at hn; omega) hz ih2
    by_cases h7 : e.kind = 7
    · exact expr7 X Bs Bf sl fl e h7 (by rw [h7] at hn; simp [formK] at hn; omega) hz ih2
    by_cases h8 : e.kind = 8
    · exact expr89 X Bs Bf sl fl e (.inl h8) (by rw [h8] at hn; simp [formK] at hn; omega) ih2
    by_cases h9 : e.kind = 9
    · exact expr89 X Bs Bf sl fl e (.inr h9) (by rw [h9] at hn; simp [formK] at hn; omega) ih2
    by_cases h10 : e.kind = 10
    · exact expr10 X Bs Bf sl fl e h10 (by rw [h10] at hn; simp [formK] at hn; omega) hz hok ih2
    exact expr1 X Bs Bf sl fl e ⟨h3, h4, h5, h6, h7, h8, h9, h10⟩
end Go.Proofs.YtknfcamdfdfoeaaDoor
