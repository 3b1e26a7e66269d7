/- The numbers of a program's code and of its first memory are numbers of 32 bits. -/
import Derived.Test.YtknfcamdfdfoeaaDoorZ35
import Derived.Test.YtknfcamdfdfoeaaDoorZ00
import Derived.Test.YtknfcamdfdfoeaaDoorZ18
import Derived.Test.YtknfcamdfdfoeaaDoorZ28
set_option linter.unusedVariables false
set_option linter.unusedSimpArgs false
set_option maxRecDepth 100000
namespace Go.Proofs.YtknfcamdfdfoeaaDoor
open Go.RowKit

def AllI (c : List (Int × Int)) : Prop := ∀ i ∈ c, I32 i.2
theorem AllI.app {a b : List (Int × Int)} (ha : AllI a) (hb : AllI b) : AllI (a ++ b) := fun i hi => by
  rcases List.mem_append.1 hi with h | h
  · exact ha i h
  · exact hb i h
theorem AllI.nil : AllI [] := fun i hi => by cases hi
theorem AllI.cons {op n : Int} {l : List (Int × Int)} (h : I32 n) (hl : AllI l) : AllI ((op, n) :: l) := fun i hi => by
  rcases List.mem_cons.1 hi with rfl | hi
  · exact h
  · exact hl i hi
theorem i32_nat {n : Nat} (h : n ≤ 1000000) : I32 (n : Int) := by unfold I32; omega
section
variable {sl : ByteArray → Int} {fl : Int × ByteArray → Int}
theorem AllI.choice {v a b : List (Int × Int)} (hv : AllI v) (ha : AllI a) (hb : AllI b) (la : a.length ≤ 100000) (lb : b.length ≤ 100000) : AllI (choiceC v a b) := by
  unfold choiceC
  exact (((hv.app (AllI.cons (by unfold I32; omega) AllI.nil)).app ha).app (AllI.cons (by unfold I32; omega) AllI.nil)).app hb
theorem gen_i32 (hsl : ∀ s, I32 (sl s)) (hfl : ∀ c, I32 (fl c)) (e : Ex) : e.OK → e.size ≤ 120 → ∀ c, AllI (e.gen sl fl c) := by
  induction e using Ex.ind with
  | h e ih =>
    intro ho hz c
    have hn : I32 e.n := by cases e; simp only [Ex.OK] at ho; exact ho.2.1
    have hp : ∀ j, AllI ((Ex.genL sl fl e.kind e.name c 0 e.sub).getD j []) ∧ ((Ex.genL sl fl e.kind e.name c 0 e.sub).getD j []).length ≤ 100000 := by
      intro j
      by_cases hj : j < e.sub.length
      · have hx : e.sub[j]? = some e.sub[j] := List.getElem?_eq_getElem hj
        have hm : e.sub[j] ∈ e.sub := List.getElem_mem hj
        generalize e.sub[j] = x at hx hm
        have h2 := Ex.size_sub hx
        rw [Ex.genL_get sl fl e.kind e.name c e.sub 0 j x hx]
        have h4 := Ex.gen_len sl fl x (withC e.kind e.name c (0 + j))
        exact ⟨ih x hm (Ex.OK_sub ho hm) (by omega) _, by omega⟩
      · have : (Ex.genL sl fl e.kind e.name c 0 e.sub).getD j [] = [] := by
          rw [List.getD_eq_getElem?_getD, List.getElem?_eq_none (by rw [Ex.genL_len]; omega)]; rfl
        rw [this]
        exact ⟨AllI.nil, by simp⟩
    rw [Ex.gen_eq]
    generalize Ex.genL sl fl e.kind e.name c 0 e.sub = ps at hp
    unfold genK
    have one : ∀ (op n : Int), I32 n → AllI [(op, n)] := fun op n h => AllI.cons h AllI.nil
    split
    · exact one _ _ (hsl _)
    split
    · exact (hp 0).1.app (one _ _ hn)
    split
    · exact ((hp 0).1.app (hp 1).1).app (one _ _ hn)
    split
    · exact (hp 0).1.choice (hp 1).1 (hp 2).1 (hp 1).2 (hp 2).2
    split
    · exact (one _ _ (hfl c)).choice (hp 1).1 (hp 0).1 (hp 1).2 (hp 0).2
    split
    · exact (hp 0).1
    split
    · exact (one _ _ (hsl _)).choice (hp 0).1 (hp 1).1 (hp 0).2 (hp 1).2
    · exact one _ _ hn
theorem AllI.under (hsl : ∀ s, I32 (sl s)) {c : Int × ByteArray} {x : List (Int × Int)} (hx : AllI x) (lx : x.length ≤ 100000) : AllI (underC sl c x) := by
  unfold underC
  have hl : I32 (x.length : Int) := i32_nat (by omega)
  split
  · exact (AllI.cons (hsl _) (AllI.cons hl AllI.nil)).app hx
  · split
    · exact (AllI.cons (hsl _) (AllI.cons (by unfold I32; omega) (AllI.cons hl AllI.nil))).app hx
    · exact hx
theorem ins_i32 (hsl : ∀ s, I32 (sl s)) : ∀ (l : List Va) (i : Nat), i + l.length ≤ 100000 → AllI (insC sl i l)
  | [], i, _ => AllI.nil
  | v :: r, i, h => by
    rw [List.length_cons] at h
    rw [insC]
    exact (AllI.cons (i32_nat (by omega)) (AllI.cons (hsl _) AllI.nil)).app (ins_i32 hsl r (i + 1) (by omega))
theorem old_i32 (hsl : ∀ s, I32 (sl s)) : ∀ (l : List Qe) (i : Nat), i + l.length ≤ 100000 → AllI (oldC sl i l)
  | [], i, _ => AllI.nil
  | v :: r, i, h => by
    rw [List.length_cons] at h
    rw [oldC]
    exact (AllI.cons (i32_nat (by omega)) (AllI.cons (hsl _) AllI.nil)).app (old_i32 hsl r (i + 1) (by omega))
theorem out_i32 (hsl : ∀ s, I32 (sl s)) : ∀ (l : List Va) (i : Nat), i + l.length ≤ 100000 → AllI (outC sl i l)
  | [], i, _ => AllI.nil
  | v :: r, i, h => by
    rw [List.length_cons] at h
    rw [outC]
    exact (AllI.cons (hsl _) (AllI.cons (i32_nat (by omega)) AllI.nil)).app (out_i32 hsl r (i + 1) (by omega))
theorem flg_i32 (hsl : ∀ s, I32 (sl s)) : ∀ (l : List Ce) (i : Nat), i + l.length ≤ 100000 → AllI (flgC sl i l)
  | [], i, _ => AllI.nil
  | v :: r, i, h => by
    rw [List.length_cons] at h
    rw [flgC]
    exact (AllI.under hsl (AllI.cons (by unfold I32; omega) (AllI.cons (i32_nat (by omega)) AllI.nil)) (by simp)).app (flg_i32 hsl r (i + 1) (by omega))
theorem new_i32 {L : List Va} (hsl : ∀ s, I32 (sl s)) : ∀ (l : List Qe) (i : Nat), (∀ q ∈ l, ∀ c, AllI (q.e.gen sl fl c) ∧ (q.e.gen sl fl c).length ≤ 360) → i + l.length ≤ 100000 → AllI (newC sl fl L i l)
  | [], i, _, _ => AllI.nil
  | q :: r, i, hq, h => by
    rw [List.length_cons] at h
    rw [newC]
    obtain ⟨g1, g2⟩ := hq q (by simp) (clockL L q.name)
    exact (AllI.under hsl (g1.app (AllI.cons (i32_nat (by omega)) AllI.nil)) (by simp; omega)).app (new_i32 hsl r (i + 1) (fun x hx => hq x (by simp [hx])) (by omega))
theorem ord_i32 {L : List Va} {eqs : List Qe} (hsl : ∀ s, I32 (sl s)) (hq : ∀ q ∈ eqs, ∀ c, AllI (q.e.gen sl fl c) ∧ (q.e.gen sl fl c).length ≤ 360) : ∀ l : List Int, AllI (ordC sl fl L eqs l)
  | [] => AllI.nil
  | j :: r => by
    rw [ordC]
    refine AllI.app ?_ (ord_i32 hsl hq r)
    cases hx : eqs[j.toNat]? with
    | none => exact AllI.nil
    | some q =>
      obtain ⟨g1, g2⟩ := hq q (List.mem_of_getElem? hx) (clockL L q.name)
      exact AllI.under hsl (g1.app (AllI.cons (hsl _) AllI.nil)) (by simp; omega)
end
theorem slot_i32 (L : List Va) (hl : L.length ≤ 100000) (s : ByteArray) : I32 (slotF L s) := by
  rcases Nat.eq_zero_or_pos L.length with h | h
  · have : L = [] := List.eq_nil_of_length_eq_zero h
    subst this
    have : slotF [] s = 0 := rfl
    rw [this]; unfold I32; omega
  · have := slot_range L s h
    unfold I32; omega
theorem flag_i32 (l : List Ce) (hl : l.length ≤ 100000) (d : Int × ByteArray) : I32 (flagF l d) := by
  rcases flagI_range d l 0 with h | h
  · unfold flagF; rw [h]; unfold I32; omega
  · unfold flagF I32; omega
theorem code_i32 {p : Pr} (h : Clean p) (hok : PrOK p) (hb : ¬ 16 < (cellsL p).length) : ∀ i ∈ codeL p, I32 i.2 := by
  have hsm := h.small
  have hsl := slot_i32 (varsOf p) (by omega)
  have hfl := flag_i32 (cellsL p) (by omega)
  have hq : ∀ q ∈ p.eqs, ∀ c, AllI (q.e.gen (slotF (varsOf p)) (flagF (cellsL p)) c) ∧ (q.e.gen (slotF (varsOf p)) (flagF (cellsL p)) c).length ≤ 360 := fun q hq c =>
    ⟨gen_i32 hsl hfl q.e (hok.eqs q hq).2.2.2 (h.eqs q hq).size c, h.codes q hq _ _ _⟩
  have hdl := delayed_len p.eqs
  unfold codeL
  exact (((((ins_i32 hsl p.ins 0 (by omega)).app (old_i32 hsl (delayed p.eqs) 0 (by omega))).app (ord_i32 hsl hq (orderE p).1)).app (new_i32 hsl (delayed p.eqs) 0 (fun q hd => hq q (delayed_mem hd).1) (by omega))).app (flg_i32 hsl _ _ (by rw [List.length_drop]; omega))).app (out_i32 hsl p.outs 0 (by omega))
theorem lit_i32 {e : Ex} (h : e.OK) : I32 (litV e) := by
  unfold litV
  split
  · exact w32_range _
  · cases e; simp only [Ex.OK] at h; exact h.2.1
theorem first_i32 {p : Pr} (hok : PrOK p) : ∀ x ∈ (cellsL p).map (·.first), I32 x := by
  intro x hx
  obtain ⟨c, hc, rfl⟩ := List.mem_map.1 hx
  unfold cellsL at hc
  rcases List.mem_append.1 hc with hc | hc
  · obtain ⟨q, hq, rfl⟩ := List.mem_map.1 hc
    exact lit_i32 (hok.eqs q (delayed_mem hq).1).2.2.1
  · unfold flagsOf at hc
    obtain ⟨d, _, rfl⟩ := List.mem_map.1 hc
    show I32 0
    unfold I32; omega
end Go.Proofs.YtknfcamdfdfoeaaDoor

/- Walk over gen.Image. -/
namespace Go.Proofs.YtknfcamdfdfoeaaDoor
open Go.RowKit Go.Sort Go.Maps Go.ChangeMaps Go.WideMaps

theorem setCell_id {W : World} {b o : Nat} {v : Value} (h : W.cell? ⟨b, o, none⟩ = some v) : W.setCell ⟨b, o, none⟩ v = W := by
  obtain ⟨c, e, fr, h1, h2⟩ := cells_of_cell? h
  have hh : (W.setCell ⟨b, o, none⟩ v).heap = W.heap := by
    unfold World.setCell
    dsimp only
    apply Array.ext
    · simp
    · intro i h3 h4
      rw [Array.getElem_modify]
      split
      · rename_i hi
        subst hi
        obtain ⟨h5, h6⟩ := Array.getElem?_eq_some_iff.1 h1
        rw [h6]
        simp only [Option.isSome_none, Bool.false_eq_true, if_false]
        have : c.setIfInBounds o v = c := by
          obtain ⟨h7, h8⟩ := Array.getElem?_eq_some_iff.1 h2
          apply Array.ext
          · simp
          · intro j h9 h10
            rw [Array.getElem_setIfInBounds]
            split
            · rename_i hj; subst hj; exact h8.symm
            · rfl
        rw [this]
      · rfl
  unfold World.setCell at hh ⊢
  dsimp only at hh
  rw [hh]
theorem imAt_zero (W : World) : ImAt W Im.zero ⟨none, 0, none, 0, none, 0⟩ := ⟨CelAt.nil _, insAt_nil _, insAt_nil _⟩
theorem InsAt.set {V W : World} {l : List (Int × Int)} {A : Option Addr} {cap : Nat} (h0 : InsAt V l A cap) (h : InsAt W l A cap) {g : Nat} (hg : V.heap.size ≤ g) (o : Nat) (u : Value) : InsAt (W.setCell ⟨g, o, none⟩ u) l A cap := by
  refine ⟨h.1, h.2.1, h.2.2.1, fun hm => ?_⟩
  obtain ⟨b, off, hA, hc⟩ := h.2.2.2 hm
  obtain ⟨b', off', hA', hc'⟩ := h0.2.2.2 hm
  rw [hA] at hA'
  simp only [Option.some.injEq, Addr.mk.injEq] at hA'
  have hbb := hA'.1
  refine ⟨b, off, hA, fun j u hj => (sc_blk _ _ _ _ _ _ ?_).trans (hc j u hj)⟩
  have hlt : b' < V.heap.size := block_lt_of_cell (hc' j u hj)
  omega
theorem InsAt.off {W : World} {l : List (Int × Int)} {A : Option Addr} {cap : Nat} (h : InsAt W l A cap) {g : Nat} (hg : ∀ b off, A = some ⟨b, off, none⟩ → b ≠ g) (o : Nat) (u : Value) : InsAt (W.setCell ⟨g, o, none⟩ u) l A cap := by
  refine ⟨h.1, h.2.1, h.2.2.1, fun hm => ?_⟩
  obtain ⟨b, off, hA, hc⟩ := h.2.2.2 hm
  exact ⟨b, off, hA, fun j u hj => (sc_blk _ _ _ _ _ _ (hg b off hA)).trans (hc j u hj)⟩
def zIm : List Value := [.int .u32 0, .int .u32 0, .int .i64 0, .int .i64 0, .int .i64 0, .int .i64 0, .int .i64 0, .int .i64 0, .slice none 0 0, .slice none 0 0, .slice none 0 0, .int .i64 0, .int .i64 0]
/-- gen.Image's results, as long as they are untouched. -/
structure GenI (w W : World) : Prop where
  bel : Below w.heap.size w W
  z : ∀ (o : Nat) (u : Value), zIm[o]? = some u → W.cell? ⟨w.heap.size + 1, o, none⟩ = some u
  fz : ∀ o, W.frozen? ⟨w.heap.size + 1, o, none⟩ = false
  f : W.cell? ⟨w.heap.size + 1 + 1, 0, none⟩ = some (.int .i64 0) ∧ W.cell? ⟨w.heap.size + 1 + 1, 1, none⟩ = some (.int .i64 0) ∧ W.cell? ⟨w.heap.size + 1 + 1, 2, none⟩ = some (.int .i64 0)
  ff : ∀ o, W.frozen? ⟨w.heap.size + 1 + 1, o, none⟩ = false
  lt : w.heap.size + 3 ≤ W.heap.size
theorem GenI.later {w W W' : World} (h : GenI w W) (hb : Below W.heap.size W W') : GenI w W' := by
  have hl := h.lt
  exact ⟨bel_trans h.bel hb, fun o u ho => bel_cell hb (h.z o u ho), fun o => (bfrozen hb _ _ (by omega)).trans (h.fz o), ⟨bel_cell hb h.f.1, bel_cell hb h.f.2.1, bel_cell hb h.f.2.2⟩, fun o => (bfrozen hb _ _ (by omega)).trans (h.ff o), by have := hb.size; omega⟩
theorem GenI.set {w W : World} (h : GenI w W) {b : Nat} (hb : w.heap.size + 3 ≤ b) (o : Nat) (u : Value) : GenI w (W.setCell ⟨b, o, none⟩ u) :=
  ⟨Below.setCell h.bel (show w.heap.size ≤ b by omega) _, fun o' u' ho => (sc_blk _ _ _ _ _ _ (by omega)).trans (h.z o' u' ho), fun o' => (World.frozen?_setCell ..).trans (h.fz o'), ⟨(sc_blk _ _ _ _ _ _ (by omega)).trans h.f.1, (sc_blk _ _ _ _ _ _ (by omega)).trans h.f.2.1, (sc_blk _ _ _ _ _ _ (by omega)).trans h.f.2.2⟩, fun o' => (World.frozen?_setCell ..).trans (h.ff o'), by simpa using h.lt⟩
theorem GenI.new (w : World) (p : Array Value) (t : TypeId) (t2 t3 : TypeId) : GenI w (((w.alloc (.cells p t)).alloc (.cells zIm.toArray t2)).alloc (.cells #[.int .i64 0, .int .i64 0, .int .i64 0] t3)) := by
  have e1 : (w.alloc (.cells p t)).heap.size = w.heap.size + 1 := by simp
  have e2 : ((w.alloc (.cells p t)).alloc (.cells zIm.toArray t2)).heap.size = w.heap.size + 1 + 1 := by simp
  refine ⟨belA, fun o u ho => ?_, fun o => by go_simp, ⟨by go_simp, by go_simp, by go_simp⟩, fun o => by go_simp, by simp⟩
  have h1 := cell_new (w.alloc (.cells p t)) zIm.toArray t2 o
  rw [e1] at h1
  exact cel_alloc (h1.trans (by simpa using ho))

theorem code_fine {p : Pr} (h : (codeE p).2.2 = (0, 0, 0)) : startF p = (0, 0, 0) ∧ ¬ 16 < (cellsL p).length ∧ ¬ 600 < (codeL p).length ∧ codeE p = (codeL p, (((varsOf p).length : Int), ((cellsL p).length : Int), ((cellsL p).length : Int), (p.ins.length : Int), (p.outs.length : Int)), (0, 0, 0)) := by
  unfold codeE at h ⊢
  by_cases hc : (cellsE p).2 = (0, 0, 0)
  · rw [if_pos hc] at h ⊢
    by_cases h6 : 600 < (codeL p).length
    · rw [if_pos h6] at h
      exact absurd (show ((4 : Int), (0 : Int), (3 : Int)) = (0, 0, 0) from h) (by decide)
    · rw [if_neg h6]
      exact ⟨(cells_no_fault hc).1, (cells_no_fault hc).2, h6, rfl⟩
  · rw [if_neg hc] at h
    exact absurd h hc
set_option maxHeartbeats 2500000 in
theorem genimage_any (p : Pr) (a : PrA) (v : Int) (w : World) (hg : Always w) (hp : PrAt w p a) (hok : PrOK p) (n1 : p.ins.length ≤ 1000000) (n2 : p.outs.length ≤ 1000000) (n3 : p.locals.length ≤ 1000000) (n4 : p.eqs.length ≤ 1000000) (hv : 0 ≤ v ∧ v < 4294967296) :
    Calls Tryd.prog 8 #[prV p a, .int .u32 v] w fun r w' => (∃ ia, r = .returned (.tuple #[imV (imE p v).1 ia, fV (imE p v).2]) ∧ ImAt w' (imE p v).1 ia) ∧ Below w.heap.size w w' := by
  have hcode := fun W h => code_any p a W (hg.later h) (hp.later h) hok n1 n2 n3 n4
  have hsid : ∀ (W : World) (b o : Nat) (v : Value), W.cell? ⟨b, o, none⟩ = some v → W.setCell ⟨b, o, none⟩ v = W := fun _ _ _ _ h => setCell_id h
  have hgm : Tryd.prog.eqGuardType Tryd.prog.depth 34 = false := by kernel_rfl
  by_cases hf : (codeE p).2.2 = (0, 0, 0)
  · obtain ⟨hS, hb16, h600, hce⟩ := code_fine hf
    have hcl := clean_of hS
    rw [hce] at hcode
    have hfq : ∀ w, (Op.equalIn 10000 34 (.agg #[.int .i64 0, .int .i64 0, .int .i64 0]) (.agg #[.int .i64 0, .int .i64 0, .int .i64 0])).run Tryd.prog w = .ok true w := fun w => by rw [eqFault]; rfl
    by_cases hv0 : v = 0
    · subst hv0
      have hv : imE p 0 = (Im.zero, (4, 0, 1)) := by unfold imE; rw [if_neg (fun h => h hf), if_pos rfl]
      rw [hv]
      obtain ⟨A1, c1, A2, c2, A3, c3, A4, c4⟩ := a
      unfold prV fV frT at *
      dsimp only at *
      clear hg hp hok hf hv hce hcl
      generalize (varsOf p).length = nv at *
      generalize (cellsL p).length = nc at *
      generalize codeL p = cl at *
      go_enter Tryd.func8, Tryd.ntmps8
      go_upto_region 2 with (go_at_call 6; go_loud (refine (hcode _ belA).mono ?_; rintro r wa ⟨⟨A, cap, rfl, hat, hfre⟩, hba⟩))
      refine wp_name fun V hV => ?_
      have hi : GenI w V := by rw [hV]; exact (((GenI.new w _ _ _ _).later hba).later (bel_alloc (bel_alloc (Below.refl _ _) _) _))
      have s0 : V.cell? ⟨wa.heap.size + 1, 0, none⟩ = some (.int .i64 0) := by rw [hV]; go_simp
      have s1 : V.cell? ⟨wa.heap.size + 1, 1, none⟩ = some (.int .i64 0) := by rw [hV]; go_simp
      have s2 : V.cell? ⟨wa.heap.size + 1, 2, none⟩ = some (.int .i64 0) := by rw [hV]; go_simp
      have z0 : V.cell? ⟨w.heap.size + 1, 0, none⟩ = some (.int .u32 0) := hi.z 0 _ rfl
      have z1 : V.cell? ⟨w.heap.size + 1, 1, none⟩ = some (.int .u32 0) := hi.z 1 _ rfl
      have z2 : V.cell? ⟨w.heap.size + 1, 2, none⟩ = some (.int .i64 0) := hi.z 2 _ rfl
      have z3 : V.cell? ⟨w.heap.size + 1, 3, none⟩ = some (.int .i64 0) := hi.z 3 _ rfl
      have z4 : V.cell? ⟨w.heap.size + 1, 4, none⟩ = some (.int .i64 0) := hi.z 4 _ rfl
      have z5 : V.cell? ⟨w.heap.size + 1, 5, none⟩ = some (.int .i64 0) := hi.z 5 _ rfl
      have z6 : V.cell? ⟨w.heap.size + 1, 6, none⟩ = some (.int .i64 0) := hi.z 6 _ rfl
      have z7 : V.cell? ⟨w.heap.size + 1, 7, none⟩ = some (.int .i64 0) := hi.z 7 _ rfl
      have z8 : V.cell? ⟨w.heap.size + 1, 8, none⟩ = some (.slice none 0 0) := hi.z 8 _ rfl
      have z9 : V.cell? ⟨w.heap.size + 1, 9, none⟩ = some (.slice none 0 0) := hi.z 9 _ rfl
      have z10 : V.cell? ⟨w.heap.size + 1, 10, none⟩ = some (.slice none 0 0) := hi.z 10 _ rfl
      have z11 : V.cell? ⟨w.heap.size + 1, 11, none⟩ = some (.int .i64 0) := hi.z 11 _ rfl
      have z12 : V.cell? ⟨w.heap.size + 1, 12, none⟩ = some (.int .i64 0) := hi.z 12 _ rfl
      have y0 : V.frozen? ⟨w.heap.size + 1, 0, none⟩ = false := hi.fz 0
      have y1 : V.frozen? ⟨w.heap.size + 1, 1, none⟩ = false := hi.fz 1
      have y2 : V.frozen? ⟨w.heap.size + 1, 2, none⟩ = false := hi.fz 2
      have y3 : V.frozen? ⟨w.heap.size + 1, 3, none⟩ = false := hi.fz 3
      have y4 : V.frozen? ⟨w.heap.size + 1, 4, none⟩ = false := hi.fz 4
      have y5 : V.frozen? ⟨w.heap.size + 1, 5, none⟩ = false := hi.fz 5
      have y6 : V.frozen? ⟨w.heap.size + 1, 6, none⟩ = false := hi.fz 6
      have y7 : V.frozen? ⟨w.heap.size + 1, 7, none⟩ = false := hi.fz 7
      have y8 : V.frozen? ⟨w.heap.size + 1, 8, none⟩ = false := hi.fz 8
      have y9 : V.frozen? ⟨w.heap.size + 1, 9, none⟩ = false := hi.fz 9
      have y10 : V.frozen? ⟨w.heap.size + 1, 10, none⟩ = false := hi.fz 10
      have y11 : V.frozen? ⟨w.heap.size + 1, 11, none⟩ = false := hi.fz 11
      have y12 : V.frozen? ⟨w.heap.size + 1, 12, none⟩ = false := hi.fz 12
      have f0 : V.cell? ⟨w.heap.size + 1 + 1, 0, none⟩ = some (.int .i64 0) := hi.f.1
      have f1 : V.cell? ⟨w.heap.size + 1 + 1, 1, none⟩ = some (.int .i64 0) := hi.f.2.1
      have f2 : V.cell? ⟨w.heap.size + 1 + 1, 2, none⟩ = some (.int .i64 0) := hi.f.2.2
      have ff0 : V.frozen? ⟨w.heap.size + 1 + 1, 0, none⟩ = false := hi.ff 0
      have ff1 : V.frozen? ⟨w.heap.size + 1 + 1, 1, none⟩ = false := hi.ff 1
      have ff2 : V.frozen? ⟨w.heap.size + 1 + 1, 2, none⟩ = false := hi.ff 2
      have HI := Lib.hid hi
      clear hV hi hcode
      go_wp2_with fail
      refine bodyPost_ret (v := .tuple #[.agg #[.int .u32 0, .int .u32 0, .int .i64 0, .int .i64 0, .int .i64 0, .int .i64 0, .int .i64 0, .int .i64 0, .slice none 0 0, .slice none 0 0, .slice none 0 0, .int .i64 0, .int .i64 0], .agg #[.int .i64 4, .int .i64 0, .int .i64 1]]) (by simp [results, Tryd.results8, go_sem, *]) rfl ⟨⟨⟨none, 0, none, 0, none, 0⟩, rfl, imAt_zero _⟩, ?_⟩
      exact Below.setCell (Below.setCell HI.out.bel (show w.heap.size ≤ w.heap.size + 1 + 1 by omega) _) (show w.heap.size ≤ w.heap.size + 1 + 1 by omega) _
    · have tv : (v == 0) = false := by simpa using hv0
      have hfirst := fun W h => first18_any p a W (hg.later h) (hp.later h) hok n1 n2 n3 n4
      rw [show cellsE p = (cellsL p, (0, 0, 0)) by unfold cellsE; rw [if_pos hS, if_neg hb16]] at hfirst
      have hN := code_i32 hcl hok hb16
      have hF := first_i32 hok
      have himok : ImOK (imOf p v) := ⟨hv, by unfold imOf; dsimp only; omega, hF, hN, fun i hi => by cases hi⟩
      have hie : imE p v = if (encE (imOf p v)).2 ≠ 0 then (Im.zero, (4, 0, (encE (imOf p v)).2)) else (imOf p v, (0, 0, 0)) := by unfold imE; rw [if_neg (fun h => h hf), if_neg hv0]
      have hjud := fun A cap W h => judge_any (codeL p) A cap (frOf p) W h hN
      have hnuI : (cellsL p).map (fun c => Value.int .i32 c.first) = nuI ((cellsL p).map (·.first)) := by unfold nuI; rw [List.map_map]; rfl
      rw [hnuI] at hfirst
      have henc := fun (A : Option Addr) (cap : Nat) (A5 : Option Addr) (c5 : Nat) W (h1 : CelAt W (nuI ((cellsL p).map (·.first))) (cellsL p).length A5 c5) (h2 : InsAt W (codeL p) A cap) =>
        imencode_any (imOf p v) ⟨A5, c5, A, cap, none, 0⟩ W ⟨by show CelAt W (nuI ((cellsL p).map (·.first))) ((cellsL p).map (·.first)).length A5 c5; rw [List.length_map]; exact h1, h2, insAt_nil _⟩ himok
      have hval : ∀ (A : Option Addr) (cap : Nat) (A5 : Option Addr) (c5 : Nat), imV (imOf p v) ⟨A5, c5, A, cap, none, 0⟩ = .agg #[.int .u32 v, .int .u32 0, .int .i64 0, .int .i64 (varsOf p).length, .int .i64 (cellsL p).length, .int .i64 (cellsL p).length, .int .i64 p.ins.length, .int .i64 p.outs.length, .slice A5 (cellsL p).length c5, .slice A (codeL p).length cap, .slice none 0 0, .int .i64 (judgeF (codeL p) (frOf p)).1.2, .int .i64 0] := fun A cap A5 c5 => by
        unfold imV imOf frOf
        simp
      have hfrv : frV (frOf p) = .agg #[.int .i64 (varsOf p).length, .int .i64 (cellsL p).length, .int .i64 (cellsL p).length, .int .i64 p.ins.length, .int .i64 p.outs.length] := rfl
      rw [hfrv] at hjud
      simp only [hval] at henc
      obtain ⟨A1, c1, A2, c2, A3, c3, A4, c4⟩ := a
      unfold prV fV frT judgeV at *
      dsimp only at *
      rw [hie]
      clear hg hp hok hf hie hce hcl hv hN hF himok hnuI hfrv hb16 h600 hS
      have ni0 : True := trivial
      generalize hee : encE (imOf p v) = E at *
      generalize hjj : judgeF (codeL p) (frOf p) = J at *
      have HVAL := Lib.hid hval
      clear hval hee
      generalize hnu : nuI ((cellsL p).map (·.first)) = nu at *
      generalize hncl : codeL p = cl at *
      have HNU := Lib.hid hnu
      have HCL := Lib.hid hncl
      clear hnu hncl hjj ni0
      generalize hnv : (varsOf p).length = nv at *
      generalize hnc : (cellsL p).length = nc at *
      generalize hni : p.ins.length = ni at *
      generalize hno : p.outs.length = no at *
      clear hnv
      have HNC := Lib.hid hnc
      clear hnc hni hno
      obtain ⟨El, Ee⟩ := E
      dsimp only at *
      by_cases he : Ee = 0
      · subst he
        rw [if_neg (by decide)]
        go_enter Tryd.func8, Tryd.ntmps8
        go_upto_region 2 with (go_at_call 6; go_loud (refine (hcode _ belA).mono ?_; rintro r wa ⟨⟨A, cap, rfl, hat, hfre⟩, hba⟩))
        refine wp_name fun V hV => ?_
        have hbV : Below wa.heap.size wa V := by rw [hV]; exact bel_alloc (bel_alloc (Below.refl _ _) _) _
        have hi : GenI w V := by rw [hV]; exact (((GenI.new w _ _ _ _).later hba).later (bel_alloc (bel_alloc (Below.refl _ _) _) _))
        have s0 : V.cell? ⟨wa.heap.size + 1, 0, none⟩ = some (.int .i64 0) := by rw [hV]; go_simp
        have s1 : V.cell? ⟨wa.heap.size + 1, 1, none⟩ = some (.int .i64 0) := by rw [hV]; go_simp
        have s2 : V.cell? ⟨wa.heap.size + 1, 2, none⟩ = some (.int .i64 0) := by rw [hV]; go_simp
        have k0 : V.cell? ⟨wa.heap.size, 0, none⟩ = some (.int .i64 nv) := by rw [hV]; go_simp
        have k1 : V.cell? ⟨wa.heap.size, 1, none⟩ = some (.int .i64 nc) := by rw [hV]; go_simp
        have k2 : V.cell? ⟨wa.heap.size, 2, none⟩ = some (.int .i64 nc) := by rw [hV]; go_simp
        have k3 : V.cell? ⟨wa.heap.size, 3, none⟩ = some (.int .i64 ni) := by rw [hV]; go_simp
        have k4 : V.cell? ⟨wa.heap.size, 4, none⟩ = some (.int .i64 no) := by rw [hV]; go_simp
        have p0 : V.cell? ⟨w.heap.size, 0, none⟩ = some (.string p.name) := bel_cell hbV (bel_cell hba (by go_simp))
        have p1 : V.cell? ⟨w.heap.size, 1, none⟩ = some (.slice A1 ni c1) := bel_cell hbV (bel_cell hba (by go_simp))
        have p2 : V.cell? ⟨w.heap.size, 2, none⟩ = some (.slice A2 no c2) := bel_cell hbV (bel_cell hba (by go_simp))
        have p3 : V.cell? ⟨w.heap.size, 3, none⟩ = some (.slice A3 p.locals.length c3) := bel_cell hbV (bel_cell hba (by go_simp))
        have p4 : V.cell? ⟨w.heap.size, 4, none⟩ = some (.slice A4 p.eqs.length c4) := bel_cell hbV (bel_cell hba (by go_simp))
        have hza : w.heap.size + 3 ≤ wa.heap.size := by have := hba.size; simpa using this
        have hzV : wa.heap.size + 2 ≤ V.heap.size := by rw [hV]; simp
        have HI := Lib.hid hi
        have hfre2 : ∀ b off, A = some ⟨b, off, none⟩ → w.heap.size + 3 ≤ b := fun b off h => by have := hfre b off h; simpa using this
        have HFRE := Lib.hid hfre2
        clear hfre hfre2
        have HAT := Lib.hid (hat.later hbV)
        have hyw : w.heap.size < V.heap.size := by omega
        clear hV hi hcode hat hbV hba
        go_upto_region 7 with fail
        refine wp_name fun V2 hV2 => ?_
        have hb2 : Below V.heap.size V V2 := by rw [hV2]; exact bel_alloc (Below.refl _ _) _
        have m0 : V2.cell? ⟨V.heap.size, 0, none⟩ = some (.int .u32 v) := by rw [hV2]; go_simp
        have m1 : V2.cell? ⟨V.heap.size, 1, none⟩ = some (.int .u32 0) := by rw [hV2]; go_simp
        have m2 : V2.cell? ⟨V.heap.size, 2, none⟩ = some (.int .i64 0) := by rw [hV2]; go_simp
        have m3 : V2.cell? ⟨V.heap.size, 3, none⟩ = some (.int .i64 nv) := by rw [hV2]; go_simp
        have m4 : V2.cell? ⟨V.heap.size, 4, none⟩ = some (.int .i64 nc) := by rw [hV2]; go_simp
        have m5 : V2.cell? ⟨V.heap.size, 5, none⟩ = some (.int .i64 nc) := by rw [hV2]; go_simp
        have m6 : V2.cell? ⟨V.heap.size, 6, none⟩ = some (.int .i64 ni) := by rw [hV2]; go_simp
        have m7 : V2.cell? ⟨V.heap.size, 7, none⟩ = some (.int .i64 no) := by rw [hV2]; go_simp
        have m8 : V2.cell? ⟨V.heap.size, 8, none⟩ = some (.slice none 0 0) := by rw [hV2]; go_simp
        have m9 : V2.cell? ⟨V.heap.size, 9, none⟩ = some (.slice A cl.length cap) := by rw [hV2]; go_simp
        have m10 : V2.cell? ⟨V.heap.size, 10, none⟩ = some (.slice none 0 0) := by rw [hV2]; go_simp
        have m11 : V2.cell? ⟨V.heap.size, 11, none⟩ = some (.int .i64 0) := by rw [hV2]; go_simp
        have m12 : V2.cell? ⟨V.heap.size, 12, none⟩ = some (.int .i64 0) := by rw [hV2]; go_simp
        have g8 : V2.frozen? ⟨V.heap.size, 8, none⟩ = false := by rw [hV2]; go_simp
        have g11 : V2.frozen? ⟨V.heap.size, 11, none⟩ = false := by rw [hV2]; go_simp
        have hz2 : V.heap.size < V2.heap.size := by rw [hV2]; simp
        replace p0 := bel_cell hb2 p0
        replace p1 := bel_cell hb2 p1
        replace p2 := bel_cell hb2 p2
        replace p3 := bel_cell hb2 p3
        replace p4 := bel_cell hb2 p4
        replace k0 := bel_cell hb2 k0
        replace k1 := bel_cell hb2 k1
        replace k2 := bel_cell hb2 k2
        replace k3 := bel_cell hb2 k3
        replace k4 := bel_cell hb2 k4
        have HI2 := Lib.hid (HI.out.later hb2)
        have HAT2 := Lib.hid (HAT.out.later hb2)
        have HATV := Lib.hid HAT.out
        clear hV2 hb2 s0 s1 s2 HI HAT
        go_upto_region 8 with (go_at_call 21; go_loud (refine (hfirst _ HI2.out.bel).mono ?_; rintro r wf ⟨⟨vf, rfl, hownf⟩, hbf⟩; obtain ⟨A5, c5, rfl, hatf⟩ := CelAt.of_own hownf; have n8 := bel_cell hbf m8; have o8 : wf.frozen? ⟨V.heap.size, 8, none⟩ = false := (bfrozen hbf _ _ hz2).trans g8))
        refine wp_name fun V3 hV3 => ?_
        have hzf := hbf.size
        have hown3 : V3.ownsRow V2.heap.size 21 1 (.slice A5 nc c5) nc nu := by rw [hV3]; exact own_apart hownf (fun b hb he => by have := (hownf.lt b hb).1; omega) _ _
        have HAT3 : Hid (InsAt V3 cl A cap) := by rw [hV3]; exact Lib.hid (InsAt.set HATV.out (HAT2.out.later hbf) (Nat.le_refl _) _ _)
        have HI3 : Hid (GenI w V3) := by rw [hV3]; exact Lib.hid ((HI2.out.later hbf).set (by omega) _ _)
        have r0 : V3.cell? ⟨V.heap.size, 0, none⟩ = some (.int .u32 v) := by rw [hV3, sc_off _ _ _ _ _ (by decide)]; exact bel_cell hbf m0
        have r1 : V3.cell? ⟨V.heap.size, 1, none⟩ = some (.int .u32 0) := by rw [hV3, sc_off _ _ _ _ _ (by decide)]; exact bel_cell hbf m1
        have r2 : V3.cell? ⟨V.heap.size, 2, none⟩ = some (.int .i64 0) := by rw [hV3, sc_off _ _ _ _ _ (by decide)]; exact bel_cell hbf m2
        have r3 : V3.cell? ⟨V.heap.size, 3, none⟩ = some (.int .i64 nv) := by rw [hV3, sc_off _ _ _ _ _ (by decide)]; exact bel_cell hbf m3
        have r4 : V3.cell? ⟨V.heap.size, 4, none⟩ = some (.int .i64 nc) := by rw [hV3, sc_off _ _ _ _ _ (by decide)]; exact bel_cell hbf m4
        have r5 : V3.cell? ⟨V.heap.size, 5, none⟩ = some (.int .i64 nc) := by rw [hV3, sc_off _ _ _ _ _ (by decide)]; exact bel_cell hbf m5
        have r6 : V3.cell? ⟨V.heap.size, 6, none⟩ = some (.int .i64 ni) := by rw [hV3, sc_off _ _ _ _ _ (by decide)]; exact bel_cell hbf m6
        have r7 : V3.cell? ⟨V.heap.size, 7, none⟩ = some (.int .i64 no) := by rw [hV3, sc_off _ _ _ _ _ (by decide)]; exact bel_cell hbf m7
        have r8 : V3.cell? ⟨V.heap.size, 8, none⟩ = some (.slice A5 nc c5) := by rw [hV3]; exact World.cell?_setCell_same _ _ _ (bel_cell hbf m8)
        have r9 : V3.cell? ⟨V.heap.size, 9, none⟩ = some (.slice A cl.length cap) := by rw [hV3, sc_off _ _ _ _ _ (by decide)]; exact bel_cell hbf m9
        have r10 : V3.cell? ⟨V.heap.size, 10, none⟩ = some (.slice none 0 0) := by rw [hV3, sc_off _ _ _ _ _ (by decide)]; exact bel_cell hbf m10
        have r11 : V3.cell? ⟨V.heap.size, 11, none⟩ = some (.int .i64 0) := by rw [hV3, sc_off _ _ _ _ _ (by decide)]; exact bel_cell hbf m11
        have r12 : V3.cell? ⟨V.heap.size, 12, none⟩ = some (.int .i64 0) := by rw [hV3, sc_off _ _ _ _ _ (by decide)]; exact bel_cell hbf m12
        have g11' : V3.frozen? ⟨V.heap.size, 11, none⟩ = false := by rw [hV3, World.frozen?_setCell]; exact (bfrozen hbf _ _ hz2).trans g11
        replace k0 : V3.cell? ⟨wa.heap.size, 0, none⟩ = some (.int .i64 nv) := by rw [hV3, sc_blk _ _ _ _ _ _ (by omega)]; exact bel_cell hbf k0
        replace k1 : V3.cell? ⟨wa.heap.size, 1, none⟩ = some (.int .i64 nc) := by rw [hV3, sc_blk _ _ _ _ _ _ (by omega)]; exact bel_cell hbf k1
        replace k2 : V3.cell? ⟨wa.heap.size, 2, none⟩ = some (.int .i64 nc) := by rw [hV3, sc_blk _ _ _ _ _ _ (by omega)]; exact bel_cell hbf k2
        replace k3 : V3.cell? ⟨wa.heap.size, 3, none⟩ = some (.int .i64 ni) := by rw [hV3, sc_blk _ _ _ _ _ _ (by omega)]; exact bel_cell hbf k3
        replace k4 : V3.cell? ⟨wa.heap.size, 4, none⟩ = some (.int .i64 no) := by rw [hV3, sc_blk _ _ _ _ _ _ (by omega)]; exact bel_cell hbf k4
        have hz3 : V2.heap.size ≤ V3.heap.size := by rw [hV3]; simpa using hzf
        have hzg : V.heap.size < V3.heap.size := by omega
        have HOWN3 := Lib.hid hown3
        clear hV3 hatf hownf hfirst m0 m1 m2 m3 m4 m5 m6 m7 m8 m9 m10 m11 m12 g8 g11 n8 o8 p0 p1 p2 p3 p4 hown3 hbf HAT2 HI2
        go_upto_region 10 with (go_at_call 7; go_loud (refine (hjud A cap _ HAT3.out).mono ?_; rintro r wj ⟨rfl, hbj⟩; have q11 := bel_cell hbj r11; have o11 : wj.frozen? ⟨V.heap.size, 11, none⟩ = false := (bfrozen hbj _ _ hzg).trans g11'; have hzj : V.heap.size < wj.heap.size := (by have := hbj.size; omega)))
        refine wp_name fun V4 hV4 => ?_
        have hzj2 := hbj.size
        have hown4 : V4.ownsRow V2.heap.size 21 1 (.slice A5 nc c5) nc nu := by rw [hV4]; exact own_alloc (own_apart (own_bel HOWN3.out hbj) (fun b hb he => by have := (HOWN3.out.lt b hb).1; omega) _ _)
        have HAT4 : Hid (InsAt V4 cl A cap) := by rw [hV4]; exact Lib.hid ((InsAt.set HATV.out (HAT3.out.later hbj) (Nat.le_refl _) _ _).later (bel_alloc (Below.refl _ _) _))
        have HI4 : Hid (GenI w V4) := by rw [hV4]; exact Lib.hid (((HI3.out.later hbj).set (by omega) _ _).later (bel_alloc (Below.refl _ _) _))
        have t0 : V4.cell? ⟨V.heap.size, 0, none⟩ = some (.int .u32 v) := by rw [hV4]; exact cel_alloc ((sc_off _ _ _ _ _ (by decide)).trans (bel_cell hbj r0))
        have t1 : V4.cell? ⟨V.heap.size, 1, none⟩ = some (.int .u32 0) := by rw [hV4]; exact cel_alloc ((sc_off _ _ _ _ _ (by decide)).trans (bel_cell hbj r1))
        have t2 : V4.cell? ⟨V.heap.size, 2, none⟩ = some (.int .i64 0) := by rw [hV4]; exact cel_alloc ((sc_off _ _ _ _ _ (by decide)).trans (bel_cell hbj r2))
        have t3 : V4.cell? ⟨V.heap.size, 3, none⟩ = some (.int .i64 nv) := by rw [hV4]; exact cel_alloc ((sc_off _ _ _ _ _ (by decide)).trans (bel_cell hbj r3))
        have t4 : V4.cell? ⟨V.heap.size, 4, none⟩ = some (.int .i64 nc) := by rw [hV4]; exact cel_alloc ((sc_off _ _ _ _ _ (by decide)).trans (bel_cell hbj r4))
        have t5 : V4.cell? ⟨V.heap.size, 5, none⟩ = some (.int .i64 nc) := by rw [hV4]; exact cel_alloc ((sc_off _ _ _ _ _ (by decide)).trans (bel_cell hbj r5))
        have t6 : V4.cell? ⟨V.heap.size, 6, none⟩ = some (.int .i64 ni) := by rw [hV4]; exact cel_alloc ((sc_off _ _ _ _ _ (by decide)).trans (bel_cell hbj r6))
        have t7 : V4.cell? ⟨V.heap.size, 7, none⟩ = some (.int .i64 no) := by rw [hV4]; exact cel_alloc ((sc_off _ _ _ _ _ (by decide)).trans (bel_cell hbj r7))
        have t8 : V4.cell? ⟨V.heap.size, 8, none⟩ = some (.slice A5 nc c5) := by rw [hV4]; exact cel_alloc ((sc_off _ _ _ _ _ (by decide)).trans (bel_cell hbj r8))
        have t9 : V4.cell? ⟨V.heap.size, 9, none⟩ = some (.slice A cl.length cap) := by rw [hV4]; exact cel_alloc ((sc_off _ _ _ _ _ (by decide)).trans (bel_cell hbj r9))
        have t10 : V4.cell? ⟨V.heap.size, 10, none⟩ = some (.slice none 0 0) := by rw [hV4]; exact cel_alloc ((sc_off _ _ _ _ _ (by decide)).trans (bel_cell hbj r10))
        have t11 : V4.cell? ⟨V.heap.size, 11, none⟩ = some (.int .i64 J.1.2) := by rw [hV4]; exact cel_alloc (World.cell?_setCell_same _ _ _ (bel_cell hbj r11))
        have t12 : V4.cell? ⟨V.heap.size, 12, none⟩ = some (.int .i64 0) := by rw [hV4]; exact cel_alloc ((sc_off _ _ _ _ _ (by decide)).trans (bel_cell hbj r12))
        have hz4 : V.heap.size < V4.heap.size := by rw [hV4]; simp; omega
        have HOWN4 := Lib.hid hown4
        clear hV4 r0 r1 r2 r3 r4 r5 r6 r7 r8 r9 r10 r11 r12 g11' hown4 HOWN3 HAT3 HI3 hjud q11 o11 k0 k1 k2 k3 k4 hbj
        go_upto_region 11 with (go_at_call 9; go_loud (refine (henc A cap A5 c5 _ (CelAt.own2 HOWN4.out) HAT4.out).mono ?_; rintro r we ⟨⟨Ae, ce, rfl⟩, hbe⟩))
        refine wp_name fun V5 hV5 => ?_
        have hb5 : Below V4.heap.size V4 V5 := by rw [hV5]; exact hbe
        have hi5 := HI4.out.later hb5
        have z0 : V5.cell? ⟨w.heap.size + 1, 0, none⟩ = some (.int .u32 0) := hi5.z 0 _ rfl
        have z1 : V5.cell? ⟨w.heap.size + 1, 1, none⟩ = some (.int .u32 0) := hi5.z 1 _ rfl
        have z2 : V5.cell? ⟨w.heap.size + 1, 2, none⟩ = some (.int .i64 0) := hi5.z 2 _ rfl
        have z3 : V5.cell? ⟨w.heap.size + 1, 3, none⟩ = some (.int .i64 0) := hi5.z 3 _ rfl
        have z4 : V5.cell? ⟨w.heap.size + 1, 4, none⟩ = some (.int .i64 0) := hi5.z 4 _ rfl
        have z5 : V5.cell? ⟨w.heap.size + 1, 5, none⟩ = some (.int .i64 0) := hi5.z 5 _ rfl
        have z6 : V5.cell? ⟨w.heap.size + 1, 6, none⟩ = some (.int .i64 0) := hi5.z 6 _ rfl
        have z7 : V5.cell? ⟨w.heap.size + 1, 7, none⟩ = some (.int .i64 0) := hi5.z 7 _ rfl
        have z8 : V5.cell? ⟨w.heap.size + 1, 8, none⟩ = some (.slice none 0 0) := hi5.z 8 _ rfl
        have z9 : V5.cell? ⟨w.heap.size + 1, 9, none⟩ = some (.slice none 0 0) := hi5.z 9 _ rfl
        have z10 : V5.cell? ⟨w.heap.size + 1, 10, none⟩ = some (.slice none 0 0) := hi5.z 10 _ rfl
        have z11 : V5.cell? ⟨w.heap.size + 1, 11, none⟩ = some (.int .i64 0) := hi5.z 11 _ rfl
        have z12 : V5.cell? ⟨w.heap.size + 1, 12, none⟩ = some (.int .i64 0) := hi5.z 12 _ rfl
        have y0 : V5.frozen? ⟨w.heap.size + 1, 0, none⟩ = false := hi5.fz 0
        have y1 : V5.frozen? ⟨w.heap.size + 1, 1, none⟩ = false := hi5.fz 1
        have y2 : V5.frozen? ⟨w.heap.size + 1, 2, none⟩ = false := hi5.fz 2
        have y3 : V5.frozen? ⟨w.heap.size + 1, 3, none⟩ = false := hi5.fz 3
        have y4 : V5.frozen? ⟨w.heap.size + 1, 4, none⟩ = false := hi5.fz 4
        have y5 : V5.frozen? ⟨w.heap.size + 1, 5, none⟩ = false := hi5.fz 5
        have y6 : V5.frozen? ⟨w.heap.size + 1, 6, none⟩ = false := hi5.fz 6
        have y7 : V5.frozen? ⟨w.heap.size + 1, 7, none⟩ = false := hi5.fz 7
        have y8 : V5.frozen? ⟨w.heap.size + 1, 8, none⟩ = false := hi5.fz 8
        have y9 : V5.frozen? ⟨w.heap.size + 1, 9, none⟩ = false := hi5.fz 9
        have y10 : V5.frozen? ⟨w.heap.size + 1, 10, none⟩ = false := hi5.fz 10
        have y11 : V5.frozen? ⟨w.heap.size + 1, 11, none⟩ = false := hi5.fz 11
        have y12 : V5.frozen? ⟨w.heap.size + 1, 12, none⟩ = false := hi5.fz 12
        have f0 : V5.cell? ⟨w.heap.size + 1 + 1, 0, none⟩ = some (.int .i64 0) := hi5.f.1
        have f1 : V5.cell? ⟨w.heap.size + 1 + 1, 1, none⟩ = some (.int .i64 0) := hi5.f.2.1
        have f2 : V5.cell? ⟨w.heap.size + 1 + 1, 2, none⟩ = some (.int .i64 0) := hi5.f.2.2
        have ff0 : V5.frozen? ⟨w.heap.size + 1 + 1, 0, none⟩ = false := hi5.ff 0
        have ff1 : V5.frozen? ⟨w.heap.size + 1 + 1, 1, none⟩ = false := hi5.ff 1
        have ff2 : V5.frozen? ⟨w.heap.size + 1 + 1, 2, none⟩ = false := hi5.ff 2
        have HI5 := Lib.hid hi5
        have HOWN5 := Lib.hid (own_bel HOWN4.out hb5)
        have HAT5 := Lib.hid (HAT4.out.later hb5)
        have x0 : V5.cell? ⟨V.heap.size, 0, none⟩ = some (.int .u32 v) := bel_cell hb5 t0
        have x1 : V5.cell? ⟨V.heap.size, 1, none⟩ = some (.int .u32 0) := bel_cell hb5 t1
        have x2 : V5.cell? ⟨V.heap.size, 2, none⟩ = some (.int .i64 0) := bel_cell hb5 t2
        have x3 : V5.cell? ⟨V.heap.size, 3, none⟩ = some (.int .i64 nv) := bel_cell hb5 t3
        have x4 : V5.cell? ⟨V.heap.size, 4, none⟩ = some (.int .i64 nc) := bel_cell hb5 t4
        have x5 : V5.cell? ⟨V.heap.size, 5, none⟩ = some (.int .i64 nc) := bel_cell hb5 t5
        have x6 : V5.cell? ⟨V.heap.size, 6, none⟩ = some (.int .i64 ni) := bel_cell hb5 t6
        have x7 : V5.cell? ⟨V.heap.size, 7, none⟩ = some (.int .i64 no) := bel_cell hb5 t7
        have x8 : V5.cell? ⟨V.heap.size, 8, none⟩ = some (.slice A5 nc c5) := bel_cell hb5 t8
        have x9 : V5.cell? ⟨V.heap.size, 9, none⟩ = some (.slice A cl.length cap) := bel_cell hb5 t9
        have x10 : V5.cell? ⟨V.heap.size, 10, none⟩ = some (.slice none 0 0) := bel_cell hb5 t10
        have x11 : V5.cell? ⟨V.heap.size, 11, none⟩ = some (.int .i64 J.1.2) := bel_cell hb5 t11
        have x12 : V5.cell? ⟨V.heap.size, 12, none⟩ = some (.int .i64 0) := bel_cell hb5 t12
        clear hi5 hV5 hb5 hbe HI4 HOWN4 HAT4
        go_wp2_with fail
        refine bodyPost_ret (v := .tuple #[.agg #[.int .u32 v, .int .u32 0, .int .i64 0, .int .i64 nv, .int .i64 nc, .int .i64 nc, .int .i64 ni, .int .i64 no, .slice A5 nc c5, .slice A cl.length cap, .slice none 0 0, .int .i64 J.1.2, .int .i64 0], .agg #[.int .i64 0, .int .i64 0, .int .i64 0]]) (by simp [results, Tryd.results8, go_sem, *]) rfl ⟨⟨⟨A5, c5, A, cap, none, 0⟩, by rw [HVAL.out], ?_⟩, ?_⟩
        · have hst : InsAt V5 cl A cap := HAT5.out
          have hfi := HOWN5.out
          refine ⟨?_, ?_, insAt_nil _⟩
          · show CelAt _ (nuI ((cellsL p).map (·.first))) ((cellsL p).map (·.first)).length A5 c5
            rw [List.length_map, HNU.out, HNC.out]
            refine CelAt.own2 (base := V2.heap.size) (e := 21) ?_
            repeat (first | (with_reducible exact hfi) | refine own_apart ?_ (fun b hb he => by have := (hfi.lt b hb).1; omega) _ _)
          · show InsAt _ (codeL p) A cap
            rw [HCL.out]
            repeat (first | (with_reducible exact hst) | refine InsAt.off ?_ (fun b off h => by have := HFRE.out b off h; omega) _ _)
        · repeat (first | (with_reducible exact HI5.out.bel) | refine Below.setCell ?_ (show w.heap.size ≤ w.heap.size + 1 by omega) _)
      · rw [if_pos he]
        have te : (Ee != 0) = true := by simpa using he
        clear he
        go_enter Tryd.func8, Tryd.ntmps8
        go_upto_region 2 with (go_at_call 6; go_loud (refine (hcode _ belA).mono ?_; rintro r wa ⟨⟨A, cap, rfl, hat, hfre⟩, hba⟩))
        refine wp_name fun V hV => ?_
        have hbV : Below wa.heap.size wa V := by rw [hV]; exact bel_alloc (bel_alloc (Below.refl _ _) _) _
        have hi : GenI w V := by rw [hV]; exact (((GenI.new w _ _ _ _).later hba).later (bel_alloc (bel_alloc (Below.refl _ _) _) _))
        have s0 : V.cell? ⟨wa.heap.size + 1, 0, none⟩ = some (.int .i64 0) := by rw [hV]; go_simp
        have s1 : V.cell? ⟨wa.heap.size + 1, 1, none⟩ = some (.int .i64 0) := by rw [hV]; go_simp
        have s2 : V.cell? ⟨wa.heap.size + 1, 2, none⟩ = some (.int .i64 0) := by rw [hV]; go_simp
        have k0 : V.cell? ⟨wa.heap.size, 0, none⟩ = some (.int .i64 nv) := by rw [hV]; go_simp
        have k1 : V.cell? ⟨wa.heap.size, 1, none⟩ = some (.int .i64 nc) := by rw [hV]; go_simp
        have k2 : V.cell? ⟨wa.heap.size, 2, none⟩ = some (.int .i64 nc) := by rw [hV]; go_simp
        have k3 : V.cell? ⟨wa.heap.size, 3, none⟩ = some (.int .i64 ni) := by rw [hV]; go_simp
        have k4 : V.cell? ⟨wa.heap.size, 4, none⟩ = some (.int .i64 no) := by rw [hV]; go_simp
        have p0 : V.cell? ⟨w.heap.size, 0, none⟩ = some (.string p.name) := bel_cell hbV (bel_cell hba (by go_simp))
        have p1 : V.cell? ⟨w.heap.size, 1, none⟩ = some (.slice A1 ni c1) := bel_cell hbV (bel_cell hba (by go_simp))
        have p2 : V.cell? ⟨w.heap.size, 2, none⟩ = some (.slice A2 no c2) := bel_cell hbV (bel_cell hba (by go_simp))
        have p3 : V.cell? ⟨w.heap.size, 3, none⟩ = some (.slice A3 p.locals.length c3) := bel_cell hbV (bel_cell hba (by go_simp))
        have p4 : V.cell? ⟨w.heap.size, 4, none⟩ = some (.slice A4 p.eqs.length c4) := bel_cell hbV (bel_cell hba (by go_simp))
        have hza : w.heap.size + 3 ≤ wa.heap.size := by have := hba.size; simpa using this
        have hzV : wa.heap.size + 2 ≤ V.heap.size := by rw [hV]; simp
        have HI := Lib.hid hi
        have hfre2 : ∀ b off, A = some ⟨b, off, none⟩ → w.heap.size + 3 ≤ b := fun b off h => by have := hfre b off h; simpa using this
        have HFRE := Lib.hid hfre2
        clear hfre hfre2
        have HAT := Lib.hid (hat.later hbV)
        have hyw : w.heap.size < V.heap.size := by omega
        clear hV hi hcode hat hbV hba
        go_upto_region 7 with fail
        refine wp_name fun V2 hV2 => ?_
        have hb2 : Below V.heap.size V V2 := by rw [hV2]; exact bel_alloc (Below.refl _ _) _
        have m0 : V2.cell? ⟨V.heap.size, 0, none⟩ = some (.int .u32 v) := by rw [hV2]; go_simp
        have m1 : V2.cell? ⟨V.heap.size, 1, none⟩ = some (.int .u32 0) := by rw [hV2]; go_simp
        have m2 : V2.cell? ⟨V.heap.size, 2, none⟩ = some (.int .i64 0) := by rw [hV2]; go_simp
        have m3 : V2.cell? ⟨V.heap.size, 3, none⟩ = some (.int .i64 nv) := by rw [hV2]; go_simp
        have m4 : V2.cell? ⟨V.heap.size, 4, none⟩ = some (.int .i64 nc) := by rw [hV2]; go_simp
        have m5 : V2.cell? ⟨V.heap.size, 5, none⟩ = some (.int .i64 nc) := by rw [hV2]; go_simp
        have m6 : V2.cell? ⟨V.heap.size, 6, none⟩ = some (.int .i64 ni) := by rw [hV2]; go_simp
        have m7 : V2.cell? ⟨V.heap.size, 7, none⟩ = some (.int .i64 no) := by rw [hV2]; go_simp
        have m8 : V2.cell? ⟨V.heap.size, 8, none⟩ = some (.slice none 0 0) := by rw [hV2]; go_simp
        have m9 : V2.cell? ⟨V.heap.size, 9, none⟩ = some (.slice A cl.length cap) := by rw [hV2]; go_simp
        have m10 : V2.cell? ⟨V.heap.size, 10, none⟩ = some (.slice none 0 0) := by rw [hV2]; go_simp
        have m11 : V2.cell? ⟨V.heap.size, 11, none⟩ = some (.int .i64 0) := by rw [hV2]; go_simp
        have m12 : V2.cell? ⟨V.heap.size, 12, none⟩ = some (.int .i64 0) := by rw [hV2]; go_simp
        have g8 : V2.frozen? ⟨V.heap.size, 8, none⟩ = false := by rw [hV2]; go_simp
        have g11 : V2.frozen? ⟨V.heap.size, 11, none⟩ = false := by rw [hV2]; go_simp
        have hz2 : V.heap.size < V2.heap.size := by rw [hV2]; simp
        replace p0 := bel_cell hb2 p0
        replace p1 := bel_cell hb2 p1
        replace p2 := bel_cell hb2 p2
        replace p3 := bel_cell hb2 p3
        replace p4 := bel_cell hb2 p4
        replace k0 := bel_cell hb2 k0
        replace k1 := bel_cell hb2 k1
        replace k2 := bel_cell hb2 k2
        replace k3 := bel_cell hb2 k3
        replace k4 := bel_cell hb2 k4
        have HI2 := Lib.hid (HI.out.later hb2)
        have HAT2 := Lib.hid (HAT.out.later hb2)
        have HATV := Lib.hid HAT.out
        clear hV2 hb2 s0 s1 s2 HI HAT
        go_upto_region 8 with (go_at_call 21; go_loud (refine (hfirst _ HI2.out.bel).mono ?_; rintro r wf ⟨⟨vf, rfl, hownf⟩, hbf⟩; obtain ⟨A5, c5, rfl, hatf⟩ := CelAt.of_own hownf; have n8 := bel_cell hbf m8; have o8 : wf.frozen? ⟨V.heap.size, 8, none⟩ = false := (bfrozen hbf _ _ hz2).trans g8))
        refine wp_name fun V3 hV3 => ?_
        have hzf := hbf.size
        have hown3 : V3.ownsRow V2.heap.size 21 1 (.slice A5 nc c5) nc nu := by rw [hV3]; exact own_apart hownf (fun b hb he => by have := (hownf.lt b hb).1; omega) _ _
        have HAT3 : Hid (InsAt V3 cl A cap) := by rw [hV3]; exact Lib.hid (InsAt.set HATV.out (HAT2.out.later hbf) (Nat.le_refl _) _ _)
        have HI3 : Hid (GenI w V3) := by rw [hV3]; exact Lib.hid ((HI2.out.later hbf).set (by omega) _ _)
        have r0 : V3.cell? ⟨V.heap.size, 0, none⟩ = some (.int .u32 v) := by rw [hV3, sc_off _ _ _ _ _ (by decide)]; exact bel_cell hbf m0
        have r1 : V3.cell? ⟨V.heap.size, 1, none⟩ = some (.int .u32 0) := by rw [hV3, sc_off _ _ _ _ _ (by decide)]; exact bel_cell hbf m1
        have r2 : V3.cell? ⟨V.heap.size, 2, none⟩ = some (.int .i64 0) := by rw [hV3, sc_off _ _ _ _ _ (by decide)]; exact bel_cell hbf m2
        have r3 : V3.cell? ⟨V.heap.size, 3, none⟩ = some (.int .i64 nv) := by rw [hV3, sc_off _ _ _ _ _ (by decide)]; exact bel_cell hbf m3
        have r4 : V3.cell? ⟨V.heap.size, 4, none⟩ = some (.int .i64 nc) := by rw [hV3, sc_off _ _ _ _ _ (by decide)]; exact bel_cell hbf m4
        have r5 : V3.cell? ⟨V.heap.size, 5, none⟩ = some (.int .i64 nc) := by rw [hV3, sc_off _ _ _ _ _ (by decide)]; exact bel_cell hbf m5
        have r6 : V3.cell? ⟨V.heap.size, 6, none⟩ = some (.int .i64 ni) := by rw [hV3, sc_off _ _ _ _ _ (by decide)]; exact bel_cell hbf m6
        have r7 : V3.cell? ⟨V.heap.size, 7, none⟩ = some (.int .i64 no) := by rw [hV3, sc_off _ _ _ _ _ (by decide)]; exact bel_cell hbf m7
        have r8 : V3.cell? ⟨V.heap.size, 8, none⟩ = some (.slice A5 nc c5) := by rw [hV3]; exact World.cell?_setCell_same _ _ _ (bel_cell hbf m8)
        have r9 : V3.cell? ⟨V.heap.size, 9, none⟩ = some (.slice A cl.length cap) := by rw [hV3, sc_off _ _ _ _ _ (by decide)]; exact bel_cell hbf m9
        have r10 : V3.cell? ⟨V.heap.size, 10, none⟩ = some (.slice none 0 0) := by rw [hV3, sc_off _ _ _ _ _ (by decide)]; exact bel_cell hbf m10
        have r11 : V3.cell? ⟨V.heap.size, 11, none⟩ = some (.int .i64 0) := by rw [hV3, sc_off _ _ _ _ _ (by decide)]; exact bel_cell hbf m11
        have r12 : V3.cell? ⟨V.heap.size, 12, none⟩ = some (.int .i64 0) := by rw [hV3, sc_off _ _ _ _ _ (by decide)]; exact bel_cell hbf m12
        have g11' : V3.frozen? ⟨V.heap.size, 11, none⟩ = false := by rw [hV3, World.frozen?_setCell]; exact (bfrozen hbf _ _ hz2).trans g11
        replace k0 : V3.cell? ⟨wa.heap.size, 0, none⟩ = some (.int .i64 nv) := by rw [hV3, sc_blk _ _ _ _ _ _ (by omega)]; exact bel_cell hbf k0
        replace k1 : V3.cell? ⟨wa.heap.size, 1, none⟩ = some (.int .i64 nc) := by rw [hV3, sc_blk _ _ _ _ _ _ (by omega)]; exact bel_cell hbf k1
        replace k2 : V3.cell? ⟨wa.heap.size, 2, none⟩ = some (.int .i64 nc) := by rw [hV3, sc_blk _ _ _ _ _ _ (by omega)]; exact bel_cell hbf k2
        replace k3 : V3.cell? ⟨wa.heap.size, 3, none⟩ = some (.int .i64 ni) := by rw [hV3, sc_blk _ _ _ _ _ _ (by omega)]; exact bel_cell hbf k3
        replace k4 : V3.cell? ⟨wa.heap.size, 4, none⟩ = some (.int .i64 no) := by rw [hV3, sc_blk _ _ _ _ _ _ (by omega)]; exact bel_cell hbf k4
        have hz3 : V2.heap.size ≤ V3.heap.size := by rw [hV3]; simpa using hzf
        have hzg : V.heap.size < V3.heap.size := by omega
        have HOWN3 := Lib.hid hown3
        clear hV3 hatf hownf hfirst m0 m1 m2 m3 m4 m5 m6 m7 m8 m9 m10 m11 m12 g8 g11 n8 o8 p0 p1 p2 p3 p4 hown3 hbf HAT2 HI2
        go_upto_region 10 with (go_at_call 7; go_loud (refine (hjud A cap _ HAT3.out).mono ?_; rintro r wj ⟨rfl, hbj⟩; have q11 := bel_cell hbj r11; have o11 : wj.frozen? ⟨V.heap.size, 11, none⟩ = false := (bfrozen hbj _ _ hzg).trans g11'; have hzj : V.heap.size < wj.heap.size := (by have := hbj.size; omega)))
        refine wp_name fun V4 hV4 => ?_
        have hzj2 := hbj.size
        have hown4 : V4.ownsRow V2.heap.size 21 1 (.slice A5 nc c5) nc nu := by rw [hV4]; exact own_alloc (own_apart (own_bel HOWN3.out hbj) (fun b hb he => by have := (HOWN3.out.lt b hb).1; omega) _ _)
        have HAT4 : Hid (InsAt V4 cl A cap) := by rw [hV4]; exact Lib.hid ((InsAt.set HATV.out (HAT3.out.later hbj) (Nat.le_refl _) _ _).later (bel_alloc (Below.refl _ _) _))
        have HI4 : Hid (GenI w V4) := by rw [hV4]; exact Lib.hid (((HI3.out.later hbj).set (by omega) _ _).later (bel_alloc (Below.refl _ _) _))
        have t0 : V4.cell? ⟨V.heap.size, 0, none⟩ = some (.int .u32 v) := by rw [hV4]; exact cel_alloc ((sc_off _ _ _ _ _ (by decide)).trans (bel_cell hbj r0))
        have t1 : V4.cell? ⟨V.heap.size, 1, none⟩ = some (.int .u32 0) := by rw [hV4]; exact cel_alloc ((sc_off _ _ _ _ _ (by decide)).trans (bel_cell hbj r1))
        have t2 : V4.cell? ⟨V.heap.size, 2, none⟩ = some (.int .i64 0) := by rw [hV4]; exact cel_alloc ((sc_off _ _ _ _ _ (by decide)).trans (bel_cell hbj r2))
        have t3 : V4.cell? ⟨V.heap.size, 3, none⟩ = some (.int .i64 nv) := by rw [hV4]; exact cel_alloc ((sc_off _ _ _ _ _ (by decide)).trans (bel_cell hbj r3))
        have t4 : V4.cell? ⟨V.heap.size, 4, none⟩ = some (.int .i64 nc) := by rw [hV4]; exact cel_alloc ((sc_off _ _ _ _ _ (by decide)).trans (bel_cell hbj r4))
        have t5 : V4.cell? ⟨V.heap.size, 5, none⟩ = some (.int .i64 nc) := by rw [hV4]; exact cel_alloc ((sc_off _ _ _ _ _ (by decide)).trans (bel_cell hbj r5))
        have t6 : V4.cell? ⟨V.heap.size, 6, none⟩ = some (.int .i64 ni) := by rw [hV4]; exact cel_alloc ((sc_off _ _ _ _ _ (by decide)).trans (bel_cell hbj r6))
        have t7 : V4.cell? ⟨V.heap.size, 7, none⟩ = some (.int .i64 no) := by rw [hV4]; exact cel_alloc ((sc_off _ _ _ _ _ (by decide)).trans (bel_cell hbj r7))
        have t8 : V4.cell? ⟨V.heap.size, 8, none⟩ = some (.slice A5 nc c5) := by rw [hV4]; exact cel_alloc ((sc_off _ _ _ _ _ (by decide)).trans (bel_cell hbj r8))
        have t9 : V4.cell? ⟨V.heap.size, 9, none⟩ = some (.slice A cl.length cap) := by rw [hV4]; exact cel_alloc ((sc_off _ _ _ _ _ (by decide)).trans (bel_cell hbj r9))
        have t10 : V4.cell? ⟨V.heap.size, 10, none⟩ = some (.slice none 0 0) := by rw [hV4]; exact cel_alloc ((sc_off _ _ _ _ _ (by decide)).trans (bel_cell hbj r10))
        have t11 : V4.cell? ⟨V.heap.size, 11, none⟩ = some (.int .i64 J.1.2) := by rw [hV4]; exact cel_alloc (World.cell?_setCell_same _ _ _ (bel_cell hbj r11))
        have t12 : V4.cell? ⟨V.heap.size, 12, none⟩ = some (.int .i64 0) := by rw [hV4]; exact cel_alloc ((sc_off _ _ _ _ _ (by decide)).trans (bel_cell hbj r12))
        have hz4 : V.heap.size < V4.heap.size := by rw [hV4]; simp; omega
        have HOWN4 := Lib.hid hown4
        clear hV4 r0 r1 r2 r3 r4 r5 r6 r7 r8 r9 r10 r11 r12 g11' hown4 HOWN3 HAT3 HI3 hjud q11 o11 k0 k1 k2 k3 k4 hbj
        go_upto_region 11 with (go_at_call 9; go_loud (refine (henc A cap A5 c5 _ (CelAt.own2 HOWN4.out) HAT4.out).mono ?_; rintro r we ⟨⟨Ae, ce, rfl⟩, hbe⟩))
        refine wp_name fun V5 hV5 => ?_
        have hb5 : Below V4.heap.size V4 V5 := by rw [hV5]; exact hbe
        have hi5 := HI4.out.later hb5
        have z0 : V5.cell? ⟨w.heap.size + 1, 0, none⟩ = some (.int .u32 0) := hi5.z 0 _ rfl
        have z1 : V5.cell? ⟨w.heap.size + 1, 1, none⟩ = some (.int .u32 0) := hi5.z 1 _ rfl
        have z2 : V5.cell? ⟨w.heap.size + 1, 2, none⟩ = some (.int .i64 0) := hi5.z 2 _ rfl
        have z3 : V5.cell? ⟨w.heap.size + 1, 3, none⟩ = some (.int .i64 0) := hi5.z 3 _ rfl
        have z4 : V5.cell? ⟨w.heap.size + 1, 4, none⟩ = some (.int .i64 0) := hi5.z 4 _ rfl
        have z5 : V5.cell? ⟨w.heap.size + 1, 5, none⟩ = some (.int .i64 0) := hi5.z 5 _ rfl
        have z6 : V5.cell? ⟨w.heap.size + 1, 6, none⟩ = some (.int .i64 0) := hi5.z 6 _ rfl
        have z7 : V5.cell? ⟨w.heap.size + 1, 7, none⟩ = some (.int .i64 0) := hi5.z 7 _ rfl
        have z8 : V5.cell? ⟨w.heap.size + 1, 8, none⟩ = some (.slice none 0 0) := hi5.z 8 _ rfl
        have z9 : V5.cell? ⟨w.heap.size + 1, 9, none⟩ = some (.slice none 0 0) := hi5.z 9 _ rfl
        have z10 : V5.cell? ⟨w.heap.size + 1, 10, none⟩ = some (.slice none 0 0) := hi5.z 10 _ rfl
        have z11 : V5.cell? ⟨w.heap.size + 1, 11, none⟩ = some (.int .i64 0) := hi5.z 11 _ rfl
        have z12 : V5.cell? ⟨w.heap.size + 1, 12, none⟩ = some (.int .i64 0) := hi5.z 12 _ rfl
        have y0 : V5.frozen? ⟨w.heap.size + 1, 0, none⟩ = false := hi5.fz 0
        have y1 : V5.frozen? ⟨w.heap.size + 1, 1, none⟩ = false := hi5.fz 1
        have y2 : V5.frozen? ⟨w.heap.size + 1, 2, none⟩ = false := hi5.fz 2
        have y3 : V5.frozen? ⟨w.heap.size + 1, 3, none⟩ = false := hi5.fz 3
        have y4 : V5.frozen? ⟨w.heap.size + 1, 4, none⟩ = false := hi5.fz 4
        have y5 : V5.frozen? ⟨w.heap.size + 1, 5, none⟩ = false := hi5.fz 5
        have y6 : V5.frozen? ⟨w.heap.size + 1, 6, none⟩ = false := hi5.fz 6
        have y7 : V5.frozen? ⟨w.heap.size + 1, 7, none⟩ = false := hi5.fz 7
        have y8 : V5.frozen? ⟨w.heap.size + 1, 8, none⟩ = false := hi5.fz 8
        have y9 : V5.frozen? ⟨w.heap.size + 1, 9, none⟩ = false := hi5.fz 9
        have y10 : V5.frozen? ⟨w.heap.size + 1, 10, none⟩ = false := hi5.fz 10
        have y11 : V5.frozen? ⟨w.heap.size + 1, 11, none⟩ = false := hi5.fz 11
        have y12 : V5.frozen? ⟨w.heap.size + 1, 12, none⟩ = false := hi5.fz 12
        have f0 : V5.cell? ⟨w.heap.size + 1 + 1, 0, none⟩ = some (.int .i64 0) := hi5.f.1
        have f1 : V5.cell? ⟨w.heap.size + 1 + 1, 1, none⟩ = some (.int .i64 0) := hi5.f.2.1
        have f2 : V5.cell? ⟨w.heap.size + 1 + 1, 2, none⟩ = some (.int .i64 0) := hi5.f.2.2
        have ff0 : V5.frozen? ⟨w.heap.size + 1 + 1, 0, none⟩ = false := hi5.ff 0
        have ff1 : V5.frozen? ⟨w.heap.size + 1 + 1, 1, none⟩ = false := hi5.ff 1
        have ff2 : V5.frozen? ⟨w.heap.size + 1 + 1, 2, none⟩ = false := hi5.ff 2
        have HI5 := Lib.hid hi5
        have HOWN5 := Lib.hid (own_bel HOWN4.out hb5)
        have HAT5 := Lib.hid (HAT4.out.later hb5)
        clear hi5 hV5 hb5 hbe HI4 HOWN4 HAT4
        go_wp2_with fail
        refine bodyPost_ret (v := .tuple #[.agg #[.int .u32 0, .int .u32 0, .int .i64 0, .int .i64 0, .int .i64 0, .int .i64 0, .int .i64 0, .int .i64 0, .slice none 0 0, .slice none 0 0, .slice none 0 0, .int .i64 0, .int .i64 0], .agg #[.int .i64 4, .int .i64 0, .int .i64 Ee]]) (by simp [results, Tryd.results8, go_sem, *]) rfl ⟨⟨⟨none, 0, none, 0, none, 0⟩, rfl, imAt_zero _⟩, ?_⟩
        exact Below.setCell (Below.setCell HI5.out.bel (show w.heap.size ≤ w.heap.size + 1 + 1 by omega) _) (show w.heap.size ≤ w.heap.size + 1 + 1 by omega) _
  · have hv : imE p v = (Im.zero, (codeE p).2.2) := by unfold imE; rw [if_pos hf]
    rw [hv]
    have hne : ((codeE p).2.2.1 == 0 && (codeE p).2.2.2.1 == 0 && (codeE p).2.2.2.2 == 0) = false := by
      rw [Bool.eq_false_iff]
      intro h
      simp only [Bool.and_eq_true, beq_iff_eq] at h
      exact hf (Prod.ext h.1.1 (Prod.ext h.1.2 h.2))
    have hfq : ∀ w, (Op.equalIn 10000 34 (.agg #[.int .i64 (codeE p).2.2.1, .int .i64 (codeE p).2.2.2.1, .int .i64 (codeE p).2.2.2.2]) (.agg #[.int .i64 0, .int .i64 0, .int .i64 0])).run Tryd.prog w = .ok false w := fun w => by rw [eqFault, hne]
    obtain ⟨A1, c1, A2, c2, A3, c3, A4, c4⟩ := a
    unfold prV fV frT at *
    dsimp only at *
    generalize (codeE p).2.2.1 = k1 at *
    generalize (codeE p).2.2.2.1 = k2 at *
    generalize (codeE p).2.2.2.2 = k3 at *
    generalize (codeE p).2.1 = fr at *
    generalize (codeE p).1 = cl at *
    clear hg hp hok hf hne hv
    go_enter Tryd.func8, Tryd.ntmps8
    go_upto_region 2 with (go_at_call 6; go_loud (refine (hcode _ belA).mono ?_; rintro r wa ⟨⟨A, cap, rfl, hat, hfre⟩, hba⟩))
    refine wp_name fun V hV => ?_
    have hi : GenI w V := by rw [hV]; exact (((GenI.new w _ _ _ _).later hba).later (bel_alloc (bel_alloc (Below.refl _ _) _) _))
    have s0 : V.cell? ⟨wa.heap.size + 1, 0, none⟩ = some (.int .i64 k1) := by rw [hV]; go_simp
    have s1 : V.cell? ⟨wa.heap.size + 1, 1, none⟩ = some (.int .i64 k2) := by rw [hV]; go_simp
    have s2 : V.cell? ⟨wa.heap.size + 1, 2, none⟩ = some (.int .i64 k3) := by rw [hV]; go_simp
    have hza : w.heap.size + 3 ≤ wa.heap.size := by have := hba.size; simpa using this
    have z0 : V.cell? ⟨w.heap.size + 1, 0, none⟩ = some (.int .u32 0) := hi.z 0 _ rfl
    have z1 : V.cell? ⟨w.heap.size + 1, 1, none⟩ = some (.int .u32 0) := hi.z 1 _ rfl
    have z2 : V.cell? ⟨w.heap.size + 1, 2, none⟩ = some (.int .i64 0) := hi.z 2 _ rfl
    have z3 : V.cell? ⟨w.heap.size + 1, 3, none⟩ = some (.int .i64 0) := hi.z 3 _ rfl
    have z4 : V.cell? ⟨w.heap.size + 1, 4, none⟩ = some (.int .i64 0) := hi.z 4 _ rfl
    have z5 : V.cell? ⟨w.heap.size + 1, 5, none⟩ = some (.int .i64 0) := hi.z 5 _ rfl
    have z6 : V.cell? ⟨w.heap.size + 1, 6, none⟩ = some (.int .i64 0) := hi.z 6 _ rfl
    have z7 : V.cell? ⟨w.heap.size + 1, 7, none⟩ = some (.int .i64 0) := hi.z 7 _ rfl
    have z8 : V.cell? ⟨w.heap.size + 1, 8, none⟩ = some (.slice none 0 0) := hi.z 8 _ rfl
    have z9 : V.cell? ⟨w.heap.size + 1, 9, none⟩ = some (.slice none 0 0) := hi.z 9 _ rfl
    have z10 : V.cell? ⟨w.heap.size + 1, 10, none⟩ = some (.slice none 0 0) := hi.z 10 _ rfl
    have z11 : V.cell? ⟨w.heap.size + 1, 11, none⟩ = some (.int .i64 0) := hi.z 11 _ rfl
    have z12 : V.cell? ⟨w.heap.size + 1, 12, none⟩ = some (.int .i64 0) := hi.z 12 _ rfl
    have y0 : V.frozen? ⟨w.heap.size + 1, 0, none⟩ = false := hi.fz 0
    have y1 : V.frozen? ⟨w.heap.size + 1, 1, none⟩ = false := hi.fz 1
    have y2 : V.frozen? ⟨w.heap.size + 1, 2, none⟩ = false := hi.fz 2
    have y3 : V.frozen? ⟨w.heap.size + 1, 3, none⟩ = false := hi.fz 3
    have y4 : V.frozen? ⟨w.heap.size + 1, 4, none⟩ = false := hi.fz 4
    have y5 : V.frozen? ⟨w.heap.size + 1, 5, none⟩ = false := hi.fz 5
    have y6 : V.frozen? ⟨w.heap.size + 1, 6, none⟩ = false := hi.fz 6
    have y7 : V.frozen? ⟨w.heap.size + 1, 7, none⟩ = false := hi.fz 7
    have y8 : V.frozen? ⟨w.heap.size + 1, 8, none⟩ = false := hi.fz 8
    have y9 : V.frozen? ⟨w.heap.size + 1, 9, none⟩ = false := hi.fz 9
    have y10 : V.frozen? ⟨w.heap.size + 1, 10, none⟩ = false := hi.fz 10
    have y11 : V.frozen? ⟨w.heap.size + 1, 11, none⟩ = false := hi.fz 11
    have y12 : V.frozen? ⟨w.heap.size + 1, 12, none⟩ = false := hi.fz 12
    have f0 : V.cell? ⟨w.heap.size + 1 + 1, 0, none⟩ = some (.int .i64 0) := hi.f.1
    have f1 : V.cell? ⟨w.heap.size + 1 + 1, 1, none⟩ = some (.int .i64 0) := hi.f.2.1
    have f2 : V.cell? ⟨w.heap.size + 1 + 1, 2, none⟩ = some (.int .i64 0) := hi.f.2.2
    have ff0 : V.frozen? ⟨w.heap.size + 1 + 1, 0, none⟩ = false := hi.ff 0
    have ff1 : V.frozen? ⟨w.heap.size + 1 + 1, 1, none⟩ = false := hi.ff 1
    have ff2 : V.frozen? ⟨w.heap.size + 1 + 1, 2, none⟩ = false := hi.ff 2
    have HI := Lib.hid hi
    clear hV hi hcode
    go_upto_region 3 with fail
    have hS0 : (fun w' : World => w'.cell? ⟨wa.heap.size + 1, 0, none⟩ = some (.int .i64 k1) ∧ w'.cell? ⟨wa.heap.size + 1, 1, none⟩ = some (.int .i64 k2) ∧ w'.cell? ⟨wa.heap.size + 1, 2, none⟩ = some (.int .i64 k3)) V.drew := ⟨s0, s1, s2⟩
    dsimp only at hS0
    refine wp_region_ht (fun w' => w'.cell? ⟨wa.heap.size + 1, 0, none⟩ = some (.int .i64 k1) ∧ w'.cell? ⟨wa.heap.size + 1, 1, none⟩ = some (.int .i64 k2) ∧ w'.cell? ⟨wa.heap.size + 1, 2, none⟩ = some (.int .i64 k3)) 3 1 (by kernel_rfl) (by rfl) ?_
    simp only [List.size_toArray, List.length_cons, List.length_nil, Nat.zero_add, Nat.reduceAdd]
    refine takeA (v := ?_) 0 hS0 ?_ ?_
    rotate_left
    · intro w' hSw
      go_simp
      first | done | with_reducible rfl
    try simp only [Act.put, List.setIfInBounds_toArray, List.set_cons_zero, List.set_cons_succ]
    refine takeA (v := ?_) 1 hS0 ?_ ?_
    rotate_left
    · intro w' hSw
      go_simp
      first | done | with_reducible rfl
    try simp only [Act.put, List.setIfInBounds_toArray, List.set_cons_zero, List.set_cons_succ]
    refine oneA 2 ?_
    refine oper_wp_K fun K hK => ?_
    go_simp
    refine hK _ _ ⟨hS0, wpHT_done (by kernel_rfl) ?_⟩
    clear hK K
    try simp only [Act.put, List.setIfInBounds_toArray, List.set_cons_zero, List.set_cons_succ]
    refine anyA 3 ?_
    refine oper_wp_K fun K hK => ?_
    go_simp
    refine hK _ _ ?_
    clear hK K
    try simp only [Act.put, List.setIfInBounds_toArray, List.set_cons_zero, List.set_cons_succ]
    refine wpAny_end (by kernel_rfl) ?_
    clear hS0
    go_wp2_with fail
    refine bodyPost_ret (v := .tuple #[.agg #[.int .u32 0, .int .u32 0, .int .i64 0, .int .i64 0, .int .i64 0, .int .i64 0, .int .i64 0, .int .i64 0, .slice none 0 0, .slice none 0 0, .slice none 0 0, .int .i64 0, .int .i64 0], .agg #[.int .i64 k1, .int .i64 k2, .int .i64 k3]]) (by simp [results, Tryd.results8, go_sem, *]) rfl ⟨⟨⟨none, 0, none, 0, none, 0⟩, rfl, imAt_zero _⟩, ?_⟩
    exact bel_set3 _ _ _ (bel_trans HI.out.bel (bel_drew (Below.refl _ _))) (by omega)
end Go.Proofs.YtknfcamdfdfoeaaDoor

/- Two faults that are alike. -/
namespace Go.Proofs.YtknfcamdfdfoeaaDoor
open Go.RowKit Go.Sort

theorem eqFaultSelf16 (a b c : Int) (w : World) : (Op.equalIn 10000 34 (.agg #[.int .i64 a, .int .i64 b, .int .i64 c]) (.agg #[.int .i64 a, .int .i64 b, .int .i64 c])).run Tryd.prog w = .ok true w := by
  have hS : Tryd.prog.underlying 34 = some (.struct (Tryd.prog.fieldsOf 34)) := by kernel_rfl
  have hp : Tryd.prog.stoodInHeld 34 = false := by kernel_rfl
  rw [show (10000 : Nat) = 9999 + 1 from rfl, run_equalIn_agg w 9999 34 _ _ hS hp]
  simp only [Program.fieldsOf, Tryd.underlying34]
  go_simp
end Go.Proofs.YtknfcamdfdfoeaaDoor

/- Walk over the law's fixed calls (known) of the order. -/
namespace Go.Proofs.YtknfcamdfdfoeaaDoor
open Go.RowKit Go.Sort

def zE : Ex := .mk 0 0 ⟨#[]⟩ []
def vK (s : ByteArray) : Va := ⟨s, 1, 0, ⟨#[]⟩⟩
def eK (s : ByteArray) : Ex := .mk 3 0 s []
theorem ok_ex (k : Int) (s : ByteArray) (hk : I64 k) (hs : s.size ≤ maxLen) : (Ex.mk k 0 s []).OK := by
  unfold Ex.OK
  exact ⟨hk, by unfold I32; omega, hs, by unfold Ex.OKL; trivial⟩
theorem vars_one {W : World} {b : Nat} {s : ByteArray} (c0 : W.cell? ⟨b, 0, none⟩ = some (.string s)) (c1 : W.cell? ⟨b, 1, none⟩ = some (.int .i64 1)) (c2 : W.cell? ⟨b, 2, none⟩ = some (.int .i64 0)) (c3 : W.cell? ⟨b, 3, none⟩ = some (.string ⟨#[]⟩)) : VarsAt W [vK s] (some ⟨b, 0, none⟩) 1 := by
  refine ⟨Nat.le_refl _, by unfold maxLen; omega, fun _ => ⟨b, 0, rfl, fun k v hk => ?_⟩⟩
  match k with
  | 0 => obtain rfl : vK s = v := by simpa using hk
         exact ⟨c0, c1, c2, c3⟩
  | k + 1 => simp at hk
end Go.Proofs.YtknfcamdfdfoeaaDoor
