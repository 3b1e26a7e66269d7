/- The flags that gen's map holds. No program of Go in sight. -/
import Derived.Test.YtknfcamdfdfoeaaDoorZ21
import Derived.Test.YtknfcamdfdfoeaaDoorZ20
import Derived.Test.YtknfcamdfdfoeaaDoorZ05
import Derived.Test.YtknfcamdfdfoeaaDoorZ25
import Derived.Test.YtknfcamdfdfoeaaDoorZ23
import Derived.Test.YtknfcamdfdfoeaaDoorZ04
import Derived.Test.YtknfcamdfdfoeaaDoorRows
import Derived.Test.YtknfcamdfdfoeaaDoorZ03
set_option linter.unusedVariables false
set_option linter.unusedSimpArgs false
set_option maxRecDepth 100000
namespace Go.Proofs.YtknfcamdfdfoeaaDoor
open Go.RowKit

def flagIs (x : Ce) (d : Int × ByteArray) : Prop := x.name.toList.isEmpty = true ∧ ckEq x.ck x.cn d.1 d.2 = true
theorem flagI_none (x : Ce) (d : Int × ByteArray) (hx : flagIs x d) : ∀ (l : List Ce) (i : Nat), (∀ u ∈ l, ¬ flagIs u d) → flagI i (l ++ [x]) d = ((i + l.length : Nat) : Int)
  | [], i, _ => by
    unfold flagIs at hx
    simp only [List.nil_append, flagI]
    rw [if_pos hx]; rfl
  | u :: l, i, h => by
    have h1 := h u (by simp)
    unfold flagIs at h1
    rw [List.cons_append, flagI, if_neg h1, flagI_none x d hx l (i + 1) fun y hy => h y (by simp [hy]), List.length_cons]
    congr 1; omega
theorem flagI_more (x : Ce) (d : Int × ByteArray) (hx : ¬ flagIs x d) : ∀ (l : List Ce) (i : Nat), flagI i (l ++ [x]) d = flagI i l d
  | [], i => by
    unfold flagIs at hx
    simp only [List.nil_append, flagI]
    rw [if_neg hx]
  | u :: l, i => by
    rw [List.cons_append, flagI, flagI]
    split
    · rfl
    · exact flagI_more x d hx l (i + 1)
theorem flagIs_iff (x : Ce) (d : Int × ByteArray) : (x.name.toList.isEmpty = true ∧ d.1 = x.ck ∧ d.2.data = x.cn.data) ↔ flagIs x d := by
  unfold flagIs
  rw [ckEq_iff]
  constructor
  · rintro ⟨h1, h2, h3⟩
    exact ⟨h1, h2.symm, by rw [ba_eq.1 h3]⟩
  · rintro ⟨h1, h2, h3⟩
    exact ⟨h1, h2.symm, by rw [toList_inj h3]⟩
/-- Where no two flags are alike the last one is the first one. -/
theorem flagM_flag (d : Int × ByteArray) : ∀ l : List Ce, Flags l → (flagM l d).getD 0 = flagF l d := by
  refine snocInd (fun _ => rfl) fun l x ih h => ?_
  unfold Flags at h ih
  rw [List.pairwise_append] at h
  rw [flagM_snoc]
  unfold flagF at ih ⊢
  by_cases hx : flagIs x d
  · rw [if_pos ((flagIs_iff x d).2 hx), flagI_none x d hx l 0 fun u hu hud => ?_]
    · simp
    · have h1 := (flagIs_iff x d).2 hx
      have h2 := (flagIs_iff u d).2 hud
      exact h.2.2 u hu x (by simp) h2.1 h1.1 (Prod.ext (h2.2.1.symm.trans h1.2.1) (ba_eq.1 (h2.2.2.symm.trans h1.2.2)))
  · rw [if_neg (fun he => hx ((flagIs_iff x d).1 he)), flagI_more x d hx]
    exact ih h.1
end Go.Proofs.YtknfcamdfdfoeaaDoor

/- What a program is in which nothing is wrong, as the package gen wants it. No program of Go in sight. -/
namespace Go.Proofs.YtknfcamdfdfoeaaDoor
open Go.RowKit

structure VaFine (v : Va) : Prop where
  name : v.name.size ≤ 16
  ne : v.name.toList.isEmpty = false
  cn : v.cn.size ≤ 16
  ck : v.ck = 0 ∨ v.ck = 1 ∨ v.ck = 2
structure QeFine (q : Qe) : Prop where
  name : q.name.size ≤ 16
  ne : q.name.toList.isEmpty = false
  right : q.e.right = 0
  formed : q.e.formed = true
  size : q.e.size ≤ 120
  depth : q.e.depth ≤ 12
  first : q.first.kind = 4 → ∃ x r, q.first.sub = x :: r
  delay : q.delay = 0 ∨ q.delay = 1 ∨ q.delay = 2
  pre : q.delay = 2 → litV q.first = 0
structure Clean (p : Pr) : Prop where
  order : (orderE p).2 = (0, 0, 0)
  clk : clkF p = (0, 0, 0)
  chk : checkF p = (0, 0, 0)
  whole : wholeB p = true
  dist : Distinct (varsOf p)
  nodup : ((varsOf p).map (·.name)).Nodup
  small : p.ins.length ≤ 8 ∧ p.outs.length ≤ 8 ∧ (varsOf p).length ≤ 24 ∧ p.eqs.length ≤ 24
  vars : ∀ v ∈ varsOf p, VaFine v
  eqs : ∀ q ∈ p.eqs, QeFine q
  vof : ∀ q ∈ p.eqs, ∃ v ∈ varsOf p, v.name = q.name ∧ clockL (varsOf p) q.name = (v.ck, v.cn)

theorem variable_fine {v : Va} {b : Bool} (h : variableB v b = true) : VaFine v := by
  simp only [variableB, Bool.and_eq_true] at h
  have h3 := h.2
  have h1 := h.1.1
  refine ⟨nameB_le h1, nameB_ne h1, ?_, ?_⟩
  · by_cases h0 : v.ck = 0
    · rw [if_pos h0] at h3; exact name_small (.inr h3)
    · rw [if_neg h0] at h3
      by_cases h4 : v.ck = 1 ∨ v.ck = 2
      · rw [if_pos h4, Bool.and_eq_true] at h3
        exact nameB_le h3.2
      · rw [if_neg h4] at h3; simp at h3
  · by_cases h0 : v.ck = 0
    · exact .inl h0
    · rw [if_neg h0] at h3
      by_cases h4 : v.ck = 1 ∨ v.ck = 2
      · exact .inr h4
      · rw [if_neg h4] at h3; simp at h3
theorem literal_first {e : Ex} (h : e.literal = true) (hk : e.kind = 4) : ∃ x r, e.sub = x :: r := by
  unfold Ex.literal at h
  split at h
  · split at h
    · cases hs : e.sub with
      | nil => rw [hs] at h; simp at h
      | cons x r => exact ⟨x, r, rfl⟩
    · rw [hk] at h; simp at h
  · simp at h
theorem same_zero {e : Ex} (h : e.same Ex.zero = true) : e.kind = 0 ∧ e.n = 0 := by
  rw [Ex.same_eq] at h
  simp only [Bool.and_eq_true, beq_iff_eq] at h
  exact ⟨h.1.1.1.1, h.1.1.1.2⟩
theorem eqB_fine {q : Qe} (h : eqB q = true) : QeFine q := by
  simp only [eqB, Bool.and_eq_true, beq_iff_eq] at h
  obtain ⟨⟨h1, h2⟩, h3⟩ := h
  obtain ⟨r1, r2, r3⟩ := Ex.right_zero.1 h2
  have hsz := Ex.count_size q.e 121 (by omega)
  refine ⟨nameB_le h1, nameB_ne h1, h2, r3, by omega, r2, fun hk => ?_, ?_, fun hd => ?_⟩
  · by_cases d1 : q.delay = 1
    · rw [if_pos d1] at h3; exact literal_first h3 hk
    · rw [if_neg d1] at h3
      split at h3
      · have := (same_zero h3).1
        rw [hk] at this
        exact absurd this (by decide)
      · cases h3
  · by_cases d1 : q.delay = 1
    · exact .inr (.inl d1)
    · rw [if_neg d1] at h3
      split at h3
      · rename_i hd; rcases hd with hd | hd
        · exact .inl hd
        · exact .inr (.inr hd)
      · cases h3
  · rw [if_neg (by omega), if_pos (.inr hd)] at h3
    obtain ⟨h4, h5⟩ := same_zero h3
    unfold litV
    rw [if_neg (by omega), h5]
theorem nodup_le {α : Type} : ∀ (l m : List α), l.Nodup → (∀ x ∈ l, x ∈ m) → l.length ≤ m.length
  | [], m, _, _ => by simp
  | x :: l, m, h, hs => by
    obtain ⟨a, b, hm⟩ := List.append_of_mem (hs x (by simp))
    have hn := List.nodup_cons.1 h
    have := nodup_le l (a ++ b) hn.2 fun y hy => by
      have h1 := hs y (by simp [hy])
      rw [hm] at h1
      have hne : y ≠ x := fun he => hn.1 (he ▸ hy)
      rcases List.mem_append.1 h1 with h2 | h2
      · exact List.mem_append.2 (.inl h2)
      · rcases List.mem_cons.1 h2 with h3 | h3
        · exact absurd h3 hne
        · exact List.mem_append.2 (.inr h3)
    rw [hm]
    simp only [List.length_append, List.length_cons] at this ⊢
    omega
theorem distinct_nodup : ∀ {L : List Va}, Distinct L → (L.map (·.name)).Nodup
  | [], _ => by simp
  | v :: L, h => by
    obtain ⟨h1, h2⟩ := h.tail
    rw [List.map_cons, List.nodup_cons]
    refine ⟨fun hm => ?_, distinct_nodup h1⟩
    obtain ⟨u, hu, hn⟩ := List.mem_map.1 hm
    exact h2 u hu hn
theorem pair_nodup {l : List Qe} (h : l.Pairwise (fun a b => a.name ≠ b.name)) : (l.map (·.name)).Nodup := by
  unfold List.Nodup
  rw [List.pairwise_map]
  exact h
theorem small_of {p : Pr} (h : checkF p = (0, 0, 0)) : p.ins.length ≤ 8 ∧ p.outs.length ≤ 8 ∧ (varsOf p).length ≤ 24 := by
  unfold checkF at h
  split at h
  · rename_i h1; rw [Prod.mk.injEq, Prod.mk.injEq] at h; omega
  · split at h
    · rw [Prod.mk.injEq, Prod.mk.injEq] at h; omega
    · omega
theorem clean_of {p : Pr} (h : startF p = (0, 0, 0)) : Clean p := by
  have hO := (outs_clean h).1
  have hck := (orderE_good hO).1
  have hc := (clkF_parts hck).1
  obtain ⟨hwh, hun, _⟩ := clean_parts hc
  have hwh2 := hwh
  simp only [wholeB, Bool.and_eq_true, List.all_eq_true] at hwh2
  obtain ⟨hpair, _, _⟩ := eqs_parts hc
  have hvof : ∀ q ∈ p.eqs, ∃ v ∈ varsOf p, v.name = q.name ∧ clockL (varsOf p) q.name = (v.ck, v.cn) := fun q hq => by
    obtain ⟨v, hm, _, hn, hcl, _⟩ := needs_clock hck hq
    exact ⟨v, hm, hn, hcl⟩
  have hsm := small_of hc
  have hle : p.eqs.length ≤ (varsOf p).length := by
    have := nodup_le (p.eqs.map (·.name)) ((varsOf p).map (·.name)) (pair_nodup hpair) fun s hs => by
      obtain ⟨q, hq, rfl⟩ := List.mem_map.1 hs
      obtain ⟨v, hv, hn, _⟩ := hvof q hq
      exact List.mem_map.2 ⟨v, hv, hn⟩
    simpa using this
  refine ⟨hO, hck, hc, hwh, hun, distinct_nodup hun, ⟨hsm.1, hsm.2.1, hsm.2.2, by omega⟩, fun v hv => ?_, fun q hq => eqB_fine (hwh2.2 q hq), hvof⟩
  simp only [varsOf, List.mem_append] at hv
  rcases hv with (hv | hv) | hv
  · exact variable_fine (hwh2.1.1.1.2 v hv)
  · exact variable_fine (hwh2.1.1.2 v hv)
  · exact variable_fine (hwh2.1.2 v hv)

/-- The clock of an equation's variable is one. -/
theorem Clean.clock {p : Pr} (h : Clean p) {q : Qe} (hq : q ∈ p.eqs) : (clockL (varsOf p) q.name).2.size ≤ 16 ∧ ((clockL (varsOf p) q.name).1 = 0 ∨ (clockL (varsOf p) q.name).1 = 1 ∨ (clockL (varsOf p) q.name).1 = 2) := by
  obtain ⟨v, hv, _, hcl⟩ := h.vof q hq
  rw [hcl]
  exact ⟨(h.vars v hv).cn, (h.vars v hv).ck⟩
theorem delayed_mem {l : List Qe} {q : Qe} (h : q ∈ delayed l) : q ∈ l ∧ q.delay ≠ 0 := by
  unfold delayed at h
  rw [List.mem_filter] at h
  exact ⟨h.1, by simpa using h.2⟩
theorem delayed_len (l : List Qe) : (delayed l).length ≤ l.length := List.length_filter_le _ _
theorem allC_len (L : List Va) : (allC L).length = 1 + 2 * L.length := by
  unfold allC
  rw [List.length_cons]
  induction L with
  | nil => simp
  | cons v L ih => rw [List.flatMap_cons, List.length_append, List.length_cons, List.length_cons, List.length_cons]; simp only [List.length_nil]; omega
theorem flagsOf_len (m l : List (Int × ByteArray)) : (flagsOf m l).length ≤ l.length := by
  unfold flagsOf
  rw [List.length_map]
  exact List.length_filter_le _ _
theorem allC_ok {p : Pr} (h : Clean p) {c : Int × ByteArray} (hc : c ∈ allC (varsOf p)) : (c.1 = 0 ∨ c.1 = 1 ∨ c.1 = 2) ∧ c.2.size ≤ 16 := by
  unfold allC at hc
  rcases List.mem_cons.1 hc with rfl | hc
  · exact ⟨.inl rfl, by show 0 ≤ 16; omega⟩
  · obtain ⟨v, hv, h2⟩ := flagC_mem.1 hc
    rcases h2 with rfl | rfl
    · exact ⟨.inr (.inl rfl), (h.vars v hv).name⟩
    · exact ⟨.inr (.inr rfl), (h.vars v hv).name⟩
/-- The cells' clocks are clocks. -/
theorem Clean.cells {p : Pr} (h : Clean p) {c : Ce} (hc : c ∈ cellsL p) : (c.ck = 0 ∨ c.ck = 1 ∨ c.ck = 2) ∧ c.cn.size ≤ 16 ∧ c.name.size ≤ 16 := by
  unfold cellsL at hc
  rcases List.mem_append.1 hc with hc | hc
  · obtain ⟨q, hq, rfl⟩ := List.mem_map.1 hc
    have hq2 := (delayed_mem hq).1
    have := h.clock hq2
    exact ⟨this.2, this.1, (h.eqs q hq2).name⟩
  · unfold flagsOf at hc
    obtain ⟨d, hd, rfl⟩ := List.mem_map.1 hc
    have := allC_ok h (List.mem_filter.1 hd).1
    exact ⟨this.1, this.2, by show 0 ≤ 16; omega⟩
theorem Clean.flags {p : Pr} (h : Clean p) : Flags (cellsL p) := cellsL_flags h.dist fun q hq => (h.eqs q hq).ne
theorem Clean.codes {p : Pr} (h : Clean p) (q : Qe) (hq : q ∈ p.eqs) (sl : ByteArray → Int) (fl : Int × ByteArray → Int) (c : Int × ByteArray) : (q.e.gen sl fl c).length ≤ 360 := by
  have := Ex.gen_len sl fl q.e c
  have := (h.eqs q hq).size
  omega
end Go.Proofs.YtknfcamdfdfoeaaDoor

/- Walk over the closure of mean's look: a clock's flag. -/
namespace Go.Proofs.YtknfcamdfdfoeaaDoor
open Go.RowKit Go.Sort Go.Maps Go.ChangeMaps Go.WideMaps

theorem ceinfo : (Tryd.prog.info? 78).map (fun i => (i.zero, i.size, i.bytes)) = some (some (.agg #[.string ⟨#[]⟩, .int .i64 0, .string ⟨#[]⟩, .int .i32 0]), 4, 48) := by kernel_rfl
theorem cesC_snoc (l : List Ce) (c : Ce) : cesC (l ++ [c]) = cesC l ++ [.string c.name, .int .i64 c.ck, .string c.cn, .int .i32 c.first] := by unfold cesC; simp

/-- A map's store as an equation. -/
theorem run_stG {P : Program} {k e : TypeId} {q : IntKind} {K : Type} {ok : K → Prop} {kv : K → Value} {kl : K → Lit} {w : World} (ks : KeyAs P k ok kv kl) {t : TypeId}
    (ht : P.underlying t = some (.map k e)) (he : P.underlying e = some (.int q))
    {b n : Nat} {f : K → Option Int} {c : Nat} {s : K} {i : Int} {x : Value} (hx : x = kv s) (hown : MapG P k e q ok kl w b n f c) (hn : n < 1000000000)
    (hs : ok s) (hi : (Lit.int q i).wf = true) (f' : K → Option Int) (hf1 : f' s = some i) (hf2 : ∀ y, ok y → y ≠ s → f' y = f y) :
    ∃ w', (Instr.mapUpdate t (.map (some b)) x (.int q i)).run P w = .ok () w' ∧ MapG P k e q ok kl w' b (n + 1) f' (if (f s).isSome then c else c + 1) ∧ w.grownBy w' (some b) := by
  subst hx
  obtain ⟨D, h1, h2, hc, h3⟩ := hown
  have hkl : WideAt.IsKeyLit (kl s) := ks.keyed.key (ks.read s hs)
  obtain ⟨w', hrun, h4, h5⟩ := h1.update ks.keyed ht (by unfold maxLen; omega) (ks.read s hs) (plainElem_int he hi)
  exact ⟨w', hrun, ⟨_, h4, h2.put hkl _, by rw [Maps.size_put h2, (h3 s hs).1, hc], fun y hy => by
    by_cases hys : y = s
    · subst hys
      rw [has_put_same h2.isMap hkl, atKey_put_same h2.isMap hkl, hf1]
      simp
    · have hne : kl y ≠ kl s := fun h => hys (ks.inj y s hy hs h)
      rw [has_put_other hne, atKey_put_other hne, (h3 y hy).1, (h3 y hy).2, hf2 y hy hys]
      exact ⟨rfl, rfl⟩⟩, h5⟩

/-- Where look's own things lie: the map of what was met, the program that is looked at, its cells, the map of the flags. -/
structure LookSt (W : World) (M F X bm bx base : Nat) (L : List (Int × ByteArray)) (cs : List Ce) (n : Nat) (v : Value) : Prop where
  m : W.cell? ⟨bm, 0, none⟩ = some (.map (some M))
  x : W.cell? ⟨bx, 0, none⟩ = some (.pointer (some ⟨X, 0, none⟩))
  x6 : W.cell? ⟨X, 6, none⟩ = some v
  x7 : W.cell? ⟨X, 7, none⟩ = some (.map (some F))
  met : ∃ n f c, MapG Tryd.prog 58 3 .i64 okC klC W M n f c ∧ MetM f L
  flg : ∃ f c, MapG Tryd.prog 58 3 .i64 okC klC W F n f c
  own : W.ownsRow base 78 4 v cs.length (cesC cs)
  fz : W.frozen? ⟨X, 6, none⟩ = false
/-- What look changes. -/
def LookS (F X : Nat) (v : Value) (k : Nat) : Prop := k = F ∨ k = X ∨ some k = v.ownBlock

set_option maxHeartbeats 4000000 in
theorem flag18_any (M F X bm bx base : Nat) (hM : M < base) (hF : F < base) (hX : X < base) (hbm : bm < base) (hbx : bx < base) (n1 : F ≠ X) (n2 : F ≠ M) (n3 : F ≠ bm) (n4 : F ≠ bx) (n5 : X ≠ M) (n6 : X ≠ bm) (n7 : X ≠ bx)
    (L : List (Int × ByteArray)) (ck : Int) (cs : ByteArray) (csl : List Ce) (n : Nat) (v : Value) (W : World) (hB : base ≤ W.heap.size) (st : LookSt W M F X bm bx base L csl n v) (hc : okC (ck, cs)) (hn : n ≤ 1000000) (hl : csl.length ≤ 1000000) :
    Calls Tryd.prog 46 #[.agg #[.int .i64 ck, .string cs], .pointer (some ⟨bm, 0, none⟩), .pointer (some ⟨bx, 0, none⟩)] W fun r w' => r = .returned (.tuple #[]) ∧ (∃ v', LookSt w' M F X bm bx base L (if inC L (ck, cs) = true then csl ++ [flagCe (ck, cs)] else csl) (n + 1) v' ∧ (v'.ownBlock = v.ownBlock ∨ ∀ k, v'.ownBlock = some k → W.heap.size ≤ k)) ∧ Kept (LookS F X v) W w' := by
  obtain ⟨m0, x0, x6, x7, ⟨nM, f, c, hmet, hM2⟩, ⟨f2, c2, hflg⟩, hown, hfz⟩ := st
  obtain ⟨Av, cv, rfl, hcv1, hcv2⟩ := own_slice hown
  unfold maxLen at hcv2
  have hin := hM2 (ck, cs) hc
  have z1 : bm < W.heap.size := by omega
  have z2 : bx < W.heap.size := by omega
  have z3 : X < W.heap.size := by omega
  have z4 : M < W.heap.size := by omega
  have z5 : F < W.heap.size := by omega
  have hlk := run_lkG (w := W.alloc (.cells #[.int .i64 ck, .string cs] 58)) keyC (x := .agg #[.int .i64 ck, .string cs]) Tryd.underlying99 Tryd.underlying3 (zeroI64 _) rfl (hmet.bel belA) hc rfl
  have HFL := Lib.hid hflg
  have HME := Lib.hid hmet
  have HM2 := Lib.hid hM2
  generalize (f (ck, cs)).getD 0 = r at hin hlk
  cases hb : inC L (ck, cs)
  · have tr : ¬ (0 : Int) < r := by rw [hb] at hin; simpa using hin
    clear hin hflg hmet hM2 hb
    go_enter Tryd.func46, Tryd.ntmps46
    go_wp2_with fail
    go_end0
    have hbel : Below W.heap.size W (W.alloc (.cells #[.int .i64 ck, .string cs] 58)) := belA
    exact ⟨rfl, ⟨_, ⟨bel_cell hbel m0, bel_cell hbel x0, bel_cell hbel x6, bel_cell hbel x7, ⟨nM, f, c, HME.out.bel hbel, HM2.out⟩, ⟨f2, c2, (HFL.out.bel hbel).more (by omega)⟩, own_bel hown hbel, (bfrozen hbel X 6 (block_lt_of_cell x6)).trans hfz⟩, .inl rfl⟩, Kept.bel hbel⟩
  · have tr : (0 : Int) < r := by rw [hb] at hin; simpa using hin
    clear hin hflg hmet hM2 hb
    have hc64 : (Lit.int .i64 (csl.length : Int)).wf = true := i64_wf (by unfold I64; omega)
    have hinf := ceinfo
    go_enter Tryd.func46, Tryd.ntmps46
    go_wp2_with fail
    have hme2 : MapG Tryd.prog 58 3 .i64 okC klC (W.alloc (.cells #[.int .i64 ck, .string cs] 58)).drew F n f2 c2 := HFL.out.bel belA
    obtain ⟨w2, hst, hm2, hg2⟩ := run_stG keyC (x := .agg #[.int .i64 ck, .string cs]) Tryd.underlying99 Tryd.underlying3 rfl hme2 (by omega) hc hc64 (updC f2 (ck, cs) csl.length) (updC_same _ _ _) (fun y _ hy => updC_other _ _ _ y hy)
    have hkF : Kept (fun k => k = F) W w2 := (Kept.bel (S := fun k => k = F) (bel_drew (bel_alloc (Below.refl _ _) _))).trans' (Kept.grown hg2 fun k hk => by injection hk with hk; exact hk.symm)
    have hzb := hg2.size
    simp at hzb
    have b0 := hkF.cell (fun h => n4 h.symm) x0
    have b6 := hkF.cell (fun h => n1 h.symm) x6
    have b7 := hkF.cell (fun h => n1 h.symm) x7
    have bm0 := hkF.cell (fun h => n3 h.symm) m0
    have bf : w2.frozen? ⟨X, 6, none⟩ = false := (World.frozen?_of_block (a := ⟨X, 6, none⟩) (hkF.block X z3 (fun h => n1 h.symm))).trans hfz
    have hnew : ∀ o u, (W.alloc (.cells #[.int .i64 ck, .string cs] 58)).drew.cell? ⟨W.heap.size, o, none⟩ = some u → w2.cell? ⟨W.heap.size, o, none⟩ = some u := fun o u hu => cell_block (hg2.block W.heap.size (by simp) (by intro he; injection he with he; omega)) hu
    have e0 := hnew 0 (.int .i64 ck) (by go_simp)
    have e1 := hnew 1 (.string cs) (by go_simp)
    have hown2 := hkF.own (fun b hb he => by have := (hown.lt b hb).1; omega) hown
    have HM2' := Lib.hid hm2
    have HKF := Lib.hid hkF
    have hb2 : base ≤ w2.heap.size := by omega
    have hz2 : W.heap.size < w2.heap.size := by omega
    have y2 : bx < w2.heap.size := by omega
    have y3 : X < w2.heap.size := by omega
    have HM := Lib.hid hm2
    have HKF := Lib.hid hkF
    clear hme2 hm2 hkF hg2 hnew
    go_region
    clear hst hlk
    go_wp2_with fail
    obtain ⟨S, hSd⟩ : ∃ S : World → Prop, S = fun w' => w'.cell? ⟨bx, 0, none⟩ = some (.pointer (some ⟨X, 0, none⟩)) ∧ w'.cell? ⟨X, 6, none⟩ = some (.slice Av csl.length cv) ∧ w'.cell? ⟨W.heap.size, 0, none⟩ = some (.int .i64 ck) ∧ w'.cell? ⟨W.heap.size, 1, none⟩ = some (.string cs) := ⟨_, rfl⟩
    have hS0 : S w2.drew := by rw [hSd]; exact ⟨b0, b6, e0, e1⟩
    refine wp_region_ht S 9 3 (by kernel_rfl) (by rfl) ?_
    simp only [List.size_toArray, List.length_cons, List.length_nil, Nat.zero_add, Nat.reduceAdd]
    rw [hSd] at hS0
    rw [hSd]
    clear hSd
    refine takeA (v := ?_) 0 hS0 ?_ ?_
    rotate_left
    · intro w' hSw
      go_simp
      first | done | with_reducible rfl
    try simp only [Act.put, List.setIfInBounds_toArray, List.set_cons_zero, List.set_cons_succ]
    refine takeA (v := ?_) 1 hS0 ?_ ?_
    rotate_left
    · intro w' hSw
      go_simp
      first | done | with_reducible rfl
    try simp only [Act.put, List.setIfInBounds_toArray, List.set_cons_zero, List.set_cons_succ]
    refine takeA (v := ?_) 2 hS0 ?_ ?_
    rotate_left
    · intro w' hSw
      go_simp
      first | done | with_reducible rfl
    try simp only [Act.put, List.setIfInBounds_toArray, List.set_cons_zero, List.set_cons_succ]
    refine takeA (v := ?_) 3 hS0 ?_ ?_
    rotate_left
    · intro w' hSw
      go_simp
      first | done | with_reducible rfl
    try simp only [Act.put, List.setIfInBounds_toArray, List.set_cons_zero, List.set_cons_succ]
    refine takeA (v := ?_) 4 hS0 ?_ ?_
    rotate_left
    · intro w' hSw
      go_simp
      first | done | with_reducible rfl
    try simp only [Act.put, List.setIfInBounds_toArray, List.set_cons_zero, List.set_cons_succ]
    refine takeA (v := ?_) 5 hS0 ?_ ?_
    rotate_left
    · intro w' hSw
      go_simp
      first | done | with_reducible rfl
    try simp only [Act.put, List.setIfInBounds_toArray, List.set_cons_zero, List.set_cons_succ]
    refine takeA (v := ?_) 6 hS0 ?_ ?_
    rotate_left
    · intro w' hSw
      go_simp
      first | done | with_reducible rfl
    try simp only [Act.put, List.setIfInBounds_toArray, List.set_cons_zero, List.set_cons_succ]
    refine oneA 7 ?_
    refine oper_wp_K fun K hK => ?_
    go_simp
    have hS1 : ∀ u, (w2.alloc u).drew.cell? ⟨bx, 0, none⟩ = some (.pointer (some ⟨X, 0, none⟩)) ∧ (w2.alloc u).drew.cell? ⟨X, 6, none⟩ = some (.slice Av csl.length cv) ∧ (w2.alloc u).drew.cell? ⟨W.heap.size, 0, none⟩ = some (.int .i64 ck) ∧ (w2.alloc u).drew.cell? ⟨W.heap.size, 1, none⟩ = some (.string cs) := fun u => ⟨cel_alloc b0, cel_alloc b6, cel_alloc e0, cel_alloc e1⟩
    refine hK _ _ ⟨hS1 _, ?_⟩
    clear hK K
    refine oneA 8 ?_
    refine wp_cat2 (.tmp 22) (.tmp 25) 63 rfl base 78 _ 4 48 Tryd.underlying63 hinf rfl (by omega) (.slice Av csl.length cv) csl.length (cesC csl) w2.heap.size 1 1 [.string ⟨#[]⟩, .int .i64 ck, .string cs, .int .i32 0] rfl (own_drew (own_alloc hown2)) rfl rfl (fun j u hj => by refine (cell_new' (w := w2) (c := #[.string ⟨#[]⟩, .int .i64 ck, .string cs, .int .i32 0]) (t := 78) rfl).trans ?_; simpa using hj) (by simp [Value.oneCell']) (by omega) (by omega) (by simp; omega) ?_
    intro v3 w3 hown3 hg3 hv3
    obtain ⟨A3, c3, rfl, hc31, hc32⟩ := own_slice hown3
    have hne3 : some X ≠ (Value.slice Av csl.length cv).ownBlock := fun he => by have := (hown.lt X he.symm).1; omega
    have hne4 : some bx ≠ (Value.slice Av csl.length cv).ownBlock := fun he => by have := (hown.lt bx he.symm).1; omega
    have hne5 : some W.heap.size ≠ (Value.slice Av csl.length cv).ownBlock := fun he => by have := (hown.lt W.heap.size he.symm).2; omega
    have k0 : w3.cell? ⟨bx, 0, none⟩ = some (.pointer (some ⟨X, 0, none⟩)) := cell_block (hg3.block bx (by simp; omega) hne4) (hS1 _).1
    have k6 : w3.cell? ⟨X, 6, none⟩ = some (.slice Av csl.length cv) := cell_block (hg3.block X (by simp; omega) hne3) (hS1 _).2.1
    have kf : w3.frozen? ⟨X, 6, none⟩ = false := (World.frozen?_of_block (a := ⟨X, 6, none⟩) (hg3.block X (by simp; omega) hne3)).trans ((bfrozen (bel_drew (bel_alloc (Below.refl _ _) _)) X 6 (by omega)).trans bf)
    refine ⟨⟨k0, k6, cell_block (hg3.block W.heap.size (by simp; omega) hne5) (hS1 _).2.2.1, cell_block (hg3.block W.heap.size (by simp; omega) hne5) (hS1 _).2.2.2⟩, wpHT_done (by kernel_rfl) ?_⟩
    try simp only [Act.put, List.setIfInBounds_toArray, List.set_cons_zero, List.set_cons_succ]
    refine anyA 9 ?_
    refine oper_wp_K fun K hK => ?_
    go_simp
    refine hK _ _ ?_
    clear hK K
    try simp only [Act.put, List.setIfInBounds_toArray, List.set_cons_zero, List.set_cons_succ]
    refine anyA 10 ?_
    refine oper_wp_K fun K hK => ?_
    go_simp
    refine hK _ _ ?_
    clear hK K
    try simp only [Act.put, List.setIfInBounds_toArray, List.set_cons_zero, List.set_cons_succ]
    refine anyA 11 ?_
    refine oper_wp_K fun K hK => ?_
    go_simp
    refine hK _ _ ?_
    clear hK K
    try simp only [Act.put, List.setIfInBounds_toArray, List.set_cons_zero, List.set_cons_succ]
    have hob : ∀ j, some j = (Value.slice Av csl.length cv).ownBlock → base ≤ j := fun j h => (hown.lt j h.symm).1
    have hK2 : Kept (fun k => k = X ∨ some k = (Value.slice Av csl.length cv).ownBlock) w2 (w3.setCell ⟨X, 6, none⟩ (.slice A3 (csl.length + 1) c3)) :=
      ((Kept.bel (S := fun k => k = X ∨ some k = (Value.slice Av csl.length cv).ownBlock) (bel_drew (bel_alloc (Below.refl w2.heap.size w2) _))).trans' (Kept.grown hg3 fun k hk => .inr hk.symm)).setCell (.inl rfl) _ _
    have hK1 : Kept (LookS F X (.slice Av csl.length cv)) W (w3.setCell ⟨X, 6, none⟩ (.slice A3 (csl.length + 1) c3)) :=
      (HKF.out.less fun k _ hk => .inl hk).trans hK2 fun k _ hk => by
        rcases hk with hk | hk
        · exact .inr (.inl hk)
        · exact .inr (.inr hk)
    have hres : LookSt (w3.setCell ⟨X, 6, none⟩ (.slice A3 (csl.length + 1) c3)) M F X bm bx base L (csl ++ [flagCe (ck, cs)]) (n + 1) (.slice A3 (csl.length + 1) c3) := by
      refine ⟨hK2.cell (fun h => by rcases h with h | h; exact absurd h (by omega); have := hob _ h; omega) bm0, hK2.cell (fun h => by rcases h with h | h; exact absurd h (by omega); have := hob _ h; omega) b0, World.cell?_setCell_same _ _ _ k6, ?_, ?_, ?_, ?_, ?_⟩
      · exact (World.cell?_setCell_other _ _ _ _ (by intro he; injection he with e1 e2; exact absurd e2 (by decide))).trans (cell_block (hg3.block X (by simp; omega) hne3) (cel_drew (cel_alloc b7)))
      · exact ⟨nM, f, c, HME.out.keep1 (hK1.block M z4 (fun h => by rcases h with h | h | h; exact absurd h (by omega); exact absurd h (by omega); have := hob _ h; omega)), HM2.out⟩
      · exact ⟨_, _, HM.out.keep1 (hK2.block F (by omega) (fun h => by rcases h with h | h; exact absurd h (by omega); have := hob _ h; omega))⟩
      · rw [cesC_snoc, List.length_append]
        exact own_apart hown3 (fun b hb he => by have := (hown3.lt b hb).1; omega) _ _
      · rw [World.frozen?_setCell]; exact kf
    have hv3' : (Value.slice A3 (csl.length + 1) c3).ownBlock = (Value.slice Av csl.length cv).ownBlock ∨ ∀ k, (Value.slice A3 (csl.length + 1) c3).ownBlock = some k → W.heap.size ≤ k := hv3.imp id (fun h k hk => by have := h k hk; simp at this; omega)
    have HRES := Lib.hid hres
    have HK1 := Lib.hid hK1
    have HV3 := Lib.hid hv3'
    clear hK1 hK2 hres hv3'
    refine wpAny_end (by kernel_rfl) ?_
    go_wp2_with fail
    go_end0
    exact ⟨rfl, ⟨_, HRES.out, HV3.out⟩, HK1.out⟩

theorem LookSt.later {W W' : World} {M F X bm bx base : Nat} {L : List (Int × ByteArray)} {cs : List Ce} {n : Nat} {v : Value} (h : LookSt W M F X bm bx base L cs n v) (hb : Below W.heap.size W W') : LookSt W' M F X bm bx base L cs n v := by
  obtain ⟨m0, x0, x6, x7, ⟨a, b, c, hm, hM⟩, ⟨d, e, hf⟩, hown, hfz⟩ := h
  exact ⟨bel_cell hb m0, bel_cell hb x0, bel_cell hb x6, bel_cell hb x7, ⟨a, b, c, hm.bel hb, hM⟩, ⟨d, e, hf.bel hb⟩, own_bel hown hb, (bfrozen hb X 6 (block_lt_of_cell x6)).trans hfz⟩
theorem flagsOf_snoc (m : List (Int × ByteArray)) (l : List (Int × ByteArray)) (c : Int × ByteArray) : flagsOf m (l ++ [c]) = if inC m c = true then flagsOf m l ++ [flagCe c] else flagsOf m l := by
  unfold flagsOf
  rw [List.filter_append, List.map_append, List.filter_cons]
  cases h : inC m c <;> simp
theorem allC_take {L : List Va} {k : Nat} {x : Va} (h : L[k]? = some x) : allC (L.take (k + 1)) = allC (L.take k) ++ [(1, x.name)] ++ [(2, x.name)] := by
  obtain ⟨hlt, hx⟩ := List.getElem?_eq_some_iff.1 h
  have e : L.take (k + 1) = L.take k ++ [x] := by rw [List.take_succ_eq_append_getElem hlt, hx]
  rw [e]
  unfold allC
  simp
end Go.Proofs.YtknfcamdfdfoeaaDoor

/- Walk over the reference's Copy. -/
namespace Go.Proofs.YtknfcamdfdfoeaaDoor
open Go.RowKit Go.Sort

theorem exinfo : (Tryd.prog.info? 54).map (fun i => (i.zero, i.size, i.bytes)) = some (some (.agg #[.int .i64 0, .int .i32 0, .string ⟨#[]⟩, .slice none 0 0]), 4, 56) := by kernel_rfl

end Go.Proofs.YtknfcamdfdfoeaaDoor
