/- gen's plan, as the expressions' code wants it. -/
import Derived.Test.YtknfcamdfdfoeaaDoorZ23
import Derived.Test.YtknfcamdfdfoeaaDoorZ24
import Derived.Test.YtknfcamdfdfoeaaDoorZ04
import Derived.Test.YtknfcamdfdfoeaaDoorZ03
import Derived.Test.YtknfcamdfdfoeaaDoorZ21
import Derived.Deep.RegionLaw
import Derived.OrdersHeld
import Derived.StillTail
set_option linter.unusedVariables false
set_option linter.unusedSimpArgs false
set_option maxRecDepth 100000
namespace Go.Proofs.YtknfcamdfdfoeaaDoor
open Go.RowKit Go.Sort Go.Maps Go.ChangeMaps Go.WideMaps

theorem MapE.toG {P : Program} {k e : TypeId} {K : Type} {ok : K → Prop} {kl : K → Lit} {W : World} {b n c : Nat} {f : K → Option Int} (h : MapE P k (plainElem P e) ok kl okI (Lit.int .i32) 0 W b n f c) : MapG P k e .i32 ok kl W b n f c := by
  obtain ⟨D, h1, h2, h3, h4⟩ := h
  exact ⟨D, h1, h2, h3, fun x hx => (h4 x hx).1⟩
theorem LayAt.plan {W : World} {X Bs Bt Bf : Nat} {L : List Va} {cs : List Ce} {A : Option Addr} {cap : Nat} (h : LayAt W X Bs Bt Bf L cs A cap) (hn : (L.map (·.name)).Nodup) (hf : ∀ d, okC d → (flagM cs d).getD 0 = flagF cs d) : PlanAt W X Bs Bf (slotF L) (flagF cs) := by
  obtain ⟨c, hfl⟩ := h.flags
  exact ⟨h.c0, h.c2, ⟨_, _, _, h.slots.toG, fun s _ => by rw [slotM_find s L hn]; rfl⟩, ⟨_, _, _, hfl.toG, hf⟩⟩
theorem LayAt.later {W W' : World} {X Bs Bt Bf : Nat} {L : List Va} {cs : List Ce} {A : Option Addr} {cap : Nat} (h : LayAt W X Bs Bt Bf L cs A cap) (hb : Below W.heap.size W W') : LayAt W' X Bs Bt Bf L cs A cap := by
  obtain ⟨c0, c1, c2, c3, s, k, ⟨c, f⟩⟩ := h
  exact ⟨bel_cell hb c0, bel_cell hb c1, bel_cell hb c2, bel_cell hb c3, s.bel hb, k.bel hb, ⟨c, f.bel hb⟩⟩
end Go.Proofs.YtknfcamdfdfoeaaDoor

/- Walks over mean's literal and arrows. -/
namespace Go.Proofs.YtknfcamdfdfoeaaDoor
open Go.RowKit Go.Sort Go.Maps Go.ChangeMaps Go.WideMaps

theorem literal18_any (e : Ex) (A : Option Addr) (cap : Nat) (w : World) (he : SubsAt w e A cap) (hl : e.kind = 4 → ∃ x r, e.sub = x :: r) :
    Calls Tryd.prog 45 #[exV e A cap] w fun r w' => r = .returned (.int .i32 (litV e)) ∧ Below w.heap.size w w' := by
  have hlen := he.len
  unfold maxLen at hlen
  obtain ⟨hl1, hl2⟩ := hlen
  unfold exV
  by_cases hk : e.kind = 4
  · obtain ⟨x, r, hs⟩ := hl hk
    have hx : e.sub[0]? = some x := by rw [hs]; rfl
    have hlt : 0 < e.sub.length := by rw [hs]; simp
    have hv : litV e = W32 (-x.n) := by unfold litV; rw [if_pos hk, hs]
    obtain ⟨b, off, A', cap', rfl, c0, c1, c2, c3, hs2⟩ := he.get hx
    have tk : (e.kind == 4) = true := by simpa using hk
    simp only [Nat.zero_mul, Nat.add_zero] at c0 c1 c2 c3
    have hbx : b < w.heap.size := block_lt_of_cell c0
    unfold W32 at hv
    clear hk hs hl hx
    have HV := Lib.hid hv; clear hv
    go_enter Tryd.func45, Tryd.ntmps45
    go_wp2_with fail
    go_ret
    exact ⟨ret_int (by rw [HV.out, IntWalk.i32_left]), belA⟩
  · have hv : litV e = e.n := by unfold litV; rw [if_neg hk]
    have tk : (e.kind == 4) = false := by simpa using hk
    clear hk hl
    have HV := Lib.hid hv; clear hv
    go_enter Tryd.func45, Tryd.ntmps45
    go_wp2_with fail
    go_ret
    exact ⟨ret_int HV.out.symm, belA⟩

/-- A map from clocks says which are among a list. -/
def MetM (f : Int × ByteArray → Option Int) (l : List (Int × ByteArray)) : Prop := ∀ c, okC c → decide (0 < (f c).getD 0) = inC l c
theorem metM_nil : MetM (fun _ => none) [] := fun c _ => by unfold inC; simp
def updC (f : Int × ByteArray → Option Int) (c : Int × ByteArray) (i : Int) : Int × ByteArray → Option Int := fun d => if ckEq c.1 c.2 d.1 d.2 = true then some i else f d
theorem updC_same (f : Int × ByteArray → Option Int) (c : Int × ByteArray) (i : Int) : updC f c i c = some i := if_pos (ckEq_self c)
theorem updC_other (f : Int × ByteArray → Option Int) (c : Int × ByteArray) (i : Int) (d : Int × ByteArray) (h : d ≠ c) : updC f c i d = f d := if_neg fun e => h (ckEq_of e).symm
theorem metM_snoc {f : Int × ByteArray → Option Int} {l : List (Int × ByteArray)} (h : MetM f l) (c : Int × ByteArray) : MetM (updC f c 1) (l ++ [c]) := fun d hd => by
  rw [inC_snoc, ← h d hd]
  unfold updC
  cases hc : ckEq c.1 c.2 d.1 d.2
  · rw [if_neg (by simp), Bool.or_false]
  · rw [if_pos rfl, Bool.or_true]; rfl
theorem zeroI64 (w : World) : (zeroValue 3).run Tryd.prog w = .ok (.int .i64 0) w := zeroInt w

/-- The contract. -/
def ArrP (M : Nat) (w0 : World) (x : Ex) : Prop := ∀ (A : Option Addr) (cap : Nat) (c : Int × ByteArray), SubsAt w0 x A cap → okC c → ∀ (W : World) (n : Nat) (f : Int × ByteArray → Option Int) (cnt : Nat) (l : List (Int × ByteArray)), Below w0.heap.size w0 W → MapG Tryd.prog 58 3 .i64 okC klC W M n f cnt → MetM f l → n + x.size ≤ 900000000 →
    Calls Tryd.prog 44 #[.map (some M), exV x A cap, kvC c] W fun r w' => r = .returned (.tuple #[]) ∧ (∃ n' f' cnt', MapG Tryd.prog 58 3 .i64 okC klC w' M n' f' cnt' ∧ n' ≤ n + x.size ∧ MetM f' (x.arrs l c)) ∧ W.grownBy w' (some M)

theorem withC_plain {k : Int} {s : ByteArray} {c : Int × ByteArray} {i : Nat} (h8 : k ≠ 8) (h9 : k ≠ 9) (h10 : k ≠ 10) : withC k s c i = c := by unfold withC; rw [if_neg h10, if_neg (by omega)]
theorem withC_base {k : Int} {s : ByteArray} {c : Int × ByteArray} {i : Nat} (h : k = 8 ∨ k = 9) : withC k s c i = (0, ⟨#[]⟩) := by unfold withC; rw [if_neg (by omega), if_pos h]
theorem withC_merge {s : ByteArray} {c : Int × ByteArray} {i : Nat} : withC 10 s c i = (1 + (i : Int), s) := by unfold withC; rw [if_pos rfl]

set_option maxHeartbeats 8000000 in
theorem arrows_any (M : Nat) (w0 : World) (hM : w0.heap.size ≤ M) (e : Ex) : e.OK → e.formed = true → ArrP M w0 e := by
  induction e using Ex.ind with
  | h e ih0 =>
  intro hok hform Ae ce c he hc W n f cnt l hbW hmap hmet hn
  have ih : ∀ x ∈ e.sub, ArrP M w0 x := fun x hx => ih0 x hx (Ex.OK_sub hok hx) (formed_subs hform x hx)
  have hsn : e.name.size ≤ maxLen := by cases e; exact hok.2.2.1
  have hmz := fun h => formed_merge hform h
  have hMW := hmap.lt
  have hlen := he.len
  unfold maxLen at hlen
  obtain ⟨hl1, hl2⟩ := hlen
  have hsz := Ex.size_eq e
  have harr := Ex.arrs_eq l e c
  obtain ⟨ck, cs⟩ := c
  clear ih0 hok hform
  have HN := Lib.hid hmap; clear hmap
  have HMET := Lib.hid hmet; clear hmet
  have HARR := Lib.hid harr; clear harr
  have hst := @keyC
  unfold exV kvC at *
  dsimp only at *
  obtain ⟨R, hR⟩ : ∃ R, R = e.arrs l (ck, cs) := ⟨_, rfl⟩
  rw [← hR]
  by_cases h10 : e.kind = 10
  · have tk7 : (e.kind == 7) = false := by rw [h10]; rfl
    have tk8 : (e.kind == 8) = false := by rw [h10]; rfl
    have tk9 : (e.kind == 9) = false := by rw [h10]; rfl
    have tk10 : (e.kind == 10) = true := by rw [h10]; rfl
    have h2 := hmz h10
    obtain ⟨x, y, hsub⟩ : ∃ x y, e.sub = [x, y] := by
      match hs : e.sub with
      | [x, y] => exact ⟨x, y, rfl⟩
      | [] => rw [hs] at h2; simp at h2
      | [_] => rw [hs] at h2; simp at h2
      | _ :: _ :: _ :: _ => rw [hs] at h2; simp at h2
    have hA := hR.trans HARR.out
    rw [if_neg (by omega), hsub, h10, Ex.arrsL, Ex.arrsL, Ex.arrsL, withC_merge, withC_merge] at hA
    have hx : e.sub[0]? = some x := by rw [hsub]; rfl
    have hy : e.sub[1]? = some y := by rw [hsub]; rfl
    have ihx := ih x (by rw [hsub]; simp)
    have ihy := ih y (by rw [hsub]; simp)
    rw [hsub] at hsz
    simp only [Ex.sizeL] at hsz
    have HW := Lib.hid (he.later hbW)
    obtain ⟨b, off, A1, k1, rfl, x0, x1, x2, x3, hs1⟩ := (he.later hbW).get hx
    obtain ⟨b', off', A2, k2, hAe, y0, y1, y2, y3, hs2⟩ := (he.later hbW).get hy
    injection hAe with hAe
    injection hAe with e1 e2
    subst e1 e2
    simp only [Nat.zero_mul, Nat.add_zero] at x0 x1 x2 x3
    simp only [Nat.one_mul] at y0 y1 y2 y3
    have hb0 := (he.get hx)
    obtain ⟨b', off', A1', k1', hAe, z0, z1, z2, z3, hs1'⟩ := hb0
    injection hAe with hAe
    injection hAe with e1 e2
    subst e1 e2
    simp only [Nat.zero_mul, Nat.add_zero] at z0 z1 z2 z3
    have hk1 := bel_cell hbW z3
    rw [x3] at hk1
    injection hk1 with hk1
    injection hk1 with e1 e2 e3
    subst e1 e3
    obtain ⟨b', off', A2', k2', hAe, z0', z1', z2', z3', hs2'⟩ := he.get hy
    injection hAe with hAe
    injection hAe with e1 e2
    subst e1 e2
    have hk2 := bel_cell hbW z3'
    rw [y3] at hk2
    injection hk2 with hk2
    injection hk2 with e1 e2 e3
    subst e1 e3
    have ho1 : okC (1 + ((0 : Nat) : Int), e.name) := ⟨by unfold I64; omega, hsn⟩
    have ho2 : okC (1 + ((0 + 1 : Nat) : Int), e.name) := ⟨by unfold I64; omega, hsn⟩
    have hc1 := fun W' (hb' : Below W.heap.size W W') => ihx _ _ (1 + ((0 : Nat) : Int), e.name) hs1' ho1 W' n f cnt l (hbW.trans (hb'.mono hbW.size)) (HN.out.bel hb') HMET.out (by omega)
    have hc2 := fun W' n' f' cnt' (hb' : Below w0.heap.size w0 W') (hm' : MapG Tryd.prog 58 3 .i64 okC klC W' M n' f' cnt') (ht' : MetM f' (x.arrs l (1 + ((0 : Nat) : Int), e.name))) (hn' : n' + y.size ≤ 900000000) => ihy _ _ (1 + ((0 + 1 : Nat) : Int), e.name) hs2' ho2 W' n' f' cnt' _ hb' hm' ht' hn'
    have hlt2 : e.sub.length = 2 := by rw [hsub]; rfl
    rw [hlt2]
    unfold exV kvC at hc1 hc2
    dsimp only at hc1 hc2
    simp only [Nat.zero_add] at hc1 hc2 hA
    rw [show (1 : Int) + ((0 : Nat) : Int) = 1 from rfl] at hc1 hc2 hA
    rw [show (1 : Int) + ((1 : Nat) : Int) = 2 from rfl] at hc2 hA
    have HA := Lib.hid hA
    have hbx : b < W.heap.size := block_lt_of_cell x0
    have hbM : b ≠ M := by have hh : b < w0.heap.size := block_lt_of_cell z0; omega
    clear hA hR HARR h10 hsub hx hy ih ihx ihy z0 z1 z2 z3 z0' z1' z2' z3' ho1 ho2 hs1 hs2 hmz hl1 hl2
    go_enter Tryd.func44, Tryd.ntmps44
    go_wp2_with fail
    go_region_law (first | (go_simp; go_wp2_with (go_at_call 44; go_loud (refine (hc1 _ belA).mono ?_; rintro r w3 ⟨rfl, ⟨n3, f3, cnt3, hm3, hn3, hmet3⟩, hg3⟩))))
    all_goals
      have hz3 := hg3.size
      simp at hz3
      have hst3 : ∀ k o u, k < W.heap.size + 2 → k ≠ M → (((W.alloc (.cells #[.int .i64 e.kind, .int .i32 e.n, .string e.name, .slice (some ⟨b, off, none⟩) 2 ce] 54)).alloc (.cells #[.int .i64 ck, .string cs] 58))).cell? ⟨k, o, none⟩ = some u → w3.cell? ⟨k, o, none⟩ = some u := fun k o u hk hne hu => cell_block (hg3.block k (by simp; omega) (by simpa using hne)) hu
      have p2 := hst3 W.heap.size 2 (.string e.name) (by omega) (by omega) (by go_simp)
      have p3 := hst3 W.heap.size 3 (.slice (some ⟨b, off, none⟩) 2 ce) (by omega) (by omega) (by go_simp)
      have v0 := hst3 b _ _ (by omega) hbM (cel_alloc (cel_alloc y0))
      have v1 := hst3 b _ _ (by omega) hbM (cel_alloc (cel_alloc y1))
      have v2 := hst3 b _ _ (by omega) hbM (cel_alloc (cel_alloc y2))
      have v3 := hst3 b _ _ (by omega) hbM (cel_alloc (cel_alloc y3))
      have hgw : W.grownBy w3 (some M) := grow_trans (grow_bel (bel_drew (bel_alloc (bel_alloc (Below.refl _ _) _) _))) hg3
      have hbw3 : Below w0.heap.size w0 w3 := bel_grown hbW hgw (fun k hk => by injection hk with hk; omega) hbW.size
      have hm3' : ∀ W', Below w3.heap.size w3 W' → MapG Tryd.prog 58 3 .i64 okC klC W' M n3 f3 cnt3 := fun W' h => hm3.bel h
      have h12 : 1 < 2 := by omega
      have h12' : (1 : Int) < ((2 : Nat) : Int) := by omega
      clear hst3 hg3 hm3 x0 x1 x2 x3 y0 y1 y2 y3 hc1 HN HMET
      go_wp2_with fail
      go_region_law (first | (go_simp; go_wp2_with (go_at_call 44; go_loud (refine (hc2 _ n3 f3 cnt3 (bel_grow hbw3 (B := w3.heap.size) belA hbw3.size) (hm3' _ belA) hmet3 (by omega)).mono ?_; rintro r w4 ⟨rfl, ⟨n4, f4, cnt4, hm4, hn4, hmet4⟩, hg4⟩))))
      all_goals
        have hg4' : w3.grownBy w4 (some M) := grow_trans (grow_bel (bel_drew (Below.refl _ _))) hg4
        go_wp2_with fail
        refine bodyPost_ret (results_none (by kernel_rfl) _ _ _) rfl ?_
        exact ⟨rfl, ⟨n4, f4, cnt4, hm4, by omega, by rw [HA.out]; exact hmet4⟩, grow_trans hgw hg4'⟩
  have tk10 : (e.kind == 10) = false := by simpa using h10
  by_cases h89 : e.kind = 8 ∨ e.kind = 9
  · have tk7 : (e.kind == 7) = false := by simp; omega
    have hA := hR.trans HARR.out
    rw [if_neg (by omega)] at hA
    have HA := Lib.hid hA
    have hwc : ∀ i, withC e.kind e.name (ck, cs) i = (0, ⟨#[]⟩) := fun i => withC_base h89
    have hoc : okC (0, ⟨#[]⟩) := ⟨by unfold I64; omega, by unfold maxLen; show 0 ≤ _; omega⟩
    have h7 : e.kind ≠ 7 := by omega
    clear hA HARR h10 h7 hR
    have hk8 : ((e.kind == 8) = true ∧ (e.kind == 9) = false) ∨ ((e.kind == 8) = false ∧ (e.kind == 9) = true) := by
      rcases h89 with h | h
      · left; rw [h]; exact ⟨rfl, rfl⟩
      · right; rw [h]; exact ⟨rfl, rfl⟩
    clear h89
    rcases hk8 with ⟨tk8, tk9⟩ | ⟨tk8, tk9⟩
    all_goals
      go_enter Tryd.func44, Tryd.ntmps44
      go_wp2_with fail
      refine wp_name fun W1 hW1 => ?_
      have hm1 : MapG Tryd.prog 58 3 .i64 okC klC W1 M n f cnt := by rw [hW1]; exact HN.out.bel belS2
      have hmet1 : MetM f l := HMET.out
      have hn1 : n ≤ n + 1 := by omega
      have hgr1 : W.grownBy W1 (some M) := by rw [hW1]; exact grow_bel belS2
      have d0 : W1.cell? ⟨W.heap.size + 1, 0, none⟩ = some (.int .i64 0) := by rw [hW1]; go_simp
      have d1 : W1.cell? ⟨W.heap.size + 1, 1, none⟩ = some (.string ⟨#[]⟩) := by rw [hW1]; go_simp
      have hz1 : W.heap.size + 2 ≤ W1.heap.size := by rw [hW1]; simp
      clear hW1
      have HM1 := Lib.hid hm1
      have HMET1 := Lib.hid hmet1
      have HGR1 := Lib.hid hgr1
      clear hm1 hmet1 hgr1
      go_loopw [41] (fun i wr => ∃ (k n2 cnt2 : Nat) (f2 : Int × ByteArray → Option Int) (l2 : List (Int × ByteArray)), k ≤ e.sub.length ∧ i = .int .i64 k ∧ Hid (MapG Tryd.prog 58 3 .i64 okC klC wr M n2 f2 cnt2) ∧ Hid (MetM f2 l2) ∧ Hid (R = Ex.arrsL l2 e.kind e.name (ck, cs) k (e.sub.drop k)) ∧ n2 + Ex.sizeL (e.sub.drop k) ≤ n + e.size ∧ Hid (W1.grownBy wr (some M))) (fun i _ => e.sub.length - (intOf i).toNat)
      case atStart => exact ⟨0, n, cnt, f, l, Nat.zero_le _, rfl, HM1, HMET1, by rw [List.drop_zero]; exact HA, by rw [List.drop_zero]; omega, Lib.hid (grow_bel (Below.refl _ _))⟩
      case round =>
        obtain ⟨k, n2, cnt2, f2, l2, hk, rfl, hmw, hmm, hrem, hnn, hgr⟩ := hrel
        have hzr := hgr.out.size
        have hy1 : W.heap.size + 1 < wr.heap.size := by omega
        have hbW1 : Below w0.heap.size w0 W1 := bel_grown hbW HGR1.out (fun b hb => by injection hb with hb; omega) hbW.size
        have hbw : Below w0.heap.size w0 wr := bel_grown hbW1 hgr.out (fun b hb => by injection hb with hb; omega) hbW1.size
        have d0' := cell_block (a := ⟨W.heap.size + 1, 0, none⟩) (hgr.out.block (W.heap.size + 1) (by omega) (by simp; omega)) d0
        have d1' := cell_block (a := ⟨W.heap.size + 1, 1, none⟩) (hgr.out.block (W.heap.size + 1) (by omega) (by simp; omega)) d1
        by_cases hlt : k < e.sub.length
        · have hx : e.sub[k]? = some e.sub[k] := List.getElem?_eq_getElem hlt
          have hmem : e.sub[k] ∈ e.sub := List.getElem_mem hlt
          have hd : e.sub.drop k = e.sub[k] :: e.sub.drop (k + 1) := List.drop_eq_getElem_cons hlt
          generalize e.sub[k] = x at hx hmem hd
          obtain ⟨b, off, A', cap', rfl, c0, c1, c2, c3, hs⟩ := he.get hx
          have c0' := bel_cell hbw c0
          have c1' := bel_cell hbw c1
          have c2' := bel_cell hbw c2
          have c3' := bel_cell hbw c3
          have hr := hrem.out
          rw [hd, Ex.arrsL, hwc] at hr
          rw [hd, Ex.sizeL] at hnn
          have hcall := fun W' (hb' : Below wr.heap.size wr W') => ih x hmem A' cap' (0, ⟨#[]⟩) hs hoc W' n2 f2 cnt2 l2 (hbw.trans (hb'.mono hbw.size)) (hmw.out.bel hb') hmm.out (by omega)
          unfold exV kvC at hcall
          dsimp only at hcall
          have HR := Lib.hid hr
          clear hr hrem hd hx c0 c1 c2 c3
          go_wp2_with (first | (go_at_call 44; go_loud (refine (hcall _ belA).mono ?_; rintro r w3 ⟨rfl, ⟨n3, f3, cnt3, hm3, hn3, hmet3⟩, hg3⟩)))
          go_roundw
          case rel => exact ⟨k + 1, n3, cnt3, f3, x.arrs l2 (0, ⟨#[]⟩), by omega, by go_num, Lib.hid hm3, Lib.hid hmet3, HR, by omega, Lib.hid (grow_trans hgr.out (grow_trans (grow_bel (bel_alloc (Below.refl _ _) _)) hg3))⟩
          case measure => simp [intOf]; omega
        · obtain rfl : k = e.sub.length := by omega
          have hr := hrem.out
          rw [List.drop_length, Ex.arrsL] at hr
          rw [List.drop_length] at hnn
          clear hrem
          have HR := Lib.hid hr
          clear hr
          go_wp2_with fail
          go_end0
          exact ⟨rfl, ⟨n2, f2, cnt2, hmw.out, by omega, by rw [HR.out]; exact hmm.out⟩, grow_trans HGR1.out hgr.out⟩
  have tk8 : (e.kind == 8) = false := by simp; omega
  have tk9 : (e.kind == 9) = false := by simp; omega
  have hwc : ∀ i, withC e.kind e.name (ck, cs) i = (ck, cs) := fun i => withC_plain (by omega) (by omega) h10
  have hoc : okC (ck, cs) := hc
  by_cases h7 : e.kind = 7
  · have tk7 : (e.kind == 7) = true := by simpa using h7
    have hA := hR.trans HARR.out
    rw [if_pos h7] at hA
    have HA := Lib.hid hA
    clear hA HARR h7 h89 h10 hR
    go_enter Tryd.func44, Tryd.ntmps44
    go_wp2_with (first | (at_mapUpdate; go_loud (refine wpList_stG keyC rfl (.tmp 12) (.tmp 13) (.const (.int .i64 1)) 99 rfl Tryd.underlying99 Tryd.underlying3 M n f cnt (ck, cs) 1 rfl (HN.out.bel belA) (by omega) rfl rfl hc (by decide) (updC f (ck, cs) 1) (updC_same _ _ _) (fun y _ hy => updC_other _ _ _ y hy) ?_; intro w2 hm2 hg2; have q3 : w2.cell? ⟨W.heap.size, 3, none⟩ = some (.slice Ae e.sub.length ce) := cell_block (hg2.block W.heap.size (by simp; try omega) (by simp; omega)) (by go_simp); have q4 : w2.cell? ⟨W.heap.size + 1, 0, none⟩ = some (.int .i64 ck) := cell_block (hg2.block (W.heap.size + 1) (by simp; try omega) (by simp; omega)) (by go_simp); have q5 : w2.cell? ⟨W.heap.size + 1, 1, none⟩ = some (.string cs) := cell_block (hg2.block (W.heap.size + 1) (by simp; try omega) (by simp; omega)) (by go_simp); have hzg := hg2.size; simp at hzg)))
    refine wp_name fun W1 hW1 => ?_
    subst hW1
    have hmet1 := metM_snoc HMET.out (ck, cs)
    have hn1 : n + 1 ≤ n + 1 := Nat.le_refl _
    have hgr1 : W.grownBy W1 (some M) := grow_trans (grow_bel belS2) hg2
    have hz1 : W.heap.size + 2 ≤ W1.heap.size := by omega
    have hm1 := hm2
    have d0 := q4
    have d1 := q5
    clear hm2 hg2 q3 q4 q5 hzg
    have HM1 := Lib.hid hm1
    have HMET1 := Lib.hid hmet1
    have HGR1 := Lib.hid hgr1
    clear hm1 hmet1 hgr1
    go_loopw [41] (fun i wr => ∃ (k n2 cnt2 : Nat) (f2 : Int × ByteArray → Option Int) (l2 : List (Int × ByteArray)), k ≤ e.sub.length ∧ i = .int .i64 k ∧ Hid (MapG Tryd.prog 58 3 .i64 okC klC wr M n2 f2 cnt2) ∧ Hid (MetM f2 l2) ∧ Hid (R = Ex.arrsL l2 e.kind e.name (ck, cs) k (e.sub.drop k)) ∧ n2 + Ex.sizeL (e.sub.drop k) ≤ n + e.size ∧ Hid (W1.grownBy wr (some M))) (fun i _ => e.sub.length - (intOf i).toNat)
    case atStart => exact ⟨0, n + 1, _, updC f (ck, cs) 1, l ++ [(ck, cs)], Nat.zero_le _, rfl, HM1, HMET1, by rw [List.drop_zero]; exact HA, by rw [List.drop_zero]; omega, Lib.hid (grow_bel (Below.refl _ _))⟩
    case round =>
      obtain ⟨k, n2, cnt2, f2, l2, hk, rfl, hmw, hmm, hrem, hnn, hgr⟩ := hrel
      have hzr := hgr.out.size
      have hy1 : W.heap.size + 1 < wr.heap.size := by omega
      have hbW1 : Below w0.heap.size w0 W1 := bel_grown hbW HGR1.out (fun b hb => by injection hb with hb; omega) hbW.size
      have hbw : Below w0.heap.size w0 wr := bel_grown hbW1 hgr.out (fun b hb => by injection hb with hb; omega) hbW1.size
      have d0' := cell_block (a := ⟨W.heap.size + 1, 0, none⟩) (hgr.out.block (W.heap.size + 1) (by omega) (by simp; omega)) d0
      have d1' := cell_block (a := ⟨W.heap.size + 1, 1, none⟩) (hgr.out.block (W.heap.size + 1) (by omega) (by simp; omega)) d1
      by_cases hlt : k < e.sub.length
      · have hx : e.sub[k]? = some e.sub[k] := List.getElem?_eq_getElem hlt
        have hmem : e.sub[k] ∈ e.sub := List.getElem_mem hlt
        have hd : e.sub.drop k = e.sub[k] :: e.sub.drop (k + 1) := List.drop_eq_getElem_cons hlt
        generalize e.sub[k] = x at hx hmem hd
        obtain ⟨b, off, A', cap', rfl, c0, c1, c2, c3, hs⟩ := he.get hx
        have c0' := bel_cell hbw c0
        have c1' := bel_cell hbw c1
        have c2' := bel_cell hbw c2
        have c3' := bel_cell hbw c3
        have hr := hrem.out
        rw [hd, Ex.arrsL, hwc] at hr
        rw [hd, Ex.sizeL] at hnn
        have hcall := fun W' (hb' : Below wr.heap.size wr W') => ih x hmem A' cap' (ck, cs) hs hoc W' n2 f2 cnt2 l2 (hbw.trans (hb'.mono hbw.size)) (hmw.out.bel hb') hmm.out (by omega)
        unfold exV kvC at hcall
        dsimp only at hcall
        have HR := Lib.hid hr
        clear hr hrem hd hx c0 c1 c2 c3
        go_wp2_with (first | (go_at_call 44; go_loud (refine (hcall _ belA).mono ?_; rintro r w3 ⟨rfl, ⟨n3, f3, cnt3, hm3, hn3, hmet3⟩, hg3⟩)))
        go_roundw
        case rel => exact ⟨k + 1, n3, cnt3, f3, x.arrs l2 (ck, cs), by omega, by go_num, Lib.hid hm3, Lib.hid hmet3, HR, by omega, Lib.hid (grow_trans hgr.out (grow_trans (grow_bel (bel_alloc (Below.refl _ _) _)) hg3))⟩
        case measure => simp [intOf]; omega
      · obtain rfl : k = e.sub.length := by omega
        have hr := hrem.out
        rw [List.drop_length, Ex.arrsL] at hr
        rw [List.drop_length] at hnn
        clear hrem
        have HR := Lib.hid hr
        clear hr
        go_wp2_with fail
        go_end0
        exact ⟨rfl, ⟨n2, f2, cnt2, hmw.out, by omega, by rw [HR.out]; exact hmm.out⟩, grow_trans HGR1.out hgr.out⟩
  · have tk7 : (e.kind == 7) = false := by simpa using h7
    have hA := hR.trans HARR.out
    rw [if_neg h7] at hA
    have HA := Lib.hid hA
    clear hA HARR h7 h89 h10 hR
    go_enter Tryd.func44, Tryd.ntmps44
    go_wp2_with fail
    refine wp_name fun W1 hW1 => ?_
    have hm1 : MapG Tryd.prog 58 3 .i64 okC klC W1 M n f cnt := by rw [hW1]; exact HN.out.bel belS2
    have hmet1 : MetM f l := HMET.out
    have hn1 : n ≤ n + 1 := by omega
    have hgr1 : W.grownBy W1 (some M) := by rw [hW1]; exact grow_bel belS2
    have d0 : W1.cell? ⟨W.heap.size + 1, 0, none⟩ = some (.int .i64 ck) := by rw [hW1]; go_simp
    have d1 : W1.cell? ⟨W.heap.size + 1, 1, none⟩ = some (.string cs) := by rw [hW1]; go_simp
    have hz1 : W.heap.size + 2 ≤ W1.heap.size := by rw [hW1]; simp
    clear hW1
    have HM1 := Lib.hid hm1
    have HMET1 := Lib.hid hmet1
    have HGR1 := Lib.hid hgr1
    clear hm1 hmet1 hgr1
    go_loopw [41] (fun i wr => ∃ (k n2 cnt2 : Nat) (f2 : Int × ByteArray → Option Int) (l2 : List (Int × ByteArray)), k ≤ e.sub.length ∧ i = .int .i64 k ∧ Hid (MapG Tryd.prog 58 3 .i64 okC klC wr M n2 f2 cnt2) ∧ Hid (MetM f2 l2) ∧ Hid (R = Ex.arrsL l2 e.kind e.name (ck, cs) k (e.sub.drop k)) ∧ n2 + Ex.sizeL (e.sub.drop k) ≤ n + e.size ∧ Hid (W1.grownBy wr (some M))) (fun i _ => e.sub.length - (intOf i).toNat)
    case atStart => exact ⟨0, n, cnt, f, l, Nat.zero_le _, rfl, HM1, HMET1, by rw [List.drop_zero]; exact HA, by rw [List.drop_zero]; omega, Lib.hid (grow_bel (Below.refl _ _))⟩
    case round =>
      obtain ⟨k, n2, cnt2, f2, l2, hk, rfl, hmw, hmm, hrem, hnn, hgr⟩ := hrel
      have hzr := hgr.out.size
      have hy1 : W.heap.size + 1 < wr.heap.size := by omega
      have hbW1 : Below w0.heap.size w0 W1 := bel_grown hbW HGR1.out (fun b hb => by injection hb with hb; omega) hbW.size
      have hbw : Below w0.heap.size w0 wr := bel_grown hbW1 hgr.out (fun b hb => by injection hb with hb; omega) hbW1.size
      have d0' := cell_block (a := ⟨W.heap.size + 1, 0, none⟩) (hgr.out.block (W.heap.size + 1) (by omega) (by simp; omega)) d0
      have d1' := cell_block (a := ⟨W.heap.size + 1, 1, none⟩) (hgr.out.block (W.heap.size + 1) (by omega) (by simp; omega)) d1
      by_cases hlt : k < e.sub.length
      · have hx : e.sub[k]? = some e.sub[k] := List.getElem?_eq_getElem hlt
        have hmem : e.sub[k] ∈ e.sub := List.getElem_mem hlt
        have hd : e.sub.drop k = e.sub[k] :: e.sub.drop (k + 1) := List.drop_eq_getElem_cons hlt
        generalize e.sub[k] = x at hx hmem hd
        obtain ⟨b, off, A', cap', rfl, c0, c1, c2, c3, hs⟩ := he.get hx
        have c0' := bel_cell hbw c0
        have c1' := bel_cell hbw c1
        have c2' := bel_cell hbw c2
        have c3' := bel_cell hbw c3
        have hr := hrem.out
        rw [hd, Ex.arrsL, hwc] at hr
        rw [hd, Ex.sizeL] at hnn
        have hcall := fun W' (hb' : Below wr.heap.size wr W') => ih x hmem A' cap' (ck, cs) hs hoc W' n2 f2 cnt2 l2 (hbw.trans (hb'.mono hbw.size)) (hmw.out.bel hb') hmm.out (by omega)
        unfold exV kvC at hcall
        dsimp only at hcall
        have HR := Lib.hid hr
        clear hr hrem hd hx c0 c1 c2 c3
        go_wp2_with (first | (go_at_call 44; go_loud (refine (hcall _ belA).mono ?_; rintro r w3 ⟨rfl, ⟨n3, f3, cnt3, hm3, hn3, hmet3⟩, hg3⟩)))
        go_roundw
        case rel => exact ⟨k + 1, n3, cnt3, f3, x.arrs l2 (ck, cs), by omega, by go_num, Lib.hid hm3, Lib.hid hmet3, HR, by omega, Lib.hid (grow_trans hgr.out (grow_trans (grow_bel (bel_alloc (Below.refl _ _) _)) hg3))⟩
        case measure => simp [intOf]; omega
      · obtain rfl : k = e.sub.length := by omega
        have hr := hrem.out
        rw [List.drop_length, Ex.arrsL] at hr
        rw [List.drop_length] at hnn
        clear hrem
        have HR := Lib.hid hr
        clear hr
        go_wp2_with fail
        go_end0
        exact ⟨rfl, ⟨n2, f2, cnt2, hmw.out, by omega, by rw [HR.out]; exact hmm.out⟩, grow_trans HGR1.out hgr.out⟩

end Go.Proofs.YtknfcamdfdfoeaaDoor

/- A world that is as it was, apart from blocks of a kind. -/
namespace Go.Proofs.YtknfcamdfdfoeaaDoor
open Go.RowKit Go.Sort

/-- All but the blocks in S is as it was. -/
structure Kept (S : Nat → Prop) (W W' : World) : Prop where
  os : W'.os = W.os
  tape : W'.tape = W.tape
  output : W'.output = W.output
  size : W.heap.size ≤ W'.heap.size
  block : ∀ k, k < W.heap.size → ¬ S k → W'.heap[k]? = W.heap[k]?
theorem Kept.refl {S : Nat → Prop} (W : World) : Kept S W W := ⟨rfl, rfl, rfl, Nat.le_refl _, fun _ _ _ => rfl⟩
theorem Kept.bel {S : Nat → Prop} {W W' : World} (h : Below W.heap.size W W') : Kept S W W' := ⟨h.os, h.tape, h.output, h.size, fun k hk _ => h.block k hk⟩
theorem Kept.grown {S : Nat → Prop} {W W' : World} {r : Option Nat} (h : W.grownBy W' r) (hr : ∀ k, r = some k → S k) : Kept S W W' :=
  ⟨h.os, h.tape, h.output, h.size, fun k hk hs => h.block k hk fun he => hs (hr k he.symm)⟩
theorem Kept.trans {S T : Nat → Prop} {a b c : World} (h1 : Kept S a b) (h2 : Kept T b c) (hT : ∀ k, k < a.heap.size → T k → S k) : Kept S a c :=
  ⟨h2.os.trans h1.os, h2.tape.trans h1.tape, h2.output.trans h1.output, Nat.le_trans h1.size h2.size, fun k hk hs =>
    (h2.block k (Nat.lt_of_lt_of_le hk h1.size) fun ht => hs (hT k hk ht)).trans (h1.block k hk hs)⟩
theorem Kept.trans' {S : Nat → Prop} {a b c : World} (h1 : Kept S a b) (h2 : Kept S b c) : Kept S a c := h1.trans h2 fun _ _ h => h
theorem Kept.less {S T : Nat → Prop} {a b : World} (h : Kept T a b) (hT : ∀ k, k < a.heap.size → T k → S k) : Kept S a b := (Kept.refl a).trans h hT
theorem Kept.setCell {S : Nat → Prop} {W W' : World} (h : Kept S W W') {b : Nat} (hb : S b) (o : Nat) (u : Value) : Kept S W (W'.setCell ⟨b, o, none⟩ u) :=
  ⟨h.os, h.tape, h.output, by rw [show (W'.setCell ⟨b, o, none⟩ u).heap.size = W'.heap.size from by simp]; exact h.size, fun k hk hs => by
    rw [heap_setCell_other _ _ _ _ (by show k ≠ b; exact fun he => hs (he ▸ hb))]
    exact h.block k hk hs⟩
theorem Kept.below {S : Nat → Prop} {w W W' : World} (h : Below w.heap.size w W) (hk : Kept S W W') (hs : ∀ k, k < w.heap.size → ¬ S k) : Below w.heap.size w W' :=
  ⟨hk.os.trans h.os, hk.tape.trans h.tape, hk.output.trans h.output, Nat.le_trans h.size hk.size, fun k hk' =>
    (hk.block k (Nat.lt_of_lt_of_le hk' h.size) (hs k hk')).trans (h.block k hk')⟩
theorem Kept.cell {S : Nat → Prop} {W W' : World} (h : Kept S W W') {b o : Nat} {v : Value} (hs : ¬ S b) (hc : W.cell? ⟨b, o, none⟩ = some v) : W'.cell? ⟨b, o, none⟩ = some v :=
  cell_block (h.block b (block_lt_of_cell hc) hs) hc
theorem Kept.own {S : Nat → Prop} {W W' : World} (h : Kept S W W') {base n size : Nat} {e : TypeId} {v : Value} {xs : List Value} (hs : ∀ b, v.ownBlock = some b → ¬ S b) (ho : W.ownsRow base e size v n xs) : W'.ownsRow base e size v n xs := by
  obtain ⟨k, hk⟩ : ∃ k, k = v.ownBlock := ⟨_, rfl⟩
  rcases ho with ⟨h1, h2⟩
  refine ⟨h1, ?_⟩
  rcases h2 with h2 | ⟨g, cap, os, hv, hb, hg, h3⟩
  · exact .inl h2
  · refine .inr ⟨g, cap, os, hv, hb, ?_, h3⟩
    have hlt : g < W.heap.size := by
      rcases Nat.lt_or_ge g W.heap.size with h4 | h4
      · exact h4
      · rw [Array.getElem?_eq_none h4] at hg; cases hg
    rw [h.block g hlt (hs g (by rw [hv]; rfl))]
    exact hg
theorem off_kept {S : Nat → Prop} {base : Nat} {W W' : World} {P : World → Prop} (h : Off base none W P) (hk : Kept S W W') (hs : ∀ k, base ≤ k → k < W.heap.size → ¬ S k) : P W' :=
  h W' fun k h1 h2 _ => hk.block k h2 (hs k h1 h2)
end Go.Proofs.YtknfcamdfdfoeaaDoor

/- A region that draws its order: its last operations wait for all others, and hit what those read: only those are walked in whatever order. -/
namespace Go.Proofs.YtknfcamdfdfoeaaDoor
open Go.RowKit Go.Sort

section
variable {P : Program} {ops : Array Oper} {Q : Exit → Act → World → Prop} {md : Region.Mode} {S : World → Prop}

/-- Whatever order the first operations come in, S holds behind each; then what is left. -/
def wpHT (P : Program) (md : Region.Mode) (ops : Array Oper) (Q : Exit → Act → World → Prop) (S : World → Prop) (n g : Nat) : Nat → Array Bool → Act → World → Prop
  | 0, listed, a, w => (∀ j ∈ Region.ready md ops listed, n ≤ j) ∧ wpAny P md ops Q g listed a w
  | f + 1, listed, a, w => Region.ready md ops listed ≠ [] ∧ ∀ i ∈ Region.ready md ops listed, wpOp P ops Q i (fun a' w' => S w' ∧ wpHT P md ops Q S n g f (listed.setIfInBounds i true) a' w') a w
theorem wpAny_of_ht {n g : Nat} : ∀ (f : Nat) (listed : Array Bool) (a : Act) (w : World), wpHT P md ops Q S n g f listed a w → wpAny P md ops Q (f + g) listed a w
  | 0, listed, a, w, h => by rw [Nat.zero_add]; exact h.2
  | f + 1, listed, a, w, h => by
    rw [show f + 1 + g = (f + g) + 1 by omega]
    exact ⟨fun h0 => absurd h0 h.1, fun i hi => wpOp_mono (fun a' w' h' => wpAny_of_ht f _ a' w' h'.2) (h.2 i hi)⟩
theorem wpHT_first {n g i : Nat} {oi : Oper} {v : Value} (hi : ops[i]? = some oi) (hsel : ∀ (j : Nat) (o : Oper) cs b, ops[j]? = some o → o.op ≠ .select cs b)
    (hs : Region.sinkB md ops n = true) (hc : Region.chainB md ops n = true) (hn : n < ops.size) (hin : i < n) (hQ : ∀ c a w, Q (.panic c) (a.put oi.dst v) w → Q (.panic c) a w) :
    ∀ (f : Nat) (listed : Array Bool) (a : Act) (w : World), HeadInv md ops n listed →
      (∀ j oj, ops[j]? = some oj → j ≠ i → listed.getD j true = false → (∀ e ∈ oj.after, Region.binds md e = true → e.on ≠ i) → oi.apart ops oj = true) →
      i ∈ Region.ready md ops listed → YieldsIf P ops S oi v a → S w →
      wpHT P md ops Q S n g f (listed.setIfInBounds i true) (a.put oi.dst v) w → wpHT P md ops Q S n g (f + 1) listed a w := by
  intro f
  induction f with
  | zero =>
    intro listed a w inv _ hr hy hS H
    have hun := (mem_ready.1 hr).1
    refine ⟨fun h => (by rw [h] at hr; cases hr), fun j hj => ?_⟩
    have hjn : j < n := by
      rcases Nat.lt_or_ge j n with h | h
      · exact h
      · exact absurd hj (tail_waits hs hc hn inv _ i rfl hin hun j h)
    by_cases hji : j = i
    · subst hji; exact hy.wpOp hi hS ⟨hS, H⟩
    · have := H.1 j (ready_mono hj hji)
      omega
  | succ f ih =>
    intro listed a w inv hfree hr hy hS H
    have hun := (mem_ready.1 hr).1
    refine ⟨fun h => (by rw [h] at hr; cases hr), fun j hj => ?_⟩
    have hjn : j < n := by
      rcases Nat.lt_or_ge j n with h | h
      · exact h
      · exact absurd hj (tail_waits hs hc hn inv _ i rfl hin hun j h)
    by_cases hji : j = i
    · subst hji; exact hy.wpOp hi hS ⟨hS, H⟩
    · have h1 := H.2 j (ready_mono hj hji)
      obtain ⟨hjun, oj, hoj, hall⟩ := mem_ready.1 hj
      have hnot : ∀ e ∈ oj.after, Region.binds md e = true → e.on ≠ i := fun e he hb heq => by
        have h2 := hall e he hb
        rw [heq, getD_both hun] at h2
        cases h2
      have h2 := wpOp_putIf hoj (hfree j oj hoj hji hjun hnot) (fun cs b => hsel i oi cs b hi) (fun cs b => hsel j oj cs b hoj) hQ hy h1
      refine wpOp_mono (fun a' w' h3 => ⟨h3.2.1, ih (listed.setIfInBounds j true) a' w' (inv.set hj hjn) (fun k ok hk hki hku hno => hfree k ok hk hki ?_ hno) (ready_mono hr (Ne.symm hji)) h3.1 h3.2.1 ?_⟩) h2
      · by_cases hjk : j = k
        · subst hjk; exact hjun
        · rw [getD_set_ne true hjk] at hku; exact hku
      · rw [Array.setIfInBounds_comm _ _ hji]
        exact h3.2.2

/-- What was listed waits for nothing that was not; none of the last was. -/
def headIs (md : Region.Mode) (ops : Array Oper) (n : Nat) (listed : Array Bool) : Bool :=
  (listed.size == ops.size) && (List.range ops.size).all (fun j => !listed.getD j false || (match ops[j]? with | some o => o.after.all (fun e => !Region.binds md e || listed.getD e.on false) | none => true)) &&
    (List.range ops.size).all (fun t => decide (t < n) || !listed.getD t true)
theorem headIs_spec {n : Nat} {listed : Array Bool} (h : headIs md ops n listed = true) : HeadInv md ops n listed := by
  simp only [headIs, Bool.and_eq_true, beq_iff_eq, List.all_eq_true, List.mem_range] at h
  obtain ⟨⟨h1, h2⟩, h3⟩ := h
  refine ⟨h1, fun j oj hj hl e he hb => ?_, fun t ht hlt => ?_⟩
  · have h4 := h2 j (Array.getElem?_eq_some_iff.1 hj).1
    rw [hl, hj] at h4
    simp only [Bool.not_true, Bool.false_or, Array.all_eq_true_iff_forall_mem] at h4
    have h5 := h4 e he
    rw [hb] at h5
    simpa using h5
  · have h4 := h3 t hlt
    rw [show decide (t < n) = false from by simpa using ht] at h4
    simpa using h4
theorem wpHT_take {n g i : Nat} {oi : Oper} {v : Value} {f : Nat} {listed : Array Bool} {a : Act} {w : World} (hi : ops[i]? = some oi)
    (hsn : Region.noSelect ops = true) (hs : Region.sinkB md ops n = true) (hc : Region.chainB md ops n = true) (hn : decide (n < ops.size) = true) (hin : decide (i < n) = true)
    (hv : headIs md ops n listed = true) (hf : Region.free md ops listed i = true) (hr : (Region.ready md ops listed).contains i = true)
    (hQ : ∀ c a w, Q (.panic c) (a.put oi.dst v) w → Q (.panic c) a w) (hy : YieldsIf P ops S oi v a) (hS : S w)
    (h : wpHT P md ops Q S n g f (listed.setIfInBounds i true) (a.put oi.dst v) w) : wpHT P md ops Q S n g (f + 1) listed a w :=
  wpHT_first hi (Region.noSelect_spec hsn) hs hc (of_decide_eq_true hn) (of_decide_eq_true hin) hQ f listed a w (headIs_spec hv) (Region.free_spec hi hf) (by simpa using hr) hy hS h
/-- The one that may come up. -/
theorem wpHT_one {n g i : Nat} {oi : Oper} {f : Nat} {listed : Array Bool} {a : Act} {w : World} (hr : Region.ready md ops listed = [i]) (hi : ops[i]? = some oi) (hg : oi.guard = none)
    (h : oi.wp P a w (fun a' w' => S w' ∧ wpHT P md ops Q S n g f (listed.setIfInBounds i true) a' w') Q) : wpHT P md ops Q S n g (f + 1) listed a w := by
  refine ⟨fun h0 => (by rw [hr] at h0; cases h0), fun j hj => ?_⟩
  rw [hr] at hj
  obtain rfl := List.mem_singleton.1 hj
  unfold wpOp
  have hw : Region.wanted oi (yielded ops a.tmps) = true := by simp [Region.wanted, hg]
  simp only [hi, hw, if_true]
  exact .inl h
/-- wpHT_take, as the walks use it. -/
theorem takeA {n g : Nat} (i : Nat) {oi : Oper} {v : Value} {f : Nat} {listed : Array Bool} {a : Act} {w : World} (hS : S w) (hrun : ∀ w, S w → (execOp a.eval oi).run P w = .ok (.value v) w)
    (h : wpHT P md ops Q S n g f (listed.setIfInBounds i true) (a.put oi.dst v) w) (hi : ops[i]? = some oi := by simp only [List.getElem?_toArray, List.getElem?_cons_succ, List.getElem?_cons_zero]; rfl)
    (hsn : Region.noSelect ops = true := by kernel_rfl) (hs : Region.sinkB md ops n = true := by kernel_rfl) (hc : Region.chainB md ops n = true := by kernel_rfl) (hn : decide (n < ops.size) = true := by kernel_rfl) (hin : decide (i < n) = true := by kernel_rfl)
    (hv : headIs md ops n listed = true := by kernel_rfl) (hf : Region.free md ops listed i = true := by kernel_rfl) (hr : (Region.ready md ops listed).contains i = true := by kernel_rfl)
    (hQ : ∀ c a w, Q (.panic c) (a.put oi.dst v) w → Q (.panic c) a w := by intro _ _ _ h; exact h) (hw : Region.wanted oi (yielded ops a.tmps) = true := by rfl) : wpHT P md ops Q S n g (f + 1) listed a w :=
  wpHT_take hi hsn hs hc hn hin hv hf hr hQ (.inl ⟨hw, hrun⟩) hS h
theorem oneA {n g : Nat} (i : Nat) {oi : Oper} {f : Nat} {listed : Array Bool} {a : Act} {w : World} (h : oi.wp P a w (fun a' w' => S w' ∧ wpHT P md ops Q S n g f (listed.setIfInBounds i true) a' w') Q)
    (hr : Region.ready md ops listed = [i] := by kernel_rfl) (hi : ops[i]? = some oi := by simp only [List.getElem?_toArray, List.getElem?_cons_succ, List.getElem?_cons_zero]; rfl) (hg : oi.guard = none := by rfl) : wpHT P md ops Q S n g (f + 1) listed a w :=
  wpHT_one hr hi hg h
theorem wpHT_done {n g : Nat} {listed : Array Bool} {a : Act} {w : World} (hr : Region.ready md ops listed = [n]) (h : wpAny P md ops Q g listed a w) : wpHT P md ops Q S n g 0 listed a w :=
  ⟨fun j hj => by rw [hr] at hj; rw [List.mem_singleton.1 hj]; exact Nat.le_refl _, h⟩
theorem wpAny_one {g i : Nat} {oi : Oper} {listed : Array Bool} {a : Act} {w : World} (hr : Region.ready md ops listed = [i]) (hi : ops[i]? = some oi) (hg : oi.guard = none)
    (h : oi.wp P a w (wpAny P md ops Q g (listed.setIfInBounds i true)) Q) : wpAny P md ops Q (g + 1) listed a w := by
  refine ⟨fun h0 => (by rw [hr] at h0; cases h0), fun j hj => ?_⟩
  rw [hr] at hj
  obtain rfl := List.mem_singleton.1 hj
  unfold wpOp
  have hw : Region.wanted oi (yielded ops a.tmps) = true := by simp [Region.wanted, hg]
  simp only [hi, hw, if_true]
  exact .inl h
theorem anyA {g : Nat} (i : Nat) {oi : Oper} {listed : Array Bool} {a : Act} {w : World} (h : oi.wp P a w (wpAny P md ops Q g (listed.setIfInBounds i true)) Q)
    (hr : Region.ready md ops listed = [i] := by kernel_rfl) (hi : ops[i]? = some oi := by simp only [List.getElem?_toArray, List.getElem?_cons_succ, List.getElem?_cons_zero]; rfl) (hg : oi.guard = none := by rfl) : wpAny P md ops Q (g + 1) listed a w :=
  wpAny_one hr hi hg h
theorem wpAny_end {listed : Array Bool} {a : Act} {w : World} (hr : Region.ready md ops listed = []) (h : Q .normal a w) : wpAny P md ops Q 0 listed a w := ⟨hr, h⟩
theorem wp_region_ht (S : World → Prop) (n g : Nat) {id : Nat} {a : Act} {w : World} (hm : P.follows .mixedOrders = true) (hsz : ops.size = n + g)
    (h : wpHT P .any ops Q S n g n (Array.replicate ops.size false) a w.drew) : (Code.region id ops true).wp P Q a w := by
  refine wp_region_any hm ?_
  rw [show ops.size = n + g from hsz] at h ⊢
  exact wpAny_of_ht n _ a _ h
theorem oper_wp_K {o : Oper} {a : Act} {w : World} {K : Act → World → Prop} (h : ∀ K' : Act → World → Prop, (∀ a w, K a w → K' a w) → o.wp P a w K' Q) : o.wp P a w K Q := h K fun _ _ h => h
theorem exit_nm {Q : Exit → Act → World → Prop} {e : Exit} {a : Act} {W : World} (h : ∀ W0, W0 = W → Q e a W0) : Q e a W := h W rfl
theorem any_name {g : Nat} {listed : Array Bool} {a : Act} {w : World} (h : ∀ W0, W0 = w → wpAny P md ops Q g listed a W0) : wpAny P md ops Q g listed a w := h w rfl
theorem ht_name {n g f : Nat} {listed : Array Bool} {a : Act} {w : World} (h : ∀ W0, W0 = w → wpHT P md ops Q S n g f listed a W0) : wpHT P md ops Q S n g f listed a w := h w rfl
end
theorem drew_cell (W : World) (p : Addr) : W.drew.cell? p = W.cell? p := rfl
theorem drew_frozen (W : World) (p : Addr) : W.drew.frozen? p = W.frozen? p := rfl
theorem sc_off (W : World) (b o j : Nat) (v : Value) (h : j ≠ o) : (W.setCell ⟨b, o, none⟩ v).cell? ⟨b, j, none⟩ = W.cell? ⟨b, j, none⟩ := World.cell?_setCell_other _ _ _ _ (by intro he; injection he with e1 e2; first | exact h e2 | exact h e2.symm)
theorem sc_blk (W : World) (b o c j : Nat) (v : Value) (h : c ≠ b) : (W.setCell ⟨b, o, none⟩ v).cell? ⟨c, j, none⟩ = W.cell? ⟨c, j, none⟩ := World.cell?_setCell_other _ _ _ _ (by intro he; injection he with e1 e2; first | exact h e1 | exact h e1.symm)
theorem set3 {W : World} {b : Nat} {u0 u1 u2 : Value} (v0 v1 v2 : Value) (h0 : W.cell? ⟨b, 0, none⟩ = some u0) (h1 : W.cell? ⟨b, 1, none⟩ = some u1) (h2 : W.cell? ⟨b, 2, none⟩ = some u2) :
    (((W.setCell ⟨b, 0, none⟩ v0).setCell ⟨b, 1, none⟩ v1).setCell ⟨b, 2, none⟩ v2).cell? ⟨b, 0, none⟩ = some v0 ∧ (((W.setCell ⟨b, 0, none⟩ v0).setCell ⟨b, 1, none⟩ v1).setCell ⟨b, 2, none⟩ v2).cell? ⟨b, 1, none⟩ = some v1 ∧ (((W.setCell ⟨b, 0, none⟩ v0).setCell ⟨b, 1, none⟩ v1).setCell ⟨b, 2, none⟩ v2).cell? ⟨b, 2, none⟩ = some v2 := by
  refine ⟨?_, ?_, ?_⟩
  · rw [sc_off _ _ _ _ _ (by decide), sc_off _ _ _ _ _ (by decide)]; exact World.cell?_setCell_same _ _ _ h0
  · rw [sc_off _ _ _ _ _ (by decide)]; exact World.cell?_setCell_same _ _ _ (by rw [sc_off _ _ _ _ _ (by decide)]; exact h1)
  · exact World.cell?_setCell_same _ _ _ (by rw [sc_off _ _ _ _ _ (by decide), sc_off _ _ _ _ _ (by decide)]; exact h2)
theorem set3_blk {W : World} {b : Nat} (v0 v1 v2 : Value) {c j : Nat} (h : c ≠ b) : (((W.setCell ⟨b, 0, none⟩ v0).setCell ⟨b, 1, none⟩ v1).setCell ⟨b, 2, none⟩ v2).cell? ⟨c, j, none⟩ = W.cell? ⟨c, j, none⟩ := by rw [sc_blk _ _ _ _ _ _ h, sc_blk _ _ _ _ _ _ h, sc_blk _ _ _ _ _ _ h]
theorem set3_fz {W : World} {b : Nat} (v0 v1 v2 : Value) (p : Addr) : (((W.setCell ⟨b, 0, none⟩ v0).setCell ⟨b, 1, none⟩ v1).setCell ⟨b, 2, none⟩ v2).frozen? p = W.frozen? p := by rw [World.frozen?_setCell, World.frozen?_setCell, World.frozen?_setCell]
theorem set5 {W : World} {b : Nat} {u0 u1 u2 u3 u4 : Value} (v0 v1 v2 v3 v4 : Value) (h0 : W.cell? ⟨b, 0, none⟩ = some u0) (h1 : W.cell? ⟨b, 1, none⟩ = some u1) (h2 : W.cell? ⟨b, 2, none⟩ = some u2) (h3 : W.cell? ⟨b, 3, none⟩ = some u3) (h4 : W.cell? ⟨b, 4, none⟩ = some u4) :
    (((((W.setCell ⟨b, 0, none⟩ v0).setCell ⟨b, 1, none⟩ v1).setCell ⟨b, 2, none⟩ v2).setCell ⟨b, 3, none⟩ v3).setCell ⟨b, 4, none⟩ v4).cell? ⟨b, 0, none⟩ = some v0 ∧ (((((W.setCell ⟨b, 0, none⟩ v0).setCell ⟨b, 1, none⟩ v1).setCell ⟨b, 2, none⟩ v2).setCell ⟨b, 3, none⟩ v3).setCell ⟨b, 4, none⟩ v4).cell? ⟨b, 1, none⟩ = some v1 ∧ (((((W.setCell ⟨b, 0, none⟩ v0).setCell ⟨b, 1, none⟩ v1).setCell ⟨b, 2, none⟩ v2).setCell ⟨b, 3, none⟩ v3).setCell ⟨b, 4, none⟩ v4).cell? ⟨b, 2, none⟩ = some v2 ∧ (((((W.setCell ⟨b, 0, none⟩ v0).setCell ⟨b, 1, none⟩ v1).setCell ⟨b, 2, none⟩ v2).setCell ⟨b, 3, none⟩ v3).setCell ⟨b, 4, none⟩ v4).cell? ⟨b, 3, none⟩ = some v3 ∧ (((((W.setCell ⟨b, 0, none⟩ v0).setCell ⟨b, 1, none⟩ v1).setCell ⟨b, 2, none⟩ v2).setCell ⟨b, 3, none⟩ v3).setCell ⟨b, 4, none⟩ v4).cell? ⟨b, 4, none⟩ = some v4 := by
  refine ⟨?_, ?_, ?_, ?_, ?_⟩
  · rw [sc_off _ _ _ _ _ (by decide), sc_off _ _ _ _ _ (by decide), sc_off _ _ _ _ _ (by decide), sc_off _ _ _ _ _ (by decide)]; exact World.cell?_setCell_same _ _ _ h0
  · rw [sc_off _ _ _ _ _ (by decide), sc_off _ _ _ _ _ (by decide), sc_off _ _ _ _ _ (by decide)]; exact World.cell?_setCell_same _ _ _ (by rw [sc_off _ _ _ _ _ (by decide)]; exact h1)
  · rw [sc_off _ _ _ _ _ (by decide), sc_off _ _ _ _ _ (by decide)]; exact World.cell?_setCell_same _ _ _ (by rw [sc_off _ _ _ _ _ (by decide), sc_off _ _ _ _ _ (by decide)]; exact h2)
  · rw [sc_off _ _ _ _ _ (by decide)]; exact World.cell?_setCell_same _ _ _ (by rw [sc_off _ _ _ _ _ (by decide), sc_off _ _ _ _ _ (by decide), sc_off _ _ _ _ _ (by decide)]; exact h3)
  · exact World.cell?_setCell_same _ _ _ (by rw [sc_off _ _ _ _ _ (by decide), sc_off _ _ _ _ _ (by decide), sc_off _ _ _ _ _ (by decide), sc_off _ _ _ _ _ (by decide)]; exact h4)
theorem set5_blk {W : World} {b : Nat} (v0 v1 v2 v3 v4 : Value) {c j : Nat} (h : c ≠ b) : (((((W.setCell ⟨b, 0, none⟩ v0).setCell ⟨b, 1, none⟩ v1).setCell ⟨b, 2, none⟩ v2).setCell ⟨b, 3, none⟩ v3).setCell ⟨b, 4, none⟩ v4).cell? ⟨c, j, none⟩ = W.cell? ⟨c, j, none⟩ := by rw [sc_blk _ _ _ _ _ _ h, sc_blk _ _ _ _ _ _ h, sc_blk _ _ _ _ _ _ h, sc_blk _ _ _ _ _ _ h, sc_blk _ _ _ _ _ _ h]
theorem set5_fz {W : World} {b : Nat} (v0 v1 v2 v3 v4 : Value) (p : Addr) : (((((W.setCell ⟨b, 0, none⟩ v0).setCell ⟨b, 1, none⟩ v1).setCell ⟨b, 2, none⟩ v2).setCell ⟨b, 3, none⟩ v3).setCell ⟨b, 4, none⟩ v4).frozen? p = W.frozen? p := by rw [World.frozen?_setCell, World.frozen?_setCell, World.frozen?_setCell, World.frozen?_setCell, World.frozen?_setCell]
theorem bel_set3 {m : Nat} {w W : World} {b : Nat} (v0 v1 v2 : Value) (h : Below m w W) (hb : m ≤ b) : Below m w (((W.setCell ⟨b, 0, none⟩ v0).setCell ⟨b, 1, none⟩ v1).setCell ⟨b, 2, none⟩ v2) := (Below.setCell (Below.setCell (Below.setCell h hb _) hb _) hb _)
theorem bel_set5 {m : Nat} {w W : World} {b : Nat} (v0 v1 v2 v3 v4 : Value) (h : Below m w W) (hb : m ≤ b) : Below m w (((((W.setCell ⟨b, 0, none⟩ v0).setCell ⟨b, 1, none⟩ v1).setCell ⟨b, 2, none⟩ v2).setCell ⟨b, 3, none⟩ v3).setCell ⟨b, 4, none⟩ v4) := (Below.setCell (Below.setCell (Below.setCell (Below.setCell (Below.setCell h hb _) hb _) hb _) hb _) hb _)
end Go.Proofs.YtknfcamdfdfoeaaDoor
