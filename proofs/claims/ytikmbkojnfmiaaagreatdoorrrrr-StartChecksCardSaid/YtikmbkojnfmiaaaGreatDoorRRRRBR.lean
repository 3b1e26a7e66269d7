/- Maps from texts to numbers whose entries are counted; delete. -/
import Derived.Test.YtikmbkojnfmiaaaGreatDoorRRRRBB
import Derived.Maps.OwnSet
import Derived.Test.YtikmbkojnfmiaaaGreatDoorRRRRBQ
import Derived.Test.YtikmbkojnfmiaaaGreatDoorRRRRWRefVars
import Derived.Test.YtikmbkojnfmiaaaGreatDoorRRRRWFind
import Derived.Test.YtikmbkojnfmiaaaGreatDoorRRRRBI
set_option linter.unusedVariables false
set_option linter.unusedSimpArgs false
set_option maxRecDepth 100000
namespace Go.Proofs.YtikmbkojnfmiaaaGreatDoorRRRR
open Go.RowKit Go.Sort Go.Maps Go.ChangeMaps Go.WideMaps

/-- Block b is a map of just c entries from texts to ints: f. -/
def MapN (P : Program) (k e : TypeId) (w : World) (b n : Nat) (f : ByteArray → Option Int) (c : Nat) : Prop :=
  ∃ D : DataW Unit, w.ownsMap P k (plainElem P e) b n D ∧ Maps.Tidy D ∧ Maps.size D = c ∧
    ∀ s : ByteArray, Maps.has D (.string s.data.toList) = (f s).isSome ∧ D.atKey (.string s.data.toList) (.lit (.int .i64 0)) = .lit (.int .i64 ((f s).getD 0))

/-- f without s. -/
def strike (f : ByteArray → Option Int) (s : ByteArray) : ByteArray → Option Int := fun t => if t.data = s.data then none else f t

section
variable {P : Program} {k e : TypeId} {w w' : World} {b n c : Nat} {f : ByteArray → Option Int}

theorem MapN.made (w : World) : MapN P k e (w.alloc (.map #[] 0)) w.heap.size 0 (fun _ => none) 0 :=
  ⟨.map [], World.ownsMap_made w P k _, Maps.tidy_empty, rfl, fun s => ⟨rfl, rfl⟩⟩
theorem MapN.keep1 (h : MapN P k e w b n f c) (hb : w'.heap[b]? = w.heap[b]?) : MapN P k e w' b n f c := by
  obtain ⟨D, ⟨es, clock, hh, F, hs, hD⟩, h2⟩ := h
  exact ⟨D, ⟨es, clock, hb.trans hh, F, hs, hD⟩, h2⟩
theorem MapN.lt (h : MapN P k e w b n f c) : b < w.heap.size := by
  obtain ⟨D, h1, _⟩ := h
  exact h1.lt
theorem MapN.bel (h : MapN P k e w b n f c) (hb : Below w.heap.size w w') : MapN P k e w' b n f c := h.keep1 (hb.block b h.lt)
theorem MapN.plain (h : MapN P k e w b n f c) : MapI P k e w b n f := by
  obtain ⟨D, h1, h2, _, h3⟩ := h
  exact ⟨D, h1, h2.isMap, h3⟩

theorem wpList_stN {ops : Array Oper} {rest : List Oper} {o : Oper} {a : Act} {Q : Exit → Act → World → Prop} (hg : o.guard = none) (m x v : Operand) (t : TypeId) (hop : o.op = Op.mapUpdate t m x v)
    (hk : P.underlying k = some .string) (ht : P.underlying t = some (.map k e)) (he : P.underlying e = some (.int .i64))
    (b n : Nat) (f : ByteArray → Option Int) (c : Nat) (s : ByteArray) (i : Int) (hm : a.eval m = .map (some b)) (hown : MapN P k e w b n f c) (hn : n < 1000000000) (hx : a.eval x = .string s) (hv : a.eval v = .int .i64 i)
    (hs : s.size ≤ maxLen) (hi : -9223372036854775808 ≤ i ∧ i ≤ 9223372036854775807)
    (hK : ∀ w', MapN P k e w' b (n + 1) (upd f s i) (if (f s).isSome then c else c + 1) → w.grownBy w' (some b) → wpList P ops Q rest (a.put o.dst undef) w') : wpList P ops Q (o :: rest) a w := by
  obtain ⟨D, h1, h2, hc, h3⟩ := hown
  refine wpList_mapUpdate_own w hg m x v t hop k e (string_keyed hk) ht _ b n D hm h1 (by unfold maxLen; omega) _ _ _ hx hv (keyOf_string_mk hk hs) _ [] (plainElem_int he (WalkArith.wf_i64 hi)) fun w' h4 h5 => hK w' ⟨_, h4, h2.put (show WideAt.IsKeyLit (.string s.data.toList) by trivial) _, ?_, fun t => ?_⟩ h5
  · rw [Maps.size_put h2, (h3 s).1, hc]
  · by_cases hts : t.data = s.data
    · have hk2 : WideAt.IsKeyLit (.string s.data.toList) := by trivial
      rw [hts, has_put_same h2.isMap hk2, atKey_put_same h2.isMap hk2]
      simp [upd, hts]
    · have hne : (Lit.string t.data.toList) ≠ .string s.data.toList := by
        intro h
        injection h with h
        exact hts (by have := congrArg List.toArray h; simpa using this)
      rw [has_put_other hne, atKey_put_other hne, (h3 t).1, (h3 t).2]
      simp [upd, hts]

theorem wpList_delN {ops : Array Oper} {rest : List Oper} {o : Oper} {a : Act} {Q : Exit → Act → World → Prop} (hg : o.guard = none) (m x : Operand) (t : TypeId) (hop : o.op = Op.call { callee := Callee.builtin Builtin.delete, args := #[m, x], argTypes := #[t, k] })
    (hk : P.underlying k = some .string) (ht : P.underlying t = some (.map k e))
    (b n : Nat) (f : ByteArray → Option Int) (c : Nat) (s : ByteArray) (hm : a.eval m = .map (some b)) (hown : MapN P k e w b n f c) (hx : a.eval x = .string s) (hs : s.size ≤ maxLen)
    (hK : ∀ w' c', MapN P k e w' b n (strike f s) c' → c' + (if (f s).isSome then 1 else 0) = c → w.grownBy w' (some b) → wpList P ops Q rest (a.put o.dst (.tuple #[])) w') : wpList P ops Q (o :: rest) a w := by
  obtain ⟨D, h1, h2, hc, h3⟩ := hown
  refine wpList_delete_own w hg m x t k hop e (string_keyed hk) ht _ b n D hm h1 _ _ hx (keyOf_string_mk hk hs) fun w' h4 h5 => hK w' _ ⟨_, h4, h2.del _, rfl, fun t => ?_⟩ ?_ h5.grown
  · by_cases hts : t.data = s.data
    · rw [hts, Maps.has_del_same, Maps.atKey_del_same]
      simp [strike, hts]
    · have hne : (Lit.string t.data.toList) ≠ .string s.data.toList := by
        intro h
        injection h with h
        exact hts (by have := congrArg List.toArray h; simpa using this)
      rw [Maps.has_del_other hne, Maps.atKey_del_other hne, (h3 t).1, (h3 t).2]
      simp [strike, hts]
  · have := Maps.size_del (k := .string s.data.toList) h2
    rw [(h3 s).1] at this
    rw [← hc]; exact this

theorem wpList_lenN {ops : Array Oper} {rest : List Oper} {o : Oper} {a : Act} {Q : Exit → Act → World → Prop} (hg : o.guard = none) (m : Operand) (t : TypeId) (hop : o.op = Op.call { callee := Callee.builtin Builtin.len, args := #[m], argTypes := #[t] })
    (ht : P.underlying t = some (.map k e)) (b n : Nat) (f : ByteArray → Option Int) (c : Nat) (hm : a.eval m = .map (some b)) (hown : MapN P k e w b n f c)
    (hK : wpList P ops Q rest (a.put o.dst (.int .i64 c)) w) : wpList P ops Q (o :: rest) a w := by
  obtain ⟨D, h1, h2, hc, h3⟩ := hown
  refine wpList_len_own w hg m t hop k e ht _ b n D hm h1 ?_
  rw [hc]; exact hK
end
end Go.Proofs.YtikmbkojnfmiaaaGreatDoorRRRR

/- Maps from texts to whatever values, that a call makes for itself. -/
namespace Go.Proofs.YtikmbkojnfmiaaaGreatDoorRRRR
open Go.RowKit Go.Sort Go.Maps Go.ChangeMaps Go.WideMaps

/-- An element reads as itself. -/
def heldR (v : Value) : Option (DataW Value × List MemPlace) := some (.held v, [])
/-- Block b is a map of at most n entries from texts to values: f. -/
def MapV (P : Program) (k : TypeId) (w : World) (b n : Nat) (f : ByteArray → Option Value) : Prop :=
  ∃ D : DataW Value, w.ownsMap P k heldR b n D ∧ Maps.IsMap D ∧
    ∀ (s : ByteArray) (z : Value), D.atKey (.string s.data.toList) (.held z) = .held ((f s).getD z)
def updV (f : ByteArray → Option Value) (s : ByteArray) (v : Value) : ByteArray → Option Value := fun t => if t.data = s.data then some v else f t

section
variable {P : Program} {k e : TypeId} {w w' : World} {b n : Nat} {f : ByteArray → Option Value}

theorem MapV.made (w : World) : MapV P k (w.alloc (.map #[] 0)) w.heap.size 0 (fun _ => none) :=
  ⟨.map [], World.ownsMap_made w P k _, isMap_empty, fun s z => rfl⟩
theorem MapV.keep1 (h : MapV P k w b n f) (hb : w'.heap[b]? = w.heap[b]?) : MapV P k w' b n f := by
  obtain ⟨D, ⟨es, clock, hh, F, hs, hD⟩, h2⟩ := h
  exact ⟨D, ⟨es, clock, hb.trans hh, F, hs, hD⟩, h2⟩
theorem MapV.lt (h : MapV P k w b n f) : b < w.heap.size := by
  obtain ⟨D, h1, _⟩ := h
  exact h1.lt
theorem MapV.bel (h : MapV P k w b n f) (hb : Below w.heap.size w w') : MapV P k w' b n f := h.keep1 (hb.block b h.lt)

theorem wpList_lkV {ops : Array Oper} {rest : List Oper} {o : Oper} {a : Act} {Q : Exit → Act → World → Prop} (hg : o.guard = none) (m x : Operand) (t : TypeId) (hop : o.op = Op.lookup t m x false)
    (hk : P.underlying k = some .string) (ht : P.underlying t = some (.map k e)) (z : Value) (hz : (zeroValue e).run P w = .ok z w)
    (b n : Nat) (f : ByteArray → Option Value) (s : ByteArray) (hm : a.eval m = .map (some b)) (hown : MapV P k w b n f) (hx : a.eval x = .string s) (hs : s.size ≤ maxLen)
    (hK : wpList P ops Q rest (a.put o.dst ((f s).getD z)) w) : wpList P ops Q (o :: rest) a w := by
  obtain ⟨D, h1, h2, h3⟩ := hown
  refine wpList_plain hg fun K' hK' => ?_
  obtain ⟨v, ps, hrun, hv⟩ := h1.lookup (string_keyed hk) ht hz (R := heldR) rfl (keyOf_string_mk hk hs)
  have he : v = (f s).getD z := by
    rw [h3 s z] at hv
    unfold heldR at hv
    simp only [Option.some.injEq, Prod.mk.injEq] at hv
    have := hv.1
    injection this
  subst he
  unfold Oper.wp
  simp [execOp, hop, hm, hx, hrun, Result.andThen]
  exact hK' _ _ hK
theorem wpList_stV {ops : Array Oper} {rest : List Oper} {o : Oper} {a : Act} {Q : Exit → Act → World → Prop} (hg : o.guard = none) (m x v : Operand) (t : TypeId) (hop : o.op = Op.mapUpdate t m x v)
    (hk : P.underlying k = some .string) (ht : P.underlying t = some (.map k e))
    (b n : Nat) (f : ByteArray → Option Value) (s : ByteArray) (i : Value) (hm : a.eval m = .map (some b)) (hown : MapV P k w b n f) (hn : n < 1000000000) (hx : a.eval x = .string s) (hv : a.eval v = i)
    (hs : s.size ≤ maxLen)
    (hK : ∀ w', MapV P k w' b (n + 1) (updV f s i) → w.grownBy w' (some b) → wpList P ops Q rest (a.put o.dst undef) w') : wpList P ops Q (o :: rest) a w := by
  obtain ⟨D, h1, h2, h3⟩ := hown
  refine wpList_mapUpdate_own w hg m x v t hop k e (string_keyed hk) ht heldR b n D hm h1 (by unfold maxLen; omega) _ _ _ hx hv (keyOf_string_mk hk hs) (.held i) [] rfl fun w' h4 h5 => hK w' ⟨_, h4, h2.put _ _, fun t z => ?_⟩ h5
  by_cases hts : t.data = s.data
  · have hk2 : WideAt.IsKeyLit (.string s.data.toList) := by trivial
    rw [hts, atKey_put_same h2 hk2]
    simp [updV, hts]
  · have hne : (Lit.string t.data.toList) ≠ .string s.data.toList := by
      intro h
      injection h with h
      exact hts (by have := congrArg List.toArray h; simpa using this)
    rw [atKey_put_other hne, h3 t z]
    simp [updV, hts]
end
end Go.Proofs.YtikmbkojnfmiaaaGreatDoorRRRR

/- Walk over the reference's Of (what a plain equation needs). -/
namespace Go.Proofs.YtikmbkojnfmiaaaGreatDoorRRRR
open Go.RowKit Go.Sort

/-- What a plain equation needs. -/
def ofR (L : List Va) (q : Qe) : List ByteArray := match findC L q.name with | some v => addN (needsF q.e) v.cn | none => needsF q.e
theorem needs_len (e : Ex) : (needsF e).length ≤ e.size := by
  unfold needsF
  split
  · simp
  · have := (Ex.named_len e []).2
    simpa using this

set_option maxHeartbeats 4000000 in
theorem refOrdOf_any (p : Pr) (a : PrA) (i : Nat) (q : Qe) (w : World) (hp : PrAt w p a) (hqi : p.eqs[i]? = some q) (hz : q.e.size ≤ 1000000)
    (n1 : p.ins.length ≤ 1000000) (n2 : p.outs.length ≤ 1000000) (n3 : p.locals.length ≤ 1000000) (n4 : p.eqs.length ≤ 1000000) :
    Calls Tryz.prog 31 #[prV p a, .int .i64 i] w fun r w' => (∃ v, r = .returned v ∧ w'.ownsRow w.heap.size 9 1 v (ofR (varsOf p) q).length ((ofR (varsOf p) q).map .string)) ∧ Below w.heap.size w w' := by
  have hvars := fun W h => refVars_any p a W (hp.later h) n1 n2 n3
  have hfind := fun A cap W h => refFind_any (varsOf p) A cap q.name W h
  have hil : i < p.eqs.length := (List.getElem?_eq_some_iff.1 hqi).1
  have hp4 := hp.eqs
  have hv : ofR (varsOf p) q = ofR (varsOf p) q := rfl
  rw (occs := .pos [2]) [ofR] at hv
  have hnl := needs_len q.e
  obtain ⟨A1, c1, A2, c2, A3, c3, A4, c4⟩ := a
  unfold prV at *
  dsimp only at *
  obtain ⟨b, off, E1, k1, E2, k2, rfl, hbb, ⟨g0, g1, g2, g3, g4, g5, g6, g7, g8, g9, s1, s2⟩⟩ := hp4.get hqi
  have hl4 := hp4.len
  unfold maxLen at hl4
  obtain ⟨hl41, hl42⟩ := hl4
  have hneed := fun W h => refNeeds_any q.e E2 k2 W (s2.later h) hz
  clear hp hqi g1 g2 g3 g4 g5 s1
  have hbb1 : b < w.heap.size + 1 := by omega
  generalize hL : varsOf p = L at *
  clear hL
  generalize hN : needsF q.e = nd at *
  clear hN
  unfold exV at *
  rcases refFind_cases L q.name with ⟨hrf, hfc⟩ | ⟨k, v, hrf, hx, hfc⟩
  · rw [hfc] at hv
    rw [hrf] at hfind
    dsimp only at hv
    clear hrf hfc
    have HV := Lib.hid hv; clear hv
    go_enter Tryz.func31, Tryz.ntmps31
    go_wp2_with (first | (go_at_call 18; refine (hvars _ belA).mono ?_; rintro r wb ⟨⟨A, cap, rfl, hown⟩, hbb2⟩; have hcb := bcell hbb2; have hzb := hbb2.size; (try simp at hzb); have hyb : w.heap.size < wb.heap.size := (by omega); have hyb2 : b < wb.heap.size := (by omega); have hva := VarsAt.of_own hown; have hvl := hva.len; unfold maxLen at hvl; obtain ⟨hvl1, hvl2⟩ := hvl; clear hown) | (go_at_call 40; refine (hneed _ belA).mono ?_; rintro r wn ⟨⟨vn, rfl, hrow⟩, hbn⟩; obtain ⟨An, cn, rfl, hn1, hn2⟩ := own_slice hrow; have hcn := bcell hbn; have hzn := hbn.size; (try simp at hzn); have hyn : w.heap.size < wn.heap.size := (by omega); have hyn2 : b < wn.heap.size := (by omega)) | (go_at_call 19; refine (hfind _ _ _ (hva.later belA)).mono ?_; rintro r wf ⟨rfl, hbf⟩; have hcf := bcell hbf; have hzf := hbf.size; (try simp at hzf); have hyf : w.heap.size < wf.heap.size := (by omega); have hyf2 : b < wf.heap.size := (by omega); skip) | (go_at_call 21; go_loud (refine (has_any nd _ _ v.cn _ ((StrsAt.of_own hrow).later belA)).mono ?_; rw [HH.out]; rintro r wh ⟨rfl, hbh⟩; have hch := bcell hbh; have hzh := hbh.size; have hyh : w.heap.size < wh.heap.size := (by omega); have hyh2 : bv < wh.heap.size := (by omega))) | (at_builtin; go_loud (refine wpList_cat rfl (.tmp 47) (.tmp 54) 55 rfl wb.heap.size 9 _ 1 16 Tryz.underlying55 strinfo rfl (by omega) _ nd.length (nd.map .string) (some ⟨wh.heap.size, 0, none⟩) 1 1 [.string v.cn] rfl (own_alloc (own_bel (own_bel hrow hbf) hbh)) rfl ⟨rfl, fun _ => ⟨_, _, rfl, fun j u hj => by rw [Nat.zero_add, cell_new' rfl]; simpa using hj⟩⟩ (by simp [Value.oneCell']) (by omega) (by omega) (by simp; omega) ?_; intro v9 w9 hown9 hb9)))
    go_ret
    exact ⟨⟨_, rfl, by rw [HV.out]; exact own_less (own_bel hrow hbf) (by omega)⟩, belA⟩
  · rw [hfc] at hv
    rw [hrf] at hfind
    dsimp only at hv
    have hkl : k < L.length := (List.getElem?_eq_some_iff.1 hx).1
    have hkl2 : (k : Int) < (L.length : Int) := by omega
    have tk1 : (0 : Int) ≤ (k : Int) := by omega
    clear hrf hfc
    have hadd : addN nd v.cn = addN nd v.cn := rfl
    rw (occs := .pos [2]) [addN] at hadd
    cases hnm : v.cn.toList.isEmpty
    case true =>
      rw [hnm, if_pos rfl] at hadd
      rw [hadd] at hv
      clear hadd
      have HV := Lib.hid hv; clear hv
      go_enter Tryz.func31, Tryz.ntmps31
      go_wp2_with (first | (go_at_call 18; refine (hvars _ belA).mono ?_; rintro r wb ⟨⟨A, cap, rfl, hown⟩, hbb2⟩; have hcb := bcell hbb2; have hzb := hbb2.size; (try simp at hzb); have hyb : w.heap.size < wb.heap.size := (by omega); have hyb2 : b < wb.heap.size := (by omega); have hva := VarsAt.of_own hown; have hvl := hva.len; unfold maxLen at hvl; obtain ⟨hvl1, hvl2⟩ := hvl; clear hown) | (go_at_call 40; refine (hneed _ belA).mono ?_; rintro r wn ⟨⟨vn, rfl, hrow⟩, hbn⟩; obtain ⟨An, cn, rfl, hn1, hn2⟩ := own_slice hrow; have hcn := bcell hbn; have hzn := hbn.size; (try simp at hzn); have hyn : w.heap.size < wn.heap.size := (by omega); have hyn2 : b < wn.heap.size := (by omega)) | (go_at_call 19; refine (hfind _ _ _ (hva.later belA)).mono ?_; rintro r wf ⟨rfl, hbf⟩; have hcf := bcell hbf; have hzf := hbf.size; (try simp at hzf); have hyf : w.heap.size < wf.heap.size := (by omega); have hyf2 : b < wf.heap.size := (by omega); (obtain ⟨bv, ov, rfl, hbv, ⟨d0, d1, d2, d3⟩⟩ := hva.get hx; have hbvn : bv < wn.heap.size := (by omega); have hbvf : bv < wf.heap.size := (by omega))) | (go_at_call 21; go_loud (refine (has_any nd _ _ v.cn _ ((StrsAt.of_own hrow).later belA)).mono ?_; rw [HH.out]; rintro r wh ⟨rfl, hbh⟩; have hch := bcell hbh; have hzh := hbh.size; have hyh : w.heap.size < wh.heap.size := (by omega); have hyh2 : bv < wh.heap.size := (by omega))) | (at_builtin; go_loud (refine wpList_cat rfl (.tmp 47) (.tmp 54) 55 rfl wb.heap.size 9 _ 1 16 Tryz.underlying55 strinfo rfl (by omega) _ nd.length (nd.map .string) (some ⟨wh.heap.size, 0, none⟩) 1 1 [.string v.cn] rfl (own_alloc (own_bel (own_bel hrow hbf) hbh)) rfl ⟨rfl, fun _ => ⟨_, _, rfl, fun j u hj => by rw [Nat.zero_add, cell_new' rfl]; simpa using hj⟩⟩ (by simp [Value.oneCell']) (by omega) (by omega) (by simp; omega) ?_; intro v9 w9 hown9 hb9)))
      go_ret
      exact ⟨⟨_, rfl, by rw [HV.out]; exact own_less (own_bel hrow hbf) (by omega)⟩, belA⟩
    rw [hnm, if_neg (by simp)] at hadd
    cases hh : hasB nd v.cn
    case true =>
      rw [hh, if_pos rfl] at hadd
      rw [hadd] at hv
      clear hadd
      have HV := Lib.hid hv; clear hv
      have HH := Lib.hid hh; clear hh
      go_enter Tryz.func31, Tryz.ntmps31
      go_wp2_with (first | (go_at_call 18; refine (hvars _ belA).mono ?_; rintro r wb ⟨⟨A, cap, rfl, hown⟩, hbb2⟩; have hcb := bcell hbb2; have hzb := hbb2.size; (try simp at hzb); have hyb : w.heap.size < wb.heap.size := (by omega); have hyb2 : b < wb.heap.size := (by omega); have hva := VarsAt.of_own hown; have hvl := hva.len; unfold maxLen at hvl; obtain ⟨hvl1, hvl2⟩ := hvl; clear hown) | (go_at_call 40; refine (hneed _ belA).mono ?_; rintro r wn ⟨⟨vn, rfl, hrow⟩, hbn⟩; obtain ⟨An, cn, rfl, hn1, hn2⟩ := own_slice hrow; have hcn := bcell hbn; have hzn := hbn.size; (try simp at hzn); have hyn : w.heap.size < wn.heap.size := (by omega); have hyn2 : b < wn.heap.size := (by omega)) | (go_at_call 19; refine (hfind _ _ _ (hva.later belA)).mono ?_; rintro r wf ⟨rfl, hbf⟩; have hcf := bcell hbf; have hzf := hbf.size; (try simp at hzf); have hyf : w.heap.size < wf.heap.size := (by omega); have hyf2 : b < wf.heap.size := (by omega); (obtain ⟨bv, ov, rfl, hbv, ⟨d0, d1, d2, d3⟩⟩ := hva.get hx; have hbvn : bv < wn.heap.size := (by omega); have hbvf : bv < wf.heap.size := (by omega))) | (go_at_call 21; go_loud (refine (has_any nd _ _ v.cn _ ((StrsAt.of_own hrow).later belA)).mono ?_; rw [HH.out]; rintro r wh ⟨rfl, hbh⟩; have hch := bcell hbh; have hzh := hbh.size; have hyh : w.heap.size < wh.heap.size := (by omega); have hyh2 : bv < wh.heap.size := (by omega))) | (at_builtin; go_loud (refine wpList_cat rfl (.tmp 47) (.tmp 54) 55 rfl wb.heap.size 9 _ 1 16 Tryz.underlying55 strinfo rfl (by omega) _ nd.length (nd.map .string) (some ⟨wh.heap.size, 0, none⟩) 1 1 [.string v.cn] rfl (own_alloc (own_bel (own_bel hrow hbf) hbh)) rfl ⟨rfl, fun _ => ⟨_, _, rfl, fun j u hj => by rw [Nat.zero_add, cell_new' rfl]; simpa using hj⟩⟩ (by simp [Value.oneCell']) (by omega) (by omega) (by simp; omega) ?_; intro v9 w9 hown9 hb9)))
      go_ret
      exact ⟨⟨_, rfl, by rw [HV.out]; exact own_less (own_bel (own_bel hrow hbf) hbh) (by omega)⟩, belA⟩
    rw [hh, if_neg (by simp)] at hadd
    rw [hadd] at hv
    clear hadd
    have HV := Lib.hid hv; clear hv
    have HH := Lib.hid hh; clear hh
    go_enter Tryz.func31, Tryz.ntmps31
    go_wp2_with (first | (go_at_call 18; refine (hvars _ belA).mono ?_; rintro r wb ⟨⟨A, cap, rfl, hown⟩, hbb2⟩; have hcb := bcell hbb2; have hzb := hbb2.size; (try simp at hzb); have hyb : w.heap.size < wb.heap.size := (by omega); have hyb2 : b < wb.heap.size := (by omega); have hva := VarsAt.of_own hown; have hvl := hva.len; unfold maxLen at hvl; obtain ⟨hvl1, hvl2⟩ := hvl; clear hown) | (go_at_call 40; refine (hneed _ belA).mono ?_; rintro r wn ⟨⟨vn, rfl, hrow⟩, hbn⟩; obtain ⟨An, cn, rfl, hn1, hn2⟩ := own_slice hrow; have hcn := bcell hbn; have hzn := hbn.size; (try simp at hzn); have hyn : w.heap.size < wn.heap.size := (by omega); have hyn2 : b < wn.heap.size := (by omega)) | (go_at_call 19; refine (hfind _ _ _ (hva.later belA)).mono ?_; rintro r wf ⟨rfl, hbf⟩; have hcf := bcell hbf; have hzf := hbf.size; (try simp at hzf); have hyf : w.heap.size < wf.heap.size := (by omega); have hyf2 : b < wf.heap.size := (by omega); (obtain ⟨bv, ov, rfl, hbv, ⟨d0, d1, d2, d3⟩⟩ := hva.get hx; have hbvn : bv < wn.heap.size := (by omega); have hbvf : bv < wf.heap.size := (by omega))) | (go_at_call 21; go_loud (refine (has_any nd _ _ v.cn _ ((StrsAt.of_own hrow).later belA)).mono ?_; rw [HH.out]; rintro r wh ⟨rfl, hbh⟩; have hch := bcell hbh; have hzh := hbh.size; have hyh : w.heap.size < wh.heap.size := (by omega); have hyh2 : bv < wh.heap.size := (by omega))) | (at_builtin; go_loud (refine wpList_cat rfl (.tmp 47) (.tmp 54) 55 rfl wb.heap.size 9 _ 1 16 Tryz.underlying55 strinfo rfl (by omega) _ nd.length (nd.map .string) (some ⟨wh.heap.size, 0, none⟩) 1 1 [.string v.cn] rfl (own_alloc (own_bel (own_bel hrow hbf) hbh)) rfl ⟨rfl, fun _ => ⟨_, _, rfl, fun j u hj => by rw [Nat.zero_add, cell_new' rfl]; simpa using hj⟩⟩ (by simp [Value.oneCell']) (by omega) (by omega) (by simp; omega) ?_; intro v9 w9 hown9 hb9)))
    go_ret
    exact ⟨⟨_, rfl, by rw [HV.out, List.map_append, List.length_append]; exact own_less hown9 (by omega)⟩, bel_grow (a := w) belA hb9 (by omega)⟩

end Go.Proofs.YtikmbkojnfmiaaaGreatDoorRRRR

/- Walk over order.needs. -/
namespace Go.Proofs.YtikmbkojnfmiaaaGreatDoorRRRR
open Go.RowKit Go.Sort

def clkV (c : Int × ByteArray) : Value := .agg #[.int .i64 c.1, .string c.2]
/-- The clock that the map holds for a name, of some variables. -/
def clockL (L : List Va) (s : ByteArray) : Int × ByteArray := L.foldl (fun c v => if s.data = v.name.data then (v.ck, v.cn) else c) (0, ⟨#[]⟩)
/-- The map holds just that. -/
def ClkM (f : ByteArray → Option Value) (L : List Va) : Prop := ∀ s, (f s).getD (clkV (0, ⟨#[]⟩)) = clkV (clockL L s)
theorem clkM_nil : ClkM (fun _ => none) [] := fun s => rfl
theorem clkM_snoc {f : ByteArray → Option Value} {L : List Va} (h : ClkM f L) (v : Va) : ClkM (updV f v.name (clkV (v.ck, v.cn))) (L ++ [v]) := by
  intro s
  unfold clockL updV
  rw [List.foldl_append]
  simp only [List.foldl_cons, List.foldl_nil]
  by_cases hs : s.data = v.name.data
  · rw [if_pos hs, if_pos hs]; rfl
  · rw [if_neg hs, if_neg hs]; exact h s
theorem zeroClock (w : World) : (zeroValue 41).run Tryz.prog w = .ok (clkV (0, ⟨#[]⟩)) w := by kernel_rfl

/-- What order.needs says of an equation. -/
def needQ (L : List Va) (q : Qe) : List ByteArray := if (clockL L q.name).1 = 0 then needsF q.e else needsF q.e ++ [(clockL L q.name).2]

theorem grownT {a b c : World} {row : Option Nat} (h1 : a.grownBy b row) (h2 : b.grownBy c row) : a.grownBy c row := grown_step h1 h2 (.inl rfl)

theorem ssinfo : (Tryz.prog.info? 55).map (fun i => (i.zero, i.size, i.bytes)) = some (some (.slice none 0 0), 1, 24) := by kernel_rfl
theorem StrsAt.off_own {w : World} {base : Nat} {e : TypeId} {l : List ByteArray} {A : Option Addr} {cap : Nat} (h : w.ownsRow base e 1 (.slice A l.length cap) l.length (l.map .string)) : Off base none w (fun V => StrsAt V l A cap) := by
  intro w' hw'
  rcases Nat.eq_zero_or_pos l.length with h0 | h0
  · exact ⟨(StrsAt.of_own h).1, (StrsAt.of_own h).2.1, fun hl => absurd hl (by omega)⟩
  · obtain ⟨g, c', hv, hg, hlt, h1, h2, hc⟩ := own_get h h0
    injection hv with e1 e2 e3
    subst e1 e3
    refine ⟨h1, h2, fun _ => ⟨g, 0, rfl, fun k s hk => ?_⟩⟩
    rw [Nat.zero_add]
    exact cell_block (hw' g hg hlt (by simp)) (hc k _ (by simp [hk]))
/-- The rows of what each equation needs, up to the k-th. -/
def NeedRows (L : List Va) (eqs : List Qe) (g k : Nat) (w : World) (xs : List Value) : Prop :=
  (∀ (j : Nat) (q : Qe), j < k → eqs[j]? = some q → ∃ A cap, xs[j]? = some (.slice A (needQ L q).length cap) ∧ Off (g + 1) none w (fun V => StrsAt V (needQ L q) A cap)) ∧ ∀ j, k ≤ j → j < eqs.length → xs[j]? = some (.slice none 0 0)

theorem own_keep1 {w w' : World} {base size n n' cap g : Nat} {e : TypeId} {xs : List Value} (h : w.ownsRow base e size (.slice (some ⟨g, 0, none⟩) n' cap) n xs) (hb : w'.heap[g]? = w.heap[g]?) : w'.ownsRow base e size (.slice (some ⟨g, 0, none⟩) n' cap) n xs := by
  obtain ⟨h1, h2⟩ := h
  refine ⟨h1, ?_⟩
  rcases h2 with h2 | ⟨g', cap', cur, hv, hg, hh, r⟩
  · exact .inl h2
  · refine .inr ⟨g', cap', cur, hv, hg, ?_, r⟩
    have hgg : g = g' := by injection hv with e1; injection e1 with e1; injection e1
    rw [← hgg] at hh ⊢
    rw [hb]; exact hh
theorem NeedRows.step {L : List Va} {eqs : List Qe} {g k : Nat} {w w' : World} {xs : List Value} {q : Qe} {A : Option Addr} {cap : Nat} (h : NeedRows L eqs g k w xs) (hw : ∀ b, g + 1 ≤ b → b < w.heap.size → w'.heap[b]? = w.heap[b]?) (hz : w.heap.size ≤ w'.heap.size)
    (hq : eqs[k]? = some q) (hx : k < xs.length) (hoff : Off (g + 1) none w' (fun V => StrsAt V (needQ L q) A cap)) : NeedRows L eqs g (k + 1) w' (xs.set k (.slice A (needQ L q).length cap)) := by
  refine ⟨fun j q' hj hq' => ?_, fun j hj hl => ?_⟩
  · rcases Nat.lt_or_ge j k with hjk | hjk
    · obtain ⟨A', cap', h1, h2⟩ := h.1 j q' hjk hq'
      exact ⟨A', cap', by rw [List.getElem?_set_ne (by omega)]; exact h1, h2.grow (fun b hb hlt _ => hw b hb hlt) hz (.inl rfl)⟩
    · obtain rfl : j = k := by omega
      obtain rfl : q = q' := by rw [hq] at hq'; injection hq'
      exact ⟨A, cap, by rw [List.getElem?_set_self hx], hoff⟩
  · rw [List.getElem?_set_ne (by omega)]
    exact h.2 j (by omega) hl

set_option maxHeartbeats 4000000 in
theorem oneeds_any (p : Pr) (a : PrA) (w : World) (hp : PrAt w p a) (n1 : p.ins.length ≤ 1000000) (n2 : p.outs.length ≤ 1000000) (n3 : p.locals.length ≤ 1000000) (n4 : p.eqs.length ≤ 1000000) (hs : ∀ v ∈ varsOf p, v.name.size ≤ maxLen) (hqs : ∀ q ∈ p.eqs, q.name.size ≤ maxLen ∧ q.e.OK ∧ q.e.size ≤ 1000000) :
    Calls Tryz.prog 28 #[prV p a] w fun r w' => (∃ g xs, r = .returned (.slice (some ⟨g, 0, none⟩) p.eqs.length p.eqs.length) ∧ w.heap.size ≤ g ∧ w'.ownsRow g 55 1 (.slice (some ⟨g, 0, none⟩) p.eqs.length p.eqs.length) p.eqs.length xs ∧ NeedRows (varsOf p) p.eqs g p.eqs.length w' xs) ∧ Below w.heap.size w w' := by
  have hvars := fun W h => vars_any p a W (hp.later h) n1 n2 n3
  have hL3 : (varsOf p).length ≤ 3000000 := by simp [varsOf]; omega
  obtain ⟨A1, c1, A2, c2, A3, c3, A4, c4⟩ := a
  unfold prV at *
  dsimp only at *
  have hmm := @run_makeMap Tryz.prog
  generalize hL : varsOf p = L at *
  clear hL
  have HS := Lib.hid hs; clear hs
  have HQS := Lib.hid hqs; clear hqs
  have hp4 := hp.eqs
  have hl4 := hp.eqs.len
  unfold maxLen at hl4
  dsimp only at hp4 hl4
  obtain ⟨hl41, hl42⟩ := hl4
  obtain ⟨ti, hti0, hti1, hti2, hti3⟩ := info_parts ssinfo
  clear hp
  go_enter Tryz.func28, Tryz.ntmps28
  go_wp2_with (first | (go_at_call 14; refine (hvars _ belA).mono ?_; rintro r wb ⟨⟨A, cap, rfl, hown⟩, hbb⟩; have hcb := bcell hbb; have hzb := hbb.size; (try simp at hzb); have hyb : w.heap.size < wb.heap.size := (by omega); have hyb1 : w.heap.size + 1 < wb.heap.size := (by omega); have hva := VarsAt.of_own hown))
  refine wp_name fun W0 hW0 => ?_
  have hb0 : Below w.heap.size w W0 := by rw [hW0]; exact belA
  have hz0 : w.heap.size + 1 < W0.heap.size := by rw [hW0]; exact hyb1
  have hva0 : Off (w.heap.size + 2) none W0 (fun W => VarsAt W L A cap) := by rw [hW0]; have := VarsAt.off_own' hown; simpa using this
  have hm0 : MapV Tryz.prog 9 W0 (w.heap.size + 1) 0 (fun _ => none) := by
    rw [hW0]
    have h1 := (MapV.made (P := Tryz.prog) (k := 9) (w.alloc (.cells #[.string p.name, .slice A1 p.ins.length c1, .slice A2 p.outs.length c2, .slice A3 p.locals.length c3, .slice A4 p.eqs.length c4] 25)))
    have h2 := h1.bel hbb
    simpa using h2
  have p4 : W0.cell? ⟨w.heap.size, 4, none⟩ = some (.slice A4 p.eqs.length c4) := by rw [hW0]; go_simp
  have hll := hva0.here.len
  unfold maxLen at hll
  obtain ⟨hll1, hll2⟩ := hll
  clear hW0 hown hva hcb hbb hzb hyb hyb1 hvars hmm
  go_loopw [14] (fun i wr => ∃ (k n : Nat) (f : ByteArray → Option Value), k ≤ L.length ∧ i = .int .i64 k ∧ n ≤ k ∧ Hid (MapV Tryz.prog 9 wr (w.heap.size + 1) n f) ∧ Hid (ClkM f (L.take k)) ∧ Hid (W0.grownBy wr (some (w.heap.size + 1)))) (fun i _ => L.length - (intOf i).toNat)
  case atStart => exact ⟨0, 0, _, Nat.zero_le _, rfl, Nat.le_refl _, Lib.hid hm0, Lib.hid clkM_nil, Lib.hid ⟨rfl, rfl, rfl, Nat.le_refl _, fun _ _ _ => rfl⟩⟩
  case round =>
    obtain ⟨k, n, f, hk, rfl, hn, hm, hck, hgr⟩ := hrel
    have hgz := hgr.out.size
    by_cases hlt : k < L.length
    · have hx : L[k]? = some L[k] := List.getElem?_eq_getElem hlt
      have hmem : L[k] ∈ L := List.getElem_mem hlt
      have htk : L.take (k + 1) = L.take k ++ [L[k]] := by rw [List.take_succ_eq_append_getElem hlt]
      generalize L[k] = x at hx hmem htk
      have hvr : VarsAt wr L A cap := hva0 wr fun b h1 h2 _ => hgr.out.block b h2 (by intro he; injection he with he; omega)
      obtain ⟨b, off, rfl, hbb, ⟨d0, d1, d2, d3⟩⟩ := hvr.get hx
      have hsx := HS.out x hmem
      have HCK := Lib.hid (by rw [htk]; exact clkM_snoc hck.out x : ClkM (updV f x.name (clkV (x.ck, x.cn))) (L.take (k + 1)))
      have hmr := hm.out
      have hzr : w.heap.size + 1 < wr.heap.size := by omega
      clear hx hmem htk hvr hck
      go_wp2_with (first | (at_mapUpdate; go_loud (refine wpList_stV rfl (.tmp 18) (.tmp 20) (.tmp 22) 52 rfl Tryz.underlying9 Tryz.underlying52 (w.heap.size + 1) n f x.name (clkV (x.ck, x.cn)) rfl (hmr.keep1 (heap_alloc_old _ _ hzr)) (by omega) rfl rfl hsx ?_; intro w2 hm2 hg2; have HM2 := Lib.hid hm2; have HG2 := Lib.hid hg2; clear hm2 hg2)))
      go_roundw
      case rel => exact ⟨k + 1, n + 1, _, by omega, by go_num, by omega, HM2, HCK, Lib.hid (grownT hgr.out (grownT (World.grownBy_alloc wr _ _) HG2.out))⟩
      case measure => simp [intOf]; omega
    · obtain rfl : k = L.length := by omega
      have hm1 := hm.out
      have hck1 := hck.out
      rw [List.take_length] at hck1
      have HCK := Lib.hid hck1
      have hgr1 := hgr.out
      have hbw : Below w.heap.size w wr := bel_grown hb0 hgr1 (fun b hb => by injection hb with hb; omega) (by omega)
      have q4 : wr.cell? ⟨w.heap.size, 4, none⟩ = some (.slice A4 p.eqs.length c4) := cell_block (hgr1.block w.heap.size (by omega) (by intro he; injection he with he; omega)) p4
      have hzr : w.heap.size + 1 < wr.heap.size := by omega
      clear hgr hgr1 hck hck1 hm p4 hva0
      go_wp2_with (first | (at_make; go_loud (refine wpList_make_full _ rfl (.tmp 26) (.tmp 26) 67 rfl wr.heap.size 55 ti _ 1 Tryz.underlying67 hti0 hti1 hti2 .i64 .i64 p.eqs.length p.eqs.length p.eqs.length rfl rfl rfl rfl (by rw [hti3]; omega) (by unfold maxLen; omega) (Nat.le_refl _) ?_; intro w2 hown2 hg2; have q42 : w2.cell? ⟨w.heap.size, 4, none⟩ = some (.slice A4 p.eqs.length c4) := cell_block (hg2.block w.heap.size (by omega) (by simp)) q4; have HO2 := Lib.hid hown2; have HG2 := Lib.hid hg2; clear hown2 hg2)))
      obtain ⟨Wa, rfl⟩ : ∃ Wa, Wa = wr := ⟨wr, rfl⟩
      have hbw2 : Below w.heap.size w w2 := bel_grown hbw HG2.out (fun b hb => by simp at hb) (by omega)
      have hz2 : Wa.heap.size ≤ w2.heap.size := HG2.out.size
      have hm2 : Hid (MapV Tryz.prog 9 w2 (w.heap.size + 1) n f) := Lib.hid (hm1.keep1 (HG2.out.block _ (by omega) (by simp)))
      clear hm1 q4
      go_loopw [31] (fun i wr => ∃ (k : Nat) (xs : List Value), k ≤ p.eqs.length ∧ i = .int .i64 k ∧ Hid (wr.ownsRow Wa.heap.size 55 1 (.slice (some ⟨Wa.heap.size, 0, none⟩) p.eqs.length p.eqs.length) p.eqs.length xs) ∧ Hid (NeedRows L p.eqs Wa.heap.size k wr xs) ∧ Hid (w2.grownBy wr (some Wa.heap.size))) (fun i _ => p.eqs.length - (intOf i).toNat)
      case atStart =>
        refine ⟨0, _, Nat.zero_le _, rfl, HO2, Lib.hid ⟨fun j q hj => absurd hj (by omega), fun j _ hj => ?_⟩, Lib.hid ⟨rfl, rfl, rfl, Nat.le_refl _, fun _ _ _ => rfl⟩⟩
        rw [show (Value.slice none 0 0).cells = #[Value.slice none 0 0] from rfl, Nat.mul_one, toList_madeCells_one, List.getElem?_replicate, if_pos hj]
      case round =>
        obtain ⟨k, xs, hk, rfl, hown, hnr, hgr⟩ := hrel
        have hgz := hgr.out.size
        have hbwr : Below w.heap.size w wr := bel_grown hbw2 hgr.out (fun b hb => by injection hb with hb; omega) (by omega)
        have hGlt : Wa.heap.size < wr.heap.size := (hown.out.lt Wa.heap.size rfl).2
        by_cases hlt : k < p.eqs.length
        · have hx : p.eqs[k]? = some p.eqs[k] := List.getElem?_eq_getElem hlt
          have hd : p.eqs.drop k = p.eqs[k] :: p.eqs.drop (k + 1) := List.drop_eq_getElem_cons hlt
          generalize p.eqs[k] = q at hx hd
          obtain ⟨b, off, B1, n1, B2, n2, rfl, hbb, ⟨g0, g1, g2, g3, g4, g5, g6, g7, g8, g9, s1, s2⟩⟩ := (hp4.later hbwr).get hx
          have hmem := List.mem_of_getElem? hx
          obtain ⟨hsq, hqok, hqz⟩ := HQS.out q hmem
          have hneed := fun W h => needs_any q.e B2 n2 W (s2.later h) hqok hqz
          have e0 : wr.cell? ⟨Wa.heap.size, k, none⟩ = some (.slice none 0 0) := (hown.out.cellAt k (by omega)).trans (hnr.out.2 k (Nat.le_refl _) hlt)
          have f0 : wr.frozen? ⟨Wa.heap.size, k, none⟩ = false := hown.out.frozenAt k
          have hmr := hm2.out.keep1 (hgr.out.block (w.heap.size + 1) (by omega) (by intro he; injection he with he; omega))
          obtain ⟨ck, cs, hcl⟩ : ∃ ck cs, clockL L q.name = (ck, cs) := ⟨_, _, rfl⟩
          have HCL := Lib.hid hcl; clear hcl
          have HX := Lib.hid hx
          have hwz : w.heap.size + 1 < wr.heap.size := by omega
          unfold exV at hneed
          clear hd hx hmem hqok
          have hxl : xs.length = p.eqs.length := by have := hown.out.1; omega
          have HXL := Lib.hid hxl; clear hxl
          by_cases hck0 : ck = 0
          · have t1 : (ck != 0) = false := by simpa using hck0
            have hnq : needQ L q = needsF q.e := by unfold needQ; rw [HCL.out, if_pos hck0]
            have HNQ := Lib.hid hnq; clear hnq hck0
            go_wp2_with (first | (go_at_call 36; go_loud (refine (hneed _ belA).mono ?_; rintro r wn ⟨⟨vn, rfl, hrow⟩, hbn⟩; obtain ⟨An, cn, rfl, hn1, hn2⟩ := own_slice hrow; have hcn := bcell hbn; have hfn := bfrozen hbn; have hzn : wr.heap.size + 1 ≤ wn.heap.size := (by have := hbn.size; simpa using this); have hyn : w.heap.size < wn.heap.size := (by omega); have hyn1 : w.heap.size + 1 < wn.heap.size := (by omega); have hyn2 : wr.heap.size < wn.heap.size := (by omega); have hyn3 : Wa.heap.size < wn.heap.size := (by omega); have hmn := Lib.hid (hmr.keep1 ((hbn.block (w.heap.size + 1) (by simp; omega)).trans (heap_alloc_old _ _ hwz))); have HROW := Lib.hid hrow; clear hrow)) | (at_lookup; go_loud (refine wpList_lkV rfl (.tmp 42) (.tmp 44) 52 rfl Tryz.underlying9 Tryz.underlying52 (clkV (0, ⟨#[]⟩)) (zeroClock _) (w.heap.size + 1) n f q.name rfl (hmn.out.keep1 (heap_setCell_other _ _ _ _ (by show w.heap.size + 1 ≠ Wa.heap.size; omega))) rfl hsq ?_; rw [HCK.out q.name, HCL.out]; unfold clkV)))
            go_roundw
            case rel =>
              have hownN := own_bel (own_alloc (o := .cells #[.string q.name, .int .i64 q.delay, .int .i64 q.first.kind, .int .i32 q.first.n, .string q.first.name, .slice B1 q.first.sub.length n1, .int .i64 q.e.kind, .int .i32 q.e.n, .string q.e.name, .slice B2 q.e.sub.length n2] 39) hown.out) hbn
              have hst := hownN.stored k (.slice An (needsF q.e).length cn)
              refine ⟨k + 1, xs.set k (.slice An (needsF q.e).length cn), by omega, by go_num, Lib.hid (own_alloc hst.1), Lib.hid ?_, Lib.hid (grownT (grownT (grownT (grownT hgr.out (World.grownBy_alloc wr _ _)) (grown_bel hbn)) hst.2) (World.grownBy_alloc _ _ _))⟩
              have hoff : Off (Wa.heap.size + 1) none ((wn.setCell ⟨Wa.heap.size, k, none⟩ (.slice An (needsF q.e).length cn)).alloc (.cells #[.int .i64 ck, .string cs] 41)) (fun V => StrsAt V (needQ L q) An cn) := by
                rw [HNQ.out]
                exact ((StrsAt.off_own HROW.out).less (base := Wa.heap.size + 1) (by simp; omega)).grow (fun b hb1 hb2 _ => (heap_alloc_old _ _ (by simpa using hb2)).trans (heap_setCell_other _ _ _ _ (by show b ≠ Wa.heap.size; omega))) (by simp) (.inl rfl)
              have := hnr.out.step (w' := (wn.setCell ⟨Wa.heap.size, k, none⟩ (.slice An (needsF q.e).length cn)).alloc (.cells #[.int .i64 ck, .string cs] 41)) (fun b hb1 hb2 => (heap_alloc_old _ _ (by simp; omega)).trans ((heap_setCell_other _ _ _ _ (by show b ≠ Wa.heap.size; omega)).trans ((hbn.block b (by simp; omega)).trans (heap_alloc_old _ _ hb2)))) (by simp; omega) HX.out (by rw [HXL.out]; exact hlt) hoff
              rw [HNQ.out] at this
              exact this
            case measure => simp [intOf]; omega
          · have t1 : (ck != 0) = true := by simpa using hck0
            have hnq : needQ L q = needsF q.e ++ [cs] := by unfold needQ; rw [HCL.out, if_neg hck0]
            have HNQ := Lib.hid hnq; clear hnq hck0
            have hnl := needs_len q.e
            go_wp2_with (first | (go_at_call 36; go_loud (refine (hneed _ belA).mono ?_; rintro r wn ⟨⟨vn, rfl, hrow⟩, hbn⟩; obtain ⟨An, cn, rfl, hn1, hn2⟩ := own_slice hrow; have hcn := bcell hbn; have hfn := bfrozen hbn; have hzn : wr.heap.size + 1 ≤ wn.heap.size := (by have := hbn.size; simpa using this); have hyn : w.heap.size < wn.heap.size := (by omega); have hyn1 : w.heap.size + 1 < wn.heap.size := (by omega); have hyn2 : wr.heap.size < wn.heap.size := (by omega); have hyn3 : Wa.heap.size < wn.heap.size := (by omega); have hmn := Lib.hid (hmr.keep1 ((hbn.block (w.heap.size + 1) (by simp; omega)).trans (heap_alloc_old _ _ hwz))); have HROW := Lib.hid hrow; clear hrow)) | (at_lookup; go_loud (refine wpList_lkV rfl (.tmp 42) (.tmp 44) 52 rfl Tryz.underlying9 Tryz.underlying52 (clkV (0, ⟨#[]⟩)) (zeroClock _) (w.heap.size + 1) n f q.name rfl (hmn.out.keep1 (heap_setCell_other _ _ _ _ (by show w.heap.size + 1 ≠ Wa.heap.size; omega))) rfl hsq ?_; rw [HCK.out q.name, HCL.out]; unfold clkV)))
            have hrow1 : wn.ownsRow (wr.heap.size + 1) 9 1 (.slice An (needsF q.e).length cn) (needsF q.e).length ((needsF q.e).map .string) := by have := HROW.out; simpa using this
            have hownX : ((wn.setCell ⟨Wa.heap.size, k, none⟩ (.slice An (needsF q.e).length cn)).alloc (.cells #[.int .i64 ck, .string cs] 41)).ownsRow (wr.heap.size + 1) 9 1 (.slice An (needsF q.e).length cn) (needsF q.e).length ((needsF q.e).map .string) := own_alloc (own_apart hrow1 (fun b hb => by have := (hrow1.lt b hb).1; omega) _ _)
            have wk : wn.cell? ⟨Wa.heap.size, k, none⟩ = some (.slice none 0 0) := bel_cell hbn (bel_cell (bel_alloc (Below.refl _ _) _) e0)
            have wkf : wn.frozen? ⟨Wa.heap.size, k, none⟩ = false := (hbn.frozen (p := ⟨Wa.heap.size, k, none⟩) (show Wa.heap.size < _ by simp; omega)).trans (((bel_alloc (Below.refl _ _) _).frozen (p := ⟨Wa.heap.size, k, none⟩) hGlt).trans f0)
            have xk : ((wn.setCell ⟨Wa.heap.size, k, none⟩ (.slice An (needsF q.e).length cn)).alloc (.cells #[.int .i64 ck, .string cs] 41)).cell? ⟨Wa.heap.size, k, none⟩ = some (.slice An (needsF q.e).length cn) := by go_simp
            have xf : ((wn.setCell ⟨Wa.heap.size, k, none⟩ (.slice An (needsF q.e).length cn)).alloc (.cells #[.int .i64 ck, .string cs] 41)).frozen? ⟨Wa.heap.size, k, none⟩ = false := by go_simp
            have XK := Lib.hid xk
            have XF := Lib.hid xf
            clear xk xf
            have hrz : wr.heap.size + 1 ≤ wn.heap.size := hzn
            go_region_law (first
              | (refine step_cat rfl (.tmp 54) (.tmp 57) 55 rfl (wr.heap.size + 1) 9 _ 1 16 Tryz.underlying55 strinfo rfl (by omega) (.slice An (needsF q.e).length cn) (needsF q.e).length ((needsF q.e).map .string) (some ⟨wn.heap.size + 1, 0, none⟩) 1 1 [.string cs] rfl (own_alloc (own_drew hownX)) rfl ⟨rfl, fun _ => ⟨_, _, rfl, fun j u hj => by rw [Nat.zero_add]; exact (cell_new' (by simp)).trans (by simpa using hj)⟩⟩ (by simp [Value.oneCell']) (by omega) (by omega) (by simp; omega) ?_; intro v9 w9 hown9 hb9; go_loud (obtain ⟨A9, c9, rfl, hc91, hc92⟩ := own_slice hown9; have k9 : w9.cell? ⟨Wa.heap.size, k, none⟩ = some (.slice An (needsF q.e).length cn) := ((hb9.cell (p := ⟨Wa.heap.size, k, none⟩) (show Wa.heap.size < wr.heap.size + 1 by omega)).trans (bel_cell (bel_alloc (Below.refl _ _) _) (cel_drew XK.out))); have k9f : w9.frozen? ⟨Wa.heap.size, k, none⟩ = false := ((hb9.frozen (p := ⟨Wa.heap.size, k, none⟩) (show Wa.heap.size < wr.heap.size + 1 by omega)).trans (((bel_alloc (bel_drew (Below.refl _ _)) _).frozen (p := ⟨Wa.heap.size, k, none⟩) (show Wa.heap.size < _ by simp; omega)).trans XF.out)); have HO9 := Lib.hid hown9; have HB9 := Lib.hid hb9; clear hown9 hb9)))
            all_goals
              go_wp2_with fail
              go_roundw
              case rel =>
                have hownN := own_bel (own_alloc (o := .cells #[.string q.name, .int .i64 q.delay, .int .i64 q.first.kind, .int .i32 q.first.n, .string q.first.name, .slice B1 q.first.sub.length n1, .int .i64 q.e.kind, .int .i32 q.e.n, .string q.e.name, .slice B2 q.e.sub.length n2] 39) hown.out) hbn
                have hst := hownN.stored k (.slice An (needsF q.e).length cn)
                have hz9 := HB9.out.size
                have hzs : wn.heap.size ≤ w9.heap.size := by refine Nat.le_trans ?_ hz9; show wn.heap.size ≤ (World.alloc _ _).heap.size; simp; omega
                have hX : ∀ b, b < wr.heap.size → w9.heap[b]? = (wn.setCell ⟨Wa.heap.size, k, none⟩ (.slice An (needsF q.e).length cn)).heap[b]? := fun b hb =>
                  (HB9.out.block b (by omega)).trans ((heap_alloc_old _ _ (by simp; omega)).trans (heap_alloc_old _ _ (by simp; omega)))
                have hst9 := (own_keep1 hst.1 (hX _ hGlt)).stored k (.slice A9 ((needsF q.e).length + 1) c9)
                rw [List.set_set] at hst9
                have hgw : wr.grownBy w9 (some Wa.heap.size) := ⟨HB9.out.os.trans hbn.os, HB9.out.tape.trans hbn.tape, HB9.out.output.trans hbn.output, by omega, fun b hb hne => (hX b hb).trans ((heap_setCell_other _ _ _ _ (by show b ≠ Wa.heap.size; intro h; exact hne (by rw [h]))).trans ((hbn.block b (by simp; omega)).trans (heap_alloc_old _ _ hb)))⟩
                have hgf := grownT hgw hst9.2
                refine ⟨k + 1, xs.set k (.slice A9 ((needsF q.e).length + 1) c9), by omega, by go_num, Lib.hid hst9.1, Lib.hid ?_, Lib.hid (grownT hgr.out hgf)⟩
                have hoff : Off (Wa.heap.size + 1) none (w9.setCell ⟨Wa.heap.size, k, none⟩ (.slice A9 ((needsF q.e).length + 1) c9)) (fun V => StrsAt V (needQ L q) A9 c9) := by
                  have ho := HO9.out
                  rw [HNQ.out]
                  have ho2 : w9.ownsRow (wr.heap.size + 1) 9 1 (.slice A9 (needsF q.e ++ [cs]).length c9) (needsF q.e ++ [cs]).length ((needsF q.e ++ [cs]).map .string) := by rw [List.map_append, List.length_append]; exact ho
                  exact ((StrsAt.off_own ho2).grow (fun b hb1 hb2 _ => heap_setCell_other _ _ _ _ (by show b ≠ Wa.heap.size; omega)) (by simp) (.inl rfl)).less (by omega)
                have := hnr.out.step (fun b hb1 hb2 => hgf.block b hb2 (by intro h; injection h with h; omega)) hgf.size HX.out (by rw [HXL.out]; exact hlt) hoff
                rw [show (needQ L q).length = (needsF q.e).length + 1 by rw [HNQ.out]; simp] at this
                exact this
              case measure => simp [intOf]; omega
        · obtain rfl : k = p.eqs.length := by omega
          have HB := Lib.hid hbwr
          clear hbwr
          go_wp2_with fail
          go_ret
          exact ⟨⟨Wa.heap.size, xs, rfl, by omega, hown.out, hnr.out⟩, HB.out⟩

end Go.Proofs.YtikmbkojnfmiaaaGreatDoorRRRR
