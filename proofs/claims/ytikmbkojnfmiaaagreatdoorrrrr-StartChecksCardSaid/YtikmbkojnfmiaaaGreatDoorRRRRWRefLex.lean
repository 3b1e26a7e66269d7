/- Walks over the reference's lex: letter, digit, run, among, Word, Name: they say what lex.Name says. -/
import Derived.Test.YtikmbkojnfmiaaaGreatDoorRRRRBA
import Derived.Test.YtikmbkojnfmiaaaGreatDoorRRRRBB
import Derived.Laws.RangeString
import Derived.Laws.RangeAny
set_option linter.unusedVariables false
set_option linter.unusedSimpArgs false
set_option maxRecDepth 100000
namespace Go.Proofs.YtikmbkojnfmiaaaGreatDoorRRRR
open Go.RowKit Go.Sort

/-- A slice of texts. -/
def StrsAt (w : World) (l : List ByteArray) (A : Option Addr) (cap : Nat) : Prop :=
  l.length ≤ cap ∧ cap ≤ maxLen ∧ (0 < l.length → ∃ b off, A = some ⟨b, off, none⟩ ∧ ∀ (k : Nat) (s : ByteArray), l[k]? = some s → w.cell? ⟨b, off + k, none⟩ = some (.string s))
theorem StrsAt.later {w w' : World} {l : List ByteArray} {A : Option Addr} {cap : Nat} (h : StrsAt w l A cap) (hb : Below w.heap.size w w') : StrsAt w' l A cap :=
  ⟨h.1, h.2.1, fun hl => by
    obtain ⟨b, off, hA, hr⟩ := h.2.2 hl
    exact ⟨b, off, hA, fun k s hk => bel_cell hb (hr k s hk)⟩⟩
theorem StrsAt.get {w : World} {l : List ByteArray} {A : Option Addr} {cap k : Nat} {s : ByteArray} (h : StrsAt w l A cap) (hk : l[k]? = some s) : ∃ b off, A = some ⟨b, off, none⟩ ∧ b < w.heap.size ∧ w.cell? ⟨b, off + k, none⟩ = some (.string s) := by
  have hlt : k < l.length := (List.getElem?_eq_some_iff.1 hk).1
  obtain ⟨b, off, hA, hr⟩ := h.2.2 (by omega)
  exact ⟨b, off, hA, block_lt_of_cell (hr k s hk), hr k s hk⟩
theorem StrsAt.len {w : World} {l : List ByteArray} {A : Option Addr} {cap : Nat} (h : StrsAt w l A cap) : l.length ≤ cap ∧ cap ≤ maxLen := ⟨h.1, h.2.1⟩
theorem StrsAt.made (w : World) (l : List ByteArray) (t : TypeId) (c : Array Value) (hc : c = (l.map Value.string).toArray) (hl : l.length ≤ maxLen) : StrsAt (w.alloc (.cells c t)) l (some ⟨w.heap.size, 0, none⟩) l.length := by
  refine ⟨Nat.le_refl _, hl, fun _ => ⟨_, _, rfl, fun k s hk => ?_⟩⟩
  rw [Nat.zero_add, cell_new, hc]
  simp [hk]

/-- How many bytes from a place on are inner. -/
def runAt (p : Int → Bool) (s : ByteArray) : Nat → Nat → Nat
  | 0, pos => pos
  | fuel + 1, pos => if h : pos < s.size then (if p ((s[pos]'h).toNat : Int) then runAt p s fuel (pos + 1) else pos) else s.size
theorem innerB_high {c : Int} (h : 128 ≤ c) : innerB c = false := by
  unfold innerB letterB digitB
  simp; omega
theorem run_head (s : ByteArray) : ∀ f pos, s.size < f + pos → pos ≤ s.size → headAt innerB s f pos = runAt innerB s f pos
  | 0, pos, h, h2 => by omega
  | f + 1, pos, h, h2 => by
    unfold headAt runAt
    by_cases hlt : pos < s.size
    · rw [if_pos hlt, dif_pos hlt]
      by_cases ha : (s[pos]'hlt).toNat < 128
      · rw [decode_ascii s pos hlt ha]
        by_cases hp : innerB ((s[pos]'hlt).toNat : Int) = true
        · rw [if_pos hp, if_pos hp]; exact run_head s f (pos + 1) (by omega) (by omega)
        · rw [if_neg hp, if_neg hp]
      · have hh := decode_high s pos hlt (by omega)
        rw [if_neg (by rw [innerB_high (by omega)]; simp), if_neg (by rw [innerB_high (by omega)]; simp)]
    · rw [if_neg hlt, dif_neg hlt]

set_option maxHeartbeats 400000 in
theorem letter12_any (c : Int) (w : World) : Calls Tryz.prog 93 #[.int .u8 c] w fun r w' => r = .returned (.bool (letterB c)) ∧ w = w' := by
  unfold letterB
  by_cases h : 97 ≤ c
  · go_enter Tryz.func93, Tryz.ntmps93
    go_wp2_with fail
    go_ret
    exact ⟨ret_bool (by simp [h]), rfl⟩
  · go_enter Tryz.func93, Tryz.ntmps93
    go_wp2_with fail
    go_ret
    exact ⟨ret_bool (by simp; omega), rfl⟩
set_option maxHeartbeats 400000 in
theorem digit12_any (c : Int) (w : World) : Calls Tryz.prog 102 #[.int .u8 c] w fun r w' => r = .returned (.bool (digitB c)) ∧ w = w' := by
  unfold digitB
  by_cases h : 48 ≤ c
  · go_enter Tryz.func102, Tryz.ntmps102
    go_wp2_with fail
    go_ret
    exact ⟨ret_bool (by simp [h]), rfl⟩
  · go_enter Tryz.func102, Tryz.ntmps102
    go_wp2_with fail
    go_ret
    exact ⟨ret_bool (by simp; omega), rfl⟩

set_option maxHeartbeats 1000000 in
theorem run12_any (s : ByteArray) (w : World) (hs : s.size ≤ 1000000) : Calls Tryz.prog 94 #[.string s, .int .i64 0, .int .i64 0] w fun r w' => r = .returned (.int .i64 (runAt innerB s (s.size + 1) 0 : Nat)) ∧ w = w' := by
  go_enter Tryz.func94, Tryz.ntmps94
  go_wp2_with fail
  go_loopw [7] (fun i wr => ∃ k : Nat, k ≤ s.size ∧ i = .int .i64 k ∧ runAt innerB s (s.size + 1 - k) k = runAt innerB s (s.size + 1) 0 ∧ w = wr) (fun i _ => s.size - (intOf i).toNat)
  case atStart => exact ⟨0, Nat.zero_le _, rfl, rfl, rfl⟩
  case round =>
    obtain ⟨k, hk, rfl, hrem, rfl⟩ := hrel
    obtain ⟨f, hf⟩ : ∃ f, s.size + 1 - k = f + 1 := ⟨s.size - k, by omega⟩
    rw [hf, runAt] at hrem
    have hf2 : s.size + 1 - (k + 1) = f := by omega
    by_cases hlt : k < s.size
    · rw [dif_pos hlt] at hrem
      have hb : (s[k]'hlt).toNat < 256 := UInt8.toNat_lt _
      cases hp : innerB ((s[k]'hlt).toNat : Int)
      · rw [hp, if_neg (by simp)] at hrem
        have hp2 := hp
        unfold innerB at hp2
        simp only [Bool.or_eq_false_iff, decide_eq_false_iff_not] at hp2
        obtain ⟨⟨p1, p2⟩, p3⟩ := hp2
        have p4 : (((s[k]'hlt).toNat : Int) != 95) = true := by simpa using p3
        have HR := Lib.hid hrem; clear hrem hf hf2 hp p3
        go_wp2_with (first | (go_at_call 102; refine (digit12_any _ _).mono ?_; rintro r w1 ⟨rfl, rfl⟩) | (go_at_call 93; refine (letter12_any _ _).mono ?_; rintro r w1 ⟨rfl, rfl⟩))
        go_ret
        exact ⟨ret_int (by rw [← HR.out]), rfl⟩
      · rw [hp, if_pos rfl, ← hf2] at hrem
        have HR := Lib.hid hrem; clear hrem hf hf2
        have hp2 : digitB ((s[k]'hlt).toNat : Int) = true ∨ (digitB ((s[k]'hlt).toNat : Int) = false ∧ letterB ((s[k]'hlt).toNat : Int) = true) ∨ (digitB ((s[k]'hlt).toNat : Int) = false ∧ letterB ((s[k]'hlt).toNat : Int) = false ∧ (((s[k]'hlt).toNat : Int) != 95) = false) := by
          unfold innerB at hp
          cases h1 : digitB ((s[k]'hlt).toNat : Int) <;> cases h2 : letterB ((s[k]'hlt).toNat : Int) <;> simp_all
        clear hp
        rcases hp2 with p1 | ⟨p1, p2⟩ | ⟨p1, p2, p3⟩ <;>
        · go_wp2_with (first | (go_at_call 102; refine (digit12_any _ _).mono ?_; rintro r w1 ⟨rfl, rfl⟩) | (go_at_call 93; refine (letter12_any _ _).mono ?_; rintro r w1 ⟨rfl, rfl⟩))
          go_roundw
          case rel => exact ⟨k + 1, by omega, by go_num, HR.out, by first | trivial | rfl⟩
          case measure => simp [intOf]; omega
    · rw [dif_neg hlt] at hrem
      have hke : k = s.size := by omega
      have HR := Lib.hid hrem; clear hrem hf hf2
      go_wp2_with fail
      go_ret
      exact ⟨ret_int (by rw [← HR.out]; omega), rfl⟩

set_option maxHeartbeats 1000000 in
theorem among_any (l : List ByteArray) (A : Option Addr) (cap : Nat) (s : ByteArray) (w : World) (hl : StrsAt w l A cap) :
    Calls Tryz.prog 103 #[.slice A l.length cap, .string s] w fun r w' => r = .returned (.bool (l.any fun x => x.toList == s.toList)) ∧ Below w.heap.size w w' := by
  have hlen := hl.len
  unfold maxLen at hlen
  obtain ⟨hlen1, hlen2⟩ := hlen
  go_enter Tryz.func103, Tryz.ntmps103
  go_wp2_with fail
  go_loopw [5] (fun i wr => ∃ k : Nat, k ≤ l.length ∧ i = .int .i64 k ∧ ((l.drop k).any fun x => x.toList == s.toList) = (l.any fun x => x.toList == s.toList) ∧ Below w.heap.size w wr) (fun i _ => l.length - (intOf i).toNat)
  case atStart => exact ⟨0, Nat.zero_le _, rfl, rfl, belA⟩
  case round =>
    obtain ⟨k, hk, rfl, hrem, hbel⟩ := hrel
    by_cases hlt : k < l.length
    · have hx : l[k]? = some l[k] := List.getElem?_eq_getElem hlt
      have hd : l.drop k = l[k] :: l.drop (k + 1) := List.drop_eq_getElem_cons hlt
      generalize l[k] = x at hx hd
      obtain ⟨b, off, rfl, hbb, d0⟩ := (hl.later hbel).get hx
      rw [hd, List.any_cons] at hrem
      clear hd hx
      cases hcs : (x.toList == s.toList)
      · rw [hcs, Bool.false_or] at hrem
        have HR := Lib.hid hrem; clear hrem
        go_wp2_with fail
        go_roundw
        case rel => exact ⟨k + 1, by omega, by go_num, HR.out, belA⟩
        case measure => simp [intOf]; omega
      · rw [hcs, Bool.true_or] at hrem
        have HR := Lib.hid hrem; clear hrem
        go_wp2_with fail
        go_ret
        exact ⟨ret_bool HR.out, belA⟩
    · obtain rfl : k = l.length := by omega
      rw [List.drop_length, List.any_nil] at hrem
      have HR := Lib.hid hrem; clear hrem
      go_wp2_with fail
      go_ret
      exact ⟨ret_bool HR.out, belA⟩

/-- The words of the language. -/
def words : List ByteArray := [⟨#[110, 111, 100, 101]⟩, ⟨#[114, 101, 116, 117, 114, 110, 115]⟩, ⟨#[118, 97, 114]⟩, ⟨#[108, 101, 116]⟩, ⟨#[116, 101, 108]⟩, ⟨#[105, 102]⟩, ⟨#[116, 104, 101, 110]⟩, ⟨#[101, 108, 115, 101]⟩, ⟨#[102, 98, 121]⟩, ⟨#[112, 114, 101]⟩, ⟨#[119, 104, 101, 110]⟩, ⟨#[117, 110, 108, 101, 115, 115]⟩, ⟨#[109, 101, 114, 103, 101]⟩, ⟨#[110, 111, 116]⟩, ⟨#[116, 114, 117, 101]⟩, ⟨#[102, 97, 108, 115, 101]⟩, ⟨#[105, 110, 116]⟩, ⟨#[98, 111, 111, 108]⟩]
theorem beq_swap (a b : List UInt8) : (a == b) = (b == a) := by
  rw [Bool.eq_iff_iff]; simp; exact eq_comm
theorem words_any (s : ByteArray) : (words.any fun x => x.toList == s.toList) = wordB s := by
  have h : ∀ a : ByteArray, (a.toList == s.toList) = (s.toList == a.data.toList) := fun a => by rw [beq_swap, ByteArray.toList_eq a]
  unfold words wordB
  simp only [List.any_cons, List.any_nil, Bool.or_false, h, Bool.or_assoc]

set_option maxHeartbeats 1000000 in
theorem word12_any (s : ByteArray) (w : World) : Calls Tryz.prog 95 #[.string s] w fun r w' => r = .returned (.bool (wordB s)) ∧ Below w.heap.size w w' := by
  have ham := fun W A h => among_any words A words.length s W h
  rw [words_any] at ham
  go_enter Tryz.func95, Tryz.ntmps95
  go_wp2_with (go_at_call 103; go_loud (refine (ham _ _ (StrsAt.made _ words _ _ rfl (by unfold maxLen; decide))).mono ?_; rintro r w1 ⟨rfl, hb1⟩))
  go_ret
  exact ⟨rfl, belA⟩

set_option maxHeartbeats 1000000 in
theorem name12_any (s : ByteArray) (w : World) : Calls Tryz.prog 78 #[.string s] w fun r w' => r = .returned (.bool (nameB s)) ∧ Below w.heap.size w w' := by
  by_cases h0 : 0 < s.size
  · by_cases h1 : s.size ≤ 16
    · have hb : s[0].toNat < 256 := UInt8.toNat_lt _
      have hv : nameB s = (letterB (s[0].toNat : Int) && decide (headAt innerB s (s.size + 1) 0 = s.size) && !wordB s) := by unfold nameB; rw [dif_pos h0]; simp [h1]
      rw [run_head s (s.size + 1) 0 (by omega) (by omega)] at hv
      have hrun := fun W => run12_any s W (by omega)
      have hx : (((runAt innerB s (s.size + 1) 0 : Nat) : Int) == (s.size : Int)) = decide (runAt innerB s (s.size + 1) 0 = s.size) := by
        by_cases h : runAt innerB s (s.size + 1) 0 = s.size
        · rw [h]; simp
        · rw [decide_eq_false h]; simp; omega
      generalize runAt innerB s (s.size + 1) 0 = rn at *
      have HV := Lib.hid hv; clear hv
      cases h2 : letterB (s[0].toNat : Int) <;> cases h3 : decide (rn = s.size) <;> rw [h3] at hx <;> cases h4 : wordB s <;>
      · rw [h2, h3, h4] at HV
        clear h3
        go_enter Tryz.func78, Tryz.ntmps78
        go_wp2_with (first | (go_at_call 93; refine (letter12_any _ _).mono ?_; rintro r w1 ⟨rfl, rfl⟩) | (go_at_call 94; refine (hrun _).mono ?_; rintro r w1 ⟨rfl, rfl⟩) | (go_at_call 95; refine (word12_any _ _).mono ?_; rintro r w1 ⟨rfl, hb1⟩))
        go_ret
        exact ⟨ret_bool (by rw [HV.out]; rfl), belA⟩
    · have hv : nameB s = false := by unfold nameB; rw [dif_pos h0]; simp [h1]
      have HV := Lib.hid hv; clear hv
      go_enter Tryz.func78, Tryz.ntmps78
      go_wp2_with fail
      go_ret
      exact ⟨ret_bool (by rw [HV.out]), belA⟩
  · have hv : nameB s = false := by unfold nameB; rw [dif_neg h0]
    have HV := Lib.hid hv; clear hv
    obtain rfl := size_zero_toList h0
    go_enter Tryz.func78, Tryz.ntmps78
    go_wp2_with fail
    go_ret
    exact ⟨ret_bool (by rw [HV.out]), belA⟩

end Go.Proofs.YtikmbkojnfmiaaaGreatDoorRRRR
