/- Walks over the reference's lex: letter, digit, run, among, Word, Name: they say what lex.Name says. -/
import Derived.Test.YtikmbkojnfmiaaaDoorRRRRBA
import Derived.Test.YtikmbkojnfmiaaaDoorRRRRBB
import Derived.Laws.RangeString
import Derived.Laws.RangeAny
set_option linter.unusedVariables false
set_option linter.unusedSimpArgs false
set_option maxRecDepth 100000
namespace Go.Proofs.YtikmbkojnfmiaaaDoorRRRR
open Go.RowKit Go.Sort

/-- A slice of texts. -/
def StrsAt (w : World) (l : List ByteArray) (A : Option Addr) (cap : Nat) : Prop :=
  l.length ≤ cap ∧ cap ≤ maxLen ∧ (0 < l.length → ∃ b off, A = some ⟨b, off, none⟩ ∧ ∀ (k : Nat) (s : ByteArray), l[k]? = some s → w.cell? ⟨b, off + k, none⟩ = some (.string s))
theorem StrsAt.later {w w' : World} {l : List ByteArray} {A : Option Addr} {cap : Nat} (h : StrsAt w l A cap) (hb : Below w.heap.size w w') : StrsAt w' l A cap :=
  ⟨h.1, h.2.1, fun hl => by
    obtain ⟨b, off, hA, hr⟩ := h.2.2 hl
    exact ⟨b, off, hA, fun k s hk => bel_cell hb (hr k s hk)⟩⟩
theorem StrsAt.get {w : World} {l : List ByteArray} {A : Option Addr} {cap k : Nat} {s : ByteArray} (h : StrsAt w l A cap) (hk : l[k]? = some s) : ∃ b off, A = some ⟨b, off, none⟩ ∧ b < w.heap.size ∧ w.cell? ⟨b, off + k, none⟩ = some (.string s) := by
  have hlt : k < l.length := (List.getElem?_eq_some_iff.1 hk).1
  obtain ⟨b, off, hA, hr⟩ := h.2.2 (by omega)
  exact ⟨b, off, hA, block_lt_of_cell (hr k s hk), hr k s hk⟩
theorem StrsAt.len {w : World} {l : List ByteArray} {A : Option Addr} {cap : Nat} (h : StrsAt w l A cap) : l.length ≤ cap ∧ cap ≤ maxLen := ⟨h.1, h.2.1⟩
theorem StrsAt.made (w : World) (l : List ByteArray) (t : TypeId) (c : Array Value) (hc : c = (l.map Value.string).toArray) (hl : l.length ≤ maxLen) : StrsAt (w.alloc (.cells c t)) l (some ⟨w.heap.size, 0, none⟩) l.length := by
  refine ⟨Nat.le_refl _, hl, fun _ => ⟨_, _, rfl, fun k s hk => ?_⟩⟩
  rw [Nat.zero_add, cell_new, hc]
  simp [hk]

/-- How many bytes from a place on are inner. -/
def runAt (p : Int → Bool) (s : ByteArray) : Nat → Nat → Nat
  | 0, pos => pos
  | fuel + 1, pos => if h : pos < s.size then (if p ((s[pos]'h).toNat : Int) then runAt p s fuel (pos + 1) else pos) else s.size
theorem innerB_high {c : Int} (h : 128 ≤ c) : innerB c = false := by
  unfold innerB letterB digitB
  simp; omega
theorem run_head (s : ByteArray) : ∀ f pos, s.size < f + pos → pos ≤ s.size → headAt innerB s f pos = runAt innerB s f pos
  | 0, pos, h, h2 => by omega
  | f + 1, pos, h, h2 => by
    unfold headAt runAt
    by_cases hlt : pos < s.size
    · rw [if_pos hlt, dif_pos hlt]
      by_cases ha : (s[pos]'hlt).toNat < 128
      · rw [decode_ascii s pos hlt ha]
        by_cases hp : innerB ((s[pos]'hlt).toNat : Int) = true
        · rw [if_pos hp, if_pos hp]; exact run_head s f (pos + 1) (by omega) (by omega)
        · rw [if_neg hp, if_neg hp]
      · have hh := decode_high s pos hlt (by omega)
        rw [if_neg (by rw [innerB_high (by omega)]; simp), if_neg (by rw [innerB_high (by omega)]; simp)]
    · rw [if_neg hlt, dif_neg hlt]

/-- The words of the language. -/
def words : List ByteArray := [⟨#[110, 111, 100, 101]⟩, ⟨#[114, 101, 116, 117, 114, 110, 115]⟩, ⟨#[118, 97, 114]⟩, ⟨#[108, 101, 116]⟩, ⟨#[116, 101, 108]⟩, ⟨#[105, 102]⟩, ⟨#[116, 104, 101, 110]⟩, ⟨#[101, 108, 115, 101]⟩, ⟨#[102, 98, 121]⟩, ⟨#[112, 114, 101]⟩, ⟨#[119, 104, 101, 110]⟩, ⟨#[117, 110, 108, 101, 115, 115]⟩, ⟨#[109, 101, 114, 103, 101]⟩, ⟨#[110, 111, 116]⟩, ⟨#[116, 114, 117, 101]⟩, ⟨#[102, 97, 108, 115, 101]⟩, ⟨#[105, 110, 116]⟩, ⟨#[98, 111, 111, 108]⟩]
theorem beq_swap (a b : List UInt8) : (a == b) = (b == a) := by
  rw [Bool.eq_iff_iff]; simp; exact eq_comm
theorem words_any (s : ByteArray) : (words.any fun x => x.toList == s.toList) = wordB s := by
  have h : ∀ a : ByteArray, (a.toList == s.toList) = (s.toList == a.data.toList) := fun a => by rw [beq_swap, ByteArray.toList_eq a]
  unfold words wordB
  simp only [List.any_cons, List.any_nil, Bool.or_false, h, Bool.or_assoc]

end Go.Proofs.YtikmbkojnfmiaaaDoorRRRR
