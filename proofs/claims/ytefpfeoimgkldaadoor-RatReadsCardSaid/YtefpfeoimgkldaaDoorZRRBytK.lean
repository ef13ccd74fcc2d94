/- What is proved: texts as lists of bytes: what stands at places, and how many of the first are so. -/
import Derived.Test.YtefpfeoimgkldaaDoorZRRWE
import Derived.Test.YtefpfeoimgkldaaDoorZRRPureK

namespace Go.Sim.YtefpfeoimgkldaaDoor
open Go.RowKit Go.Proofs Go.Proofs.Tryd
/-- The text from a place on. -/
def tl (s : ByteArray) (p : Nat) : List UInt8 := s.data.toList.drop p
theorem tl_len (s : ByteArray) (p : Nat) : (tl s p).length = s.size - p := by unfold tl; rw [List.length_drop]; rfl
theorem tl_drop (s : ByteArray) (p n : Nat) : (tl s p).drop n = tl s (p + n) := by unfold tl; rw [List.drop_drop]
theorem AtS.nat {s : ByteArray} {p : Nat} {b : UInt8} {k : Int → Prop} (h : s[p]? = some b) (hk : k ((b.toNat : Nat) : Int)) : AtS s (p : Int) k := ⟨by omega, b, by rw [Int.toNat_natCast]; exact h, hk⟩
/-- How many of a text's first bytes are so. -/
def span (f : Int → Bool) : List UInt8 → Nat
  | [] => 0
  | b :: l => if f (b.toNat : Int) = true then span f l + 1 else 0
theorem span_le (f : Int → Bool) : ∀ l, span f l ≤ l.length
  | [] => Nat.le_refl _
  | b :: l => by unfold span; have := span_le f l; split <;> simp <;> omega
/-- What stands so far ahead; 0: nothing. -/
def peek (l : List UInt8) (n : Nat) : Int := match l[n]? with | some b => (b.toNat : Int) | none => 0
def digitB (c : Int) : Bool := decide (c ≥ 48) && decide (c ≤ 57)
def bs (l : List UInt8) : ByteArray := ⟨l.toArray⟩
theorem bs_size (l : List UInt8) : (bs l).size = l.length := by show l.toArray.size = _; simp
theorem extract_tl {s : ByteArray} {p n : Nat} : s.extract p (p + n) = bs ((tl s p).take n) := by
  apply ByteArray.ext
  rw [ByteArray.data_extract]
  unfold bs tl
  apply Array.toList_inj.1
  rw [Array.toList_extract, List.extract_eq_take_drop, show p + n - p = n from Nat.add_sub_cancel_left ..]
theorem SlS.tl {s : ByteArray} {p n : Nat} {k : ByteArray → Prop} (h : p + n ≤ s.size) (hk : k (bs ((tl s p).take n))) : SlS s (p : Int) ((p + n : Nat) : Int) k := by
  refine ⟨by omega, by omega, by omega, ?_⟩
  rw [Int.toNat_natCast, Int.toNat_natCast, extract_tl]
  exact Let.as _ rfl hk
theorem peek_drop (l : List UInt8) (a n : Nat) : peek (l.drop a) n = peek l (a + n) := by unfold peek; rw [List.getElem?_drop]
end Go.Sim.YtefpfeoimgkldaaDoor
