/- What is proved: laws of loops that count up, in the words of the printed statements. -/
import Derived.Test.YtefpfeoimgkldaaDoorZRRSimE
import Derived.Test.YtefpfeoimgkldaaDoorZRRBig
import Derived.Laws.Strings

namespace Go.Sim
open Go.RowKit
theorem wi1 {i : Nat} (h : i + 1 ≤ 9223372036854775807) : IntKind.i64.wrap ((i : Int) + 1) = ((i + 1 : Nat) : Int) := by
  rw [wi (by omega) (by omega)]; omega
/-- A loop that counts from 0 to 'n'. -/
theorem Loop1.up {b : Int → (Int → Prop) → Prop} (n : Nat) (P : Nat → Prop) (h0 : P 0) (st : ∀ (i : Nat) (k : Int → Prop), i ≤ n → P i → (i + 1 ≤ n → P (i + 1) → k ((i + 1 : Nat) : Int)) → b (i : Int) k) : Loop1 (0 : Int) b := by
  refine ⟨fun z => ∃ j : Nat, z = (j : Int) ∧ j ≤ n ∧ P j, fun z => n - z.toNat, ⟨0, rfl, Nat.zero_le _, h0⟩, ?_⟩
  rintro _ ⟨j, rfl, hj, hP⟩
  refine st j _ hj hP fun h1 h2 => ⟨⟨j + 1, rfl, h1, h2⟩, ?_⟩
  simp only [Int.toNat_natCast]; omega
theorem Loop2.up {α : Type} {s0 : α} {b : α → Int → (α → Int → Prop) → Prop} (n : Nat) (P : Nat → α → Prop) (h0 : P 0 s0) (st : ∀ (i : Nat) (s : α) (k : α → Int → Prop), i ≤ n → P i s → (∀ s', i + 1 ≤ n → P (i + 1) s' → k s' ((i + 1 : Nat) : Int)) → b s (i : Int) k) : Loop2 s0 (0 : Int) b := by
  refine ⟨fun s z => ∃ j : Nat, z = (j : Int) ∧ j ≤ n ∧ P j s, fun _ z => n - z.toNat, ⟨0, rfl, Nat.zero_le _, h0⟩, ?_⟩
  rintro s _ ⟨j, rfl, hj, hP⟩
  refine st j s _ hj hP fun s' h1 h2 => ⟨⟨j + 1, rfl, h1, h2⟩, ?_⟩
  simp only [Int.toNat_natCast]; omega
/-- What stands at a counted place. -/
theorem At.nat {α : Type} {xs : List α} {i : Nat} {k : α → Prop} (h : i < xs.length) (hk : ∀ x, xs[i]? = some x → k x) : At xs (i : Int) k :=
  ⟨by omega, xs[i], by rw [Int.toNat_natCast]; exact List.getElem?_eq_getElem h, hk _ (List.getElem?_eq_getElem h)⟩
theorem beq_str {a b : ByteArray} : (a.toList == b.toList) = true ↔ a = b := by
  rw [beq_iff_eq, ByteArray.toList_eq, ByteArray.toList_eq]
  exact ⟨fun h => ByteArray.ext (Array.ext' h), fun h => by rw [h]⟩
end Go.Sim
