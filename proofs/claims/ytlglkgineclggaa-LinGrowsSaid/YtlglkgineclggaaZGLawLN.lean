/- What is proved: the statement about norms holds of all arguments. -/
import Derived.Test.YtlglkgineclggaaZGLinY
namespace Go.Sim.Ytlglkgineclggaa
open Go.RowKit Go.Proofs Go.Proofs.Try
theorem okI_of {x : GIval} (h : GIval.ok x) : okI x := ⟨okF.1 h.1, okF.1 h.2⟩
theorem okL_of {l : List GIval} (h : l.length ≤ maxLen ∧ ∀ z ∈ l, GIval.ok z) : okL l ∧ l.length ≤ 9223372036854775807 := ⟨fun x hx => okI_of (h.2 x hx), h.1⟩
theorem okM_of {m : List (List GIval)} (h : m.length ≤ maxLen ∧ ∀ r ∈ m, (r.length ≤ maxLen ∧ ∀ z ∈ r, GIval.ok z)) : okM m ∧ m.length ≤ 9223372036854775807 := ⟨fun r hr => okL_of (h.2 r hr), h.1⟩
end Go.Sim.Ytlglkgineclggaa
