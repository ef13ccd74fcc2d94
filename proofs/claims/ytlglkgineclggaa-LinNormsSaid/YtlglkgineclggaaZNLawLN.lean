/- What is proved: the statement about norms holds of all arguments. -/
import Derived.Test.YtlglkgineclggaaZNLinY
namespace Go.Sim.Ytlglkgineclggaa
open Go.RowKit Go.Proofs Go.Proofs.Try
theorem okI_of {x : GIval} (h : GIval.ok x) : okI x := ⟨okF.1 h.1, okF.1 h.2⟩
theorem okL_of {l : List GIval} (h : l.length ≤ maxLen ∧ ∀ z ∈ l, GIval.ok z) : okL l ∧ l.length ≤ 9223372036854775807 := ⟨fun x hx => okI_of (h.2 x hx), h.1⟩
theorem okM_of {m : List (List GIval)} (h : m.length ≤ maxLen ∧ ∀ r ∈ m, (r.length ≤ maxLen ∧ ∀ z ∈ r, GIval.ok z)) : okM m ∧ m.length ≤ 9223372036854775807 := ⟨fun r hr => okL_of (h.2 r hr), h.1⟩
theorem okFF_of {f : List (List Nat)} (h : f.length ≤ maxLen ∧ ∀ r ∈ f, (r.length ≤ maxLen ∧ ∀ z ∈ r, okFlt z)) : okFF f ∧ f.length ≤ 9223372036854775807 := ⟨fun r hr => ⟨fun v hv => okF.1 ((h.2 r hr).2 v hv), (h.2 r hr).1⟩, h.1⟩
theorem linNorms_ev (m : List (List GIval)) (f : List (List Nat)) (n : Int) (h1 : m.length ≤ maxLen ∧ ∀ r ∈ m, (r.length ≤ maxLen ∧ ∀ z ∈ r, GIval.ok z)) (h2 : f.length ≤ maxLen ∧ ∀ r ∈ f, (r.length ≤ maxLen ∧ ∀ z ∈ r, okFlt z)) (_h3 : okInt .i64 n) : Ev_law04_LinNorms m f n true :=
  lawln_ev (okM_of h1).1 (okM_of h1).2 (okFF_of h2).1 (okFF_of h2).2
end Go.Sim.Ytlglkgineclggaa
