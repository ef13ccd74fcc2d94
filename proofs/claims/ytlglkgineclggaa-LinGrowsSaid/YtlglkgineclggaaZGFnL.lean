/- What is proved: a function of the statement about products, as a value, does what it does when called by name. -/
import Derived.Test.YtlglkgineclggaaZGWE
namespace Go.Sim.Ytlglkgineclggaa
open Go.RowKit Go.Proofs Go.Proofs.Try
abbrev Fn_law04_LinGrows_1 : DV := .v (.func (.func 31) #[] #[])
theorem call_law04_LinGrows_1 {a0 : GIval} {r : GIval} (h : Ev_law04_LinGrows_1 a0 r) : FVal prog Fn_law04_LinGrows_1 [GIval.enc a0] (GIval.enc r) := ⟨31, [], .inr ⟨rfl, rfl⟩, by simp [DV.agg], h⟩
end Go.Sim.Ytlglkgineclggaa
