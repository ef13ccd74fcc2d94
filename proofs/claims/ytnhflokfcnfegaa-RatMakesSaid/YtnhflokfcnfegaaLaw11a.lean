/- What is proved: orrerylaw11.RatMakes is true at whatever input: the walk. -/
import Derived.Test.YtnhflokfcnfegaaRatW1
namespace Go.Sim.Ytnhflokfcnfegaa
open Go.RowKit Go.Proofs Go.Proofs.Try

theorem eqRat (a b c d : Int) : EqOk prog 10000 23 (.st [1, 1] [.v (.int .i64 a), .v (.int .i64 b)]) (.st [1, 1] [.v (.int .i64 c), .v (.int .i64 d)]) ((a == c) && ((b == d) && true)) :=
  EqOk.struct tabOk Try.underlying23 (by decide +kernel) ⟨by decide, rfl, ⟨te2, rfl, rfl, rfl⟩, _, _, EqOk.int ok2 rfl, ⟨by decide, rfl, ⟨te2, rfl, rfl, rfl⟩, _, _, EqOk.int ok2 rfl, rfl, rfl⟩, rfl⟩

theorem ratMakes_fn (a1 a2 n d : Int) (h1 : inI a1) (h2 : inI a2) (hn : inI n) (hd : inI d) : AFn prog 4 [.st [1, 1] [.v (.int .i64 a1), .v (.int .i64 a2)], .v (.int .i64 n), .v (.int .i64 d)] (.v (.bool true)) false := by
  refine AFn.intro' (L := [(0, .dat (.st [1, 1] [.v (.int .i64 a1), .v (.int .i64 a2)])), (1, .dat (.v (.int .i64 n))), (2, .dat (.v (.int .i64 d)))]) tabOk Try.func4 rfl rfl Try.ntmps4 rfl rfl rfl ?_
  refine AWp.seq ?_
  refine AWp.regionN (fun _ => false) rfl ?_
  refine AOps.box (v := .dat (.st _ _)) rfl rfl rfl rfl rfl rfl ?_
  refine pB rfl rfl rfl ?_
  refine AOps.done ?_
  refine AWp.seq ?_
  refine AWp.regionN (fun o => writes o) rfl ?_
  refine pI rfl rfl rfl ?_
  refine pI rfl rfl rfl ?_
  refine AOps.call (make_fn n d hn hd) rfl rfl rfl ⟨.inl rfl, .inl rfl, trivial⟩ ?_
  refine pU rfl rfl rfl ?_
  refine pT rfl rfl rfl ?_
  refine pI rfl rfl rfl ?_
  refine AOps.alloc tabOk rfl rfl rfl rfl rfl ?_
  refine AOps.store tabOk (v := .dat (.st _ _)) rfl rfl rfl rfl rfl rfl rfl rfl rfl rfl rfl rfl rfl ?_
  refine pI rfl rfl rfl ?_
  refine AOps.done ?_
  refine AWp.seq ?_
  refine AWp.regionN (fun o => writes o) rfl ?_
  refine pI rfl rfl rfl ?_
  refine pI rfl rfl rfl ?_
  refine AOps.call (refmake_fn n d hn hd) rfl rfl rfl ⟨.inl rfl, .inl rfl, trivial⟩ ?_
  refine pU rfl rfl rfl ?_
  refine pT rfl rfl rfl ?_
  refine pI rfl rfl rfl ?_
  refine AOps.alloc tabOk rfl rfl rfl rfl rfl ?_
  refine AOps.store tabOk (v := .dat (.st _ _)) rfl rfl rfl rfl rfl rfl rfl rfl rfl rfl rfl rfl rfl ?_
  refine pI rfl rfl rfl ?_
  refine AOps.done ?_
  refine AWp.seq ?_
  refine AWp.regionD (fun _ => false) mixed (by decide +kernel) rfl ?_
  refine pT rfl rfl rfl ?_
  refine AOps.call (right_fn a1 a2 h1 h2) rfl rfl rfl ⟨.inl rfl, trivial⟩ ?_
  refine pT rfl rfl rfl ?_
  refine AOps.call (refright_fn a1 a2 h1 h2) rfl rfl rfl ⟨.inl rfl, trivial⟩ ?_
  refine AOps.b tabOk rfl rfl rfl (fun c27 h27 => ?_)
  refine pB rfl rfl rfl ?_
  cases c27
  · -- c27 = false
    simp at h27
  · -- c27 = true
    refine pT rfl rfl rfl ?_
    refine pT rfl rfl rfl ?_
    refine AOps.eqst (by decide) rfl rfl rfl rfl rfl rfl rfl (by decide +kernel) (eqRat _ _ _ _) (fun c31 h31 => ?_)
    refine pB rfl rfl rfl ?_
    refine pB rfl rfl rfl ?_
    cases c31
    · -- c31 = false
      simp at h31
    · -- c31 = true
      refine pI rfl rfl rfl ?_
      refine pI rfl rfl rfl ?_
      refine AOps.b tabOk rfl rfl rfl (fun c36 h36 => ?_)
      refine pB rfl rfl rfl ?_
      refine pB rfl rfl rfl ?_
      refine AOps.done ?_
      refine AWp.ret ?_
      exact ⟨_, rfl, by rw [← h36]; simp [fin]⟩

end Go.Sim.Ytnhflokfcnfegaa
