/- What is proved: orrerylaw11.RatPowers is true at whatever input: the walk. -/
import Derived.Test.YtnhflokfcnfegaaRatW2
namespace Go.Sim.Ytnhflokfcnfegaa
open Go.RowKit Go.Proofs Go.Proofs.Try

theorem ratPowers_fn (a1 a2 b1 b2 n : Int) (h1 : inI a1) (h2 : inI a2) (h3 : inI b1) (h4 : inI b2) (hn : inI n) : AFn prog 5 [.st [1, 1] [.v (.int .i64 a1), .v (.int .i64 a2)], .st [1, 1] [.v (.int .i64 b1), .v (.int .i64 b2)], .v (.int .i64 n)] (.v (.bool true)) false := by
  refine AFn.intro' (L := [(0, .dat (.st [1, 1] [.v (.int .i64 a1), .v (.int .i64 a2)])), (1, .dat (.st [1, 1] [.v (.int .i64 b1), .v (.int .i64 b2)])), (2, .dat (.v (.int .i64 n)))]) tabOk Try.func5 rfl rfl Try.ntmps5 rfl rfl rfl ?_
  refine AWp.seq ?_
  refine AWp.regionN (fun _ => false) rfl ?_
  refine AOps.box (v := .dat (.st _ _)) rfl rfl rfl rfl rfl rfl ?_
  refine AOps.box (v := .dat (.st _ _)) rfl rfl rfl rfl rfl rfl ?_
  refine pB rfl rfl rfl ?_
  refine AOps.done ?_
  refine AWp.seq ?_
  refine AWp.regionN (fun o => writes o) rfl ?_
  refine pT rfl rfl rfl ?_
  refine pI rfl rfl rfl ?_
  refine AOps.call (pow_fn a1 a2 n h1 h2 hn) rfl rfl rfl ⟨.inl rfl, .inl rfl, trivial⟩ ?_
  refine pU rfl rfl rfl ?_
  refine pT rfl rfl rfl ?_
  refine pI rfl rfl rfl ?_
  refine AOps.alloc tabOk rfl rfl rfl rfl rfl ?_
  refine AOps.store tabOk (v := .dat (.st _ _)) rfl rfl rfl rfl rfl rfl rfl rfl rfl rfl rfl rfl rfl ?_
  refine pI rfl rfl rfl ?_
  refine AOps.done ?_
  refine AWp.seq ?_
  refine AWp.regionN (fun o => writes o) rfl ?_
  refine pT rfl rfl rfl ?_
  refine pI rfl rfl rfl ?_
  refine AOps.call (refpow_fn a1 a2 n h1 h2 hn) rfl rfl rfl ⟨.inl rfl, .inl rfl, trivial⟩ ?_
  refine pU rfl rfl rfl ?_
  refine pT rfl rfl rfl ?_
  refine pI rfl rfl rfl ?_
  refine AOps.alloc tabOk rfl rfl rfl rfl rfl ?_
  refine AOps.store tabOk (v := .dat (.st _ _)) rfl rfl rfl rfl rfl rfl rfl rfl rfl rfl rfl rfl rfl ?_
  refine pI rfl rfl rfl ?_
  refine AOps.done ?_
  refine AWp.seq ?_
  refine AWp.regionD (fun _ => false) mixed (by decide +kernel) rfl ?_
  refine pT rfl rfl rfl ?_
  refine pT rfl rfl rfl ?_
  refine AOps.eqst (by decide) rfl rfl rfl rfl rfl rfl rfl (by decide +kernel) (eqRat _ _ _ _) (fun c25 h25 => ?_)
  refine pB rfl rfl rfl ?_
  cases c25
  · -- c25 = false
    simp at h25
  · -- c25 = true
    refine pI rfl rfl rfl ?_
    refine pI rfl rfl rfl ?_
    refine AOps.b tabOk rfl rfl rfl (fun c29 h29 => ?_)
    refine pB rfl rfl rfl ?_
    refine pB rfl rfl rfl ?_
    cases c29
    · -- c29 = false
      simp at h29
    · -- c29 = true
      refine pT rfl rfl rfl ?_
      refine pT rfl rfl rfl ?_
      refine AOps.call (rcmp_fn a1 a2 b1 b2 h1 h2 h3 h4) rfl rfl rfl ⟨.inl rfl, .inl rfl, trivial⟩ ?_
      refine pT rfl rfl rfl ?_
      refine pT rfl rfl rfl ?_
      refine AOps.call (refcmp_fn a1 a2 b1 b2 h1 h2 h3 h4) rfl rfl rfl ⟨.inl rfl, .inl rfl, trivial⟩ ?_
      refine AOps.b tabOk rfl rfl rfl (fun c38 h38 => ?_)
      refine pB rfl rfl rfl ?_
      refine pB rfl rfl rfl ?_
      cases c38
      · -- c38 = false
        simp at h38
      · -- c38 = true
        refine pT rfl rfl rfl ?_
        refine pT rfl rfl rfl ?_
        refine AOps.call (rcmp_fn b1 b2 a1 a2 h3 h4 h1 h2) rfl rfl rfl ⟨.inl rfl, .inl rfl, trivial⟩ ?_
        refine pT rfl rfl rfl ?_
        refine pT rfl rfl rfl ?_
        refine AOps.call (refcmp_fn b1 b2 a1 a2 h3 h4 h1 h2) rfl rfl rfl ⟨.inl rfl, .inl rfl, trivial⟩ ?_
        refine AOps.b tabOk rfl rfl rfl (fun c47 h47 => ?_)
        refine pB rfl rfl rfl ?_
        refine pB rfl rfl rfl ?_
        refine AOps.done ?_
        refine AWp.ret ?_
        exact ⟨_, rfl, by rw [← h47]; simp [fin]⟩

end Go.Sim.Ytnhflokfcnfegaa
