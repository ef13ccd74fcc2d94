/- What is proved: functions of the program compute what plain statements tell. -/
import Derived.Test.YtlglkgineclggaaDoorZRTWE
namespace Go.Sim.YtlglkgineclggaaDoor
open Go.RowKit Go.Proofs Go.Proofs.Tryd
set_option maxRecDepth 100000
def W_ref02_Same (x1 : GIval) (y2 : GIval) (Q : Bool → Prop) : Prop :=
  Call (Ev_ref01_Same x1.Lo y2.Lo) fun x7 =>
  Br x7 (
    Call (Ev_ref01_Same x1.Hi y2.Hi) fun x9 =>
    Q x9) (
    Q false)
theorem walk_ref02_Same {x1 : GIval} {y2 : GIval} {r : Bool} (h : W_ref02_Same x1 y2 (fun r' => r' = r)) : Ev_ref02_Same x1 y2 r := by
  unfold W_ref02_Same at h
  refine AFn.intro' (L := [(0, .dat (GIval.enc x1)), (1, .dat (GIval.enc y2))]) tabOk Tryd.func7 rfl rfl Tryd.ntmps7 rfl rfl rfl ?_
  refine AWp.seq ?_
  refine AWp.regionN (fun _ => false) rfl ?_
  refine AOps.box (v := .dat (.st _ _)) rfl rfl rfl rfl rfl rfl ?_
  refine AOps.box (v := .dat (.st _ _)) rfl rfl rfl rfl rfl rfl ?_
  refine pB rfl rfl rfl ?_
  refine AOps.done ?_
  refine AWp.seq ?_
  refine AWp.regionN (fun _ => false) rfl ?_
  refine pP rfl rfl rfl ?_
  refine pF rfl rfl rfl ?_
  refine pP rfl rfl rfl ?_
  refine pF rfl rfl rfl ?_
  obtain ⟨x7, hc8, h⟩ := h
  refine AOps.call hc8 rfl rfl rfl ⟨.inl rfl, .inl rfl, trivial⟩ ?_
  refine pB rfl rfl rfl ?_
  refine AOps.splitB 10 rfl (fun e => ?_) (fun e => ?_)
  · replace h := h.1 e
    refine pP rfl rfl rfl ?_
    refine pF rfl rfl rfl ?_
    refine pP rfl rfl rfl ?_
    refine pF rfl rfl rfl ?_
    obtain ⟨x9, hc10, h⟩ := h
    refine AOps.call hc10 rfl rfl rfl ⟨.inl rfl, .inl rfl, trivial⟩ ?_
    refine pB rfl rfl rfl ?_
    refine pB rfl rfl rfl ?_
    refine AOps.done ?_
    refine AWp.ret ?_
    subst h
    exact ⟨_, rfl, rfl⟩
  · replace h := h.2 e
    refine AOps.off rfl rfl ?_
    refine AOps.off rfl rfl ?_
    refine AOps.off rfl rfl ?_
    refine AOps.off rfl rfl ?_
    refine AOps.off rfl rfl ?_
    refine pB rfl rfl rfl ?_
    refine pB rfl rfl rfl ?_
    refine AOps.done ?_
    refine AWp.ret ?_
    subst h
    exact ⟨_, rfl, rfl⟩
end Go.Sim.YtlglkgineclggaaDoor
