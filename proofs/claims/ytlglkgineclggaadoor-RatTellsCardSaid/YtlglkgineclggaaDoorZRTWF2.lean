/- What is proved: functions of the program compute what plain statements tell. -/
import Derived.Test.YtlglkgineclggaaDoorZRTWE
namespace Go.Sim.YtlglkgineclggaaDoor
open Go.RowKit Go.Proofs Go.Proofs.Tryd
set_option maxRecDepth 100000
def W_ival_Empty (Q : GIval → Prop) : Prop :=
  Call (Ev_math_Inf (1 : Int)) fun x1 =>
  Call (Ev_math_Inf (-1 : Int)) fun x3 =>
  Q (GIval.mk x1 x3)
theorem walk_ival_Empty {r : GIval} (h : W_ival_Empty (fun r' => r' = r)) : Ev_ival_Empty r := by
  unfold W_ival_Empty at h
  refine AFn.intro' (L := []) tabOk Tryd.func17 rfl rfl Tryd.ntmps17 rfl rfl rfl ?_
  refine AWp.seq ?_
  refine AWp.regionN (fun _ => false) rfl ?_
  refine AOps.alloc tabOk rfl rfl rfl rfl rfl ?_
  refine AOps.done ?_
  refine AWp.seq ?_
  refine AWp.regionN (fun o => writes o) rfl ?_
  obtain ⟨x1, hc2, h⟩ := h
  refine AOps.call hc2 rfl rfl rfl ⟨.inl rfl, trivial⟩ ?_
  obtain ⟨x3, hc4, h⟩ := h
  refine AOps.call hc4 rfl rfl rfl ⟨.inl rfl, trivial⟩ ?_
  refine pT rfl rfl rfl ?_
  refine AOps.store tabOk (v := .dat (.st _ _)) rfl rfl rfl rfl rfl rfl rfl rfl rfl rfl rfl rfl rfl ?_
  refine AOps.done ?_
  refine AWp.ret ?_
  subst h
  exact ⟨_, rfl, rfl⟩
def W_ival_Make (lo1 : Nat) (hi2 : Nat) (Q : GIval → Prop) : Prop :=
  FOp .add lo1 (0 : Nat) fun x3 =>
  FOp .add hi2 (0 : Nat) fun x4 =>
  Call (Ev_ival_Right (GIval.mk x3 x4)) fun x5 =>
  Br (!x5) (
    Call (Ev_ival_Empty) fun x9 =>
    Q x9) (
    Q (GIval.mk x3 x4))
theorem walk_ival_Make {lo1 : Nat} {hi2 : Nat} {r : GIval} (h : W_ival_Make lo1 hi2 (fun r' => r' = r)) : Ev_ival_Make lo1 hi2 r := by
  unfold W_ival_Make at h
  refine AFn.intro' (L := [(0, .dat (.v (.float .f64 lo1))), (1, .dat (.v (.float .f64 hi2)))]) tabOk Tryd.func21 rfl rfl Tryd.ntmps21 rfl rfl rfl ?_
  refine AWp.seq ?_
  refine AWp.regionN (fun _ => false) rfl ?_
  refine AOps.alloc tabOk rfl rfl rfl rfl rfl ?_
  refine AOps.done ?_
  refine AWp.seq ?_
  refine AWp.regionN (fun o => writes o) rfl ?_
  refine pF rfl rfl rfl ?_
  obtain ⟨x3, hq, h⟩ := h
  refine AOps.v rfl rfl (Step.flt rfl rfl rfl hq) ?_
  refine pF rfl rfl rfl ?_
  obtain ⟨x4, hq, h⟩ := h
  refine AOps.v rfl rfl (Step.flt rfl rfl rfl hq) ?_
  refine pT rfl rfl rfl ?_
  refine AOps.alloc tabOk rfl rfl rfl rfl rfl ?_
  refine AOps.store tabOk (v := .dat (.st _ _)) rfl rfl rfl rfl rfl rfl rfl rfl rfl rfl rfl rfl rfl ?_
  refine AOps.done ?_
  refine AWp.seq ?_
  refine AWp.seq ?_
  refine AWp.regionN (fun _ => false) rfl ?_
  refine pT rfl rfl rfl ?_
  obtain ⟨x5, hc6, h⟩ := h
  refine AOps.call hc6 rfl rfl rfl ⟨.inl rfl, trivial⟩ ?_
  refine pB rfl rfl rfl ?_
  refine AOps.done ?_
  refine AWp.cond rfl (fun e => ?_) (fun e => ?_)
  · replace h := h.1 e
    refine AWp.seq ?_
    refine AWp.regionN (fun o => writes o) rfl ?_
    obtain ⟨x9, hc10, h⟩ := h
    refine AOps.call hc10 rfl rfl rfl trivial ?_
    refine AOps.store tabOk (v := .dat (.st _ _)) rfl rfl rfl rfl rfl rfl rfl rfl rfl rfl rfl rfl rfl ?_
    refine AOps.done ?_
    refine AWp.ret ?_
    subst h
    exact ⟨_, rfl, rfl⟩
  · replace h := h.2 e
    refine AWp.skip ?_
    refine AWp.seq ?_
    refine AWp.regionN (fun o => writes o) rfl ?_
    refine pT rfl rfl rfl ?_
    refine AOps.store tabOk (v := .dat (.st _ _)) rfl rfl rfl rfl rfl rfl rfl rfl rfl rfl rfl rfl rfl ?_
    refine AOps.done ?_
    refine AWp.ret ?_
    subst h
    exact ⟨_, rfl, rfl⟩
def W_ival_Right (x1 : GIval) (Q : Bool → Prop) : Prop :=
  Call (Ev_ival_Empty) fun x12 =>
  Br (GIval.beq x1 x12) (Q true) (
    Br ((FloatKind.f64.format.order x1.Lo x1.Hi == some .lt) || (FloatKind.f64.format.order x1.Lo x1.Hi == some .eq)) (
      Call (Ev_math_Inf (1 : Int)) fun x14 =>
      Br (FloatKind.f64.format.order x1.Lo x14 == some .lt) (
        Call (Ev_math_Inf (-1 : Int)) fun x16 =>
        Br (FloatKind.f64.format.order x1.Hi x16 == some .gt) (
          Call (Ev_ival_plus x1.Lo) fun x18 =>
          Br x18 (
            Call (Ev_ival_plus x1.Hi) fun x20 =>
            Q x20) (
            Q false)) (
          Q false)) (
        Q false)) (
      Q false))
theorem walk_ival_Right {x1 : GIval} {r : Bool} (h : W_ival_Right x1 (fun r' => r' = r)) : Ev_ival_Right x1 r := by
  unfold W_ival_Right at h
  refine AFn.intro' (L := [(0, .dat (GIval.enc x1))]) tabOk Tryd.func48 rfl rfl Tryd.ntmps48 rfl rfl rfl ?_
  refine AWp.seq ?_
  refine AWp.regionN (fun _ => false) rfl ?_
  refine AOps.box (v := .dat (.st _ _)) rfl rfl rfl rfl rfl rfl ?_
  refine pB rfl rfl rfl ?_
  refine AOps.done ?_
  refine AWp.seq ?_
  refine AWp.regionD (fun _ => false) mixed (by decide +kernel) rfl ?_
  refine pT rfl rfl rfl ?_
  obtain ⟨x12, hc13, h⟩ := h
  refine AOps.call hc13 rfl rfl rfl trivial ?_
  refine AOps.eqs rfl rfl rfl rfl rfl rfl rfl (by decide +kernel) (GIval.eqok28 _ x1 x12) ?_
  refine pB rfl rfl rfl ?_
  refine AOps.splitB 6 rfl (fun e => ?_) (fun e => ?_)
  · replace h := h.1 e
    refine AOps.off rfl rfl ?_
    refine AOps.off rfl rfl ?_
    refine AOps.off rfl rfl ?_
    refine AOps.off rfl rfl ?_
    refine AOps.off rfl rfl ?_
    refine AOps.off rfl rfl ?_
    refine AOps.off rfl rfl ?_
    refine AOps.off rfl rfl ?_
    refine AOps.off rfl rfl ?_
    refine AOps.off rfl rfl ?_
    refine AOps.off rfl rfl ?_
    refine AOps.off rfl rfl ?_
    refine AOps.off rfl rfl ?_
    refine AOps.off rfl rfl ?_
    refine AOps.off rfl rfl ?_
    refine AOps.off rfl rfl ?_
    refine AOps.off rfl rfl ?_
    refine AOps.off rfl rfl ?_
    refine AOps.off rfl rfl ?_
    refine AOps.off rfl rfl ?_
    refine AOps.off rfl rfl ?_
    refine AOps.off rfl rfl ?_
    refine AOps.off rfl rfl ?_
    refine AOps.off rfl rfl ?_
    refine AOps.off rfl rfl ?_
    refine AOps.off rfl rfl ?_
    refine AOps.off rfl rfl ?_
    refine pB rfl rfl rfl ?_
    refine pB rfl rfl rfl ?_
    refine AOps.done ?_
    refine AWp.ret ?_
    subst h
    exact ⟨_, rfl, rfl⟩
  · replace h := h.2 e
    refine pP rfl rfl rfl ?_
    refine pF rfl rfl rfl ?_
    refine pP rfl rfl rfl ?_
    refine pF rfl rfl rfl ?_
    refine pB rfl rfl rfl ?_
    refine pB rfl rfl rfl ?_
    refine AOps.splitB 12 rfl (fun e => ?_) (fun e => ?_)
    · replace h := h.1 e
      refine pP rfl rfl rfl ?_
      refine pF rfl rfl rfl ?_
      obtain ⟨x14, hc15, h⟩ := h
      refine AOps.call hc15 rfl rfl rfl ⟨.inl rfl, trivial⟩ ?_
      refine pB rfl rfl rfl ?_
      refine pB rfl rfl rfl ?_
      refine pB rfl rfl rfl ?_
      refine AOps.splitB 18 rfl (fun e => ?_) (fun e => ?_)
      · replace h := h.1 e
        refine pP rfl rfl rfl ?_
        refine pF rfl rfl rfl ?_
        obtain ⟨x16, hc17, h⟩ := h
        refine AOps.call hc17 rfl rfl rfl ⟨.inl rfl, trivial⟩ ?_
        refine pB rfl rfl rfl ?_
        refine pB rfl rfl rfl ?_
        refine pB rfl rfl rfl ?_
        refine AOps.splitB 24 rfl (fun e => ?_) (fun e => ?_)
        · replace h := h.1 e
          refine pP rfl rfl rfl ?_
          refine pF rfl rfl rfl ?_
          obtain ⟨x18, hc19, h⟩ := h
          refine AOps.call hc19 rfl rfl rfl ⟨.inl rfl, trivial⟩ ?_
          refine pB rfl rfl rfl ?_
          refine pB rfl rfl rfl ?_
          refine AOps.splitB 29 rfl (fun e => ?_) (fun e => ?_)
          · replace h := h.1 e
            refine pP rfl rfl rfl ?_
            refine pF rfl rfl rfl ?_
            obtain ⟨x20, hc21, h⟩ := h
            refine AOps.call hc21 rfl rfl rfl ⟨.inl rfl, trivial⟩ ?_
            refine pB rfl rfl rfl ?_
            refine pB rfl rfl rfl ?_
            refine pB rfl rfl rfl ?_
            refine AOps.done ?_
            refine AWp.ret ?_
            subst h
            exact ⟨_, rfl, rfl⟩
          · replace h := h.2 e
            refine AOps.off rfl rfl ?_
            refine AOps.off rfl rfl ?_
            refine AOps.off rfl rfl ?_
            refine pB rfl rfl rfl ?_
            refine pB rfl rfl rfl ?_
            refine pB rfl rfl rfl ?_
            refine AOps.done ?_
            refine AWp.ret ?_
            subst h
            exact ⟨_, rfl, rfl⟩
        · replace h := h.2 e
          refine AOps.off rfl rfl ?_
          refine AOps.off rfl rfl ?_
          refine AOps.off rfl rfl ?_
          refine pB rfl rfl rfl ?_
          refine pB rfl rfl rfl ?_
          refine AOps.off rfl rfl ?_
          refine AOps.off rfl rfl ?_
          refine AOps.off rfl rfl ?_
          refine pB rfl rfl rfl ?_
          refine pB rfl rfl rfl ?_
          refine pB rfl rfl rfl ?_
          refine AOps.done ?_
          refine AWp.ret ?_
          subst h
          exact ⟨_, rfl, rfl⟩
      · replace h := h.2 e
        refine AOps.off rfl rfl ?_
        refine AOps.off rfl rfl ?_
        refine AOps.off rfl rfl ?_
        refine AOps.off rfl rfl ?_
        refine pB rfl rfl rfl ?_
        refine pB rfl rfl rfl ?_
        refine AOps.off rfl rfl ?_
        refine AOps.off rfl rfl ?_
        refine AOps.off rfl rfl ?_
        refine pB rfl rfl rfl ?_
        refine pB rfl rfl rfl ?_
        refine AOps.off rfl rfl ?_
        refine AOps.off rfl rfl ?_
        refine AOps.off rfl rfl ?_
        refine pB rfl rfl rfl ?_
        refine pB rfl rfl rfl ?_
        refine pB rfl rfl rfl ?_
        refine AOps.done ?_
        refine AWp.ret ?_
        subst h
        exact ⟨_, rfl, rfl⟩
    · replace h := h.2 e
      refine AOps.off rfl rfl ?_
      refine AOps.off rfl rfl ?_
      refine AOps.off rfl rfl ?_
      refine AOps.off rfl rfl ?_
      refine pB rfl rfl rfl ?_
      refine pB rfl rfl rfl ?_
      refine AOps.off rfl rfl ?_
      refine AOps.off rfl rfl ?_
      refine AOps.off rfl rfl ?_
      refine AOps.off rfl rfl ?_
      refine pB rfl rfl rfl ?_
      refine pB rfl rfl rfl ?_
      refine AOps.off rfl rfl ?_
      refine AOps.off rfl rfl ?_
      refine AOps.off rfl rfl ?_
      refine pB rfl rfl rfl ?_
      refine pB rfl rfl rfl ?_
      refine AOps.off rfl rfl ?_
      refine AOps.off rfl rfl ?_
      refine AOps.off rfl rfl ?_
      refine pB rfl rfl rfl ?_
      refine pB rfl rfl rfl ?_
      refine pB rfl rfl rfl ?_
      refine AOps.done ?_
      refine AWp.ret ?_
      subst h
      exact ⟨_, rfl, rfl⟩
def W_ival_plus (v1 : Nat) (Q : Bool → Prop) : Prop :=
  Br (FloatKind.f64.format.order v1 (0 : Nat) != some .eq) (Q true) (
    Call (Ev_math_Signbit v1) fun x4 =>
    Q (!x4))
theorem walk_ival_plus {v1 : Nat} {r : Bool} (h : W_ival_plus v1 (fun r' => r' = r)) : Ev_ival_plus v1 r := by
  unfold W_ival_plus at h
  refine AFn.intro' (L := [(0, .dat (.v (.float .f64 v1)))]) tabOk Tryd.func82 rfl rfl Tryd.ntmps82 rfl rfl rfl ?_
  refine AWp.seq ?_
  refine AWp.regionN (fun _ => false) rfl ?_
  refine pB rfl rfl rfl ?_
  refine AOps.done ?_
  refine AWp.seq ?_
  refine AWp.regionN (fun _ => false) rfl ?_
  refine pF rfl rfl rfl ?_
  refine pB rfl rfl rfl ?_
  refine pB rfl rfl rfl ?_
  refine AOps.splitB 5 rfl (fun e => ?_) (fun e => ?_)
  · replace h := h.1 e
    refine AOps.off rfl rfl ?_
    refine AOps.off rfl rfl ?_
    refine AOps.off rfl rfl ?_
    refine pB rfl rfl rfl ?_
    refine pB rfl rfl rfl ?_
    refine AOps.done ?_
    refine AWp.ret ?_
    subst h
    exact ⟨_, rfl, rfl⟩
  · replace h := h.2 e
    refine pF rfl rfl rfl ?_
    obtain ⟨x4, hc5, h⟩ := h
    refine AOps.call hc5 rfl rfl rfl ⟨.inl rfl, trivial⟩ ?_
    refine pB rfl rfl rfl ?_
    refine pB rfl rfl rfl ?_
    refine pB rfl rfl rfl ?_
    refine AOps.done ?_
    refine AWp.ret ?_
    subst h
    exact ⟨_, rfl, rfl⟩
end Go.Sim.YtlglkgineclggaaDoor
