/- What is proved: functions of the program compute what plain statements tell. -/
import Derived.Test.YtnnfiohdkobkdaaDoorZLBWE
namespace Go.Sim.YtnnfiohdkobkdaaDoor
open Go.RowKit Go.Proofs Go.Proofs.Tryd
set_option maxRecDepth 100000
def W_ulp_Next (x1 : Nat) (Q : Nat → Prop) : Prop :=
  Call (Ev_math_IsNaN x1) fun x18 =>
  Join1 (fun j23 =>
    Br x18 (j23 x18) (
      Call (Ev_math_Inf (1 : Int)) fun x24 =>
      j23 (FloatKind.f64.format.order x1 x24 == some .eq))
  ) (fun (x22 : Bool) =>
    Br x22 (Q x1) (
      Br (FloatKind.f64.format.order x1 (0 : Nat) == some .eq) (Q (1 : Nat)) (
        Br (FloatKind.f64.format.order x1 (0 : Nat) == some .gt) (
          Call (Ev_math_Float64bits x1) fun x26 =>
          Let (IntKind.u64.wrap (x26 + (1 : Int))) fun x28 =>
          Call (Ev_math_Float64frombits x28) fun x29 =>
          Q x29) (
          Call (Ev_math_Float64bits x1) fun x31 =>
          Let (IntKind.u64.wrap (x31 - (1 : Int))) fun x33 =>
          Call (Ev_math_Float64frombits x33) fun x34 =>
          Call (Ev_ulp_clean x34) fun x36 =>
          Q x36))))
theorem walk_ulp_Next {x1 : Nat} {r : Nat} (h : W_ulp_Next x1 (fun r' => r' = r)) : Ev_ulp_Next x1 r := by
  unfold W_ulp_Next at h
  refine AFn.intro' (L := [(0, .dat (.v (.float .f64 x1)))]) tabOk Tryd.func17 rfl rfl Tryd.ntmps17 rfl rfl rfl ?_
  refine AWp.seq ?_
  refine AWp.regionN (fun _ => false) rfl ?_
  refine pF rfl rfl rfl ?_
  refine AOps.done ?_
  refine AWp.seq ?_
  refine AWp.block ?_
  refine AWp.seq ?_
  refine AWp.seq ?_
  refine AWp.regionN (fun _ => false) rfl ?_
  refine pF rfl rfl rfl ?_
  obtain ⟨x18, hc19, h⟩ := h
  refine AOps.call hc19 rfl rfl rfl ⟨.inl rfl, trivial⟩ ?_
  refine pB rfl rfl rfl ?_
  refine AOps.done ?_
  obtain ⟨J38, hj39, hk40⟩ := h
  refine AWp.cutK (I := fun p : Bool => mkSt [(0, .dat (.v (.float .f64 x1))), (3, .dat (.v (.bool p)))] []) (Inv := fun p : Bool => J38 p) ?_ (fun p hp => ?_)
  · have h := hj39
    refine AWp.cond rfl (fun e => ?_) (fun e => ?_)
    · replace h := h.1 e
      refine AWp.skip ?_
      exact ⟨x18, h, (Sub.list (fun i => i) rfl rfl ⟨rfl, rfl, trivial⟩ trivial)⟩
    · replace h := h.2 e
      refine AWp.regionN (fun _ => false) rfl ?_
      refine pF rfl rfl rfl ?_
      obtain ⟨x24, hc25, h⟩ := h
      refine AOps.call hc25 rfl rfl rfl ⟨.inl rfl, trivial⟩ ?_
      refine pB rfl rfl rfl ?_
      refine pB rfl rfl rfl ?_
      refine AOps.done ?_
      exact ⟨(FloatKind.f64.format.order x1 x24 == some .eq), h, (Sub.list (fun i => i) rfl rfl ⟨rfl, rfl, trivial⟩ trivial)⟩
  · have h := hk40 p hp
    revert h; clear hp; generalize p = x22; intro h
    refine AWp.cond rfl (fun e => ?_) (fun e => ?_)
    · replace h := h.1 e
      refine AWp.seq ?_
      refine AWp.regionN (fun _ => false) rfl ?_
      refine pF rfl rfl rfl ?_
      refine pF rfl rfl rfl ?_
      refine AOps.done ?_
      refine AWp.ret ?_
      subst h
      exact ⟨_, rfl, rfl⟩
    · replace h := h.2 e
      refine AWp.seq ?_
      refine AWp.regionN (fun _ => false) rfl ?_
      refine pF rfl rfl rfl ?_
      refine pB rfl rfl rfl ?_
      refine pB rfl rfl rfl ?_
      refine AOps.done ?_
      refine AWp.cond rfl (fun e => ?_) (fun e => ?_)
      · replace h := h.1 e
        refine AWp.seq ?_
        refine AWp.regionN (fun _ => false) rfl ?_
        refine pF rfl rfl rfl ?_
        refine AOps.done ?_
        refine AWp.ret ?_
        subst h
        exact ⟨_, rfl, rfl⟩
      · replace h := h.2 e
        refine AWp.seq ?_
        refine AWp.regionN (fun _ => false) rfl ?_
        refine pF rfl rfl rfl ?_
        refine pB rfl rfl rfl ?_
        refine pB rfl rfl rfl ?_
        refine AOps.done ?_
        refine AWp.cond rfl (fun e => ?_) (fun e => ?_)
        · replace h := h.1 e
          refine AWp.seq ?_
          refine AWp.regionN (fun _ => false) rfl ?_
          refine pF rfl rfl rfl ?_
          obtain ⟨x26, hc27, h⟩ := h
          refine AOps.extC hc27 rfl rfl rfl (.cons rfl .nil) ?_
          obtain ⟨x28, ex28, h⟩ := h.get
          refine AOps.i tabOk rfl rfl rfl ex28 ?_
          obtain ⟨x29, hc30, h⟩ := h
          refine AOps.extC hc30 rfl rfl rfl (.cons rfl .nil) ?_
          refine pF rfl rfl rfl ?_
          refine AOps.done ?_
          refine AWp.ret ?_
          subst h
          exact ⟨_, rfl, rfl⟩
        · replace h := h.2 e
          refine AWp.skip ?_
          refine AWp.seq ?_
          refine AWp.regionN (fun _ => false) rfl ?_
          refine pF rfl rfl rfl ?_
          obtain ⟨x31, hc32, h⟩ := h
          refine AOps.extC hc32 rfl rfl rfl (.cons rfl .nil) ?_
          obtain ⟨x33, ex33, h⟩ := h.get
          refine AOps.i tabOk rfl rfl rfl ex33 ?_
          obtain ⟨x34, hc35, h⟩ := h
          refine AOps.extC hc35 rfl rfl rfl (.cons rfl .nil) ?_
          obtain ⟨x36, hc37, h⟩ := h
          refine AOps.call hc37 rfl rfl rfl ⟨.inl rfl, trivial⟩ ?_
          refine pF rfl rfl rfl ?_
          refine AOps.done ?_
          refine AWp.ret ?_
          subst h
          exact ⟨_, rfl, rfl⟩
def W_math_IsNaN (f1 : Nat) (Q : Bool → Prop) : Prop :=
  Q (FloatKind.f64.format.order f1 f1 != some .eq)
theorem walk_math_IsNaN {f1 : Nat} {r : Bool} (h : W_math_IsNaN f1 (fun r' => r' = r)) : Ev_math_IsNaN f1 r := by
  unfold W_math_IsNaN at h
  refine AFn.intro' (L := [(0, .dat (.v (.float .f64 f1)))]) tabOk Tryd.func40 rfl rfl Tryd.ntmps40 rfl rfl rfl ?_
  refine AWp.seq ?_
  refine AWp.regionN (fun _ => false) rfl ?_
  refine pB rfl rfl rfl ?_
  refine AOps.done ?_
  refine AWp.seq ?_
  refine AWp.regionN (fun _ => false) rfl ?_
  refine pF rfl rfl rfl ?_
  refine pF rfl rfl rfl ?_
  refine pB rfl rfl rfl ?_
  refine pB rfl rfl rfl ?_
  refine AOps.done ?_
  refine AWp.ret ?_
  subst h
  exact ⟨_, rfl, rfl⟩
def W_math_Inf (sign1 : Int) (Q : Nat → Prop) : Prop :=
  Join1 (fun j3 =>
    Br (decide (sign1 ≥ (0 : Int))) (j3 (9218868437227405312 : Int)) (
      j3 (18442240474082181120 : Int))
  ) (fun (v2 : Int) =>
    Call (Ev_math_Float64frombits v2) fun x4 =>
    Q x4)
theorem walk_math_Inf {sign1 : Int} {r : Nat} (h : W_math_Inf sign1 (fun r' => r' = r)) : Ev_math_Inf sign1 r := by
  unfold W_math_Inf at h
  refine AFn.intro' (L := [(0, .dat (.v (.int .i64 sign1)))]) tabOk Tryd.func41 rfl rfl Tryd.ntmps41 rfl rfl rfl ?_
  refine AWp.seq ?_
  refine AWp.regionN (fun _ => false) rfl ?_
  refine pF rfl rfl rfl ?_
  refine AOps.done ?_
  refine AWp.seq ?_
  refine AWp.regionN (fun _ => false) rfl ?_
  refine pI rfl rfl rfl ?_
  refine AOps.done ?_
  refine AWp.seq ?_
  refine AWp.seq ?_
  refine AWp.regionN (fun _ => false) rfl ?_
  refine pI rfl rfl rfl ?_
  refine pB rfl rfl rfl ?_
  refine AOps.done ?_
  obtain ⟨J6, hj7, hk8⟩ := h
  refine AWp.cutK (I := fun p : Int => mkSt [(3, .dat (.v (.int .u64 p)))] []) (Inv := fun p : Int => J6 p) ?_ (fun p hp => ?_)
  · have h := hj7
    refine AWp.cond rfl (fun e => ?_) (fun e => ?_)
    · replace h := h.1 e
      refine AWp.regionN (fun _ => false) rfl ?_
      refine pI rfl rfl rfl ?_
      refine AOps.done ?_
      exact ⟨(9218868437227405312 : Int), h, (Sub.list (fun i => i) rfl rfl ⟨rfl, trivial⟩ trivial)⟩
    · replace h := h.2 e
      refine AWp.regionN (fun _ => false) rfl ?_
      refine pI rfl rfl rfl ?_
      refine AOps.done ?_
      exact ⟨(18442240474082181120 : Int), h, (Sub.list (fun i => i) rfl rfl ⟨rfl, trivial⟩ trivial)⟩
  · have h := hk8 p hp
    revert h; clear hp; generalize p = v2; intro h
    refine AWp.seq ?_
    refine AWp.regionN (fun _ => false) rfl ?_
    refine pI rfl rfl rfl ?_
    obtain ⟨x4, hc5, h⟩ := h
    refine AOps.extC hc5 rfl rfl rfl (.cons rfl .nil) ?_
    refine pF rfl rfl rfl ?_
    refine AOps.done ?_
    refine AWp.ret ?_
    subst h
    exact ⟨_, rfl, rfl⟩
end Go.Sim.YtnnfiohdkobkdaaDoor
