/- What is proved: functions of the program compute what plain statements tell. -/
import Derived.Test.YtlglkgineclggaaDoorZRTWE
namespace Go.Sim.YtlglkgineclggaaDoor
open Go.RowKit Go.Proofs Go.Proofs.Tryd
set_option maxRecDepth 100000
def W_ref02_Make (lo1 : Nat) (hi2 : Nat) (Q : GIval → Prop) : Prop :=
  Call (Ev_ref02_zero lo1) fun x3 =>
  Call (Ev_ref02_zero hi2) fun x5 =>
  Call (Ev_ref02_Right (GIval.mk x3 x5)) fun x7 =>
  Br (!x7) (
    Call (Ev_ref02_Empty) fun x11 =>
    Q x11) (
    Q (GIval.mk x3 x5))
theorem walk_ref02_Make {lo1 : Nat} {hi2 : Nat} {r : GIval} (h : W_ref02_Make lo1 hi2 (fun r' => r' = r)) : Ev_ref02_Make lo1 hi2 r := by
  unfold W_ref02_Make at h
  refine AFn.intro' (L := [(0, .dat (.v (.float .f64 lo1))), (1, .dat (.v (.float .f64 hi2)))]) tabOk Tryd.func25 rfl rfl Tryd.ntmps25 rfl rfl rfl ?_
  refine AWp.seq ?_
  refine AWp.regionN (fun _ => false) rfl ?_
  refine AOps.alloc tabOk rfl rfl rfl rfl rfl ?_
  refine AOps.done ?_
  refine AWp.seq ?_
  refine AWp.regionN (fun o => writes o) rfl ?_
  refine pF rfl rfl rfl ?_
  obtain ⟨x3, hc4, h⟩ := h
  refine AOps.call hc4 rfl rfl rfl ⟨.inl rfl, trivial⟩ ?_
  refine pF rfl rfl rfl ?_
  obtain ⟨x5, hc6, h⟩ := h
  refine AOps.call hc6 rfl rfl rfl ⟨.inl rfl, trivial⟩ ?_
  refine pT rfl rfl rfl ?_
  refine AOps.alloc tabOk rfl rfl rfl rfl rfl ?_
  refine AOps.store tabOk (v := .dat (.st _ _)) rfl rfl rfl rfl rfl rfl rfl rfl rfl rfl rfl rfl rfl ?_
  refine AOps.done ?_
  refine AWp.seq ?_
  refine AWp.seq ?_
  refine AWp.regionN (fun _ => false) rfl ?_
  refine pT rfl rfl rfl ?_
  obtain ⟨x7, hc8, h⟩ := h
  refine AOps.call hc8 rfl rfl rfl ⟨.inl rfl, trivial⟩ ?_
  refine pB rfl rfl rfl ?_
  refine AOps.done ?_
  refine AWp.cond rfl (fun e => ?_) (fun e => ?_)
  · replace h := h.1 e
    refine AWp.seq ?_
    refine AWp.regionN (fun o => writes o) rfl ?_
    obtain ⟨x11, hc12, h⟩ := h
    refine AOps.call hc12 rfl rfl rfl trivial ?_
    refine AOps.store tabOk (v := .dat (.st _ _)) rfl rfl rfl rfl rfl rfl rfl rfl rfl rfl rfl rfl rfl ?_
    refine AOps.done ?_
    refine AWp.ret ?_
    subst h
    exact ⟨_, rfl, rfl⟩
  · replace h := h.2 e
    refine AWp.skip ?_
    refine AWp.seq ?_
    refine AWp.regionN (fun o => writes o) rfl ?_
    refine pT rfl rfl rfl ?_
    refine AOps.store tabOk (v := .dat (.st _ _)) rfl rfl rfl rfl rfl rfl rfl rfl rfl rfl rfl rfl rfl ?_
    refine AOps.done ?_
    refine AWp.ret ?_
    subst h
    exact ⟨_, rfl, rfl⟩
def W_ref02_Right (x1 : GIval) (Q : Bool → Prop) : Prop :=
  Join1 (fun j7 =>
    Call (Ev_ref02_inf (1 : Int)) fun x8 =>
    Br (FloatKind.f64.format.order x1.Lo x8 == some .eq) (
      Call (Ev_ref02_inf (-1 : Int)) fun x10 =>
      j7 (FloatKind.f64.format.order x1.Hi x10 == some .eq)) (
      j7 false)
  ) (fun (x6 : Bool) =>
    Br x6 (Q true) (
      Br ((FloatKind.f64.format.order x1.Lo x1.Hi == some .lt) || (FloatKind.f64.format.order x1.Lo x1.Hi == some .eq)) (
        Call (Ev_ref02_inf (1 : Int)) fun x20 =>
        Br (FloatKind.f64.format.order x1.Lo x20 != some .eq) (
          Call (Ev_ref02_inf (-1 : Int)) fun x22 =>
          Br (FloatKind.f64.format.order x1.Hi x22 != some .eq) (
            Call (Ev_ref02_minus0 x1.Lo) fun x24 =>
            Br (!x24) (
              Call (Ev_ref02_minus0 x1.Hi) fun x26 =>
              Q (!x26)) (
              Q false)) (
            Q false)) (
          Q false)) (
        Q false)))
theorem walk_ref02_Right {x1 : GIval} {r : Bool} (h : W_ref02_Right x1 (fun r' => r' = r)) : Ev_ref02_Right x1 r := by
  unfold W_ref02_Right at h
  refine AFn.intro' (L := [(0, .dat (GIval.enc x1))]) tabOk Tryd.func52 rfl rfl Tryd.ntmps52 rfl rfl rfl ?_
  refine AWp.seq ?_
  refine AWp.regionN (fun _ => false) rfl ?_
  refine AOps.box (v := .dat (.st _ _)) rfl rfl rfl rfl rfl rfl ?_
  refine pB rfl rfl rfl ?_
  refine AOps.done ?_
  refine AWp.seq ?_
  refine AWp.seq ?_
  obtain ⟨J28, hj29, hk30⟩ := h
  refine AWp.cutK (I := fun p : Bool => mkSt [(1, .pt 1 [] 0), (12, .dat (.v (.bool p)))] [(1, .box 28 2 (.dat (GIval.enc x1)))]) (Inv := fun p : Bool => J28 p) ?_ (fun p hp => ?_)
  · have h := hj29
    refine AWp.regionD (fun _ => false) mixed (by decide +kernel) rfl ?_
    refine pP rfl rfl rfl ?_
    refine pF rfl rfl rfl ?_
    obtain ⟨x8, hc9, h⟩ := h
    refine AOps.call hc9 rfl rfl rfl ⟨.inl rfl, trivial⟩ ?_
    refine pB rfl rfl rfl ?_
    refine pB rfl rfl rfl ?_
    refine AOps.splitB 7 rfl (fun e => ?_) (fun e => ?_)
    · replace h := h.1 e
      refine pP rfl rfl rfl ?_
      refine pF rfl rfl rfl ?_
      obtain ⟨x10, hc11, h⟩ := h
      refine AOps.call hc11 rfl rfl rfl ⟨.inl rfl, trivial⟩ ?_
      refine pB rfl rfl rfl ?_
      refine pB rfl rfl rfl ?_
      refine AOps.done ?_
      exact ⟨(FloatKind.f64.format.order x1.Hi x10 == some .eq), h, (Sub.list (fun i => i) rfl rfl ⟨rfl, rfl, trivial⟩ ⟨rfl, trivial⟩)⟩
    · replace h := h.2 e
      refine AOps.off rfl rfl ?_
      refine AOps.off rfl rfl ?_
      refine AOps.off rfl rfl ?_
      refine AOps.off rfl rfl ?_
      refine pB rfl rfl rfl ?_
      refine AOps.done ?_
      exact ⟨false, h, (Sub.list (fun i => i) rfl rfl ⟨rfl, rfl, trivial⟩ ⟨rfl, trivial⟩)⟩
  · have h := hk30 p hp
    revert h; clear hp; generalize p = x6; intro h
    refine AWp.cond rfl (fun e => ?_) (fun e => ?_)
    · replace h := h.1 e
      refine AWp.seq ?_
      refine AWp.regionN (fun _ => false) rfl ?_
      refine pB rfl rfl rfl ?_
      refine AOps.done ?_
      refine AWp.ret ?_
      subst h
      exact ⟨_, rfl, rfl⟩
    · replace h := h.2 e
      refine AWp.skip ?_
      refine AWp.seq ?_
      refine AWp.regionD (fun _ => false) mixed (by decide +kernel) rfl ?_
      refine pP rfl rfl rfl ?_
      refine pF rfl rfl rfl ?_
      refine pP rfl rfl rfl ?_
      refine pF rfl rfl rfl ?_
      refine pB rfl rfl rfl ?_
      refine pB rfl rfl rfl ?_
      refine AOps.splitB 18 rfl (fun e => ?_) (fun e => ?_)
      · replace h := h.1 e
        refine pP rfl rfl rfl ?_
        refine pF rfl rfl rfl ?_
        obtain ⟨x20, hc21, h⟩ := h
        refine AOps.call hc21 rfl rfl rfl ⟨.inl rfl, trivial⟩ ?_
        refine pB rfl rfl rfl ?_
        refine pB rfl rfl rfl ?_
        refine pB rfl rfl rfl ?_
        refine AOps.splitB 24 rfl (fun e => ?_) (fun e => ?_)
        · replace h := h.1 e
          refine pP rfl rfl rfl ?_
          refine pF rfl rfl rfl ?_
          obtain ⟨x22, hc23, h⟩ := h
          refine AOps.call hc23 rfl rfl rfl ⟨.inl rfl, trivial⟩ ?_
          refine pB rfl rfl rfl ?_
          refine pB rfl rfl rfl ?_
          refine pB rfl rfl rfl ?_
          refine AOps.splitB 30 rfl (fun e => ?_) (fun e => ?_)
          · replace h := h.1 e
            refine pP rfl rfl rfl ?_
            refine pF rfl rfl rfl ?_
            obtain ⟨x24, hc25, h⟩ := h
            refine AOps.call hc25 rfl rfl rfl ⟨.inl rfl, trivial⟩ ?_
            refine pB rfl rfl rfl ?_
            refine pB rfl rfl rfl ?_
            refine pB rfl rfl rfl ?_
            refine AOps.splitB 36 rfl (fun e => ?_) (fun e => ?_)
            · replace h := h.1 e
              refine pP rfl rfl rfl ?_
              refine pF rfl rfl rfl ?_
              obtain ⟨x26, hc27, h⟩ := h
              refine AOps.call hc27 rfl rfl rfl ⟨.inl rfl, trivial⟩ ?_
              refine pB rfl rfl rfl ?_
              refine pB rfl rfl rfl ?_
              refine pB rfl rfl rfl ?_
              refine AOps.done ?_
              refine AWp.ret ?_
              subst h
              exact ⟨_, rfl, rfl⟩
            · replace h := h.2 e
              refine AOps.off rfl rfl ?_
              refine AOps.off rfl rfl ?_
              refine AOps.off rfl rfl ?_
              refine AOps.off rfl rfl ?_
              refine pB rfl rfl rfl ?_
              refine pB rfl rfl rfl ?_
              refine AOps.done ?_
              refine AWp.ret ?_
              subst h
              exact ⟨_, rfl, rfl⟩
          · replace h := h.2 e
            refine AOps.off rfl rfl ?_
            refine AOps.off rfl rfl ?_
            refine AOps.off rfl rfl ?_
            refine AOps.off rfl rfl ?_
            refine pB rfl rfl rfl ?_
            refine pB rfl rfl rfl ?_
            refine AOps.off rfl rfl ?_
            refine AOps.off rfl rfl ?_
            refine AOps.off rfl rfl ?_
            refine AOps.off rfl rfl ?_
            refine pB rfl rfl rfl ?_
            refine pB rfl rfl rfl ?_
            refine AOps.done ?_
            refine AWp.ret ?_
            subst h
            exact ⟨_, rfl, rfl⟩
        · replace h := h.2 e
          refine AOps.off rfl rfl ?_
          refine AOps.off rfl rfl ?_
          refine AOps.off rfl rfl ?_
          refine AOps.off rfl rfl ?_
          refine pB rfl rfl rfl ?_
          refine pB rfl rfl rfl ?_
          refine AOps.off rfl rfl ?_
          refine AOps.off rfl rfl ?_
          refine AOps.off rfl rfl ?_
          refine AOps.off rfl rfl ?_
          refine pB rfl rfl rfl ?_
          refine pB rfl rfl rfl ?_
          refine AOps.off rfl rfl ?_
          refine AOps.off rfl rfl ?_
          refine AOps.off rfl rfl ?_
          refine AOps.off rfl rfl ?_
          refine pB rfl rfl rfl ?_
          refine pB rfl rfl rfl ?_
          refine AOps.done ?_
          refine AWp.ret ?_
          subst h
          exact ⟨_, rfl, rfl⟩
      · replace h := h.2 e
        refine AOps.off rfl rfl ?_
        refine AOps.off rfl rfl ?_
        refine AOps.off rfl rfl ?_
        refine AOps.off rfl rfl ?_
        refine pB rfl rfl rfl ?_
        refine pB rfl rfl rfl ?_
        refine AOps.off rfl rfl ?_
        refine AOps.off rfl rfl ?_
        refine AOps.off rfl rfl ?_
        refine AOps.off rfl rfl ?_
        refine pB rfl rfl rfl ?_
        refine pB rfl rfl rfl ?_
        refine AOps.off rfl rfl ?_
        refine AOps.off rfl rfl ?_
        refine AOps.off rfl rfl ?_
        refine AOps.off rfl rfl ?_
        refine pB rfl rfl rfl ?_
        refine pB rfl rfl rfl ?_
        refine AOps.off rfl rfl ?_
        refine AOps.off rfl rfl ?_
        refine AOps.off rfl rfl ?_
        refine AOps.off rfl rfl ?_
        refine pB rfl rfl rfl ?_
        refine pB rfl rfl rfl ?_
        refine AOps.done ?_
        refine AWp.ret ?_
        subst h
        exact ⟨_, rfl, rfl⟩
def W_ref01_Same (a1 : Nat) (b2 : Nat) (Q : Bool → Prop) : Prop :=
  Join1 (fun j8 =>
    Call (Ev_ref01_IsNum a1) fun x9 =>
    Br (!x9) (j8 true) (
      Call (Ev_ref01_IsNum b2) fun x11 =>
      j8 (!x11))
  ) (fun (x7 : Bool) =>
    Br x7 (
      Call (Ev_ref01_IsNum a1) fun x25 =>
      Br (!x25) (
        Call (Ev_ref01_IsNum b2) fun x27 =>
        Q (!x27)) (
        Q false)) (
      Call (Ev_math_Float64bits a1) fun x29 =>
      Call (Ev_math_Float64bits b2) fun x31 =>
      Q (x29 == x31)))
theorem walk_ref01_Same {a1 : Nat} {b2 : Nat} {r : Bool} (h : W_ref01_Same a1 b2 (fun r' => r' = r)) : Ev_ref01_Same a1 b2 r := by
  unfold W_ref01_Same at h
  refine AFn.intro' (L := [(0, .dat (.v (.float .f64 a1))), (1, .dat (.v (.float .f64 b2)))]) tabOk Tryd.func16 rfl rfl Tryd.ntmps16 rfl rfl rfl ?_
  refine AWp.seq ?_
  refine AWp.regionN (fun _ => false) rfl ?_
  refine pB rfl rfl rfl ?_
  refine AOps.done ?_
  refine AWp.seq ?_
  refine AWp.seq ?_
  obtain ⟨J33, hj34, hk35⟩ := h
  refine AWp.cutK (I := fun p : Bool => mkSt [(0, .dat (.v (.float .f64 a1))), (1, .dat (.v (.float .f64 b2))), (12, .dat (.v (.bool p)))] []) (Inv := fun p : Bool => J33 p) ?_ (fun p hp => ?_)
  · have h := hj34
    refine AWp.regionN (fun _ => false) rfl ?_
    refine pF rfl rfl rfl ?_
    obtain ⟨x9, hc10, h⟩ := h
    refine AOps.call hc10 rfl rfl rfl ⟨.inl rfl, trivial⟩ ?_
    refine pB rfl rfl rfl ?_
    refine pB rfl rfl rfl ?_
    refine AOps.splitB 8 rfl (fun e => ?_) (fun e => ?_)
    · replace h := h.1 e
      refine AOps.off rfl rfl ?_
      refine AOps.off rfl rfl ?_
      refine AOps.off rfl rfl ?_
      refine pB rfl rfl rfl ?_
      refine AOps.done ?_
      exact ⟨true, h, (Sub.list (fun i => i) rfl rfl ⟨rfl, rfl, rfl, trivial⟩ trivial)⟩
    · replace h := h.2 e
      refine pF rfl rfl rfl ?_
      obtain ⟨x11, hc12, h⟩ := h
      refine AOps.call hc12 rfl rfl rfl ⟨.inl rfl, trivial⟩ ?_
      refine pB rfl rfl rfl ?_
      refine pB rfl rfl rfl ?_
      refine AOps.done ?_
      exact ⟨(!x11), h, (Sub.list (fun i => i) rfl rfl ⟨rfl, rfl, rfl, trivial⟩ trivial)⟩
  · have h := hk35 p hp
    revert h; clear hp; generalize p = x7; intro h
    refine AWp.cond rfl (fun e => ?_) (fun e => ?_)
    · replace h := h.1 e
      refine AWp.seq ?_
      refine AWp.regionN (fun _ => false) rfl ?_
      refine pF rfl rfl rfl ?_
      obtain ⟨x25, hc26, h⟩ := h
      refine AOps.call hc26 rfl rfl rfl ⟨.inl rfl, trivial⟩ ?_
      refine pB rfl rfl rfl ?_
      refine pB rfl rfl rfl ?_
      refine AOps.splitB 16 rfl (fun e => ?_) (fun e => ?_)
      · replace h := h.1 e
        refine pF rfl rfl rfl ?_
        obtain ⟨x27, hc28, h⟩ := h
        refine AOps.call hc28 rfl rfl rfl ⟨.inl rfl, trivial⟩ ?_
        refine pB rfl rfl rfl ?_
        refine pB rfl rfl rfl ?_
        refine pB rfl rfl rfl ?_
        refine AOps.done ?_
        refine AWp.ret ?_
        subst h
        exact ⟨_, rfl, rfl⟩
      · replace h := h.2 e
        refine AOps.off rfl rfl ?_
        refine AOps.off rfl rfl ?_
        refine AOps.off rfl rfl ?_
        refine pB rfl rfl rfl ?_
        refine pB rfl rfl rfl ?_
        refine AOps.done ?_
        refine AWp.ret ?_
        subst h
        exact ⟨_, rfl, rfl⟩
    · replace h := h.2 e
      refine AWp.skip ?_
      refine AWp.seq ?_
      refine AWp.regionN (fun _ => false) rfl ?_
      refine pF rfl rfl rfl ?_
      obtain ⟨x29, hc30, h⟩ := h
      refine AOps.extC hc30 rfl rfl rfl (.cons rfl .nil) ?_
      refine pF rfl rfl rfl ?_
      obtain ⟨x31, hc32, h⟩ := h
      refine AOps.extC hc32 rfl rfl rfl (.cons rfl .nil) ?_
      refine pB rfl rfl rfl ?_
      refine pB rfl rfl rfl ?_
      refine AOps.done ?_
      refine AWp.ret ?_
      subst h
      exact ⟨_, rfl, rfl⟩
def W_ref02_inf (sign1 : Int) (Q : Nat → Prop) : Prop :=
  Call (Ev_math_Inf sign1) fun x2 =>
  Q x2
theorem walk_ref02_inf {sign1 : Int} {r : Nat} (h : W_ref02_inf sign1 (fun r' => r' = r)) : Ev_ref02_inf sign1 r := by
  unfold W_ref02_inf at h
  refine AFn.intro' (L := [(0, .dat (.v (.int .i64 sign1)))]) tabOk Tryd.func50 rfl rfl Tryd.ntmps50 rfl rfl rfl ?_
  refine AWp.seq ?_
  refine AWp.regionN (fun _ => false) rfl ?_
  refine pF rfl rfl rfl ?_
  refine AOps.done ?_
  refine AWp.seq ?_
  refine AWp.regionN (fun _ => false) rfl ?_
  refine pI rfl rfl rfl ?_
  obtain ⟨x2, hc3, h⟩ := h
  refine AOps.call hc3 rfl rfl rfl ⟨.inl rfl, trivial⟩ ?_
  refine pF rfl rfl rfl ?_
  refine AOps.done ?_
  refine AWp.ret ?_
  subst h
  exact ⟨_, rfl, rfl⟩
def W_ref02_zero (v1 : Nat) (Q : Nat → Prop) : Prop :=
  Br (FloatKind.f64.format.order v1 (0 : Nat) == some .eq) (Q (0 : Nat)) (
    Q v1)
theorem walk_ref02_zero {v1 : Nat} {r : Nat} (h : W_ref02_zero v1 (fun r' => r' = r)) : Ev_ref02_zero v1 r := by
  unfold W_ref02_zero at h
  refine AFn.intro' (L := [(0, .dat (.v (.float .f64 v1)))]) tabOk Tryd.func51 rfl rfl Tryd.ntmps51 rfl rfl rfl ?_
  refine AWp.seq ?_
  refine AWp.regionN (fun _ => false) rfl ?_
  refine pF rfl rfl rfl ?_
  refine AOps.done ?_
  refine AWp.seq ?_
  refine AWp.seq ?_
  refine AWp.regionN (fun _ => false) rfl ?_
  refine pF rfl rfl rfl ?_
  refine pB rfl rfl rfl ?_
  refine AOps.done ?_
  refine AWp.cond rfl (fun e => ?_) (fun e => ?_)
  · replace h := h.1 e
    refine AWp.seq ?_
    refine AWp.regionN (fun _ => false) rfl ?_
    refine pF rfl rfl rfl ?_
    refine AOps.done ?_
    refine AWp.ret ?_
    subst h
    exact ⟨_, rfl, rfl⟩
  · replace h := h.2 e
    refine AWp.skip ?_
    refine AWp.seq ?_
    refine AWp.regionN (fun _ => false) rfl ?_
    refine pF rfl rfl rfl ?_
    refine pF rfl rfl rfl ?_
    refine AOps.done ?_
    refine AWp.ret ?_
    subst h
    exact ⟨_, rfl, rfl⟩
def W_ref02_Empty (Q : GIval → Prop) : Prop :=
  Call (Ev_ref02_inf (1 : Int)) fun x1 =>
  Call (Ev_ref02_inf (-1 : Int)) fun x3 =>
  Q (GIval.mk x1 x3)
theorem walk_ref02_Empty {r : GIval} (h : W_ref02_Empty (fun r' => r' = r)) : Ev_ref02_Empty r := by
  unfold W_ref02_Empty at h
  refine AFn.intro' (L := []) tabOk Tryd.func23 rfl rfl Tryd.ntmps23 rfl rfl rfl ?_
  refine AWp.seq ?_
  refine AWp.regionN (fun _ => false) rfl ?_
  refine AOps.alloc tabOk rfl rfl rfl rfl rfl ?_
  refine AOps.done ?_
  refine AWp.seq ?_
  refine AWp.regionN (fun o => writes o) rfl ?_
  obtain ⟨x1, hc2, h⟩ := h
  refine AOps.call hc2 rfl rfl rfl ⟨.inl rfl, trivial⟩ ?_
  obtain ⟨x3, hc4, h⟩ := h
  refine AOps.call hc4 rfl rfl rfl ⟨.inl rfl, trivial⟩ ?_
  refine pT rfl rfl rfl ?_
  refine AOps.store tabOk (v := .dat (.st _ _)) rfl rfl rfl rfl rfl rfl rfl rfl rfl rfl rfl rfl rfl ?_
  refine AOps.done ?_
  refine AWp.ret ?_
  subst h
  exact ⟨_, rfl, rfl⟩
def W_ref01_IsNum (x1 : Nat) (Q : Bool → Prop) : Prop :=
  Br ((FloatKind.f64.format.order x1 (0 : Nat) == some .lt) || (FloatKind.f64.format.order x1 (0 : Nat) == some .eq)) (Q true) (
    Q (FloatKind.f64.format.order x1 (0 : Nat) == some .gt))
theorem walk_ref01_IsNum {x1 : Nat} {r : Bool} (h : W_ref01_IsNum x1 (fun r' => r' = r)) : Ev_ref01_IsNum x1 r := by
  unfold W_ref01_IsNum at h
  refine AFn.intro' (L := [(0, .dat (.v (.float .f64 x1)))]) tabOk Tryd.func44 rfl rfl Tryd.ntmps44 rfl rfl rfl ?_
  refine AWp.seq ?_
  refine AWp.regionN (fun _ => false) rfl ?_
  refine pB rfl rfl rfl ?_
  refine AOps.done ?_
  refine AWp.seq ?_
  refine AWp.regionN (fun _ => false) rfl ?_
  refine pF rfl rfl rfl ?_
  refine pB rfl rfl rfl ?_
  refine pB rfl rfl rfl ?_
  refine AOps.splitB 5 rfl (fun e => ?_) (fun e => ?_)
  · replace h := h.1 e
    refine AOps.off rfl rfl ?_
    refine AOps.off rfl rfl ?_
    refine pB rfl rfl rfl ?_
    refine pB rfl rfl rfl ?_
    refine AOps.done ?_
    refine AWp.ret ?_
    subst h
    exact ⟨_, rfl, rfl⟩
  · replace h := h.2 e
    refine pF rfl rfl rfl ?_
    refine pB rfl rfl rfl ?_
    refine pB rfl rfl rfl ?_
    refine pB rfl rfl rfl ?_
    refine AOps.done ?_
    refine AWp.ret ?_
    subst h
    exact ⟨_, rfl, rfl⟩
def W_ref01_Float (x1 : Nat) (Q : Gref01Num → Prop) : Prop :=
  Call (Ev_ref01_Split x1) fun x2 =>
  Call (Ev_ref01_Of x2.1.M) fun x4 =>
  Q (Gref01Num.mk x2.1.Neg x4 x2.1.E)
theorem walk_ref01_Float {x1 : Nat} {r : Gref01Num} (h : W_ref01_Float x1 (fun r' => r' = r)) : Ev_ref01_Float x1 r := by
  unfold W_ref01_Float at h
  refine AFn.intro' (L := [(0, .dat (.v (.float .f64 x1)))]) tabOk Tryd.func55 rfl rfl Tryd.ntmps55 rfl rfl rfl ?_
  refine AWp.seq ?_
  refine AWp.regionN (fun _ => false) rfl ?_
  refine AOps.alloc tabOk rfl rfl rfl rfl rfl ?_
  refine AOps.done ?_
  refine AWp.seq ?_
  refine AWp.regionN (fun o => writes o) rfl ?_
  refine pF rfl rfl rfl ?_
  obtain ⟨x2, hc3, h⟩ := h
  refine AOps.call hc3 rfl rfl rfl ⟨.inl rfl, trivial⟩ ?_
  refine pU rfl rfl rfl ?_
  refine pT rfl rfl rfl ?_
  refine pB rfl rfl rfl ?_
  refine AOps.alloc tabOk rfl rfl rfl rfl rfl ?_
  refine AOps.store tabOk (v := .dat (.st _ _)) rfl rfl rfl rfl rfl rfl rfl rfl rfl rfl rfl rfl rfl ?_
  refine pB rfl rfl rfl ?_
  refine AOps.done ?_
  refine AWp.seq ?_
  refine AWp.regionD (fun o => writes o) mixed (by decide +kernel) rfl ?_
  refine pP rfl rfl rfl ?_
  refine pB rfl rfl rfl ?_
  refine pP rfl rfl rfl ?_
  refine pI rfl rfl rfl ?_
  obtain ⟨x4, hc5, h⟩ := h
  refine AOps.call hc5 rfl rfl rfl ⟨.inl rfl, trivial⟩ ?_
  refine pP rfl rfl rfl ?_
  refine pI rfl rfl rfl ?_
  refine pT rfl rfl rfl ?_
  refine AOps.store tabOk (v := .dat (.st _ _)) rfl rfl rfl rfl rfl rfl rfl rfl rfl rfl rfl rfl rfl ?_
  refine AOps.done ?_
  refine AWp.ret ?_
  subst h
  exact ⟨_, rfl, rfl⟩
def W_ref02_minus0 (v1 : Nat) (Q : Bool → Prop) : Prop :=
  Br (FloatKind.f64.format.order v1 (0 : Nat) == some .eq) (
    Call (Ev_math_Float64bits v1) fun x4 =>
    Q (x4 != (0 : Int))) (
    Q false)
theorem walk_ref02_minus0 {v1 : Nat} {r : Bool} (h : W_ref02_minus0 v1 (fun r' => r' = r)) : Ev_ref02_minus0 v1 r := by
  unfold W_ref02_minus0 at h
  refine AFn.intro' (L := [(0, .dat (.v (.float .f64 v1)))]) tabOk Tryd.func86 rfl rfl Tryd.ntmps86 rfl rfl rfl ?_
  refine AWp.seq ?_
  refine AWp.regionN (fun _ => false) rfl ?_
  refine pB rfl rfl rfl ?_
  refine AOps.done ?_
  refine AWp.seq ?_
  refine AWp.regionN (fun _ => false) rfl ?_
  refine pF rfl rfl rfl ?_
  refine pB rfl rfl rfl ?_
  refine pB rfl rfl rfl ?_
  refine AOps.splitB 5 rfl (fun e => ?_) (fun e => ?_)
  · replace h := h.1 e
    refine pF rfl rfl rfl ?_
    obtain ⟨x4, hc5, h⟩ := h
    refine AOps.extC hc5 rfl rfl rfl (.cons rfl .nil) ?_
    refine pB rfl rfl rfl ?_
    refine pB rfl rfl rfl ?_
    refine pB rfl rfl rfl ?_
    refine AOps.done ?_
    refine AWp.ret ?_
    subst h
    exact ⟨_, rfl, rfl⟩
  · replace h := h.2 e
    refine AOps.off rfl rfl ?_
    refine AOps.off rfl rfl ?_
    refine AOps.off rfl rfl ?_
    refine pB rfl rfl rfl ?_
    refine pB rfl rfl rfl ?_
    refine AOps.done ?_
    refine AWp.ret ?_
    subst h
    exact ⟨_, rfl, rfl⟩
def W_ref01_Split (x1 : Nat) (Q : GParts × Bool → Prop) : Prop :=
  Call (Ev_ref01_Index x1) fun x2 =>
  Join1 (fun j6 =>
    Br (decide (x2 < (0 : Int))) (
      Let (IntKind.i64.wrap ((0 : Int) - x2)) fun x7 =>
      j6 x7) (
      j6 x2)
  ) (fun (i5 : Int) =>
    Br (decide (i5 > (9218868437227405311 : Int))) (Q (GParts.zero, false)) (
      Br (i5 == (0 : Int)) (Q (GParts.zero, true)) (
        Let (IntKind.u64.wrap i5) fun x8 =>
        Let (Int.tmod x8 (4503599627370496 : Int)) fun x9 =>
        Let (IntKind.u64.wrap i5) fun x10 =>
        Let (IntKind.u64.wrap (Int.tdiv x10 (4503599627370496 : Int))) fun x11 =>
        Let (IntKind.i64.wrap x11) fun x12 =>
        Br (x12 == (0 : Int)) (Q ((GParts.mk (decide (x2 < (0 : Int))) x9 (-1074 : Int)), true)) (
          Let (IntKind.u64.wrap (x9 + (4503599627370496 : Int))) fun x13 =>
          Let (IntKind.i64.wrap (x12 - (1075 : Int))) fun x14 =>
          Q ((GParts.mk (decide (x2 < (0 : Int))) x13 x14), true)))))
theorem walk_ref01_Split {x1 : Nat} {r : GParts × Bool} (h : W_ref01_Split x1 (fun r' => r' = r)) : Ev_ref01_Split x1 r := by
  unfold W_ref01_Split at h
  refine AFn.intro' (L := [(0, .dat (.v (.float .f64 x1)))]) tabOk Tryd.func90 rfl rfl Tryd.ntmps90 rfl rfl rfl ?_
  refine AWp.seq ?_
  refine AWp.regionN (fun _ => false) rfl ?_
  refine AOps.alloc tabOk rfl rfl rfl rfl rfl ?_
  refine pB rfl rfl rfl ?_
  refine AOps.done ?_
  refine AWp.seq ?_
  refine AWp.regionN (fun _ => false) rfl ?_
  refine pF rfl rfl rfl ?_
  obtain ⟨x2, hc3, h⟩ := h
  refine AOps.call hc3 rfl rfl rfl ⟨.inl rfl, trivial⟩ ?_
  refine pI rfl rfl rfl ?_
  refine AOps.done ?_
  refine AWp.seq ?_
  refine AWp.regionN (fun _ => false) rfl ?_
  refine pI rfl rfl rfl ?_
  refine pB rfl rfl rfl ?_
  refine pB rfl rfl rfl ?_
  refine AOps.done ?_
  refine AWp.seq ?_
  refine AWp.seq ?_
  refine AWp.regionN (fun _ => false) rfl ?_
  refine pB rfl rfl rfl ?_
  refine AOps.done ?_
  obtain ⟨J15, hj16, hk17⟩ := h
  refine AWp.cutK (I := fun p : Int => mkSt [(2, .pt 2 [] 0), (4, .dat (.v (.int .i64 p))), (5, .dat (.v (.bool (decide (x2 < (0 : Int))))))] [(2, .box 46 3 (.dat (GParts.enc GParts.zero)))]) (Inv := fun p : Int => J15 p) ?_ (fun p hp => ?_)
  · have h := hj16
    refine AWp.cond rfl (fun e => ?_) (fun e => ?_)
    · replace h := h.1 e
      refine AWp.regionN (fun _ => false) rfl ?_
      refine pI rfl rfl rfl ?_
      obtain ⟨x7, ex7, h⟩ := h.get
      refine AOps.i tabOk rfl rfl rfl ex7 ?_
      refine pI rfl rfl rfl ?_
      refine AOps.done ?_
      exact ⟨x7, h, (Sub.list (fun i => i) rfl rfl ⟨rfl, rfl, rfl, trivial⟩ ⟨rfl, trivial⟩)⟩
    · replace h := h.2 e
      refine AWp.skip ?_
      exact ⟨x2, h, (Sub.list (fun i => i) rfl rfl ⟨rfl, rfl, rfl, trivial⟩ ⟨rfl, trivial⟩)⟩
  · have h := hk17 p hp
    revert h; clear hp; generalize p = i5; intro h
    refine AWp.seq ?_
    refine AWp.seq ?_
    refine AWp.regionN (fun _ => false) rfl ?_
    refine pI rfl rfl rfl ?_
    refine pB rfl rfl rfl ?_
    refine AOps.done ?_
    refine AWp.cond rfl (fun e => ?_) (fun e => ?_)
    · replace h := h.1 e
      refine AWp.seq ?_
      refine AWp.regionN (fun o => writes o) rfl ?_
      refine pT rfl rfl rfl ?_
      refine AOps.store tabOk (v := .dat (.st _ _)) rfl rfl rfl rfl rfl rfl rfl rfl rfl rfl rfl rfl rfl ?_
      refine pB rfl rfl rfl ?_
      refine AOps.done ?_
      refine AWp.ret ?_
      subst h
      exact ⟨_, rfl, rfl⟩
    · replace h := h.2 e
      refine AWp.skip ?_
      refine AWp.seq ?_
      refine AWp.seq ?_
      refine AWp.regionN (fun _ => false) rfl ?_
      refine pI rfl rfl rfl ?_
      refine pB rfl rfl rfl ?_
      refine AOps.done ?_
      refine AWp.cond rfl (fun e => ?_) (fun e => ?_)
      · replace h := h.1 e
        refine AWp.seq ?_
        refine AWp.regionN (fun o => writes o) rfl ?_
        refine pT rfl rfl rfl ?_
        refine AOps.store tabOk (v := .dat (.st _ _)) rfl rfl rfl rfl rfl rfl rfl rfl rfl rfl rfl rfl rfl ?_
        refine pB rfl rfl rfl ?_
        refine AOps.done ?_
        refine AWp.ret ?_
        subst h
        exact ⟨_, rfl, rfl⟩
      · replace h := h.2 e
        refine AWp.skip ?_
        refine AWp.seq ?_
        refine AWp.regionN (fun _ => false) rfl ?_
        refine pI rfl rfl rfl ?_
        obtain ⟨x8, ex8, h⟩ := h.get
        refine AOps.i tabOk rfl rfl rfl ex8 ?_
        obtain ⟨x9, ex9, h⟩ := h.get
        refine AOps.q rfl rfl rfl rfl rfl (rbin_rem (by decide)) ex9 ?_
        refine pI rfl rfl rfl ?_
        refine AOps.done ?_
        refine AWp.seq ?_
        refine AWp.regionN (fun _ => false) rfl ?_
        refine pI rfl rfl rfl ?_
        obtain ⟨x10, ex10, h⟩ := h.get
        refine AOps.i tabOk rfl rfl rfl ex10 ?_
        obtain ⟨x11, ex11, h⟩ := h.get
        refine AOps.q rfl rfl rfl rfl rfl (rbin_quo (by decide)) ex11 ?_
        obtain ⟨x12, ex12, h⟩ := h.get
        refine AOps.i tabOk rfl rfl rfl ex12 ?_
        refine pI rfl rfl rfl ?_
        refine AOps.done ?_
        refine AWp.seq ?_
        refine AWp.seq ?_
        refine AWp.regionN (fun _ => false) rfl ?_
        refine pI rfl rfl rfl ?_
        refine pB rfl rfl rfl ?_
        refine AOps.done ?_
        refine AWp.cond rfl (fun e => ?_) (fun e => ?_)
        · replace h := h.1 e
          refine AWp.seq ?_
          refine AWp.regionN (fun o => writes o) rfl ?_
          refine pB rfl rfl rfl ?_
          refine pI rfl rfl rfl ?_
          refine pT rfl rfl rfl ?_
          refine AOps.store tabOk (v := .dat (.st _ _)) rfl rfl rfl rfl rfl rfl rfl rfl rfl rfl rfl rfl rfl ?_
          refine pB rfl rfl rfl ?_
          refine AOps.done ?_
          refine AWp.ret ?_
          subst h
          exact ⟨_, rfl, rfl⟩
        · replace h := h.2 e
          refine AWp.skip ?_
          refine AWp.seq ?_
          refine AWp.regionN (fun o => writes o) rfl ?_
          refine pB rfl rfl rfl ?_
          refine pI rfl rfl rfl ?_
          obtain ⟨x13, ex13, h⟩ := h.get
          refine AOps.i tabOk rfl rfl rfl ex13 ?_
          refine pI rfl rfl rfl ?_
          obtain ⟨x14, ex14, h⟩ := h.get
          refine AOps.i tabOk rfl rfl rfl ex14 ?_
          refine pT rfl rfl rfl ?_
          refine AOps.store tabOk (v := .dat (.st _ _)) rfl rfl rfl rfl rfl rfl rfl rfl rfl rfl rfl rfl rfl ?_
          refine pB rfl rfl rfl ?_
          refine AOps.done ?_
          refine AWp.ret ?_
          subst h
          exact ⟨_, rfl, rfl⟩
def W_ref01_Rounded (x1 : Gref01Exact) (dir2 : Int) (Q : Nat → Prop) : Prop :=
  Call (Ev_ref01_Down x1) fun x3 =>
  Join1 (fun j12 =>
    Br (decide (x3 ≥ (-9218868437227405311 : Int))) (
      Call (Ev_ref01_At x3) fun x13 =>
      Call (Ev_ref01_Float x13) fun x15 =>
      Call (Ev_ref01_same x15 x1) fun x17 =>
      Br x17 (j12 true) (
        j12 (decide (dir2 < (0 : Int))))) (
      j12 (decide (dir2 < (0 : Int))))
  ) (fun (x11 : Bool) =>
    Br x11 (
      Call (Ev_ref01_At x3) fun x21 =>
      Q x21) (
      Br (decide (dir2 > (0 : Int))) (
        Let (IntKind.i64.wrap (x3 + (1 : Int))) fun x26 =>
        Call (Ev_ref01_At x26) fun x27 =>
        Q x27) (
        Call (Ev_ref01_grid x3) fun x29 =>
        Let (IntKind.i64.wrap (x3 + (1 : Int))) fun x31 =>
        Call (Ev_ref01_grid x31) fun x32 =>
        Call (Ev_ref01_Sum x29 x32) fun x34 =>
        Let (IntKind.i64.wrap (x34.E - (1 : Int))) fun x36 =>
        Call (Ev_ref01_same (Gref01Num.mk x34.Neg x34.M x36) x1) fun x37 =>
        Br x37 (
          Let (Int.tmod x3 (2 : Int)) fun x47 =>
          Br (x47 == (0 : Int)) (
            Call (Ev_ref01_At x3) fun x50 =>
            Q x50) (
            Let (IntKind.i64.wrap (x3 + (1 : Int))) fun x52 =>
            Call (Ev_ref01_At x52) fun x53 =>
            Q x53)) (
          Call (Ev_ref01_below (Gref01Num.mk x34.Neg x34.M x36) x1) fun x55 =>
          Br x55 (
            Let (IntKind.i64.wrap (x3 + (1 : Int))) fun x60 =>
            Call (Ev_ref01_At x60) fun x61 =>
            Q x61) (
            Call (Ev_ref01_At x3) fun x63 =>
            Q x63)))))
theorem walk_ref01_Rounded {x1 : Gref01Exact} {dir2 : Int} {r : Nat} (h : W_ref01_Rounded x1 dir2 (fun r' => r' = r)) : Ev_ref01_Rounded x1 dir2 r := by
  unfold W_ref01_Rounded at h
  refine AFn.intro' (L := [(0, .dat (Gref01Exact.enc x1)), (1, .dat (.v (.int .i64 dir2)))]) tabOk Tryd.func26 rfl rfl Tryd.ntmps26 rfl rfl rfl ?_
  refine AWp.seq ?_
  refine AWp.regionN (fun _ => false) rfl ?_
  refine AOps.box (v := .dat (.st _ _)) rfl rfl rfl rfl rfl rfl ?_
  refine pF rfl rfl rfl ?_
  refine AOps.done ?_
  refine AWp.seq ?_
  refine AWp.regionN (fun _ => false) rfl ?_
  refine pT rfl rfl rfl ?_
  obtain ⟨x3, hc4, h⟩ := h
  refine AOps.call hc4 rfl rfl rfl ⟨.inl rfl, trivial⟩ ?_
  refine pI rfl rfl rfl ?_
  refine AOps.done ?_
  refine AWp.seq ?_
  refine AWp.seq ?_
  obtain ⟨J65, hj66, hk67⟩ := h
  refine AWp.cutK (I := fun p : Bool => mkSt [(1, .dat (.v (.int .i64 dir2))), (2, .pt 2 [] 0), (5, .dat (.v (.int .i64 x3))), (22, .dat (.v (.bool p)))] [(2, .box 55 7 (.dat (Gref01Exact.enc x1)))]) (Inv := fun p : Bool => J65 p) ?_ (fun p hp => ?_)
  · have h := hj66
    refine AWp.regionD (fun _ => false) mixed (by decide +kernel) rfl ?_
    refine pI rfl rfl rfl ?_
    refine pB rfl rfl rfl ?_
    refine pB rfl rfl rfl ?_
    refine AOps.splitB 12 rfl (fun e => ?_) (fun e => ?_)
    · replace h := h.1 e
      refine pI rfl rfl rfl ?_
      obtain ⟨x13, hc14, h⟩ := h
      refine AOps.call hc14 rfl rfl rfl ⟨.inl rfl, trivial⟩ ?_
      obtain ⟨x15, hc16, h⟩ := h
      refine AOps.call hc16 rfl rfl rfl ⟨.inl rfl, trivial⟩ ?_
      refine pT rfl rfl rfl ?_
      obtain ⟨x17, hc18, h⟩ := h
      refine AOps.call hc18 rfl rfl rfl ⟨.inl rfl, .inl rfl, trivial⟩ ?_
      refine pB rfl rfl rfl ?_
      refine pB rfl rfl rfl ?_
      refine AOps.splitB 19 rfl (fun e => ?_) (fun e => ?_)
      · replace h := h.1 e
        refine AOps.off rfl rfl ?_
        refine AOps.off rfl rfl ?_
        refine pB rfl rfl rfl ?_
        refine AOps.done ?_
        exact ⟨true, h, (Sub.list (fun i => i) rfl rfl ⟨rfl, rfl, rfl, rfl, trivial⟩ ⟨rfl, trivial⟩)⟩
      · replace h := h.2 e
        refine pI rfl rfl rfl ?_
        refine pB rfl rfl rfl ?_
        refine pB rfl rfl rfl ?_
        refine AOps.done ?_
        exact ⟨(decide (dir2 < (0 : Int))), h, (Sub.list (fun i => i) rfl rfl ⟨rfl, rfl, rfl, rfl, trivial⟩ ⟨rfl, trivial⟩)⟩
    · replace h := h.2 e
      refine AOps.off rfl rfl ?_
      refine AOps.off rfl rfl ?_
      refine AOps.off rfl rfl ?_
      refine AOps.off rfl rfl ?_
      refine AOps.off rfl rfl ?_
      refine pB rfl rfl rfl ?_
      refine pB rfl rfl rfl ?_
      refine pI rfl rfl rfl ?_
      refine pB rfl rfl rfl ?_
      refine pB rfl rfl rfl ?_
      refine AOps.done ?_
      exact ⟨(decide (dir2 < (0 : Int))), h, (Sub.list (fun i => i) rfl rfl ⟨rfl, rfl, rfl, rfl, trivial⟩ ⟨rfl, trivial⟩)⟩
  · have h := hk67 p hp
    revert h; clear hp; generalize p = x11; intro h
    refine AWp.cond rfl (fun e => ?_) (fun e => ?_)
    · replace h := h.1 e
      refine AWp.seq ?_
      refine AWp.regionN (fun _ => false) rfl ?_
      refine pI rfl rfl rfl ?_
      obtain ⟨x21, hc22, h⟩ := h
      refine AOps.call hc22 rfl rfl rfl ⟨.inl rfl, trivial⟩ ?_
      refine pF rfl rfl rfl ?_
      refine AOps.done ?_
      refine AWp.ret ?_
      subst h
      exact ⟨_, rfl, rfl⟩
    · replace h := h.2 e
      refine AWp.skip ?_
      refine AWp.seq ?_
      refine AWp.seq ?_
      refine AWp.regionN (fun _ => false) rfl ?_
      refine pI rfl rfl rfl ?_
      refine pB rfl rfl rfl ?_
      refine AOps.done ?_
      refine AWp.cond rfl (fun e => ?_) (fun e => ?_)
      · replace h := h.1 e
        refine AWp.seq ?_
        refine AWp.regionN (fun _ => false) rfl ?_
        refine pI rfl rfl rfl ?_
        obtain ⟨x26, ex26, h⟩ := h.get
        refine AOps.i tabOk rfl rfl rfl ex26 ?_
        obtain ⟨x27, hc28, h⟩ := h
        refine AOps.call hc28 rfl rfl rfl ⟨.inl rfl, trivial⟩ ?_
        refine pF rfl rfl rfl ?_
        refine AOps.done ?_
        refine AWp.ret ?_
        subst h
        exact ⟨_, rfl, rfl⟩
      · replace h := h.2 e
        refine AWp.skip ?_
        refine AWp.seq ?_
        refine AWp.regionN (fun o => writes o) rfl ?_
        refine pI rfl rfl rfl ?_
        obtain ⟨x29, hc30, h⟩ := h
        refine AOps.call hc30 rfl rfl rfl ⟨.inl rfl, trivial⟩ ?_
        refine pI rfl rfl rfl ?_
        obtain ⟨x31, ex31, h⟩ := h.get
        refine AOps.i tabOk rfl rfl rfl ex31 ?_
        obtain ⟨x32, hc33, h⟩ := h
        refine AOps.call hc33 rfl rfl rfl ⟨.inl rfl, trivial⟩ ?_
        obtain ⟨x34, hc35, h⟩ := h
        refine AOps.call hc35 rfl rfl rfl ⟨.inl rfl, .inl rfl, trivial⟩ ?_
        refine AOps.alloc tabOk rfl rfl rfl rfl rfl ?_
        refine AOps.store tabOk (v := .dat (.st _ _)) rfl rfl rfl rfl rfl rfl rfl rfl rfl rfl rfl rfl rfl ?_
        refine AOps.done ?_
        refine AWp.seq ?_
        refine AWp.regionN (fun o => writes o) rfl ?_
        refine pP rfl rfl rfl ?_
        refine pB rfl rfl rfl ?_
        refine pP rfl rfl rfl ?_
        refine pS rfl rfl rfl ?_
        refine pP rfl rfl rfl ?_
        refine pI rfl rfl rfl ?_
        obtain ⟨x36, ex36, h⟩ := h.get
        refine AOps.i tabOk rfl rfl rfl ex36 ?_
        refine pT rfl rfl rfl ?_
        refine AOps.alloc tabOk rfl rfl rfl rfl rfl ?_
        refine AOps.store tabOk (v := .dat (.st _ _)) rfl rfl rfl rfl rfl rfl rfl rfl rfl rfl rfl rfl rfl ?_
        refine AOps.done ?_
        refine AWp.seq ?_
        refine AWp.seq ?_
        refine AWp.regionN (fun _ => false) rfl ?_
        refine pT rfl rfl rfl ?_
        refine pT rfl rfl rfl ?_
        obtain ⟨x37, hc38, h⟩ := h
        refine AOps.call hc38 rfl rfl rfl ⟨.inl rfl, .inl rfl, trivial⟩ ?_
        refine AOps.done ?_
        refine AWp.cond rfl (fun e => ?_) (fun e => ?_)
        · replace h := h.1 e
          refine AWp.seq ?_
          refine AWp.seq ?_
          refine AWp.regionN (fun _ => false) rfl ?_
          refine pI rfl rfl rfl ?_
          obtain ⟨x47, ex47, h⟩ := h.get
          refine AOps.q rfl rfl rfl rfl rfl (rbin_rem (by decide)) ex47 ?_
          refine pB rfl rfl rfl ?_
          refine AOps.done ?_
          refine AWp.cond rfl (fun e => ?_) (fun e => ?_)
          · replace h := h.1 e
            refine AWp.seq ?_
            refine AWp.regionN (fun _ => false) rfl ?_
            refine pI rfl rfl rfl ?_
            obtain ⟨x50, hc51, h⟩ := h
            refine AOps.call hc51 rfl rfl rfl ⟨.inl rfl, trivial⟩ ?_
            refine pF rfl rfl rfl ?_
            refine AOps.done ?_
            refine AWp.ret ?_
            subst h
            exact ⟨_, rfl, rfl⟩
          · replace h := h.2 e
            refine AWp.skip ?_
            refine AWp.seq ?_
            refine AWp.regionN (fun _ => false) rfl ?_
            refine pI rfl rfl rfl ?_
            obtain ⟨x52, ex52, h⟩ := h.get
            refine AOps.i tabOk rfl rfl rfl ex52 ?_
            obtain ⟨x53, hc54, h⟩ := h
            refine AOps.call hc54 rfl rfl rfl ⟨.inl rfl, trivial⟩ ?_
            refine pF rfl rfl rfl ?_
            refine AOps.done ?_
            refine AWp.ret ?_
            subst h
            exact ⟨_, rfl, rfl⟩
        · replace h := h.2 e
          refine AWp.skip ?_
          refine AWp.seq ?_
          refine AWp.seq ?_
          refine AWp.regionN (fun _ => false) rfl ?_
          refine pT rfl rfl rfl ?_
          refine pT rfl rfl rfl ?_
          obtain ⟨x55, hc56, h⟩ := h
          refine AOps.call hc56 rfl rfl rfl ⟨.inl rfl, .inl rfl, trivial⟩ ?_
          refine AOps.done ?_
          refine AWp.cond rfl (fun e => ?_) (fun e => ?_)
          · replace h := h.1 e
            refine AWp.seq ?_
            refine AWp.regionN (fun _ => false) rfl ?_
            refine pI rfl rfl rfl ?_
            obtain ⟨x60, ex60, h⟩ := h.get
            refine AOps.i tabOk rfl rfl rfl ex60 ?_
            obtain ⟨x61, hc62, h⟩ := h
            refine AOps.call hc62 rfl rfl rfl ⟨.inl rfl, trivial⟩ ?_
            refine pF rfl rfl rfl ?_
            refine AOps.done ?_
            refine AWp.ret ?_
            subst h
            exact ⟨_, rfl, rfl⟩
          · replace h := h.2 e
            refine AWp.skip ?_
            refine AWp.seq ?_
            refine AWp.regionN (fun _ => false) rfl ?_
            refine pI rfl rfl rfl ?_
            obtain ⟨x63, hc64, h⟩ := h
            refine AOps.call hc64 rfl rfl rfl ⟨.inl rfl, trivial⟩ ?_
            refine pF rfl rfl rfl ?_
            refine AOps.done ?_
            refine AWp.ret ?_
            subst h
            exact ⟨_, rfl, rfl⟩
def W_ref01_At (i1 : Int) (Q : Nat → Prop) : Prop :=
  Br (decide (i1 < (0 : Int))) (
    Let (IntKind.i64.wrap ((0 : Int) - i1)) fun x7 =>
    Let (IntKind.u64.wrap x7) fun x8 =>
    Let (IntKind.u64.wrap (x8 + (9223372036854775808 : Int))) fun x9 =>
    Call (Ev_math_Float64frombits x9) fun x10 =>
    Q x10) (
    Let (IntKind.u64.wrap i1) fun x12 =>
    Call (Ev_math_Float64frombits x12) fun x13 =>
    Q x13)
theorem walk_ref01_At {i1 : Int} {r : Nat} (h : W_ref01_At i1 (fun r' => r' = r)) : Ev_ref01_At i1 r := by
  unfold W_ref01_At at h
  refine AFn.intro' (L := [(0, .dat (.v (.int .i64 i1)))]) tabOk Tryd.func56 rfl rfl Tryd.ntmps56 rfl rfl rfl ?_
  refine AWp.seq ?_
  refine AWp.regionN (fun _ => false) rfl ?_
  refine pF rfl rfl rfl ?_
  refine AOps.done ?_
  refine AWp.seq ?_
  refine AWp.seq ?_
  refine AWp.regionN (fun _ => false) rfl ?_
  refine pI rfl rfl rfl ?_
  refine pB rfl rfl rfl ?_
  refine AOps.done ?_
  refine AWp.cond rfl (fun e => ?_) (fun e => ?_)
  · replace h := h.1 e
    refine AWp.seq ?_
    refine AWp.regionN (fun _ => false) rfl ?_
    refine pI rfl rfl rfl ?_
    obtain ⟨x7, ex7, h⟩ := h.get
    refine AOps.i tabOk rfl rfl rfl ex7 ?_
    obtain ⟨x8, ex8, h⟩ := h.get
    refine AOps.i tabOk rfl rfl rfl ex8 ?_
    obtain ⟨x9, ex9, h⟩ := h.get
    refine AOps.i tabOk rfl rfl rfl ex9 ?_
    obtain ⟨x10, hc11, h⟩ := h
    refine AOps.extC hc11 rfl rfl rfl (.cons rfl .nil) ?_
    refine pF rfl rfl rfl ?_
    refine AOps.done ?_
    refine AWp.ret ?_
    subst h
    exact ⟨_, rfl, rfl⟩
  · replace h := h.2 e
    refine AWp.skip ?_
    refine AWp.seq ?_
    refine AWp.regionN (fun _ => false) rfl ?_
    refine pI rfl rfl rfl ?_
    obtain ⟨x12, ex12, h⟩ := h.get
    refine AOps.i tabOk rfl rfl rfl ex12 ?_
    obtain ⟨x13, hc14, h⟩ := h
    refine AOps.extC hc14 rfl rfl rfl (.cons rfl .nil) ?_
    refine pF rfl rfl rfl ?_
    refine AOps.done ?_
    refine AWp.ret ?_
    subst h
    exact ⟨_, rfl, rfl⟩
def W_ref01_Index (x1 : Nat) (Q : Int → Prop) : Prop :=
  Call (Ev_math_Float64bits x1) fun x2 =>
  Let (Int.fdiv x2 (2 ^ 63)) fun x4 =>
  Br (x4 == (1 : Int)) (
    Let (IntKind.u64.wrap (x2 - (9223372036854775808 : Int))) fun x8 =>
    Let (IntKind.i64.wrap x8) fun x9 =>
    Let (IntKind.i64.wrap ((0 : Int) - x9)) fun x10 =>
    Q x10) (
    Let (IntKind.i64.wrap x2) fun x11 =>
    Q x11)
theorem walk_ref01_Index {x1 : Nat} {r : Int} (h : W_ref01_Index x1 (fun r' => r' = r)) : Ev_ref01_Index x1 r := by
  unfold W_ref01_Index at h
  refine AFn.intro' (L := [(0, .dat (.v (.float .f64 x1)))]) tabOk Tryd.func113 rfl rfl Tryd.ntmps113 rfl rfl rfl ?_
  refine AWp.seq ?_
  refine AWp.regionN (fun _ => false) rfl ?_
  refine pI rfl rfl rfl ?_
  refine AOps.done ?_
  refine AWp.seq ?_
  refine AWp.regionN (fun _ => false) rfl ?_
  refine pF rfl rfl rfl ?_
  obtain ⟨x2, hc3, h⟩ := h
  refine AOps.extC hc3 rfl rfl rfl (.cons rfl .nil) ?_
  refine pI rfl rfl rfl ?_
  refine AOps.done ?_
  refine AWp.seq ?_
  refine AWp.seq ?_
  refine AWp.regionN (fun _ => false) rfl ?_
  refine pI rfl rfl rfl ?_
  obtain ⟨x4, ex4, h⟩ := h.get
  refine AOps.q rfl rfl rfl rfl rfl (rbin_shr (by decide)) ex4 ?_
  refine pB rfl rfl rfl ?_
  refine AOps.done ?_
  refine AWp.cond rfl (fun e => ?_) (fun e => ?_)
  · replace h := h.1 e
    refine AWp.seq ?_
    refine AWp.regionN (fun _ => false) rfl ?_
    refine pI rfl rfl rfl ?_
    obtain ⟨x8, ex8, h⟩ := h.get
    refine AOps.i tabOk rfl rfl rfl ex8 ?_
    obtain ⟨x9, ex9, h⟩ := h.get
    refine AOps.i tabOk rfl rfl rfl ex9 ?_
    obtain ⟨x10, ex10, h⟩ := h.get
    refine AOps.i tabOk rfl rfl rfl ex10 ?_
    refine pI rfl rfl rfl ?_
    refine AOps.done ?_
    refine AWp.ret ?_
    subst h
    exact ⟨_, rfl, rfl⟩
  · replace h := h.2 e
    refine AWp.skip ?_
    refine AWp.seq ?_
    refine AWp.regionN (fun _ => false) rfl ?_
    refine pI rfl rfl rfl ?_
    obtain ⟨x11, ex11, h⟩ := h.get
    refine AOps.i tabOk rfl rfl rfl ex11 ?_
    refine pI rfl rfl rfl ?_
    refine AOps.done ?_
    refine AWp.ret ?_
    subst h
    exact ⟨_, rfl, rfl⟩
def W_ref01_Down (x1 : Gref01Exact) (Q : Int → Prop) : Prop :=
  Loop2 (-9218868437227405312 : Int) (9218868437227405311 : Int) (fun (lo84 : Int) (hi85 : Int) next86 =>
    Br (decide (lo84 < hi85)) (
      Let (IntKind.i64.wrap (Int.tdiv lo84 (2 : Int))) fun x87 =>
      Let (IntKind.i64.wrap (Int.tdiv hi85 (2 : Int))) fun x88 =>
      Let (IntKind.i64.wrap (x87 + x88)) fun x89 =>
      Let (Int.tmod lo84 (2 : Int)) fun x90 =>
      Let (Int.tmod hi85 (2 : Int)) fun x91 =>
      Let (IntKind.i64.wrap (x90 + x91)) fun x92 =>
      Let (IntKind.i64.wrap (x92 + (1 : Int))) fun x93 =>
      Let (IntKind.i64.wrap (Int.tdiv x93 (2 : Int))) fun x94 =>
      Let (IntKind.i64.wrap (x89 + x94)) fun x95 =>
      Join1 (fun j98 =>
        Br (decide (x95 ≤ lo84)) (
          Let (IntKind.i64.wrap (lo84 + (1 : Int))) fun x99 =>
          j98 x99) (
          j98 x95)
      ) (fun (mid97 : Int) =>
        Call (Ev_ref01_At mid97) fun x100 =>
        Call (Ev_ref01_Float x100) fun x102 =>
        Call (Ev_ref01_below x102 x1) fun x104 =>
        Br x104 (next86 mid97 hi85) (
          Let (IntKind.i64.wrap (mid97 - (1 : Int))) fun x106 =>
          next86 lo84 x106))) (
      Q lo84))
theorem walk_ref01_Down {x1 : Gref01Exact} {r : Int} (h : W_ref01_Down x1 (fun r' => r' = r)) : Ev_ref01_Down x1 r := by
  unfold W_ref01_Down at h
  refine AFn.intro' (L := [(0, .dat (Gref01Exact.enc x1))]) tabOk Tryd.func53 rfl rfl Tryd.ntmps53 rfl rfl rfl ?_
  refine AWp.seq ?_
  refine AWp.regionN (fun _ => false) rfl ?_
  refine AOps.box (v := .dat (.st _ _)) rfl rfl rfl rfl rfl rfl ?_
  refine pI rfl rfl rfl ?_
  refine AOps.done ?_
  refine AWp.seq ?_
  refine AWp.regionN (fun _ => false) rfl ?_
  refine pI rfl rfl rfl ?_
  refine AOps.done ?_
  refine AWp.seq ?_
  refine AWp.regionN (fun _ => false) rfl ?_
  refine pI rfl rfl rfl ?_
  refine AOps.done ?_
  refine AWp.seq ?_
  refine AWp.block ?_
  obtain ⟨I110, x111, hz112, hr113⟩ := h
  refine AWp.loop (I := fun p : Int × Int => mkSt [(1, .pt 1 [] 0), (3, .dat (.v (.int .i64 p.1))), (4, .dat (.v (.int .i64 p.2)))] [(1, .box 55 7 (.dat (Gref01Exact.enc x1)))]) (Inv := fun p => I110 p.1 p.2) (μ := fun p => x111 p.1 p.2) (x0 := ⟨(-9218868437227405312 : Int), (9218868437227405311 : Int)⟩) hz112 (Sub.list (fun i => i) rfl rfl ⟨rfl, rfl, rfl, trivial⟩ ⟨rfl, trivial⟩) (fun p hp => ?_)
  obtain ⟨lo84, hi85⟩ := p
  have h := hr113 lo84 hi85 hp
  refine AWp.seq ?_
  refine AWp.seq ?_
  refine AWp.regionN (fun _ => false) rfl ?_
  refine pI rfl rfl rfl ?_
  refine pI rfl rfl rfl ?_
  refine pB rfl rfl rfl ?_
  refine AOps.done ?_
  refine AWp.cond rfl (fun e => ?_) (fun e => ?_)
  · replace h := h.1 e
    refine AWp.skip ?_
    refine AWp.block ?_
    refine AWp.seq ?_
    refine AWp.regionN (fun _ => false) rfl ?_
    refine pI rfl rfl rfl ?_
    obtain ⟨x87, ex87, h⟩ := h.get
    refine AOps.q rfl rfl rfl rfl rfl (rbin_quo (by decide)) ex87 ?_
    refine pI rfl rfl rfl ?_
    obtain ⟨x88, ex88, h⟩ := h.get
    refine AOps.q rfl rfl rfl rfl rfl (rbin_quo (by decide)) ex88 ?_
    obtain ⟨x89, ex89, h⟩ := h.get
    refine AOps.i tabOk rfl rfl rfl ex89 ?_
    refine pI rfl rfl rfl ?_
    obtain ⟨x90, ex90, h⟩ := h.get
    refine AOps.q rfl rfl rfl rfl rfl (rbin_rem (by decide)) ex90 ?_
    refine pI rfl rfl rfl ?_
    obtain ⟨x91, ex91, h⟩ := h.get
    refine AOps.q rfl rfl rfl rfl rfl (rbin_rem (by decide)) ex91 ?_
    obtain ⟨x92, ex92, h⟩ := h.get
    refine AOps.i tabOk rfl rfl rfl ex92 ?_
    obtain ⟨x93, ex93, h⟩ := h.get
    refine AOps.i tabOk rfl rfl rfl ex93 ?_
    obtain ⟨x94, ex94, h⟩ := h.get
    refine AOps.q rfl rfl rfl rfl rfl (rbin_quo (by decide)) ex94 ?_
    obtain ⟨x95, ex95, h⟩ := h.get
    refine AOps.i tabOk rfl rfl rfl ex95 ?_
    refine pI rfl rfl rfl ?_
    refine AOps.done ?_
    refine AWp.seq ?_
    refine AWp.seq ?_
    refine AWp.regionN (fun _ => false) rfl ?_
    refine pI rfl rfl rfl ?_
    refine pI rfl rfl rfl ?_
    refine pB rfl rfl rfl ?_
    refine AOps.done ?_
    obtain ⟨J107, hj108, hk109⟩ := h
    refine AWp.cutK (I := fun p : Int => mkSt [(1, .pt 1 [] 0), (3, .dat (.v (.int .i64 lo84))), (4, .dat (.v (.int .i64 hi85))), (5, .dat (.v (.int .i64 p)))] [(1, .box 55 7 (.dat (Gref01Exact.enc x1)))]) (Inv := fun p : Int => J107 p) ?_ (fun p hp => ?_)
    · have h := hj108
      refine AWp.cond rfl (fun e => ?_) (fun e => ?_)
      · replace h := h.1 e
        refine AWp.regionN (fun _ => false) rfl ?_
        refine pI rfl rfl rfl ?_
        obtain ⟨x99, ex99, h⟩ := h.get
        refine AOps.i tabOk rfl rfl rfl ex99 ?_
        refine pI rfl rfl rfl ?_
        refine AOps.done ?_
        exact ⟨x99, h, (Sub.list (fun i => i) rfl rfl ⟨rfl, rfl, rfl, rfl, trivial⟩ ⟨rfl, trivial⟩)⟩
      · replace h := h.2 e
        refine AWp.skip ?_
        exact ⟨x95, h, (Sub.list (fun i => i) rfl rfl ⟨rfl, rfl, rfl, rfl, trivial⟩ ⟨rfl, trivial⟩)⟩
    · have h := hk109 p hp
      revert h; clear hp; generalize p = mid97; intro h
      refine AWp.seq ?_
      refine AWp.regionD (fun _ => false) mixed (by decide +kernel) rfl ?_
      refine pI rfl rfl rfl ?_
      obtain ⟨x100, hc101, h⟩ := h
      refine AOps.call hc101 rfl rfl rfl ⟨.inl rfl, trivial⟩ ?_
      obtain ⟨x102, hc103, h⟩ := h
      refine AOps.call hc103 rfl rfl rfl ⟨.inl rfl, trivial⟩ ?_
      refine pT rfl rfl rfl ?_
      obtain ⟨x104, hc105, h⟩ := h
      refine AOps.call hc105 rfl rfl rfl ⟨.inl rfl, .inl rfl, trivial⟩ ?_
      refine AOps.done ?_
      refine AWp.cond rfl (fun e => ?_) (fun e => ?_)
      · replace h := h.1 e
        refine AWp.regionN (fun _ => false) rfl ?_
        refine pI rfl rfl rfl ?_
        refine pI rfl rfl rfl ?_
        refine AOps.done ?_
        exact ⟨⟨mid97, hi85⟩, h.1, h.2, (Sub.list (fun i => i) rfl rfl ⟨rfl, rfl, rfl, trivial⟩ ⟨rfl, trivial⟩)⟩
      · replace h := h.2 e
        refine AWp.regionN (fun _ => false) rfl ?_
        refine pI rfl rfl rfl ?_
        obtain ⟨x106, ex106, h⟩ := h.get
        refine AOps.i tabOk rfl rfl rfl ex106 ?_
        refine pI rfl rfl rfl ?_
        refine AOps.done ?_
        exact ⟨⟨lo84, x106⟩, h.1, h.2, (Sub.list (fun i => i) rfl rfl ⟨rfl, rfl, rfl, trivial⟩ ⟨rfl, trivial⟩)⟩
  · replace h := h.2 e
    refine AWp.exit ?_
    refine AWp.seq ?_
    refine AWp.regionN (fun _ => false) rfl ?_
    refine pI rfl rfl rfl ?_
    refine pI rfl rfl rfl ?_
    refine AOps.done ?_
    refine AWp.ret ?_
    subst h
    exact ⟨_, rfl, rfl⟩
def W_ref01_same (r1 : Gref01Num) (x2 : Gref01Exact) (Q : Bool → Prop) : Prop :=
  Br x2.Root (
    Call (Ev_ref01_Sign r1) fun x21 =>
    Br (decide (x21 ≥ (0 : Int))) (
      Call (Ev_ref01_Product r1 r1) fun x23 =>
      Call (Ev_ref01_Order x23 x2.A) fun x25 =>
      Q (x25 == (0 : Int))) (
      Q false)) (
    Call (Ev_ref01_Product r1 x2.B) fun x27 =>
    Call (Ev_ref01_Order x27 x2.A) fun x29 =>
    Q (x29 == (0 : Int)))
theorem walk_ref01_same {r1 : Gref01Num} {x2 : Gref01Exact} {r : Bool} (h : W_ref01_same r1 x2 (fun r' => r' = r)) : Ev_ref01_same r1 x2 r := by
  unfold W_ref01_same at h
  refine AFn.intro' (L := [(0, .dat (Gref01Num.enc r1)), (1, .dat (Gref01Exact.enc x2))]) tabOk Tryd.func54 rfl rfl Tryd.ntmps54 rfl rfl rfl ?_
  refine AWp.seq ?_
  refine AWp.regionN (fun _ => false) rfl ?_
  refine AOps.box (v := .dat (.st _ _)) rfl rfl rfl rfl rfl rfl ?_
  refine AOps.box (v := .dat (.st _ _)) rfl rfl rfl rfl rfl rfl ?_
  refine pB rfl rfl rfl ?_
  refine AOps.done ?_
  refine AWp.seq ?_
  refine AWp.seq ?_
  refine AWp.regionN (fun _ => false) rfl ?_
  refine pP rfl rfl rfl ?_
  refine pB rfl rfl rfl ?_
  refine AOps.done ?_
  refine AWp.cond rfl (fun e => ?_) (fun e => ?_)
  · replace h := h.1 e
    refine AWp.seq ?_
    refine AWp.regionD (fun _ => false) mixed (by decide +kernel) rfl ?_
    refine pT rfl rfl rfl ?_
    obtain ⟨x21, hc22, h⟩ := h
    refine AOps.call hc22 rfl rfl rfl ⟨.inl rfl, trivial⟩ ?_
    refine pB rfl rfl rfl ?_
    refine pB rfl rfl rfl ?_
    refine AOps.splitB 10 rfl (fun e => ?_) (fun e => ?_)
    · replace h := h.1 e
      refine pT rfl rfl rfl ?_
      refine pT rfl rfl rfl ?_
      obtain ⟨x23, hc24, h⟩ := h
      refine AOps.call hc24 rfl rfl rfl ⟨.inl rfl, .inl rfl, trivial⟩ ?_
      refine pP rfl rfl rfl ?_
      refine pT rfl rfl rfl ?_
      obtain ⟨x25, hc26, h⟩ := h
      refine AOps.call hc26 rfl rfl rfl ⟨.inl rfl, .inl rfl, trivial⟩ ?_
      refine pB rfl rfl rfl ?_
      refine pB rfl rfl rfl ?_
      refine pB rfl rfl rfl ?_
      refine AOps.done ?_
      refine AWp.ret ?_
      subst h
      exact ⟨_, rfl, rfl⟩
    · replace h := h.2 e
      refine AOps.off rfl rfl ?_
      refine AOps.off rfl rfl ?_
      refine AOps.off rfl rfl ?_
      refine AOps.off rfl rfl ?_
      refine AOps.off rfl rfl ?_
      refine AOps.off rfl rfl ?_
      refine AOps.off rfl rfl ?_
      refine pB rfl rfl rfl ?_
      refine pB rfl rfl rfl ?_
      refine AOps.done ?_
      refine AWp.ret ?_
      subst h
      exact ⟨_, rfl, rfl⟩
  · replace h := h.2 e
    refine AWp.skip ?_
    refine AWp.seq ?_
    refine AWp.regionD (fun _ => false) mixed (by decide +kernel) rfl ?_
    refine pT rfl rfl rfl ?_
    refine pP rfl rfl rfl ?_
    refine pT rfl rfl rfl ?_
    obtain ⟨x27, hc28, h⟩ := h
    refine AOps.call hc28 rfl rfl rfl ⟨.inl rfl, .inl rfl, trivial⟩ ?_
    refine pP rfl rfl rfl ?_
    refine pT rfl rfl rfl ?_
    obtain ⟨x29, hc30, h⟩ := h
    refine AOps.call hc30 rfl rfl rfl ⟨.inl rfl, .inl rfl, trivial⟩ ?_
    refine pB rfl rfl rfl ?_
    refine pB rfl rfl rfl ?_
    refine AOps.done ?_
    refine AWp.ret ?_
    subst h
    exact ⟨_, rfl, rfl⟩
def W_ref01_grid (i1 : Int) (Q : Gref01Num → Prop) : Prop :=
  Br (decide (i1 > (9218868437227405311 : Int))) (
    Call (Ev_ref01_Of (1 : Int)) fun x4 =>
    Q (Gref01Num.mk false x4 (1024 : Int))) (
    Br (decide (i1 < (-9218868437227405311 : Int))) (
      Call (Ev_ref01_Of (1 : Int)) fun x8 =>
      Q (Gref01Num.mk true x8 (1024 : Int))) (
      Call (Ev_ref01_At i1) fun x10 =>
      Call (Ev_ref01_Float x10) fun x12 =>
      Q x12))
theorem walk_ref01_grid {i1 : Int} {r : Gref01Num} (h : W_ref01_grid i1 (fun r' => r' = r)) : Ev_ref01_grid i1 r := by
  unfold W_ref01_grid at h
  refine AFn.intro' (L := [(0, .dat (.v (.int .i64 i1)))]) tabOk Tryd.func58 rfl rfl Tryd.ntmps58 rfl rfl rfl ?_
  refine AWp.seq ?_
  refine AWp.regionN (fun _ => false) rfl ?_
  refine AOps.alloc tabOk rfl rfl rfl rfl rfl ?_
  refine AOps.done ?_
  refine AWp.seq ?_
  refine AWp.seq ?_
  refine AWp.regionN (fun _ => false) rfl ?_
  refine pI rfl rfl rfl ?_
  refine pB rfl rfl rfl ?_
  refine AOps.done ?_
  refine AWp.cond rfl (fun e => ?_) (fun e => ?_)
  · replace h := h.1 e
    refine AWp.seq ?_
    refine AWp.regionN (fun o => writes o) rfl ?_
    obtain ⟨x4, hc5, h⟩ := h
    refine AOps.call hc5 rfl rfl rfl ⟨.inl rfl, trivial⟩ ?_
    refine pT rfl rfl rfl ?_
    refine AOps.store tabOk (v := .dat (.st _ _)) rfl rfl rfl rfl rfl rfl rfl rfl rfl rfl rfl rfl rfl ?_
    refine AOps.done ?_
    refine AWp.ret ?_
    subst h
    exact ⟨_, rfl, rfl⟩
  · replace h := h.2 e
    refine AWp.skip ?_
    refine AWp.seq ?_
    refine AWp.seq ?_
    refine AWp.regionN (fun _ => false) rfl ?_
    refine pI rfl rfl rfl ?_
    refine pB rfl rfl rfl ?_
    refine AOps.done ?_
    refine AWp.cond rfl (fun e => ?_) (fun e => ?_)
    · replace h := h.1 e
      refine AWp.seq ?_
      refine AWp.regionN (fun o => writes o) rfl ?_
      obtain ⟨x8, hc9, h⟩ := h
      refine AOps.call hc9 rfl rfl rfl ⟨.inl rfl, trivial⟩ ?_
      refine pT rfl rfl rfl ?_
      refine AOps.store tabOk (v := .dat (.st _ _)) rfl rfl rfl rfl rfl rfl rfl rfl rfl rfl rfl rfl rfl ?_
      refine AOps.done ?_
      refine AWp.ret ?_
      subst h
      exact ⟨_, rfl, rfl⟩
    · replace h := h.2 e
      refine AWp.skip ?_
      refine AWp.seq ?_
      refine AWp.regionN (fun o => writes o) rfl ?_
      refine pI rfl rfl rfl ?_
      obtain ⟨x10, hc11, h⟩ := h
      refine AOps.call hc11 rfl rfl rfl ⟨.inl rfl, trivial⟩ ?_
      obtain ⟨x12, hc13, h⟩ := h
      refine AOps.call hc13 rfl rfl rfl ⟨.inl rfl, trivial⟩ ?_
      refine AOps.store tabOk (v := .dat (.st _ _)) rfl rfl rfl rfl rfl rfl rfl rfl rfl rfl rfl rfl rfl ?_
      refine AOps.done ?_
      refine AWp.ret ?_
      subst h
      exact ⟨_, rfl, rfl⟩
def W_ref01_below (r1 : Gref01Num) (x2 : Gref01Exact) (Q : Bool → Prop) : Prop :=
  Br x2.Root (
    Call (Ev_ref01_Sign r1) fun x21 =>
    Br (decide (x21 ≤ (0 : Int))) (Q true) (
      Call (Ev_ref01_Product r1 r1) fun x23 =>
      Call (Ev_ref01_Order x23 x2.A) fun x25 =>
      Q (decide (x25 ≤ (0 : Int))))) (
    Call (Ev_ref01_Product r1 x2.B) fun x27 =>
    Call (Ev_ref01_Order x27 x2.A) fun x29 =>
    Call (Ev_ref01_Sign x2.B) fun x31 =>
    Br (decide (x31 < (0 : Int))) (Q (decide (x29 ≥ (0 : Int)))) (
      Q (decide (x29 ≤ (0 : Int)))))
theorem walk_ref01_below {r1 : Gref01Num} {x2 : Gref01Exact} {r : Bool} (h : W_ref01_below r1 x2 (fun r' => r' = r)) : Ev_ref01_below r1 x2 r := by
  unfold W_ref01_below at h
  refine AFn.intro' (L := [(0, .dat (Gref01Num.enc r1)), (1, .dat (Gref01Exact.enc x2))]) tabOk Tryd.func59 rfl rfl Tryd.ntmps59 rfl rfl rfl ?_
  refine AWp.seq ?_
  refine AWp.regionN (fun _ => false) rfl ?_
  refine AOps.box (v := .dat (.st _ _)) rfl rfl rfl rfl rfl rfl ?_
  refine AOps.box (v := .dat (.st _ _)) rfl rfl rfl rfl rfl rfl ?_
  refine pB rfl rfl rfl ?_
  refine AOps.done ?_
  refine AWp.seq ?_
  refine AWp.seq ?_
  refine AWp.regionN (fun _ => false) rfl ?_
  refine pP rfl rfl rfl ?_
  refine pB rfl rfl rfl ?_
  refine AOps.done ?_
  refine AWp.cond rfl (fun e => ?_) (fun e => ?_)
  · replace h := h.1 e
    refine AWp.seq ?_
    refine AWp.regionD (fun _ => false) mixed (by decide +kernel) rfl ?_
    refine pT rfl rfl rfl ?_
    obtain ⟨x21, hc22, h⟩ := h
    refine AOps.call hc22 rfl rfl rfl ⟨.inl rfl, trivial⟩ ?_
    refine pB rfl rfl rfl ?_
    refine pB rfl rfl rfl ?_
    refine AOps.splitB 11 rfl (fun e => ?_) (fun e => ?_)
    · replace h := h.1 e
      refine AOps.off rfl rfl ?_
      refine AOps.off rfl rfl ?_
      refine AOps.off rfl rfl ?_
      refine AOps.off rfl rfl ?_
      refine AOps.off rfl rfl ?_
      refine AOps.off rfl rfl ?_
      refine AOps.off rfl rfl ?_
      refine pB rfl rfl rfl ?_
      refine pB rfl rfl rfl ?_
      refine AOps.done ?_
      refine AWp.ret ?_
      subst h
      exact ⟨_, rfl, rfl⟩
    · replace h := h.2 e
      refine pT rfl rfl rfl ?_
      refine pT rfl rfl rfl ?_
      obtain ⟨x23, hc24, h⟩ := h
      refine AOps.call hc24 rfl rfl rfl ⟨.inl rfl, .inl rfl, trivial⟩ ?_
      refine pP rfl rfl rfl ?_
      refine pT rfl rfl rfl ?_
      obtain ⟨x25, hc26, h⟩ := h
      refine AOps.call hc26 rfl rfl rfl ⟨.inl rfl, .inl rfl, trivial⟩ ?_
      refine pB rfl rfl rfl ?_
      refine pB rfl rfl rfl ?_
      refine pB rfl rfl rfl ?_
      refine AOps.done ?_
      refine AWp.ret ?_
      subst h
      exact ⟨_, rfl, rfl⟩
  · replace h := h.2 e
    refine AWp.skip ?_
    refine AWp.seq ?_
    refine AWp.regionD (fun _ => false) mixed (by decide +kernel) rfl ?_
    refine pT rfl rfl rfl ?_
    refine pP rfl rfl rfl ?_
    refine pT rfl rfl rfl ?_
    obtain ⟨x27, hc28, h⟩ := h
    refine AOps.call hc28 rfl rfl rfl ⟨.inl rfl, .inl rfl, trivial⟩ ?_
    refine pP rfl rfl rfl ?_
    refine pT rfl rfl rfl ?_
    obtain ⟨x29, hc30, h⟩ := h
    refine AOps.call hc30 rfl rfl rfl ⟨.inl rfl, .inl rfl, trivial⟩ ?_
    refine pI rfl rfl rfl ?_
    refine AOps.done ?_
    refine AWp.seq ?_
    refine AWp.seq ?_
    refine AWp.regionN (fun _ => false) rfl ?_
    refine pP rfl rfl rfl ?_
    refine pT rfl rfl rfl ?_
    obtain ⟨x31, hc32, h⟩ := h
    refine AOps.call hc32 rfl rfl rfl ⟨.inl rfl, trivial⟩ ?_
    refine pB rfl rfl rfl ?_
    refine AOps.done ?_
    refine AWp.cond rfl (fun e => ?_) (fun e => ?_)
    · replace h := h.1 e
      refine AWp.seq ?_
      refine AWp.regionN (fun _ => false) rfl ?_
      refine pI rfl rfl rfl ?_
      refine pB rfl rfl rfl ?_
      refine pB rfl rfl rfl ?_
      refine AOps.done ?_
      refine AWp.ret ?_
      subst h
      exact ⟨_, rfl, rfl⟩
    · replace h := h.2 e
      refine AWp.skip ?_
      refine AWp.seq ?_
      refine AWp.regionN (fun _ => false) rfl ?_
      refine pI rfl rfl rfl ?_
      refine pB rfl rfl rfl ?_
      refine pB rfl rfl rfl ?_
      refine AOps.done ?_
      refine AWp.ret ?_
      subst h
      exact ⟨_, rfl, rfl⟩
end Go.Sim.YtlglkgineclggaaDoor
