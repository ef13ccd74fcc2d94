/- What is proved: functions of the program compute what plain statements tell. -/
import Derived.Test.YtlglkgineclggaaZNWE
namespace Go.Sim.Ytlglkgineclggaa
open Go.RowKit Go.Proofs Go.Proofs.Try
set_option maxRecDepth 100000
def W_ival_Mag (x1 : GIval) (Q : Nat → Prop) : Prop :=
  Call (Ev_ival_none ([x1])) fun x2 =>
  Br x2 (Q (0 : Nat)) (
    Call (Ev_math_Abs x1.Lo) fun x4 =>
    Call (Ev_math_Abs x1.Hi) fun x6 =>
    FMx x4 x6 fun x8 =>
    Q x8)
theorem walk_ival_Mag {x1 : GIval} {r : Nat} (h : W_ival_Mag x1 (fun r' => r' = r)) : Ev_ival_Mag x1 r := by
  unfold W_ival_Mag at h
  refine AFn.intro' (L := [(0, .dat (GIval.enc x1))]) tabOk Try.func51 rfl rfl Try.ntmps51 rfl rfl rfl ?_
  refine AWp.seq ?_
  refine AWp.regionN (fun _ => false) rfl ?_
  refine AOps.box (v := .dat (.st _ _)) rfl rfl rfl rfl rfl rfl ?_
  refine pF rfl rfl rfl ?_
  refine AOps.done ?_
  refine AWp.seq ?_
  refine AWp.seq ?_
  refine AWp.regionN (fun _ => false) rfl ?_
  refine pT rfl rfl rfl ?_
  refine AOps.lit tabOk (ys := [GIval.enc x1]) rfl rfl rfl rfl rfl rfl ?_
  obtain ⟨x2, hc3, h⟩ := h
  refine AOps.call hc3 rfl rfl rfl ⟨.inl rfl, trivial⟩ ?_
  refine AOps.done ?_
  refine AWp.cond rfl (fun e => ?_) (fun e => ?_)
  · replace h := h.1 e
    refine AWp.seq ?_
    refine AWp.regionN (fun _ => false) rfl ?_
    refine pF rfl rfl rfl ?_
    refine AOps.done ?_
    refine AWp.ret ?_
    subst h
    exact ⟨_, rfl, rfl⟩
  · replace h := h.2 e
    refine AWp.skip ?_
    refine AWp.seq ?_
    refine AWp.regionD (fun _ => false) mixed (by decide +kernel) rfl ?_
    refine pP rfl rfl rfl ?_
    refine pF rfl rfl rfl ?_
    obtain ⟨x4, hc5, h⟩ := h
    refine AOps.call hc5 rfl rfl rfl ⟨.inl rfl, trivial⟩ ?_
    refine pP rfl rfl rfl ?_
    refine pF rfl rfl rfl ?_
    obtain ⟨x6, hc7, h⟩ := h
    refine AOps.call hc7 rfl rfl rfl ⟨.inl rfl, trivial⟩ ?_
    obtain ⟨hq, x8, ex8, h⟩ := h.get
    refine AOps.v rfl rfl (Step.fmax rfl rfl rfl hq ex8) ?_
    refine pF rfl rfl rfl ?_
    refine AOps.done ?_
    refine AWp.ret ?_
    subst h
    exact ⟨_, rfl, rfl⟩
def W_ival_Point (v1 : Nat) (Q : GIval → Prop) : Prop :=
  Call (Ev_ival_Make v1 v1) fun x2 =>
  Q x2
theorem walk_ival_Point {v1 : Nat} {r : GIval} (h : W_ival_Point v1 (fun r' => r' = r)) : Ev_ival_Point v1 r := by
  unfold W_ival_Point at h
  refine AFn.intro' (L := [(0, .dat (.v (.float .f64 v1)))]) tabOk Try.func56 rfl rfl Try.ntmps56 rfl rfl rfl ?_
  refine AWp.seq ?_
  refine AWp.regionN (fun _ => false) rfl ?_
  refine AOps.alloc tabOk rfl rfl rfl rfl rfl ?_
  refine AOps.done ?_
  refine AWp.seq ?_
  refine AWp.regionN (fun o => writes o) rfl ?_
  refine pF rfl rfl rfl ?_
  refine pF rfl rfl rfl ?_
  obtain ⟨x2, hc3, h⟩ := h
  refine AOps.call hc3 rfl rfl rfl ⟨.inl rfl, .inl rfl, trivial⟩ ?_
  refine AOps.store tabOk (v := .dat (.st _ _)) rfl rfl rfl rfl rfl rfl rfl rfl rfl rfl rfl rfl rfl ?_
  refine AOps.done ?_
  refine AWp.ret ?_
  subst h
  exact ⟨_, rfl, rfl⟩
def W_ival_none (l1 : List GIval) (Q : Bool → Prop) : Prop :=
  Loop1 (0 : Int) (fun (x80 : Int) next81 =>
    Br (decide (x80 < ((l1.length : Nat) : Int))) (
      At l1 x80 fun x94 =>
      Call (Ev_ival_Right x94) fun x100 =>
      Br (!x100) (Q true) (
        Call (Ev_ival_Empty) fun x102 =>
        Br (GIval.beq x94 x102) (Q true) (
          Let (IntKind.i64.wrap (x80 + (1 : Int))) fun x104 =>
          next81 x104))) (
      Q false))
theorem walk_ival_none {l1 : List GIval} {r : Bool} (h : W_ival_none l1 (fun r' => r' = r)) : Ev_ival_none l1 r := by
  unfold W_ival_none at h
  refine AFn.intro' (L := [(0, .dat (.sl 36 2 (List.map GIval.enc l1)))]) tabOk Try.func94 rfl rfl Try.ntmps94 rfl rfl rfl ?_
  refine AWp.seq ?_
  refine AWp.regionN (fun _ => false) rfl ?_
  refine pB rfl rfl rfl ?_
  refine AOps.done ?_
  refine AWp.seq ?_
  refine AWp.seq ?_
  refine AWp.regionN (fun _ => false) rfl ?_
  refine pS rfl rfl rfl ?_
  refine AOps.i (j := ((l1.length : Nat) : Int)) tabOk rfl rfl rfl (by first | (rw [List.length_map]; done) | rfl) ?_
  refine pI rfl rfl rfl ?_
  refine AOps.done ?_
  refine AWp.block ?_
  obtain ⟨I105, x106, hz107, hr108⟩ := h
  refine AWp.loop (I := fun p : Int => mkSt [(5, .dat (.sl 36 2 (List.map GIval.enc l1))), (6, .dat (.v (.int .i64 ((l1.length : Nat) : Int)))), (7, .dat (.v (.int .i64 p)))] []) (Inv := fun p => I105 p) (μ := fun p => x106 p) (x0 := (0 : Int)) hz107 (Sub.list (fun i => i) rfl rfl ⟨rfl, rfl, rfl, trivial⟩ trivial) (fun p hp => ?_)
  have h := hr108 p hp
  revert h; clear hp; generalize p = x80; intro h
  refine AWp.seq ?_
  refine AWp.regionN (fun _ => false) rfl ?_
  refine pW rfl rfl rfl ?_
  refine AOps.done ?_
  refine AWp.seq ?_
  refine AWp.cond rfl (fun e => ?_) (fun e => ?_)
  · replace h := h.1 e
    refine AWp.skip ?_
    refine AWp.seq ?_
    refine AWp.block ?_
    refine AWp.seq ?_
    refine AWp.regionN (fun o => writes o) rfl ?_
    obtain ⟨hi93, x94, hx95, h⟩ := h
    refine AOps.idx tabOk (z := GIval.enc x94) rfl rfl rfl rfl rfl rfl rfl rfl hi93 (map_get hx95) ?_
    refine pT rfl rfl rfl ?_
    refine AOps.alloc tabOk rfl rfl rfl rfl rfl ?_
    refine AOps.store tabOk (v := .dat (.st _ _)) rfl rfl rfl rfl rfl rfl rfl rfl rfl rfl rfl rfl rfl ?_
    refine AOps.done ?_
    refine AWp.seq ?_
    refine AWp.regionD (fun _ => false) mixed (by decide +kernel) rfl ?_
    refine pT rfl rfl rfl ?_
    obtain ⟨x100, hc101, h⟩ := h
    refine AOps.call hc101 rfl rfl rfl ⟨.inl rfl, trivial⟩ ?_
    refine pB rfl rfl rfl ?_
    refine pB rfl rfl rfl ?_
    refine AOps.splitB 14 rfl (fun e => ?_) (fun e => ?_)
    · replace h := h.1 e
      refine AOps.off rfl rfl ?_
      refine AOps.off rfl rfl ?_
      refine AOps.off rfl rfl ?_
      refine pB rfl rfl rfl ?_
      refine AOps.done ?_
      refine AWp.condT rfl ?_
      refine AWp.seq ?_
      refine AWp.regionN (fun _ => false) rfl ?_
      refine pB rfl rfl rfl ?_
      refine AOps.done ?_
      refine AWp.ret ?_
      subst h
      exact ⟨_, rfl, rfl⟩
    · replace h := h.2 e
      refine pT rfl rfl rfl ?_
      obtain ⟨x102, hc103, h⟩ := h
      refine AOps.call hc103 rfl rfl rfl trivial ?_
      refine AOps.eqs rfl rfl rfl rfl rfl rfl rfl (by decide +kernel) (GIval.eqok36 _ x94 x102) ?_
      refine pB rfl rfl rfl ?_
      refine AOps.done ?_
      refine AWp.cond rfl (fun e => ?_) (fun e => ?_)
      · replace h := h.1 e
        refine AWp.seq ?_
        refine AWp.regionN (fun _ => false) rfl ?_
        refine pB rfl rfl rfl ?_
        refine AOps.done ?_
        refine AWp.ret ?_
        subst h
        exact ⟨_, rfl, rfl⟩
      · replace h := h.2 e
        refine AWp.skip ?_
        refine AWp.regionN (fun _ => false) rfl ?_
        obtain ⟨x104, ex104, h⟩ := h.get
        refine AOps.i tabOk rfl rfl rfl ex104 ?_
        refine pI rfl rfl rfl ?_
        refine AOps.done ?_
        exact ⟨x104, h.1, h.2, (Sub.list (fun i => i) rfl rfl ⟨rfl, rfl, rfl, trivial⟩ trivial)⟩
  · replace h := h.2 e
    refine AWp.exit ?_
    refine AWp.seq ?_
    refine AWp.regionN (fun _ => false) rfl ?_
    refine pB rfl rfl rfl ?_
    refine AOps.done ?_
    refine AWp.ret ?_
    subst h
    exact ⟨_, rfl, rfl⟩
def W_ival_Empty (Q : GIval → Prop) : Prop :=
  Call (Ev_math_Inf (1 : Int)) fun x1 =>
  Call (Ev_math_Inf (-1 : Int)) fun x3 =>
  Q (GIval.mk x1 x3)
theorem walk_ival_Empty {r : GIval} (h : W_ival_Empty (fun r' => r' = r)) : Ev_ival_Empty r := by
  unfold W_ival_Empty at h
  refine AFn.intro' (L := []) tabOk Try.func95 rfl rfl Try.ntmps95 rfl rfl rfl ?_
  refine AWp.seq ?_
  refine AWp.regionN (fun _ => false) rfl ?_
  refine AOps.alloc tabOk rfl rfl rfl rfl rfl ?_
  refine AOps.done ?_
  refine AWp.seq ?_
  refine AWp.regionN (fun o => writes o) rfl ?_
  obtain ⟨x1, hc2, h⟩ := h
  refine AOps.call hc2 rfl rfl rfl ⟨.inl rfl, trivial⟩ ?_
  obtain ⟨x3, hc4, h⟩ := h
  refine AOps.call hc4 rfl rfl rfl ⟨.inl rfl, trivial⟩ ?_
  refine pT rfl rfl rfl ?_
  refine AOps.store tabOk (v := .dat (.st _ _)) rfl rfl rfl rfl rfl rfl rfl rfl rfl rfl rfl rfl rfl ?_
  refine AOps.done ?_
  refine AWp.ret ?_
  subst h
  exact ⟨_, rfl, rfl⟩
def W_ival_Make (lo1 : Nat) (hi2 : Nat) (Q : GIval → Prop) : Prop :=
  FOp .add lo1 (0 : Nat) fun x3 =>
  FOp .add hi2 (0 : Nat) fun x4 =>
  Call (Ev_ival_Right (GIval.mk x3 x4)) fun x5 =>
  Br (!x5) (
    Call (Ev_ival_Empty) fun x9 =>
    Q x9) (
    Q (GIval.mk x3 x4))
theorem walk_ival_Make {lo1 : Nat} {hi2 : Nat} {r : GIval} (h : W_ival_Make lo1 hi2 (fun r' => r' = r)) : Ev_ival_Make lo1 hi2 r := by
  unfold W_ival_Make at h
  refine AFn.intro' (L := [(0, .dat (.v (.float .f64 lo1))), (1, .dat (.v (.float .f64 hi2)))]) tabOk Try.func97 rfl rfl Try.ntmps97 rfl rfl rfl ?_
  refine AWp.seq ?_
  refine AWp.regionN (fun _ => false) rfl ?_
  refine AOps.alloc tabOk rfl rfl rfl rfl rfl ?_
  refine AOps.done ?_
  refine AWp.seq ?_
  refine AWp.regionN (fun o => writes o) rfl ?_
  refine pF rfl rfl rfl ?_
  obtain ⟨x3, hq, h⟩ := h
  refine AOps.v rfl rfl (Step.flt rfl rfl rfl hq) ?_
  refine pF rfl rfl rfl ?_
  obtain ⟨x4, hq, h⟩ := h
  refine AOps.v rfl rfl (Step.flt rfl rfl rfl hq) ?_
  refine pT rfl rfl rfl ?_
  refine AOps.alloc tabOk rfl rfl rfl rfl rfl ?_
  refine AOps.store tabOk (v := .dat (.st _ _)) rfl rfl rfl rfl rfl rfl rfl rfl rfl rfl rfl rfl rfl ?_
  refine AOps.done ?_
  refine AWp.seq ?_
  refine AWp.seq ?_
  refine AWp.regionN (fun _ => false) rfl ?_
  refine pT rfl rfl rfl ?_
  obtain ⟨x5, hc6, h⟩ := h
  refine AOps.call hc6 rfl rfl rfl ⟨.inl rfl, trivial⟩ ?_
  refine pB rfl rfl rfl ?_
  refine AOps.done ?_
  refine AWp.cond rfl (fun e => ?_) (fun e => ?_)
  · replace h := h.1 e
    refine AWp.seq ?_
    refine AWp.regionN (fun o => writes o) rfl ?_
    obtain ⟨x9, hc10, h⟩ := h
    refine AOps.call hc10 rfl rfl rfl trivial ?_
    refine AOps.store tabOk (v := .dat (.st _ _)) rfl rfl rfl rfl rfl rfl rfl rfl rfl rfl rfl rfl rfl ?_
    refine AOps.done ?_
    refine AWp.ret ?_
    subst h
    exact ⟨_, rfl, rfl⟩
  · replace h := h.2 e
    refine AWp.skip ?_
    refine AWp.seq ?_
    refine AWp.regionN (fun o => writes o) rfl ?_
    refine pT rfl rfl rfl ?_
    refine AOps.store tabOk (v := .dat (.st _ _)) rfl rfl rfl rfl rfl rfl rfl rfl rfl rfl rfl rfl rfl ?_
    refine AOps.done ?_
    refine AWp.ret ?_
    subst h
    exact ⟨_, rfl, rfl⟩
def W_ival_Right (x1 : GIval) (Q : Bool → Prop) : Prop :=
  Call (Ev_ival_Empty) fun x12 =>
  Br (GIval.beq x1 x12) (Q true) (
    Br ((FloatKind.f64.format.order x1.Lo x1.Hi == some .lt) || (FloatKind.f64.format.order x1.Lo x1.Hi == some .eq)) (
      Call (Ev_math_Inf (1 : Int)) fun x14 =>
      Br (FloatKind.f64.format.order x1.Lo x14 == some .lt) (
        Call (Ev_math_Inf (-1 : Int)) fun x16 =>
        Br (FloatKind.f64.format.order x1.Hi x16 == some .gt) (
          Call (Ev_ival_plus x1.Lo) fun x18 =>
          Br x18 (
            Call (Ev_ival_plus x1.Hi) fun x20 =>
            Q x20) (
            Q false)) (
          Q false)) (
        Q false)) (
      Q false))
theorem walk_ival_Right {x1 : GIval} {r : Bool} (h : W_ival_Right x1 (fun r' => r' = r)) : Ev_ival_Right x1 r := by
  unfold W_ival_Right at h
  refine AFn.intro' (L := [(0, .dat (GIval.enc x1))]) tabOk Try.func115 rfl rfl Try.ntmps115 rfl rfl rfl ?_
  refine AWp.seq ?_
  refine AWp.regionN (fun _ => false) rfl ?_
  refine AOps.box (v := .dat (.st _ _)) rfl rfl rfl rfl rfl rfl ?_
  refine pB rfl rfl rfl ?_
  refine AOps.done ?_
  refine AWp.seq ?_
  refine AWp.regionD (fun _ => false) mixed (by decide +kernel) rfl ?_
  refine pT rfl rfl rfl ?_
  obtain ⟨x12, hc13, h⟩ := h
  refine AOps.call hc13 rfl rfl rfl trivial ?_
  refine AOps.eqs rfl rfl rfl rfl rfl rfl rfl (by decide +kernel) (GIval.eqok36 _ x1 x12) ?_
  refine pB rfl rfl rfl ?_
  refine AOps.splitB 6 rfl (fun e => ?_) (fun e => ?_)
  · replace h := h.1 e
    refine AOps.off rfl rfl ?_
    refine AOps.off rfl rfl ?_
    refine AOps.off rfl rfl ?_
    refine AOps.off rfl rfl ?_
    refine AOps.off rfl rfl ?_
    refine AOps.off rfl rfl ?_
    refine AOps.off rfl rfl ?_
    refine AOps.off rfl rfl ?_
    refine AOps.off rfl rfl ?_
    refine AOps.off rfl rfl ?_
    refine AOps.off rfl rfl ?_
    refine AOps.off rfl rfl ?_
    refine AOps.off rfl rfl ?_
    refine AOps.off rfl rfl ?_
    refine AOps.off rfl rfl ?_
    refine AOps.off rfl rfl ?_
    refine AOps.off rfl rfl ?_
    refine AOps.off rfl rfl ?_
    refine AOps.off rfl rfl ?_
    refine AOps.off rfl rfl ?_
    refine AOps.off rfl rfl ?_
    refine AOps.off rfl rfl ?_
    refine AOps.off rfl rfl ?_
    refine AOps.off rfl rfl ?_
    refine AOps.off rfl rfl ?_
    refine AOps.off rfl rfl ?_
    refine AOps.off rfl rfl ?_
    refine pB rfl rfl rfl ?_
    refine pB rfl rfl rfl ?_
    refine AOps.done ?_
    refine AWp.ret ?_
    subst h
    exact ⟨_, rfl, rfl⟩
  · replace h := h.2 e
    refine pP rfl rfl rfl ?_
    refine pF rfl rfl rfl ?_
    refine pP rfl rfl rfl ?_
    refine pF rfl rfl rfl ?_
    refine pB rfl rfl rfl ?_
    refine pB rfl rfl rfl ?_
    refine AOps.splitB 12 rfl (fun e => ?_) (fun e => ?_)
    · replace h := h.1 e
      refine pP rfl rfl rfl ?_
      refine pF rfl rfl rfl ?_
      obtain ⟨x14, hc15, h⟩ := h
      refine AOps.call hc15 rfl rfl rfl ⟨.inl rfl, trivial⟩ ?_
      refine pB rfl rfl rfl ?_
      refine pB rfl rfl rfl ?_
      refine pB rfl rfl rfl ?_
      refine AOps.splitB 18 rfl (fun e => ?_) (fun e => ?_)
      · replace h := h.1 e
        refine pP rfl rfl rfl ?_
        refine pF rfl rfl rfl ?_
        obtain ⟨x16, hc17, h⟩ := h
        refine AOps.call hc17 rfl rfl rfl ⟨.inl rfl, trivial⟩ ?_
        refine pB rfl rfl rfl ?_
        refine pB rfl rfl rfl ?_
        refine pB rfl rfl rfl ?_
        refine AOps.splitB 24 rfl (fun e => ?_) (fun e => ?_)
        · replace h := h.1 e
          refine pP rfl rfl rfl ?_
          refine pF rfl rfl rfl ?_
          obtain ⟨x18, hc19, h⟩ := h
          refine AOps.call hc19 rfl rfl rfl ⟨.inl rfl, trivial⟩ ?_
          refine pB rfl rfl rfl ?_
          refine pB rfl rfl rfl ?_
          refine AOps.splitB 29 rfl (fun e => ?_) (fun e => ?_)
          · replace h := h.1 e
            refine pP rfl rfl rfl ?_
            refine pF rfl rfl rfl ?_
            obtain ⟨x20, hc21, h⟩ := h
            refine AOps.call hc21 rfl rfl rfl ⟨.inl rfl, trivial⟩ ?_
            refine pB rfl rfl rfl ?_
            refine pB rfl rfl rfl ?_
            refine pB rfl rfl rfl ?_
            refine AOps.done ?_
            refine AWp.ret ?_
            subst h
            exact ⟨_, rfl, rfl⟩
          · replace h := h.2 e
            refine AOps.off rfl rfl ?_
            refine AOps.off rfl rfl ?_
            refine AOps.off rfl rfl ?_
            refine pB rfl rfl rfl ?_
            refine pB rfl rfl rfl ?_
            refine pB rfl rfl rfl ?_
            refine AOps.done ?_
            refine AWp.ret ?_
            subst h
            exact ⟨_, rfl, rfl⟩
        · replace h := h.2 e
          refine AOps.off rfl rfl ?_
          refine AOps.off rfl rfl ?_
          refine AOps.off rfl rfl ?_
          refine pB rfl rfl rfl ?_
          refine pB rfl rfl rfl ?_
          refine AOps.off rfl rfl ?_
          refine AOps.off rfl rfl ?_
          refine AOps.off rfl rfl ?_
          refine pB rfl rfl rfl ?_
          refine pB rfl rfl rfl ?_
          refine pB rfl rfl rfl ?_
          refine AOps.done ?_
          refine AWp.ret ?_
          subst h
          exact ⟨_, rfl, rfl⟩
      · replace h := h.2 e
        refine AOps.off rfl rfl ?_
        refine AOps.off rfl rfl ?_
        refine AOps.off rfl rfl ?_
        refine AOps.off rfl rfl ?_
        refine pB rfl rfl rfl ?_
        refine pB rfl rfl rfl ?_
        refine AOps.off rfl rfl ?_
        refine AOps.off rfl rfl ?_
        refine AOps.off rfl rfl ?_
        refine pB rfl rfl rfl ?_
        refine pB rfl rfl rfl ?_
        refine AOps.off rfl rfl ?_
        refine AOps.off rfl rfl ?_
        refine AOps.off rfl rfl ?_
        refine pB rfl rfl rfl ?_
        refine pB rfl rfl rfl ?_
        refine pB rfl rfl rfl ?_
        refine AOps.done ?_
        refine AWp.ret ?_
        subst h
        exact ⟨_, rfl, rfl⟩
    · replace h := h.2 e
      refine AOps.off rfl rfl ?_
      refine AOps.off rfl rfl ?_
      refine AOps.off rfl rfl ?_
      refine AOps.off rfl rfl ?_
      refine pB rfl rfl rfl ?_
      refine pB rfl rfl rfl ?_
      refine AOps.off rfl rfl ?_
      refine AOps.off rfl rfl ?_
      refine AOps.off rfl rfl ?_
      refine AOps.off rfl rfl ?_
      refine pB rfl rfl rfl ?_
      refine pB rfl rfl rfl ?_
      refine AOps.off rfl rfl ?_
      refine AOps.off rfl rfl ?_
      refine AOps.off rfl rfl ?_
      refine pB rfl rfl rfl ?_
      refine pB rfl rfl rfl ?_
      refine AOps.off rfl rfl ?_
      refine AOps.off rfl rfl ?_
      refine AOps.off rfl rfl ?_
      refine pB rfl rfl rfl ?_
      refine pB rfl rfl rfl ?_
      refine pB rfl rfl rfl ?_
      refine AOps.done ?_
      refine AWp.ret ?_
      subst h
      exact ⟨_, rfl, rfl⟩
def W_ival_plus (v1 : Nat) (Q : Bool → Prop) : Prop :=
  Br (FloatKind.f64.format.order v1 (0 : Nat) != some .eq) (Q true) (
    Call (Ev_math_Signbit v1) fun x4 =>
    Q (!x4))
theorem walk_ival_plus {v1 : Nat} {r : Bool} (h : W_ival_plus v1 (fun r' => r' = r)) : Ev_ival_plus v1 r := by
  unfold W_ival_plus at h
  refine AFn.intro' (L := [(0, .dat (.v (.float .f64 v1)))]) tabOk Try.func160 rfl rfl Try.ntmps160 rfl rfl rfl ?_
  refine AWp.seq ?_
  refine AWp.regionN (fun _ => false) rfl ?_
  refine pB rfl rfl rfl ?_
  refine AOps.done ?_
  refine AWp.seq ?_
  refine AWp.regionN (fun _ => false) rfl ?_
  refine pF rfl rfl rfl ?_
  refine pB rfl rfl rfl ?_
  refine pB rfl rfl rfl ?_
  refine AOps.splitB 5 rfl (fun e => ?_) (fun e => ?_)
  · replace h := h.1 e
    refine AOps.off rfl rfl ?_
    refine AOps.off rfl rfl ?_
    refine AOps.off rfl rfl ?_
    refine pB rfl rfl rfl ?_
    refine pB rfl rfl rfl ?_
    refine AOps.done ?_
    refine AWp.ret ?_
    subst h
    exact ⟨_, rfl, rfl⟩
  · replace h := h.2 e
    refine pF rfl rfl rfl ?_
    obtain ⟨x4, hc5, h⟩ := h
    refine AOps.call hc5 rfl rfl rfl ⟨.inl rfl, trivial⟩ ?_
    refine pB rfl rfl rfl ?_
    refine pB rfl rfl rfl ?_
    refine pB rfl rfl rfl ?_
    refine AOps.done ?_
    refine AWp.ret ?_
    subst h
    exact ⟨_, rfl, rfl⟩
end Go.Sim.Ytlglkgineclggaa
