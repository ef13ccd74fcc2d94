/- What is proved: functions of the program compute what plain statements tell. -/
import Derived.Test.YtlglkgineclggaaZGWE
namespace Go.Sim.Ytlglkgineclggaa
open Go.RowKit Go.Proofs Go.Proofs.Try
set_option maxRecDepth 100000
def W_ival_Add (x1 : GIval) (y2 : GIval) (Q : GIval → Prop) : Prop :=
  Call (Ev_ival_none ([x1, y2])) fun x3 =>
  Br x3 (
    Call (Ev_ival_Empty) fun x7 =>
    Q x7) (
    Call (Ev_ulp_Add x1.Lo y2.Lo (-1 : Int)) fun x9 =>
    Call (Ev_ulp_Add x1.Hi y2.Hi (1 : Int)) fun x11 =>
    Call (Ev_ival_ends x9 x11) fun x13 =>
    Q x13)
theorem walk_ival_Add {x1 : GIval} {y2 : GIval} {r : GIval} (h : W_ival_Add x1 y2 (fun r' => r' = r)) : Ev_ival_Add x1 y2 r := by
  unfold W_ival_Add at h
  refine AFn.intro' (L := [(0, .dat (GIval.enc x1)), (1, .dat (GIval.enc y2))]) tabOk Try.func45 rfl rfl Try.ntmps45 rfl rfl rfl ?_
  refine AWp.seq ?_
  refine AWp.regionN (fun _ => false) rfl ?_
  refine AOps.box (v := .dat (.st _ _)) rfl rfl rfl rfl rfl rfl ?_
  refine AOps.box (v := .dat (.st _ _)) rfl rfl rfl rfl rfl rfl ?_
  refine AOps.alloc tabOk rfl rfl rfl rfl rfl ?_
  refine AOps.done ?_
  refine AWp.seq ?_
  refine AWp.seq ?_
  refine AWp.regionN (fun _ => false) rfl ?_
  refine pT rfl rfl rfl ?_
  refine pT rfl rfl rfl ?_
  refine AOps.lit tabOk (ys := [GIval.enc x1, GIval.enc y2]) rfl rfl rfl rfl rfl rfl ?_
  obtain ⟨x3, hc4, h⟩ := h
  refine AOps.call hc4 rfl rfl rfl ⟨.inl rfl, trivial⟩ ?_
  refine AOps.done ?_
  refine AWp.cond rfl (fun e => ?_) (fun e => ?_)
  · replace h := h.1 e
    refine AWp.seq ?_
    refine AWp.regionN (fun o => writes o) rfl ?_
    obtain ⟨x7, hc8, h⟩ := h
    refine AOps.call hc8 rfl rfl rfl trivial ?_
    refine AOps.store tabOk (v := .dat (.st _ _)) rfl rfl rfl rfl rfl rfl rfl rfl rfl rfl rfl rfl rfl ?_
    refine AOps.done ?_
    refine AWp.ret ?_
    subst h
    exact ⟨_, rfl, rfl⟩
  · replace h := h.2 e
    refine AWp.skip ?_
    refine AWp.seq ?_
    refine AWp.regionD (fun o => writes o) mixed (by decide +kernel) rfl ?_
    refine pP rfl rfl rfl ?_
    refine pF rfl rfl rfl ?_
    refine pP rfl rfl rfl ?_
    refine pF rfl rfl rfl ?_
    obtain ⟨x9, hc10, h⟩ := h
    refine AOps.call hc10 rfl rfl rfl ⟨.inl rfl, .inl rfl, .inl rfl, trivial⟩ ?_
    refine pP rfl rfl rfl ?_
    refine pF rfl rfl rfl ?_
    refine pP rfl rfl rfl ?_
    refine pF rfl rfl rfl ?_
    obtain ⟨x11, hc12, h⟩ := h
    refine AOps.call hc12 rfl rfl rfl ⟨.inl rfl, .inl rfl, .inl rfl, trivial⟩ ?_
    obtain ⟨x13, hc14, h⟩ := h
    refine AOps.call hc14 rfl rfl rfl ⟨.inl rfl, .inl rfl, trivial⟩ ?_
    refine AOps.store tabOk (v := .dat (.st _ _)) rfl rfl rfl rfl rfl rfl rfl rfl rfl rfl rfl rfl rfl ?_
    refine AOps.done ?_
    refine AWp.ret ?_
    subst h
    exact ⟨_, rfl, rfl⟩
def W_ival_Mul (x1 : GIval) (y2 : GIval) (Q : GIval → Prop) : Prop :=
  Call (Ev_ival_none ([x1, y2])) fun x3 =>
  Br x3 (
    Call (Ev_ival_Empty) fun x7 =>
    Q x7) (
    Call (Ev_ival_corners x1 y2 Fn_ulp_Mul) fun x9 =>
    Q x9)
theorem walk_ival_Mul {x1 : GIval} {y2 : GIval} {r : GIval} (h : W_ival_Mul x1 y2 (fun r' => r' = r)) : Ev_ival_Mul x1 y2 r := by
  unfold W_ival_Mul at h
  refine AFn.intro' (L := [(0, .dat (GIval.enc x1)), (1, .dat (GIval.enc y2))]) tabOk Try.func47 rfl rfl Try.ntmps47 rfl rfl rfl ?_
  refine AWp.seq ?_
  refine AWp.regionN (fun _ => false) rfl ?_
  refine AOps.box (v := .dat (.st _ _)) rfl rfl rfl rfl rfl rfl ?_
  refine AOps.box (v := .dat (.st _ _)) rfl rfl rfl rfl rfl rfl ?_
  refine AOps.alloc tabOk rfl rfl rfl rfl rfl ?_
  refine AOps.done ?_
  refine AWp.seq ?_
  refine AWp.seq ?_
  refine AWp.regionN (fun _ => false) rfl ?_
  refine pT rfl rfl rfl ?_
  refine pT rfl rfl rfl ?_
  refine AOps.lit tabOk (ys := [GIval.enc x1, GIval.enc y2]) rfl rfl rfl rfl rfl rfl ?_
  obtain ⟨x3, hc4, h⟩ := h
  refine AOps.call hc4 rfl rfl rfl ⟨.inl rfl, trivial⟩ ?_
  refine AOps.done ?_
  refine AWp.cond rfl (fun e => ?_) (fun e => ?_)
  · replace h := h.1 e
    refine AWp.seq ?_
    refine AWp.regionN (fun o => writes o) rfl ?_
    obtain ⟨x7, hc8, h⟩ := h
    refine AOps.call hc8 rfl rfl rfl trivial ?_
    refine AOps.store tabOk (v := .dat (.st _ _)) rfl rfl rfl rfl rfl rfl rfl rfl rfl rfl rfl rfl rfl ?_
    refine AOps.done ?_
    refine AWp.ret ?_
    subst h
    exact ⟨_, rfl, rfl⟩
  · replace h := h.2 e
    refine AWp.skip ?_
    refine AWp.seq ?_
    refine AWp.regionN (fun o => writes o) rfl ?_
    refine pT rfl rfl rfl ?_
    refine pT rfl rfl rfl ?_
    obtain ⟨x9, hc10, h⟩ := h
    refine AOps.call hc10 rfl rfl rfl ⟨.inl rfl, .inl rfl, .inl rfl, trivial⟩ ?_
    refine AOps.store tabOk (v := .dat (.st _ _)) rfl rfl rfl rfl rfl rfl rfl rfl rfl rfl rfl rfl rfl ?_
    refine AOps.done ?_
    refine AWp.ret ?_
    subst h
    exact ⟨_, rfl, rfl⟩
def W_ival_Mag (x1 : GIval) (Q : Nat → Prop) : Prop :=
  Call (Ev_ival_none ([x1])) fun x2 =>
  Br x2 (Q (0 : Nat)) (
    Call (Ev_math_Abs x1.Lo) fun x4 =>
    Call (Ev_math_Abs x1.Hi) fun x6 =>
    FMx x4 x6 fun x8 =>
    Q x8)
theorem walk_ival_Mag {x1 : GIval} {r : Nat} (h : W_ival_Mag x1 (fun r' => r' = r)) : Ev_ival_Mag x1 r := by
  unfold W_ival_Mag at h
  refine AFn.intro' (L := [(0, .dat (GIval.enc x1))]) tabOk Try.func51 rfl rfl Try.ntmps51 rfl rfl rfl ?_
  refine AWp.seq ?_
  refine AWp.regionN (fun _ => false) rfl ?_
  refine AOps.box (v := .dat (.st _ _)) rfl rfl rfl rfl rfl rfl ?_
  refine pF rfl rfl rfl ?_
  refine AOps.done ?_
  refine AWp.seq ?_
  refine AWp.seq ?_
  refine AWp.regionN (fun _ => false) rfl ?_
  refine pT rfl rfl rfl ?_
  refine AOps.lit tabOk (ys := [GIval.enc x1]) rfl rfl rfl rfl rfl rfl ?_
  obtain ⟨x2, hc3, h⟩ := h
  refine AOps.call hc3 rfl rfl rfl ⟨.inl rfl, trivial⟩ ?_
  refine AOps.done ?_
  refine AWp.cond rfl (fun e => ?_) (fun e => ?_)
  · replace h := h.1 e
    refine AWp.seq ?_
    refine AWp.regionN (fun _ => false) rfl ?_
    refine pF rfl rfl rfl ?_
    refine AOps.done ?_
    refine AWp.ret ?_
    subst h
    exact ⟨_, rfl, rfl⟩
  · replace h := h.2 e
    refine AWp.skip ?_
    refine AWp.seq ?_
    refine AWp.regionD (fun _ => false) mixed (by decide +kernel) rfl ?_
    refine pP rfl rfl rfl ?_
    refine pF rfl rfl rfl ?_
    obtain ⟨x4, hc5, h⟩ := h
    refine AOps.call hc5 rfl rfl rfl ⟨.inl rfl, trivial⟩ ?_
    refine pP rfl rfl rfl ?_
    refine pF rfl rfl rfl ?_
    obtain ⟨x6, hc7, h⟩ := h
    refine AOps.call hc7 rfl rfl rfl ⟨.inl rfl, trivial⟩ ?_
    obtain ⟨hq, x8, ex8, h⟩ := h.get
    refine AOps.v rfl rfl (Step.fmax rfl rfl rfl hq ex8) ?_
    refine pF rfl rfl rfl ?_
    refine AOps.done ?_
    refine AWp.ret ?_
    subst h
    exact ⟨_, rfl, rfl⟩
def W_ival_Point (v1 : Nat) (Q : GIval → Prop) : Prop :=
  Call (Ev_ival_Make v1 v1) fun x2 =>
  Q x2
theorem walk_ival_Point {v1 : Nat} {r : GIval} (h : W_ival_Point v1 (fun r' => r' = r)) : Ev_ival_Point v1 r := by
  unfold W_ival_Point at h
  refine AFn.intro' (L := [(0, .dat (.v (.float .f64 v1)))]) tabOk Try.func56 rfl rfl Try.ntmps56 rfl rfl rfl ?_
  refine AWp.seq ?_
  refine AWp.regionN (fun _ => false) rfl ?_
  refine AOps.alloc tabOk rfl rfl rfl rfl rfl ?_
  refine AOps.done ?_
  refine AWp.seq ?_
  refine AWp.regionN (fun o => writes o) rfl ?_
  refine pF rfl rfl rfl ?_
  refine pF rfl rfl rfl ?_
  obtain ⟨x2, hc3, h⟩ := h
  refine AOps.call hc3 rfl rfl rfl ⟨.inl rfl, .inl rfl, trivial⟩ ?_
  refine AOps.store tabOk (v := .dat (.st _ _)) rfl rfl rfl rfl rfl rfl rfl rfl rfl rfl rfl rfl rfl ?_
  refine AOps.done ?_
  refine AWp.ret ?_
  subst h
  exact ⟨_, rfl, rfl⟩
def W_ival_none (l1 : List GIval) (Q : Bool → Prop) : Prop :=
  Loop1 (0 : Int) (fun (x80 : Int) next81 =>
    Br (decide (x80 < ((l1.length : Nat) : Int))) (
      At l1 x80 fun x94 =>
      Call (Ev_ival_Right x94) fun x100 =>
      Br (!x100) (Q true) (
        Call (Ev_ival_Empty) fun x102 =>
        Br (GIval.beq x94 x102) (Q true) (
          Let (IntKind.i64.wrap (x80 + (1 : Int))) fun x104 =>
          next81 x104))) (
      Q false))
theorem walk_ival_none {l1 : List GIval} {r : Bool} (h : W_ival_none l1 (fun r' => r' = r)) : Ev_ival_none l1 r := by
  unfold W_ival_none at h
  refine AFn.intro' (L := [(0, .dat (.sl 36 2 (List.map GIval.enc l1)))]) tabOk Try.func94 rfl rfl Try.ntmps94 rfl rfl rfl ?_
  refine AWp.seq ?_
  refine AWp.regionN (fun _ => false) rfl ?_
  refine pB rfl rfl rfl ?_
  refine AOps.done ?_
  refine AWp.seq ?_
  refine AWp.seq ?_
  refine AWp.regionN (fun _ => false) rfl ?_
  refine pS rfl rfl rfl ?_
  refine AOps.i (j := ((l1.length : Nat) : Int)) tabOk rfl rfl rfl (by first | (rw [List.length_map]; done) | rfl) ?_
  refine pI rfl rfl rfl ?_
  refine AOps.done ?_
  refine AWp.block ?_
  obtain ⟨I105, x106, hz107, hr108⟩ := h
  refine AWp.loop (I := fun p : Int => mkSt [(5, .dat (.sl 36 2 (List.map GIval.enc l1))), (6, .dat (.v (.int .i64 ((l1.length : Nat) : Int)))), (7, .dat (.v (.int .i64 p)))] []) (Inv := fun p => I105 p) (μ := fun p => x106 p) (x0 := (0 : Int)) hz107 (Sub.list (fun i => i) rfl rfl ⟨rfl, rfl, rfl, trivial⟩ trivial) (fun p hp => ?_)
  have h := hr108 p hp
  revert h; clear hp; generalize p = x80; intro h
  refine AWp.seq ?_
  refine AWp.regionN (fun _ => false) rfl ?_
  refine pW rfl rfl rfl ?_
  refine AOps.done ?_
  refine AWp.seq ?_
  refine AWp.cond rfl (fun e => ?_) (fun e => ?_)
  · replace h := h.1 e
    refine AWp.skip ?_
    refine AWp.seq ?_
    refine AWp.block ?_
    refine AWp.seq ?_
    refine AWp.regionN (fun o => writes o) rfl ?_
    obtain ⟨hi93, x94, hx95, h⟩ := h
    refine AOps.idx tabOk (z := GIval.enc x94) rfl rfl rfl rfl rfl rfl rfl rfl hi93 (map_get hx95) ?_
    refine pT rfl rfl rfl ?_
    refine AOps.alloc tabOk rfl rfl rfl rfl rfl ?_
    refine AOps.store tabOk (v := .dat (.st _ _)) rfl rfl rfl rfl rfl rfl rfl rfl rfl rfl rfl rfl rfl ?_
    refine AOps.done ?_
    refine AWp.seq ?_
    refine AWp.regionD (fun _ => false) mixed (by decide +kernel) rfl ?_
    refine pT rfl rfl rfl ?_
    obtain ⟨x100, hc101, h⟩ := h
    refine AOps.call hc101 rfl rfl rfl ⟨.inl rfl, trivial⟩ ?_
    refine pB rfl rfl rfl ?_
    refine pB rfl rfl rfl ?_
    refine AOps.splitB 14 rfl (fun e => ?_) (fun e => ?_)
    · replace h := h.1 e
      refine AOps.off rfl rfl ?_
      refine AOps.off rfl rfl ?_
      refine AOps.off rfl rfl ?_
      refine pB rfl rfl rfl ?_
      refine AOps.done ?_
      refine AWp.condT rfl ?_
      refine AWp.seq ?_
      refine AWp.regionN (fun _ => false) rfl ?_
      refine pB rfl rfl rfl ?_
      refine AOps.done ?_
      refine AWp.ret ?_
      subst h
      exact ⟨_, rfl, rfl⟩
    · replace h := h.2 e
      refine pT rfl rfl rfl ?_
      obtain ⟨x102, hc103, h⟩ := h
      refine AOps.call hc103 rfl rfl rfl trivial ?_
      refine AOps.eqs rfl rfl rfl rfl rfl rfl rfl (by decide +kernel) (GIval.eqok36 _ x94 x102) ?_
      refine pB rfl rfl rfl ?_
      refine AOps.done ?_
      refine AWp.cond rfl (fun e => ?_) (fun e => ?_)
      · replace h := h.1 e
        refine AWp.seq ?_
        refine AWp.regionN (fun _ => false) rfl ?_
        refine pB rfl rfl rfl ?_
        refine AOps.done ?_
        refine AWp.ret ?_
        subst h
        exact ⟨_, rfl, rfl⟩
      · replace h := h.2 e
        refine AWp.skip ?_
        refine AWp.regionN (fun _ => false) rfl ?_
        obtain ⟨x104, ex104, h⟩ := h.get
        refine AOps.i tabOk rfl rfl rfl ex104 ?_
        refine pI rfl rfl rfl ?_
        refine AOps.done ?_
        exact ⟨x104, h.1, h.2, (Sub.list (fun i => i) rfl rfl ⟨rfl, rfl, rfl, trivial⟩ trivial)⟩
  · replace h := h.2 e
    refine AWp.exit ?_
    refine AWp.seq ?_
    refine AWp.regionN (fun _ => false) rfl ?_
    refine pB rfl rfl rfl ?_
    refine AOps.done ?_
    refine AWp.ret ?_
    subst h
    exact ⟨_, rfl, rfl⟩
def W_ival_Empty (Q : GIval → Prop) : Prop :=
  Call (Ev_math_Inf (1 : Int)) fun x1 =>
  Call (Ev_math_Inf (-1 : Int)) fun x3 =>
  Q (GIval.mk x1 x3)
theorem walk_ival_Empty {r : GIval} (h : W_ival_Empty (fun r' => r' = r)) : Ev_ival_Empty r := by
  unfold W_ival_Empty at h
  refine AFn.intro' (L := []) tabOk Try.func95 rfl rfl Try.ntmps95 rfl rfl rfl ?_
  refine AWp.seq ?_
  refine AWp.regionN (fun _ => false) rfl ?_
  refine AOps.alloc tabOk rfl rfl rfl rfl rfl ?_
  refine AOps.done ?_
  refine AWp.seq ?_
  refine AWp.regionN (fun o => writes o) rfl ?_
  obtain ⟨x1, hc2, h⟩ := h
  refine AOps.call hc2 rfl rfl rfl ⟨.inl rfl, trivial⟩ ?_
  obtain ⟨x3, hc4, h⟩ := h
  refine AOps.call hc4 rfl rfl rfl ⟨.inl rfl, trivial⟩ ?_
  refine pT rfl rfl rfl ?_
  refine AOps.store tabOk (v := .dat (.st _ _)) rfl rfl rfl rfl rfl rfl rfl rfl rfl rfl rfl rfl rfl ?_
  refine AOps.done ?_
  refine AWp.ret ?_
  subst h
  exact ⟨_, rfl, rfl⟩
def W_ival_Make (lo1 : Nat) (hi2 : Nat) (Q : GIval → Prop) : Prop :=
  FOp .add lo1 (0 : Nat) fun x3 =>
  FOp .add hi2 (0 : Nat) fun x4 =>
  Call (Ev_ival_Right (GIval.mk x3 x4)) fun x5 =>
  Br (!x5) (
    Call (Ev_ival_Empty) fun x9 =>
    Q x9) (
    Q (GIval.mk x3 x4))
theorem walk_ival_Make {lo1 : Nat} {hi2 : Nat} {r : GIval} (h : W_ival_Make lo1 hi2 (fun r' => r' = r)) : Ev_ival_Make lo1 hi2 r := by
  unfold W_ival_Make at h
  refine AFn.intro' (L := [(0, .dat (.v (.float .f64 lo1))), (1, .dat (.v (.float .f64 hi2)))]) tabOk Try.func97 rfl rfl Try.ntmps97 rfl rfl rfl ?_
  refine AWp.seq ?_
  refine AWp.regionN (fun _ => false) rfl ?_
  refine AOps.alloc tabOk rfl rfl rfl rfl rfl ?_
  refine AOps.done ?_
  refine AWp.seq ?_
  refine AWp.regionN (fun o => writes o) rfl ?_
  refine pF rfl rfl rfl ?_
  obtain ⟨x3, hq, h⟩ := h
  refine AOps.v rfl rfl (Step.flt rfl rfl rfl hq) ?_
  refine pF rfl rfl rfl ?_
  obtain ⟨x4, hq, h⟩ := h
  refine AOps.v rfl rfl (Step.flt rfl rfl rfl hq) ?_
  refine pT rfl rfl rfl ?_
  refine AOps.alloc tabOk rfl rfl rfl rfl rfl ?_
  refine AOps.store tabOk (v := .dat (.st _ _)) rfl rfl rfl rfl rfl rfl rfl rfl rfl rfl rfl rfl rfl ?_
  refine AOps.done ?_
  refine AWp.seq ?_
  refine AWp.seq ?_
  refine AWp.regionN (fun _ => false) rfl ?_
  refine pT rfl rfl rfl ?_
  obtain ⟨x5, hc6, h⟩ := h
  refine AOps.call hc6 rfl rfl rfl ⟨.inl rfl, trivial⟩ ?_
  refine pB rfl rfl rfl ?_
  refine AOps.done ?_
  refine AWp.cond rfl (fun e => ?_) (fun e => ?_)
  · replace h := h.1 e
    refine AWp.seq ?_
    refine AWp.regionN (fun o => writes o) rfl ?_
    obtain ⟨x9, hc10, h⟩ := h
    refine AOps.call hc10 rfl rfl rfl trivial ?_
    refine AOps.store tabOk (v := .dat (.st _ _)) rfl rfl rfl rfl rfl rfl rfl rfl rfl rfl rfl rfl rfl ?_
    refine AOps.done ?_
    refine AWp.ret ?_
    subst h
    exact ⟨_, rfl, rfl⟩
  · replace h := h.2 e
    refine AWp.skip ?_
    refine AWp.seq ?_
    refine AWp.regionN (fun o => writes o) rfl ?_
    refine pT rfl rfl rfl ?_
    refine AOps.store tabOk (v := .dat (.st _ _)) rfl rfl rfl rfl rfl rfl rfl rfl rfl rfl rfl rfl rfl ?_
    refine AOps.done ?_
    refine AWp.ret ?_
    subst h
    exact ⟨_, rfl, rfl⟩
def W_ival_ends (lo1 : Nat) (hi2 : Nat) (Q : GIval → Prop) : Prop :=
  FMn lo1 (9218868437227405311 : Nat) fun x3 =>
  FMx hi2 (18442240474082181119 : Nat) fun x4 =>
  Call (Ev_ival_Make x3 x4) fun x5 =>
  Q x5
theorem walk_ival_ends {lo1 : Nat} {hi2 : Nat} {r : GIval} (h : W_ival_ends lo1 hi2 (fun r' => r' = r)) : Ev_ival_ends lo1 hi2 r := by
  unfold W_ival_ends at h
  refine AFn.intro' (L := [(0, .dat (.v (.float .f64 lo1))), (1, .dat (.v (.float .f64 hi2)))]) tabOk Try.func99 rfl rfl Try.ntmps99 rfl rfl rfl ?_
  refine AWp.seq ?_
  refine AWp.regionN (fun _ => false) rfl ?_
  refine AOps.alloc tabOk rfl rfl rfl rfl rfl ?_
  refine AOps.done ?_
  refine AWp.seq ?_
  refine AWp.regionN (fun o => writes o) rfl ?_
  refine pF rfl rfl rfl ?_
  obtain ⟨hq, x3, ex3, h⟩ := h.get
  refine AOps.v rfl rfl (Step.fmin rfl rfl rfl hq ex3) ?_
  refine pF rfl rfl rfl ?_
  obtain ⟨hq, x4, ex4, h⟩ := h.get
  refine AOps.v rfl rfl (Step.fmax rfl rfl rfl hq ex4) ?_
  obtain ⟨x5, hc6, h⟩ := h
  refine AOps.call hc6 rfl rfl rfl ⟨.inl rfl, .inl rfl, trivial⟩ ?_
  refine AOps.store tabOk (v := .dat (.st _ _)) rfl rfl rfl rfl rfl rfl rfl rfl rfl rfl rfl rfl rfl ?_
  refine AOps.done ?_
  refine AWp.ret ?_
  subst h
  exact ⟨_, rfl, rfl⟩
def W_ival_corners (x1 : GIval) (y2 : GIval) (do3 : DV) (Q : GIval → Prop) : Prop :=
  Call (Ev_math_Inf (1 : Int)) fun x4 =>
  Call (Ev_math_Inf (-1 : Int)) fun x6 =>
  Loop3 x4 x6 (0 : Int) (fun (lo420 : Nat) (hi421 : Nat) (x422 : Int) next423 =>
    Br (decide (x422 < ((([x1.Lo, x1.Hi]).length : Nat) : Int))) (
      At ([x1.Lo, x1.Hi]) x422 fun x490 =>
      Loop3 lo420 hi421 (0 : Int) (fun (lo522 : Nat) (hi523 : Nat) (x524 : Int) next525 =>
        Br (decide (x524 < ((([y2.Lo, y2.Hi]).length : Nat) : Int))) (
          At ([y2.Lo, y2.Hi]) x524 fun x538 =>
          Call (fun x540 : Nat => FVal prog do3 [.v (.float .f64 x490), .v (.float .f64 x538), .v (.int .i64 (-1 : Int))] (.v (.float .f64 x540))) fun x540 =>
          Call (fun x542 : Nat => FVal prog do3 [.v (.float .f64 x490), .v (.float .f64 x538), .v (.int .i64 (1 : Int))] (.v (.float .f64 x542))) fun x542 =>
          Call (Ev_math_IsNaN x540) fun x544 =>
          Br (!x544) (
            FMn lo522 x540 fun x546 =>
            FMx hi523 x542 fun x547 =>
            Let (IntKind.i64.wrap (x524 + (1 : Int))) fun x548 =>
            next525 x546 x547 x548) (
            Let (IntKind.i64.wrap (x524 + (1 : Int))) fun x549 =>
            next525 lo522 hi523 x549)) (
          Let (IntKind.i64.wrap (x422 + (1 : Int))) fun x550 =>
          next423 lo522 hi523 x550))) (
      Call (Ev_ival_ends lo420 hi421) fun x555 =>
      Q x555))
theorem walk_ival_corners {x1 : GIval} {y2 : GIval} {do3 : DV} {r : GIval} (h : W_ival_corners x1 y2 do3 (fun r' => r' = r)) : Ev_ival_corners x1 y2 do3 r := by
  unfold W_ival_corners at h
  refine AFn.intro' (L := [(0, .dat (GIval.enc x1)), (1, .dat (GIval.enc y2)), (2, .dat (do3))]) tabOk Try.func100 rfl rfl Try.ntmps100 rfl rfl rfl ?_
  refine AWp.seq ?_
  refine AWp.regionN (fun _ => false) rfl ?_
  refine AOps.box (v := .dat (.st _ _)) rfl rfl rfl rfl rfl rfl ?_
  refine AOps.box (v := .dat (.st _ _)) rfl rfl rfl rfl rfl rfl ?_
  refine AOps.alloc tabOk rfl rfl rfl rfl rfl ?_
  refine AOps.done ?_
  refine AWp.seq ?_
  refine AWp.regionN (fun _ => false) rfl ?_
  obtain ⟨x4, hc5, h⟩ := h
  refine AOps.call hc5 rfl rfl rfl ⟨.inl rfl, trivial⟩ ?_
  obtain ⟨x6, hc7, h⟩ := h
  refine AOps.call hc7 rfl rfl rfl ⟨.inl rfl, trivial⟩ ?_
  refine pF rfl rfl rfl ?_
  refine pF rfl rfl rfl ?_
  refine AOps.done ?_
  refine AWp.seq ?_
  refine AWp.seq ?_
  refine AWp.regionN (fun _ => false) rfl ?_
  refine pP rfl rfl rfl ?_
  refine pF rfl rfl rfl ?_
  refine pP rfl rfl rfl ?_
  refine pF rfl rfl rfl ?_
  refine AOps.lit tabOk (ys := [.v (.float .f64 x1.Lo), .v (.float .f64 x1.Hi)]) rfl rfl rfl rfl rfl rfl ?_
  refine AOps.i (j := ((([x1.Lo, x1.Hi]).length : Nat) : Int)) tabOk rfl rfl rfl (by first | (rw [List.length_map]; done) | rfl) ?_
  refine pI rfl rfl rfl ?_
  refine AOps.done ?_
  refine AWp.block ?_
  obtain ⟨I557, x558, hz559, hr560⟩ := h
  refine AWp.loop (I := fun p : Nat × Nat × Int => mkSt [(2, .dat (do3)), (4, .pt 4 [] 0), (6, .pt 6 [] 0), (7, .dat (.v (.float .f64 p.1))), (8, .dat (.v (.float .f64 p.2.1))), (21, .dat (.sl 24 1 (List.map (eFlt .f64) [x1.Lo, x1.Hi]))), (22, .dat (.v (.int .i64 ((([x1.Lo, x1.Hi]).length : Nat) : Int)))), (23, .dat (.v (.int .i64 p.2.2)))] [(4, .box 36 2 (.dat (GIval.enc y2))), (6, .box 36 2 (.dat (GIval.enc GIval.zero)))]) (Inv := fun p => I557 p.1 p.2.1 p.2.2) (μ := fun p => x558 p.1 p.2.1 p.2.2) (x0 := ⟨x4, x6, (0 : Int)⟩) hz559 (Sub.list (fun i => i) rfl rfl ⟨rfl, rfl, rfl, rfl, rfl, rfl, rfl, rfl, trivial⟩ ⟨rfl, rfl, trivial⟩) (fun p hp => ?_)
  obtain ⟨lo420, hi421, x422⟩ := p
  have h := hr560 lo420 hi421 x422 hp
  refine AWp.seq ?_
  refine AWp.regionN (fun _ => false) rfl ?_
  refine pW rfl rfl rfl ?_
  refine AOps.done ?_
  refine AWp.seq ?_
  refine AWp.cond rfl (fun e => ?_) (fun e => ?_)
  · replace h := h.1 e
    refine AWp.skip ?_
    refine AWp.seq ?_
    refine AWp.block ?_
    refine AWp.seq ?_
    refine AWp.regionN (fun _ => false) rfl ?_
    obtain ⟨hi489, x490, hx491, h⟩ := h
    refine AOps.idx tabOk (z := .v (.float .f64 x490)) rfl rfl rfl rfl rfl rfl rfl rfl hi489 (map_get hx491) ?_
    refine pF rfl rfl rfl ?_
    refine pF rfl rfl rfl ?_
    refine AOps.done ?_
    refine AWp.seq ?_
    refine AWp.regionN (fun _ => false) rfl ?_
    refine pP rfl rfl rfl ?_
    refine pF rfl rfl rfl ?_
    refine pP rfl rfl rfl ?_
    refine pF rfl rfl rfl ?_
    refine AOps.lit tabOk (ys := [.v (.float .f64 y2.Lo), .v (.float .f64 y2.Hi)]) rfl rfl rfl rfl rfl rfl ?_
    refine AOps.i (j := ((([y2.Lo, y2.Hi]).length : Nat) : Int)) tabOk rfl rfl rfl (by first | (rw [List.length_map]; done) | rfl) ?_
    refine pI rfl rfl rfl ?_
    refine AOps.done ?_
    refine AWp.block ?_
    obtain ⟨I551, x552, hz553, hr554⟩ := h
    refine AWp.loop (I := fun p : Nat × Nat × Int => mkSt [(2, .dat (do3)), (4, .pt 4 [] 0), (6, .pt 6 [] 0), (7, .dat (.v (.float .f64 p.1))), (8, .dat (.v (.float .f64 p.2.1))), (10, .dat (.v (.float .f64 x490))), (21, .dat (.sl 24 1 (List.map (eFlt .f64) [x1.Lo, x1.Hi]))), (22, .dat (.v (.int .i64 ((([x1.Lo, x1.Hi]).length : Nat) : Int)))), (23, .dat (.v (.int .i64 x422))), (31, .dat (.sl 24 1 (List.map (eFlt .f64) [y2.Lo, y2.Hi]))), (32, .dat (.v (.int .i64 ((([y2.Lo, y2.Hi]).length : Nat) : Int)))), (33, .dat (.v (.int .i64 p.2.2)))] [(4, .box 36 2 (.dat (GIval.enc y2))), (6, .box 36 2 (.dat (GIval.enc GIval.zero)))]) (Inv := fun p => I551 p.1 p.2.1 p.2.2) (μ := fun p => x552 p.1 p.2.1 p.2.2) (x0 := ⟨lo420, hi421, (0 : Int)⟩) hz553 (Sub.list (fun i => i) rfl rfl ⟨rfl, rfl, rfl, rfl, rfl, rfl, rfl, rfl, rfl, rfl, rfl, rfl, trivial⟩ ⟨rfl, rfl, trivial⟩) (fun p hp => ?_)
    obtain ⟨lo522, hi523, x524⟩ := p
    have h := hr554 lo522 hi523 x524 hp
    refine AWp.seq ?_
    refine AWp.regionN (fun _ => false) rfl ?_
    refine pW rfl rfl rfl ?_
    refine AOps.done ?_
    refine AWp.seq ?_
    refine AWp.cond rfl (fun e => ?_) (fun e => ?_)
    · replace h := h.1 e
      refine AWp.skip ?_
      refine AWp.seq ?_
      refine AWp.block ?_
      refine AWp.seq ?_
      refine AWp.regionN (fun _ => false) rfl ?_
      obtain ⟨hi537, x538, hx539, h⟩ := h
      refine AOps.idx tabOk (z := .v (.float .f64 x538)) rfl rfl rfl rfl rfl rfl rfl rfl hi537 (map_get hx539) ?_
      refine pF rfl rfl rfl ?_
      refine pF rfl rfl rfl ?_
      refine AOps.done ?_
      refine AWp.seq ?_
      refine AWp.regionN (fun _ => false) rfl ?_
      refine AOps.mv rfl rfl (.inl rfl) rfl ?_
      refine pF rfl rfl rfl ?_
      refine pF rfl rfl rfl ?_
      obtain ⟨x540, hc541, h⟩ := h
      refine AOps.callv hc541 rfl rfl rfl rfl ⟨.inl rfl, .inl rfl, .inl rfl, trivial⟩ ?_
      refine AOps.mv rfl rfl (.inl rfl) rfl ?_
      refine pF rfl rfl rfl ?_
      refine pF rfl rfl rfl ?_
      obtain ⟨x542, hc543, h⟩ := h
      refine AOps.callv hc543 rfl rfl rfl rfl ⟨.inl rfl, .inl rfl, .inl rfl, trivial⟩ ?_
      refine pF rfl rfl rfl ?_
      refine pF rfl rfl rfl ?_
      refine AOps.done ?_
      refine AWp.seq ?_
      refine AWp.regionN (fun _ => false) rfl ?_
      refine pF rfl rfl rfl ?_
      obtain ⟨x544, hc545, h⟩ := h
      refine AOps.call hc545 rfl rfl rfl ⟨.inl rfl, trivial⟩ ?_
      refine pB rfl rfl rfl ?_
      refine AOps.done ?_
      refine AWp.cond rfl (fun e => ?_) (fun e => ?_)
      · replace h := h.1 e
        refine AWp.regionN (fun _ => false) rfl ?_
        refine pF rfl rfl rfl ?_
        refine pF rfl rfl rfl ?_
        obtain ⟨hq, x546, ex546, h⟩ := h.get
        refine AOps.v rfl rfl (Step.fmin rfl rfl rfl hq ex546) ?_
        refine pF rfl rfl rfl ?_
        refine pF rfl rfl rfl ?_
        obtain ⟨hq, x547, ex547, h⟩ := h.get
        refine AOps.v rfl rfl (Step.fmax rfl rfl rfl hq ex547) ?_
        refine pF rfl rfl rfl ?_
        refine pF rfl rfl rfl ?_
        refine AOps.done ?_
        refine AWp.regionN (fun _ => false) rfl ?_
        obtain ⟨x548, ex548, h⟩ := h.get
        refine AOps.i tabOk rfl rfl rfl ex548 ?_
        refine pI rfl rfl rfl ?_
        refine AOps.done ?_
        exact ⟨⟨x546, x547, x548⟩, h.1, h.2, (Sub.list (fun i => i) rfl rfl ⟨rfl, rfl, rfl, rfl, rfl, rfl, rfl, rfl, rfl, rfl, rfl, rfl, trivial⟩ ⟨rfl, rfl, trivial⟩)⟩
      · replace h := h.2 e
        refine AWp.skip ?_
        refine AWp.regionN (fun _ => false) rfl ?_
        obtain ⟨x549, ex549, h⟩ := h.get
        refine AOps.i tabOk rfl rfl rfl ex549 ?_
        refine pI rfl rfl rfl ?_
        refine AOps.done ?_
        exact ⟨⟨lo522, hi523, x549⟩, h.1, h.2, (Sub.list (fun i => i) rfl rfl ⟨rfl, rfl, rfl, rfl, rfl, rfl, rfl, rfl, rfl, rfl, rfl, rfl, trivial⟩ ⟨rfl, rfl, trivial⟩)⟩
    · replace h := h.2 e
      refine AWp.exit ?_
      refine AWp.regionN (fun _ => false) rfl ?_
      obtain ⟨x550, ex550, h⟩ := h.get
      refine AOps.i tabOk rfl rfl rfl ex550 ?_
      refine pI rfl rfl rfl ?_
      refine AOps.done ?_
      exact ⟨⟨lo522, hi523, x550⟩, h.1, h.2, (Sub.list (fun i => i) rfl rfl ⟨rfl, rfl, rfl, rfl, rfl, rfl, rfl, rfl, trivial⟩ ⟨rfl, rfl, trivial⟩)⟩
  · replace h := h.2 e
    refine AWp.exit ?_
    refine AWp.seq ?_
    refine AWp.regionN (fun o => writes o) rfl ?_
    refine pF rfl rfl rfl ?_
    refine pF rfl rfl rfl ?_
    obtain ⟨x555, hc556, h⟩ := h
    refine AOps.call hc556 rfl rfl rfl ⟨.inl rfl, .inl rfl, trivial⟩ ?_
    refine AOps.store tabOk (v := .dat (.st _ _)) rfl rfl rfl rfl rfl rfl rfl rfl rfl rfl rfl rfl rfl ?_
    refine AOps.done ?_
    refine AWp.ret ?_
    subst h
    exact ⟨_, rfl, rfl⟩
def W_ival_Right (x1 : GIval) (Q : Bool → Prop) : Prop :=
  Call (Ev_ival_Empty) fun x12 =>
  Br (GIval.beq x1 x12) (Q true) (
    Br ((FloatKind.f64.format.order x1.Lo x1.Hi == some .lt) || (FloatKind.f64.format.order x1.Lo x1.Hi == some .eq)) (
      Call (Ev_math_Inf (1 : Int)) fun x14 =>
      Br (FloatKind.f64.format.order x1.Lo x14 == some .lt) (
        Call (Ev_math_Inf (-1 : Int)) fun x16 =>
        Br (FloatKind.f64.format.order x1.Hi x16 == some .gt) (
          Call (Ev_ival_plus x1.Lo) fun x18 =>
          Br x18 (
            Call (Ev_ival_plus x1.Hi) fun x20 =>
            Q x20) (
            Q false)) (
          Q false)) (
        Q false)) (
      Q false))
theorem walk_ival_Right {x1 : GIval} {r : Bool} (h : W_ival_Right x1 (fun r' => r' = r)) : Ev_ival_Right x1 r := by
  unfold W_ival_Right at h
  refine AFn.intro' (L := [(0, .dat (GIval.enc x1))]) tabOk Try.func115 rfl rfl Try.ntmps115 rfl rfl rfl ?_
  refine AWp.seq ?_
  refine AWp.regionN (fun _ => false) rfl ?_
  refine AOps.box (v := .dat (.st _ _)) rfl rfl rfl rfl rfl rfl ?_
  refine pB rfl rfl rfl ?_
  refine AOps.done ?_
  refine AWp.seq ?_
  refine AWp.regionD (fun _ => false) mixed (by decide +kernel) rfl ?_
  refine pT rfl rfl rfl ?_
  obtain ⟨x12, hc13, h⟩ := h
  refine AOps.call hc13 rfl rfl rfl trivial ?_
  refine AOps.eqs rfl rfl rfl rfl rfl rfl rfl (by decide +kernel) (GIval.eqok36 _ x1 x12) ?_
  refine pB rfl rfl rfl ?_
  refine AOps.splitB 6 rfl (fun e => ?_) (fun e => ?_)
  · replace h := h.1 e
    refine AOps.off rfl rfl ?_
    refine AOps.off rfl rfl ?_
    refine AOps.off rfl rfl ?_
    refine AOps.off rfl rfl ?_
    refine AOps.off rfl rfl ?_
    refine AOps.off rfl rfl ?_
    refine AOps.off rfl rfl ?_
    refine AOps.off rfl rfl ?_
    refine AOps.off rfl rfl ?_
    refine AOps.off rfl rfl ?_
    refine AOps.off rfl rfl ?_
    refine AOps.off rfl rfl ?_
    refine AOps.off rfl rfl ?_
    refine AOps.off rfl rfl ?_
    refine AOps.off rfl rfl ?_
    refine AOps.off rfl rfl ?_
    refine AOps.off rfl rfl ?_
    refine AOps.off rfl rfl ?_
    refine AOps.off rfl rfl ?_
    refine AOps.off rfl rfl ?_
    refine AOps.off rfl rfl ?_
    refine AOps.off rfl rfl ?_
    refine AOps.off rfl rfl ?_
    refine AOps.off rfl rfl ?_
    refine AOps.off rfl rfl ?_
    refine AOps.off rfl rfl ?_
    refine AOps.off rfl rfl ?_
    refine pB rfl rfl rfl ?_
    refine pB rfl rfl rfl ?_
    refine AOps.done ?_
    refine AWp.ret ?_
    subst h
    exact ⟨_, rfl, rfl⟩
  · replace h := h.2 e
    refine pP rfl rfl rfl ?_
    refine pF rfl rfl rfl ?_
    refine pP rfl rfl rfl ?_
    refine pF rfl rfl rfl ?_
    refine pB rfl rfl rfl ?_
    refine pB rfl rfl rfl ?_
    refine AOps.splitB 12 rfl (fun e => ?_) (fun e => ?_)
    · replace h := h.1 e
      refine pP rfl rfl rfl ?_
      refine pF rfl rfl rfl ?_
      obtain ⟨x14, hc15, h⟩ := h
      refine AOps.call hc15 rfl rfl rfl ⟨.inl rfl, trivial⟩ ?_
      refine pB rfl rfl rfl ?_
      refine pB rfl rfl rfl ?_
      refine pB rfl rfl rfl ?_
      refine AOps.splitB 18 rfl (fun e => ?_) (fun e => ?_)
      · replace h := h.1 e
        refine pP rfl rfl rfl ?_
        refine pF rfl rfl rfl ?_
        obtain ⟨x16, hc17, h⟩ := h
        refine AOps.call hc17 rfl rfl rfl ⟨.inl rfl, trivial⟩ ?_
        refine pB rfl rfl rfl ?_
        refine pB rfl rfl rfl ?_
        refine pB rfl rfl rfl ?_
        refine AOps.splitB 24 rfl (fun e => ?_) (fun e => ?_)
        · replace h := h.1 e
          refine pP rfl rfl rfl ?_
          refine pF rfl rfl rfl ?_
          obtain ⟨x18, hc19, h⟩ := h
          refine AOps.call hc19 rfl rfl rfl ⟨.inl rfl, trivial⟩ ?_
          refine pB rfl rfl rfl ?_
          refine pB rfl rfl rfl ?_
          refine AOps.splitB 29 rfl (fun e => ?_) (fun e => ?_)
          · replace h := h.1 e
            refine pP rfl rfl rfl ?_
            refine pF rfl rfl rfl ?_
            obtain ⟨x20, hc21, h⟩ := h
            refine AOps.call hc21 rfl rfl rfl ⟨.inl rfl, trivial⟩ ?_
            refine pB rfl rfl rfl ?_
            refine pB rfl rfl rfl ?_
            refine pB rfl rfl rfl ?_
            refine AOps.done ?_
            refine AWp.ret ?_
            subst h
            exact ⟨_, rfl, rfl⟩
          · replace h := h.2 e
            refine AOps.off rfl rfl ?_
            refine AOps.off rfl rfl ?_
            refine AOps.off rfl rfl ?_
            refine pB rfl rfl rfl ?_
            refine pB rfl rfl rfl ?_
            refine pB rfl rfl rfl ?_
            refine AOps.done ?_
            refine AWp.ret ?_
            subst h
            exact ⟨_, rfl, rfl⟩
        · replace h := h.2 e
          refine AOps.off rfl rfl ?_
          refine AOps.off rfl rfl ?_
          refine AOps.off rfl rfl ?_
          refine pB rfl rfl rfl ?_
          refine pB rfl rfl rfl ?_
          refine AOps.off rfl rfl ?_
          refine AOps.off rfl rfl ?_
          refine AOps.off rfl rfl ?_
          refine pB rfl rfl rfl ?_
          refine pB rfl rfl rfl ?_
          refine pB rfl rfl rfl ?_
          refine AOps.done ?_
          refine AWp.ret ?_
          subst h
          exact ⟨_, rfl, rfl⟩
      · replace h := h.2 e
        refine AOps.off rfl rfl ?_
        refine AOps.off rfl rfl ?_
        refine AOps.off rfl rfl ?_
        refine AOps.off rfl rfl ?_
        refine pB rfl rfl rfl ?_
        refine pB rfl rfl rfl ?_
        refine AOps.off rfl rfl ?_
        refine AOps.off rfl rfl ?_
        refine AOps.off rfl rfl ?_
        refine pB rfl rfl rfl ?_
        refine pB rfl rfl rfl ?_
        refine AOps.off rfl rfl ?_
        refine AOps.off rfl rfl ?_
        refine AOps.off rfl rfl ?_
        refine pB rfl rfl rfl ?_
        refine pB rfl rfl rfl ?_
        refine pB rfl rfl rfl ?_
        refine AOps.done ?_
        refine AWp.ret ?_
        subst h
        exact ⟨_, rfl, rfl⟩
    · replace h := h.2 e
      refine AOps.off rfl rfl ?_
      refine AOps.off rfl rfl ?_
      refine AOps.off rfl rfl ?_
      refine AOps.off rfl rfl ?_
      refine pB rfl rfl rfl ?_
      refine pB rfl rfl rfl ?_
      refine AOps.off rfl rfl ?_
      refine AOps.off rfl rfl ?_
      refine AOps.off rfl rfl ?_
      refine AOps.off rfl rfl ?_
      refine pB rfl rfl rfl ?_
      refine pB rfl rfl rfl ?_
      refine AOps.off rfl rfl ?_
      refine AOps.off rfl rfl ?_
      refine AOps.off rfl rfl ?_
      refine pB rfl rfl rfl ?_
      refine pB rfl rfl rfl ?_
      refine AOps.off rfl rfl ?_
      refine AOps.off rfl rfl ?_
      refine AOps.off rfl rfl ?_
      refine pB rfl rfl rfl ?_
      refine pB rfl rfl rfl ?_
      refine pB rfl rfl rfl ?_
      refine AOps.done ?_
      refine AWp.ret ?_
      subst h
      exact ⟨_, rfl, rfl⟩
def W_ival_plus (v1 : Nat) (Q : Bool → Prop) : Prop :=
  Br (FloatKind.f64.format.order v1 (0 : Nat) != some .eq) (Q true) (
    Call (Ev_math_Signbit v1) fun x4 =>
    Q (!x4))
theorem walk_ival_plus {v1 : Nat} {r : Bool} (h : W_ival_plus v1 (fun r' => r' = r)) : Ev_ival_plus v1 r := by
  unfold W_ival_plus at h
  refine AFn.intro' (L := [(0, .dat (.v (.float .f64 v1)))]) tabOk Try.func160 rfl rfl Try.ntmps160 rfl rfl rfl ?_
  refine AWp.seq ?_
  refine AWp.regionN (fun _ => false) rfl ?_
  refine pB rfl rfl rfl ?_
  refine AOps.done ?_
  refine AWp.seq ?_
  refine AWp.regionN (fun _ => false) rfl ?_
  refine pF rfl rfl rfl ?_
  refine pB rfl rfl rfl ?_
  refine pB rfl rfl rfl ?_
  refine AOps.splitB 5 rfl (fun e => ?_) (fun e => ?_)
  · replace h := h.1 e
    refine AOps.off rfl rfl ?_
    refine AOps.off rfl rfl ?_
    refine AOps.off rfl rfl ?_
    refine pB rfl rfl rfl ?_
    refine pB rfl rfl rfl ?_
    refine AOps.done ?_
    refine AWp.ret ?_
    subst h
    exact ⟨_, rfl, rfl⟩
  · replace h := h.2 e
    refine pF rfl rfl rfl ?_
    obtain ⟨x4, hc5, h⟩ := h
    refine AOps.call hc5 rfl rfl rfl ⟨.inl rfl, trivial⟩ ?_
    refine pB rfl rfl rfl ?_
    refine pB rfl rfl rfl ?_
    refine pB rfl rfl rfl ?_
    refine AOps.done ?_
    refine AWp.ret ?_
    subst h
    exact ⟨_, rfl, rfl⟩
end Go.Sim.Ytlglkgineclggaa
