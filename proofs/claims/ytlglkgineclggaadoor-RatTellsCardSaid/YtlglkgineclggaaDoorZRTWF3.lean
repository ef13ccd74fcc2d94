/- What is proved: functions of the program compute what plain statements tell. -/
import Derived.Test.YtlglkgineclggaaDoorZRTWE
namespace Go.Sim.YtlglkgineclggaaDoor
open Go.RowKit Go.Proofs Go.Proofs.Tryd
set_option maxRecDepth 100000
def W_rat_Hold (x1 : GRat) (Q : GIval → Prop) : Prop :=
  Call (Ev_rat_Right x1) fun x2 =>
  Br (!x2) (
    Call (Ev_ival_Empty) fun x6 =>
    Q x6) (
    Br (x1.N == (0 : Int)) (Q GIval.zero) (
      Call (Ev_rat_size x1.N) fun x8 =>
      Let (IntKind.u64.wrap x1.D) fun x10 =>
      Call (Ev_math_bits_LeadingZeros64 x8) fun x11 =>
      Call (Ev_math_bits_LeadingZeros64 x10) fun x13 =>
      Nn x11 <|
      Let (IntKind.u64.wrap (x8 * 2 ^ (min (Int.toNat x11) 64))) fun x15 =>
      Nn x13 <|
      Let (IntKind.u64.wrap (x10 * 2 ^ (min (Int.toNat x13) 64))) fun x16 =>
      Let (Int.fdiv x15 (2 ^ 2)) fun x17 =>
      Let (IntKind.u64.wrap (x15 * 2 ^ 62)) fun x18 =>
      Call (Ev_math_bits_Div64 x17 x18 x16) fun x19 =>
      Let (IntKind.u64.wrap (x19.1 * 2 ^ 1)) fun x21 =>
      Join1 (fun j24 =>
        Br (decide (x19.2 > (0 : Int))) (
          Let (bits .or .u64 x21 (1 : Int)) fun x25 =>
          j24 x25) (
          j24 x21)
      ) (fun (x23 : Int) =>
        Let (IntKind.i64.wrap (x13 - x11)) fun x26 =>
        Let (IntKind.i64.wrap (x26 - (63 : Int))) fun x27 =>
        Call (Ev_ulp_Round (GParts.mk (decide (x1.N < (0 : Int))) x23 x27) (-1 : Int)) fun x28 =>
        Call (Ev_ulp_Round (GParts.mk (decide (x1.N < (0 : Int))) x23 x27) (1 : Int)) fun x30 =>
        Call (Ev_ival_Make x28 x30) fun x32 =>
        Q x32)))
theorem walk_rat_Hold {x1 : GRat} {r : GIval} (h : W_rat_Hold x1 (fun r' => r' = r)) : Ev_rat_Hold x1 r := by
  unfold W_rat_Hold at h
  refine AFn.intro' (L := [(0, .dat (GRat.enc x1))]) tabOk Tryd.func8 rfl rfl Tryd.ntmps8 rfl rfl rfl ?_
  refine AWp.seq ?_
  refine AWp.regionN (fun _ => false) rfl ?_
  refine AOps.box (v := .dat (.st _ _)) rfl rfl rfl rfl rfl rfl ?_
  refine AOps.alloc tabOk rfl rfl rfl rfl rfl ?_
  refine AOps.done ?_
  refine AWp.seq ?_
  refine AWp.seq ?_
  refine AWp.regionN (fun _ => false) rfl ?_
  refine pT rfl rfl rfl ?_
  obtain ⟨x2, hc3, h⟩ := h
  refine AOps.call hc3 rfl rfl rfl ⟨.inl rfl, trivial⟩ ?_
  refine pB rfl rfl rfl ?_
  refine AOps.done ?_
  refine AWp.cond rfl (fun e => ?_) (fun e => ?_)
  · replace h := h.1 e
    refine AWp.seq ?_
    refine AWp.regionN (fun o => writes o) rfl ?_
    obtain ⟨x6, hc7, h⟩ := h
    refine AOps.call hc7 rfl rfl rfl trivial ?_
    refine AOps.store tabOk (v := .dat (.st _ _)) rfl rfl rfl rfl rfl rfl rfl rfl rfl rfl rfl rfl rfl ?_
    refine AOps.done ?_
    refine AWp.ret ?_
    subst h
    exact ⟨_, rfl, rfl⟩
  · replace h := h.2 e
    refine AWp.skip ?_
    refine AWp.seq ?_
    refine AWp.seq ?_
    refine AWp.regionN (fun _ => false) rfl ?_
    refine pP rfl rfl rfl ?_
    refine pI rfl rfl rfl ?_
    refine pB rfl rfl rfl ?_
    refine AOps.done ?_
    refine AWp.cond rfl (fun e => ?_) (fun e => ?_)
    · replace h := h.1 e
      refine AWp.seq ?_
      refine AWp.regionN (fun o => writes o) rfl ?_
      refine pT rfl rfl rfl ?_
      refine AOps.store tabOk (v := .dat (.st _ _)) rfl rfl rfl rfl rfl rfl rfl rfl rfl rfl rfl rfl rfl ?_
      refine AOps.done ?_
      refine AWp.ret ?_
      subst h
      exact ⟨_, rfl, rfl⟩
    · replace h := h.2 e
      refine AWp.skip ?_
      refine AWp.seq ?_
      refine AWp.regionD (fun _ => false) mixed (by decide +kernel) rfl ?_
      refine pP rfl rfl rfl ?_
      refine pI rfl rfl rfl ?_
      obtain ⟨x8, hc9, h⟩ := h
      refine AOps.call hc9 rfl rfl rfl ⟨.inl rfl, trivial⟩ ?_
      refine pP rfl rfl rfl ?_
      refine pI rfl rfl rfl ?_
      obtain ⟨x10, ex10, h⟩ := h.get
      refine AOps.i tabOk rfl rfl rfl ex10 ?_
      refine pI rfl rfl rfl ?_
      refine pI rfl rfl rfl ?_
      refine AOps.done ?_
      refine AWp.seq ?_
      refine AWp.regionN (fun _ => false) rfl ?_
      refine pI rfl rfl rfl ?_
      obtain ⟨x11, hc12, h⟩ := h
      refine AOps.call hc12 rfl rfl rfl ⟨.inl rfl, trivial⟩ ?_
      refine pI rfl rfl rfl ?_
      obtain ⟨x13, hc14, h⟩ := h
      refine AOps.call hc14 rfl rfl rfl ⟨.inl rfl, trivial⟩ ?_
      refine pI rfl rfl rfl ?_
      refine pI rfl rfl rfl ?_
      refine AOps.done ?_
      refine AWp.seq ?_
      refine AWp.regionD (fun _ => false) mixed (by decide +kernel) rfl ?_
      refine pI rfl rfl rfl ?_
      refine pI rfl rfl rfl ?_
      obtain ⟨hq, h⟩ := h
      obtain ⟨x15, ex15, h⟩ := h.get
      refine AOps.q rfl rfl rfl rfl rfl (rbin_shl hq) ex15 ?_
      refine pI rfl rfl rfl ?_
      refine pI rfl rfl rfl ?_
      obtain ⟨hq, h⟩ := h
      obtain ⟨x16, ex16, h⟩ := h.get
      refine AOps.q rfl rfl rfl rfl rfl (rbin_shl hq) ex16 ?_
      refine pI rfl rfl rfl ?_
      refine pI rfl rfl rfl ?_
      refine AOps.done ?_
      refine AWp.seq ?_
      refine AWp.regionN (fun _ => false) rfl ?_
      refine pI rfl rfl rfl ?_
      obtain ⟨x17, ex17, h⟩ := h.get
      refine AOps.q rfl rfl rfl rfl rfl (rbin_shr (by decide)) ex17 ?_
      refine pI rfl rfl rfl ?_
      obtain ⟨x18, ex18, h⟩ := h.get
      refine AOps.q rfl rfl rfl rfl rfl (rbin_shl (by decide)) ex18 ?_
      refine pI rfl rfl rfl ?_
      obtain ⟨x19, hc20, h⟩ := h
      refine AOps.call hc20 rfl rfl rfl ⟨.inl rfl, .inl rfl, .inl rfl, trivial⟩ ?_
      refine pU rfl rfl rfl ?_
      refine pI rfl rfl rfl ?_
      refine pI rfl rfl rfl ?_
      refine pI rfl rfl rfl ?_
      refine pI rfl rfl rfl ?_
      refine AOps.done ?_
      refine AWp.seq ?_
      refine AWp.regionN (fun _ => false) rfl ?_
      refine pI rfl rfl rfl ?_
      obtain ⟨x21, ex21, h⟩ := h.get
      refine AOps.q rfl rfl rfl rfl rfl (rbin_shl (by decide)) ex21 ?_
      refine pI rfl rfl rfl ?_
      refine AOps.done ?_
      refine AWp.seq ?_
      refine AWp.seq ?_
      refine AWp.regionN (fun _ => false) rfl ?_
      refine pI rfl rfl rfl ?_
      refine pB rfl rfl rfl ?_
      refine AOps.done ?_
      obtain ⟨J34, hj35, hk36⟩ := h
      refine AWp.cutK (I := fun p : Int => mkSt [(1, .pt 1 [] 0), (2, .pt 2 [] 0), (5, .dat (.v (.int .i64 x11))), (6, .dat (.v (.int .i64 x13))), (11, .dat (.v (.int .u64 p)))] [(1, .box 23 2 (.dat (GRat.enc x1))), (2, .box 28 2 (.dat (GIval.enc GIval.zero)))]) (Inv := fun p : Int => J34 p) ?_ (fun p hp => ?_)
      · have h := hj35
        refine AWp.cond rfl (fun e => ?_) (fun e => ?_)
        · replace h := h.1 e
          refine AWp.regionN (fun _ => false) rfl ?_
          refine pI rfl rfl rfl ?_
          obtain ⟨x25, ex25, h⟩ := h.get
          refine AOps.i tabOk rfl rfl rfl ex25 ?_
          refine pI rfl rfl rfl ?_
          refine AOps.done ?_
          exact ⟨x25, h, (Sub.list (fun i => i) rfl rfl ⟨rfl, rfl, rfl, rfl, rfl, trivial⟩ ⟨rfl, rfl, trivial⟩)⟩
        · replace h := h.2 e
          refine AWp.skip ?_
          exact ⟨x21, h, (Sub.list (fun i => i) rfl rfl ⟨rfl, rfl, rfl, rfl, rfl, trivial⟩ ⟨rfl, rfl, trivial⟩)⟩
      · have h := hk36 p hp
        revert h; clear hp; generalize p = x23; intro h
        refine AWp.seq ?_
        refine AWp.regionN (fun o => writes o) rfl ?_
        refine pP rfl rfl rfl ?_
        refine pI rfl rfl rfl ?_
        refine pB rfl rfl rfl ?_
        refine pI rfl rfl rfl ?_
        refine pI rfl rfl rfl ?_
        refine pI rfl rfl rfl ?_
        obtain ⟨x26, ex26, h⟩ := h.get
        refine AOps.i tabOk rfl rfl rfl ex26 ?_
        obtain ⟨x27, ex27, h⟩ := h.get
        refine AOps.i tabOk rfl rfl rfl ex27 ?_
        refine pT rfl rfl rfl ?_
        refine AOps.alloc tabOk rfl rfl rfl rfl rfl ?_
        refine AOps.store tabOk (v := .dat (.st _ _)) rfl rfl rfl rfl rfl rfl rfl rfl rfl rfl rfl rfl rfl ?_
        refine AOps.done ?_
        refine AWp.seq ?_
        refine AWp.regionD (fun o => writes o) mixed (by decide +kernel) rfl ?_
        refine pT rfl rfl rfl ?_
        obtain ⟨x28, hc29, h⟩ := h
        refine AOps.call hc29 rfl rfl rfl ⟨.inl rfl, .inl rfl, trivial⟩ ?_
        refine pT rfl rfl rfl ?_
        obtain ⟨x30, hc31, h⟩ := h
        refine AOps.call hc31 rfl rfl rfl ⟨.inl rfl, .inl rfl, trivial⟩ ?_
        obtain ⟨x32, hc33, h⟩ := h
        refine AOps.call hc33 rfl rfl rfl ⟨.inl rfl, .inl rfl, trivial⟩ ?_
        refine AOps.store tabOk (v := .dat (.st _ _)) rfl rfl rfl rfl rfl rfl rfl rfl rfl rfl rfl rfl rfl ?_
        refine AOps.done ?_
        refine AWp.ret ?_
        subst h
        exact ⟨_, rfl, rfl⟩
def W_rat_Right (a1 : GRat) (Q : Bool → Prop) : Prop :=
  Br (decide (a1.D ≥ (1 : Int))) (
    Br (decide (a1.N > (-9223372036854775808 : Int))) (
      Call (Ev_rat_size a1.N) fun x8 =>
      Call (Ev_rat_size a1.D) fun x10 =>
      Call (Ev_rat_gcd x8 x10) fun x12 =>
      Q (x12 == (1 : Int))) (
      Q false)) (
    Q false)
theorem walk_rat_Right {a1 : GRat} {r : Bool} (h : W_rat_Right a1 (fun r' => r' = r)) : Ev_rat_Right a1 r := by
  unfold W_rat_Right at h
  refine AFn.intro' (L := [(0, .dat (GRat.enc a1))]) tabOk Tryd.func12 rfl rfl Tryd.ntmps12 rfl rfl rfl ?_
  refine AWp.seq ?_
  refine AWp.regionN (fun _ => false) rfl ?_
  refine AOps.box (v := .dat (.st _ _)) rfl rfl rfl rfl rfl rfl ?_
  refine pB rfl rfl rfl ?_
  refine AOps.done ?_
  refine AWp.seq ?_
  refine AWp.regionD (fun _ => false) mixed (by decide +kernel) rfl ?_
  refine pP rfl rfl rfl ?_
  refine pI rfl rfl rfl ?_
  refine pB rfl rfl rfl ?_
  refine pB rfl rfl rfl ?_
  refine AOps.splitB 6 rfl (fun e => ?_) (fun e => ?_)
  · replace h := h.1 e
    refine pP rfl rfl rfl ?_
    refine pI rfl rfl rfl ?_
    refine pB rfl rfl rfl ?_
    refine pB rfl rfl rfl ?_
    refine pB rfl rfl rfl ?_
    refine AOps.splitB 11 rfl (fun e => ?_) (fun e => ?_)
    · replace h := h.1 e
      refine pP rfl rfl rfl ?_
      refine pI rfl rfl rfl ?_
      obtain ⟨x8, hc9, h⟩ := h
      refine AOps.call hc9 rfl rfl rfl ⟨.inl rfl, trivial⟩ ?_
      refine pP rfl rfl rfl ?_
      refine pI rfl rfl rfl ?_
      obtain ⟨x10, hc11, h⟩ := h
      refine AOps.call hc11 rfl rfl rfl ⟨.inl rfl, trivial⟩ ?_
      obtain ⟨x12, hc13, h⟩ := h
      refine AOps.call hc13 rfl rfl rfl ⟨.inl rfl, .inl rfl, trivial⟩ ?_
      refine pB rfl rfl rfl ?_
      refine pB rfl rfl rfl ?_
      refine pB rfl rfl rfl ?_
      refine AOps.done ?_
      refine AWp.ret ?_
      subst h
      exact ⟨_, rfl, rfl⟩
    · replace h := h.2 e
      refine AOps.off rfl rfl ?_
      refine AOps.off rfl rfl ?_
      refine AOps.off rfl rfl ?_
      refine AOps.off rfl rfl ?_
      refine AOps.off rfl rfl ?_
      refine AOps.off rfl rfl ?_
      refine AOps.off rfl rfl ?_
      refine AOps.off rfl rfl ?_
      refine pB rfl rfl rfl ?_
      refine pB rfl rfl rfl ?_
      refine AOps.done ?_
      refine AWp.ret ?_
      subst h
      exact ⟨_, rfl, rfl⟩
  · replace h := h.2 e
    refine AOps.off rfl rfl ?_
    refine AOps.off rfl rfl ?_
    refine AOps.off rfl rfl ?_
    refine pB rfl rfl rfl ?_
    refine pB rfl rfl rfl ?_
    refine AOps.off rfl rfl ?_
    refine AOps.off rfl rfl ?_
    refine AOps.off rfl rfl ?_
    refine AOps.off rfl rfl ?_
    refine AOps.off rfl rfl ?_
    refine AOps.off rfl rfl ?_
    refine AOps.off rfl rfl ?_
    refine AOps.off rfl rfl ?_
    refine pB rfl rfl rfl ?_
    refine pB rfl rfl rfl ?_
    refine AOps.done ?_
    refine AWp.ret ?_
    subst h
    exact ⟨_, rfl, rfl⟩
def W_rat_gcd (a1 : Int) (b2 : Int) (Q : Int → Prop) : Prop :=
  Loop2 a1 b2 (fun (a17 : Int) (b18 : Int) next19 =>
    Br (decide (b18 > (0 : Int))) (
      Nz b18 <|
      Let (Int.tmod a17 b18) fun x20 =>
      next19 b18 x20) (
      Q a17))
theorem walk_rat_gcd {a1 : Int} {b2 : Int} {r : Int} (h : W_rat_gcd a1 b2 (fun r' => r' = r)) : Ev_rat_gcd a1 b2 r := by
  unfold W_rat_gcd at h
  refine AFn.intro' (L := [(0, .dat (.v (.int .u64 a1))), (1, .dat (.v (.int .u64 b2)))]) tabOk Tryd.func38 rfl rfl Tryd.ntmps38 rfl rfl rfl ?_
  refine AWp.seq ?_
  refine AWp.regionN (fun _ => false) rfl ?_
  refine pI rfl rfl rfl ?_
  refine AOps.done ?_
  refine AWp.seq ?_
  refine AWp.block ?_
  obtain ⟨I21, x22, hz23, hr24⟩ := h
  refine AWp.loop (I := fun p : Int × Int => mkSt [(0, .dat (.v (.int .u64 p.1))), (1, .dat (.v (.int .u64 p.2)))] []) (Inv := fun p => I21 p.1 p.2) (μ := fun p => x22 p.1 p.2) (x0 := ⟨a1, b2⟩) hz23 (Sub.list (fun i => i) rfl rfl ⟨rfl, rfl, trivial⟩ trivial) (fun p hp => ?_)
  obtain ⟨a17, b18⟩ := p
  have h := hr24 a17 b18 hp
  refine AWp.seq ?_
  refine AWp.seq ?_
  refine AWp.regionN (fun _ => false) rfl ?_
  refine pI rfl rfl rfl ?_
  refine pB rfl rfl rfl ?_
  refine AOps.done ?_
  refine AWp.cond rfl (fun e => ?_) (fun e => ?_)
  · replace h := h.1 e
    refine AWp.skip ?_
    refine AWp.block ?_
    refine AWp.regionD (fun _ => false) mixed (by decide +kernel) rfl ?_
    refine pI rfl rfl rfl ?_
    refine pI rfl rfl rfl ?_
    refine pI rfl rfl rfl ?_
    obtain ⟨hq, h⟩ := h
    obtain ⟨x20, ex20, h⟩ := h.get
    refine AOps.q rfl rfl rfl rfl rfl (rbin_rem hq) ex20 ?_
    refine pI rfl rfl rfl ?_
    refine pI rfl rfl rfl ?_
    refine AOps.done ?_
    exact ⟨⟨b18, x20⟩, h.1, h.2, (Sub.list (fun i => i) rfl rfl ⟨rfl, rfl, trivial⟩ trivial)⟩
  · replace h := h.2 e
    refine AWp.exit ?_
    refine AWp.seq ?_
    refine AWp.regionN (fun _ => false) rfl ?_
    refine pI rfl rfl rfl ?_
    refine pI rfl rfl rfl ?_
    refine AOps.done ?_
    refine AWp.ret ?_
    subst h
    exact ⟨_, rfl, rfl⟩
def W_rat_size (n1 : Int) (Q : Int → Prop) : Prop :=
  Br (decide (n1 < (0 : Int))) (
    Let (IntKind.u64.wrap n1) fun x4 =>
    Let (IntKind.u64.wrap ((0 : Int) - x4)) fun x5 =>
    Q x5) (
    Let (IntKind.u64.wrap n1) fun x6 =>
    Q x6)
theorem walk_rat_size {n1 : Int} {r : Int} (h : W_rat_size n1 (fun r' => r' = r)) : Ev_rat_size n1 r := by
  unfold W_rat_size at h
  refine AFn.intro' (L := [(0, .dat (.v (.int .i64 n1)))]) tabOk Tryd.func18 rfl rfl Tryd.ntmps18 rfl rfl rfl ?_
  refine AWp.seq ?_
  refine AWp.regionN (fun _ => false) rfl ?_
  refine pI rfl rfl rfl ?_
  refine AOps.done ?_
  refine AWp.seq ?_
  refine AWp.seq ?_
  refine AWp.regionN (fun _ => false) rfl ?_
  refine pI rfl rfl rfl ?_
  refine pB rfl rfl rfl ?_
  refine AOps.done ?_
  refine AWp.cond rfl (fun e => ?_) (fun e => ?_)
  · replace h := h.1 e
    refine AWp.seq ?_
    refine AWp.regionN (fun _ => false) rfl ?_
    refine pI rfl rfl rfl ?_
    obtain ⟨x4, ex4, h⟩ := h.get
    refine AOps.i tabOk rfl rfl rfl ex4 ?_
    obtain ⟨x5, ex5, h⟩ := h.get
    refine AOps.i tabOk rfl rfl rfl ex5 ?_
    refine pI rfl rfl rfl ?_
    refine AOps.done ?_
    refine AWp.ret ?_
    subst h
    exact ⟨_, rfl, rfl⟩
  · replace h := h.2 e
    refine AWp.skip ?_
    refine AWp.seq ?_
    refine AWp.regionN (fun _ => false) rfl ?_
    refine pI rfl rfl rfl ?_
    obtain ⟨x6, ex6, h⟩ := h.get
    refine AOps.i tabOk rfl rfl rfl ex6 ?_
    refine pI rfl rfl rfl ?_
    refine AOps.done ?_
    refine AWp.ret ?_
    subst h
    exact ⟨_, rfl, rfl⟩
end Go.Sim.YtlglkgineclggaaDoor
