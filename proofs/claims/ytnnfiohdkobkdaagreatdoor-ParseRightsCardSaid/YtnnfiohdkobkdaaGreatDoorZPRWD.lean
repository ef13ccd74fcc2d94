/- What is proved: functions of the program compute what plain statements tell. -/
import Derived.Test.YtnnfiohdkobkdaaGreatDoorZPRWE

namespace Go.Sim.YtnnfiohdkobkdaaGreatDoor
open Go.RowKit Go.Proofs Go.Proofs.Tryz
set_option maxRecDepth 100000
def W_math_bits_LeadingZeros64 (x1 : Int) (Q : Int → Prop) : Prop :=
  Call (Ev_math_bits_Len64 x1) fun x2 =>
  Let (IntKind.i64.wrap ((64 : Int) - x2)) fun x4 =>
  Q x4
theorem walk_math_bits_LeadingZeros64 {x1 : Int} {r : Int} (h : W_math_bits_LeadingZeros64 x1 (fun r' => r' = r)) : Ev_math_bits_LeadingZeros64 x1 r := by
  unfold W_math_bits_LeadingZeros64 at h
  refine AFn.intro' (L := [(0, .dat (.v (.int .u64 x1)))]) tabOk Tryz.func231 rfl rfl Tryz.ntmps231 rfl rfl rfl ?_
  refine AWp.seq ?_
  refine AWp.regionN (fun _ => false) rfl ?_
  refine pI rfl rfl rfl ?_
  refine AOps.done ?_
  refine AWp.seq ?_
  refine AWp.regionN (fun _ => false) rfl ?_
  refine pI rfl rfl rfl ?_
  obtain ⟨x2, hc3, h⟩ := h
  refine AOps.call hc3 rfl rfl rfl ⟨.inl rfl, trivial⟩ ?_
  obtain ⟨x4, ex4, h⟩ := h.get
  refine AOps.i tabOk rfl rfl rfl ex4 ?_
  refine pI rfl rfl rfl ?_
  refine AOps.done ?_
  refine AWp.ret ?_
  subst h
  exact ⟨_, rfl, rfl⟩
def W_math_bits_Len64 (x1 : Int) (Q : Int → Prop) : Prop :=
  Join2 (fun j5 =>
    Br (decide (x1 ≥ (4294967296 : Int))) (
      Let (Int.fdiv x1 (2 ^ 32)) fun x6 =>
      j5 x6 (32 : Int)) (
      j5 x1 (0 : Int))
  ) (fun (x3 : Int) (n4 : Int) =>
    Join2 (fun j11 =>
      Br (decide (x3 ≥ (65536 : Int))) (
        Let (Int.fdiv x3 (2 ^ 16)) fun x12 =>
        Let (IntKind.i64.wrap (n4 + (16 : Int))) fun x13 =>
        j11 x12 x13) (
        j11 x3 n4)
    ) (fun (x9 : Int) (n10 : Int) =>
      Join2 (fun j18 =>
        Br (decide (x9 ≥ (256 : Int))) (
          Let (Int.fdiv x9 (2 ^ 8)) fun x19 =>
          Let (IntKind.i64.wrap (n10 + (8 : Int))) fun x20 =>
          j18 x19 x20) (
          j18 x9 n10)
      ) (fun (x16 : Int) (n17 : Int) =>
        Let (IntKind.u8.wrap x16) fun x21 =>
        AtS (ByteArray.mk #[0, 1, 2, 2, 3, 3, 3, 3, 4, 4, 4, 4, 4, 4, 4, 4, 5, 5, 5, 5, 5, 5, 5, 5, 5, 5, 5, 5, 5, 5, 5, 5, 6, 6, 6, 6, 6, 6, 6, 6, 6, 6, 6, 6, 6, 6, 6, 6, 6, 6, 6, 6, 6, 6, 6, 6, 6, 6, 6, 6, 6, 6, 6, 6, 7, 7, 7, 7, 7, 7, 7, 7, 7, 7, 7, 7, 7, 7, 7, 7, 7, 7, 7, 7, 7, 7, 7, 7, 7, 7, 7, 7, 7, 7, 7, 7, 7, 7, 7, 7, 7, 7, 7, 7, 7, 7, 7, 7, 7, 7, 7, 7, 7, 7, 7, 7, 7, 7, 7, 7, 7, 7, 7, 7, 7, 7, 7, 7, 8, 8, 8, 8, 8, 8, 8, 8, 8, 8, 8, 8, 8, 8, 8, 8, 8, 8, 8, 8, 8, 8, 8, 8, 8, 8, 8, 8, 8, 8, 8, 8, 8, 8, 8, 8, 8, 8, 8, 8, 8, 8, 8, 8, 8, 8, 8, 8, 8, 8, 8, 8, 8, 8, 8, 8, 8, 8, 8, 8, 8, 8, 8, 8, 8, 8, 8, 8, 8, 8, 8, 8, 8, 8, 8, 8, 8, 8, 8, 8, 8, 8, 8, 8, 8, 8, 8, 8, 8, 8, 8, 8, 8, 8, 8, 8, 8, 8, 8, 8, 8, 8, 8, 8, 8, 8, 8, 8, 8, 8, 8, 8, 8, 8, 8, 8, 8, 8, 8, 8, 8, 8, 8, 8, 8, 8, 8, 8]) x21 fun x23 =>
        Let (IntKind.i64.wrap x23) fun x25 =>
        Let (IntKind.i64.wrap (n17 + x25)) fun x26 =>
        Q x26)))
theorem walk_math_bits_Len64 {x1 : Int} {r : Int} (h : W_math_bits_Len64 x1 (fun r' => r' = r)) : Ev_math_bits_Len64 x1 r := by
  unfold W_math_bits_Len64 at h
  refine AFn.intro' (L := [(0, .dat (.v (.int .u64 x1)))]) tabOk Tryz.func256 rfl rfl Tryz.ntmps256 rfl rfl rfl ?_
  refine AWp.seq ?_
  refine AWp.regionN (fun _ => false) rfl ?_
  refine pI rfl rfl rfl ?_
  refine AOps.done ?_
  refine AWp.seq ?_
  refine AWp.seq ?_
  refine AWp.regionN (fun _ => false) rfl ?_
  refine pI rfl rfl rfl ?_
  refine pB rfl rfl rfl ?_
  refine AOps.done ?_
  obtain ⟨J33, hj34, hk35⟩ := h
  refine AWp.cutK (I := fun p : Int × Int => mkSt [(0, .dat (.v (.int .u64 p.1))), (2, .dat (.v (.int .i64 p.2)))] []) (Inv := fun p : Int × Int => J33 p.1 p.2) ?_ (fun p hp => ?_)
  · have h := hj34
    refine AWp.cond rfl (fun e => ?_) (fun e => ?_)
    · replace h := h.1 e
      refine AWp.seq ?_
      refine AWp.regionN (fun _ => false) rfl ?_
      refine pI rfl rfl rfl ?_
      obtain ⟨x6, ex6, h⟩ := h.get
      refine AOps.q rfl rfl rfl rfl rfl (rbin_shr (by decide)) ex6 ?_
      refine pI rfl rfl rfl ?_
      refine AOps.done ?_
      refine AWp.regionN (fun _ => false) rfl ?_
      refine pI rfl rfl rfl ?_
      refine AOps.done ?_
      exact ⟨⟨x6, (32 : Int)⟩, h, (Sub.list (fun i => i) rfl rfl ⟨rfl, rfl, trivial⟩ trivial)⟩
    · replace h := h.2 e
      refine AWp.skip ?_
      exact ⟨⟨x1, (0 : Int)⟩, h, (Sub.list (fun i => i) rfl rfl ⟨rfl, rfl, trivial⟩ trivial)⟩
  · obtain ⟨x3, n4⟩ := p
    have h := hk35 x3 n4 hp
    refine AWp.seq ?_
    refine AWp.seq ?_
    refine AWp.regionN (fun _ => false) rfl ?_
    refine pI rfl rfl rfl ?_
    refine pB rfl rfl rfl ?_
    refine AOps.done ?_
    obtain ⟨J30, hj31, hk32⟩ := h
    refine AWp.cutK (I := fun p : Int × Int => mkSt [(0, .dat (.v (.int .u64 p.1))), (2, .dat (.v (.int .i64 p.2)))] []) (Inv := fun p : Int × Int => J30 p.1 p.2) ?_ (fun p hp => ?_)
    · have h := hj31
      refine AWp.cond rfl (fun e => ?_) (fun e => ?_)
      · replace h := h.1 e
        refine AWp.seq ?_
        refine AWp.regionN (fun _ => false) rfl ?_
        refine pI rfl rfl rfl ?_
        obtain ⟨x12, ex12, h⟩ := h.get
        refine AOps.q rfl rfl rfl rfl rfl (rbin_shr (by decide)) ex12 ?_
        refine pI rfl rfl rfl ?_
        refine AOps.done ?_
        refine AWp.regionN (fun _ => false) rfl ?_
        refine pI rfl rfl rfl ?_
        obtain ⟨x13, ex13, h⟩ := h.get
        refine AOps.i tabOk rfl rfl rfl ex13 ?_
        refine pI rfl rfl rfl ?_
        refine AOps.done ?_
        exact ⟨⟨x12, x13⟩, h, (Sub.list (fun i => i) rfl rfl ⟨rfl, rfl, trivial⟩ trivial)⟩
      · replace h := h.2 e
        refine AWp.skip ?_
        exact ⟨⟨x3, n4⟩, h, (Sub.list (fun i => i) rfl rfl ⟨rfl, rfl, trivial⟩ trivial)⟩
    · obtain ⟨x9, n10⟩ := p
      have h := hk32 x9 n10 hp
      refine AWp.seq ?_
      refine AWp.seq ?_
      refine AWp.regionN (fun _ => false) rfl ?_
      refine pI rfl rfl rfl ?_
      refine pB rfl rfl rfl ?_
      refine AOps.done ?_
      obtain ⟨J27, hj28, hk29⟩ := h
      refine AWp.cutK (I := fun p : Int × Int => mkSt [(0, .dat (.v (.int .u64 p.1))), (2, .dat (.v (.int .i64 p.2)))] []) (Inv := fun p : Int × Int => J27 p.1 p.2) ?_ (fun p hp => ?_)
      · have h := hj28
        refine AWp.cond rfl (fun e => ?_) (fun e => ?_)
        · replace h := h.1 e
          refine AWp.seq ?_
          refine AWp.regionN (fun _ => false) rfl ?_
          refine pI rfl rfl rfl ?_
          obtain ⟨x19, ex19, h⟩ := h.get
          refine AOps.q rfl rfl rfl rfl rfl (rbin_shr (by decide)) ex19 ?_
          refine pI rfl rfl rfl ?_
          refine AOps.done ?_
          refine AWp.regionN (fun _ => false) rfl ?_
          refine pI rfl rfl rfl ?_
          obtain ⟨x20, ex20, h⟩ := h.get
          refine AOps.i tabOk rfl rfl rfl ex20 ?_
          refine pI rfl rfl rfl ?_
          refine AOps.done ?_
          exact ⟨⟨x19, x20⟩, h, (Sub.list (fun i => i) rfl rfl ⟨rfl, rfl, trivial⟩ trivial)⟩
        · replace h := h.2 e
          refine AWp.skip ?_
          exact ⟨⟨x9, n10⟩, h, (Sub.list (fun i => i) rfl rfl ⟨rfl, rfl, trivial⟩ trivial)⟩
      · obtain ⟨x16, n17⟩ := p
        have h := hk29 x16 n17 hp
        refine AWp.seq ?_
        refine AWp.regionN (fun _ => false) rfl ?_
        refine pI rfl rfl rfl ?_
        refine pI rfl rfl rfl ?_
        obtain ⟨x21, ex21, h⟩ := h.get
        refine AOps.i tabOk rfl rfl rfl ex21 ?_
        obtain ⟨hi22, x23, hx24, h⟩ := AtS.get h
        refine AOps.sidxE tabOk rfl rfl rfl rfl rfl rfl rfl hi22 hx24 ?_
        obtain ⟨x25, ex25, h⟩ := h.get
        refine AOps.i tabOk rfl rfl rfl ex25 ?_
        obtain ⟨x26, ex26, h⟩ := h.get
        refine AOps.i tabOk rfl rfl rfl ex26 ?_
        refine pI rfl rfl rfl ?_
        refine AOps.done ?_
        refine AWp.ret ?_
        subst h
        exact ⟨_, rfl, rfl⟩
end Go.Sim.YtnnfiohdkobkdaaGreatDoor
