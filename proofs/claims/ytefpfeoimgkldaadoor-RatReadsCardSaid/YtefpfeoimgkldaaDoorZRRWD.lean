/- What is proved: functions of the program compute what plain statements tell. -/
import Derived.Test.YtefpfeoimgkldaaDoorZRRWE

namespace Go.Sim.YtefpfeoimgkldaaDoor
open Go.RowKit Go.Proofs Go.Proofs.Tryd
set_option maxRecDepth 100000
def W_math_bits_LeadingZeros64 (x1 : Int) (Q : Int → Prop) : Prop :=
 Call (Ev_math_bits_Len64 x1) fun x2 =>
 Let (IntKind.i64.wrap ((64 : Int) - x2)) fun x4 =>
 Q x4
theorem walk_math_bits_LeadingZeros64 {x1 : Int} {r : Int} (h : W_math_bits_LeadingZeros64 x1 (fun r' => r' = r)) : Ev_math_bits_LeadingZeros64 x1 r := by
  unfold W_math_bits_LeadingZeros64 at h
  refine intr (L := [(0, .dat (.v (.int .u64 x1)))]) Tryd.func26 Tryd.ntmps26 ?_
  refine sN (pI rfl (dn (AWp.seq (rN (pI rfl ?_)))))
  obtain ⟨x2, hc3, h⟩ := h
  refine ca hc3 rfl ⟨.inl rfl, trivial⟩ rfl ?_
  obtain ⟨x4, ex4, h⟩ := h.get
  refine ai ex4 rfl (pI rfl (dn (AWp.ret ?_)))
  subst h
  exact ⟨_, rfl, rfl⟩
def W_math_bits_Len64 (x1 : Int) (Q : Int → Prop) : Prop :=
 Join2 (fun j5 =>
  Br (decide (x1 ≥ (4294967296 : Int))) (
   Let (Int.fdiv x1 (2 ^ 32)) fun x6 =>
   j5 x6 (32 : Int)) (
   j5 x1 (0 : Int))
 ) (fun (x3 : Int) (n4 : Int) =>
  Join2 (fun j11 =>
   Br (decide (x3 ≥ (65536 : Int))) (
    Let (Int.fdiv x3 (2 ^ 16)) fun x12 =>
    Let (IntKind.i64.wrap (n4 + (16 : Int))) fun x13 =>
    j11 x12 x13) (
    j11 x3 n4)
  ) (fun (x9 : Int) (n10 : Int) =>
   Join2 (fun j18 =>
    Br (decide (x9 ≥ (256 : Int))) (
     Let (Int.fdiv x9 (2 ^ 8)) fun x19 =>
     Let (IntKind.i64.wrap (n10 + (8 : Int))) fun x20 =>
     j18 x19 x20) (
     j18 x9 n10)
   ) (fun (x16 : Int) (n17 : Int) =>
    Let (IntKind.u8.wrap x16) fun x21 =>
    AtS (ByteArray.mk #[0, 1, 2, 2, 3, 3, 3, 3, 4, 4, 4, 4, 4, 4, 4, 4, 5, 5, 5, 5, 5, 5, 5, 5, 5, 5, 5, 5, 5, 5, 5, 5, 6, 6, 6, 6, 6, 6, 6, 6, 6, 6, 6, 6, 6, 6, 6, 6, 6, 6, 6, 6, 6, 6, 6, 6, 6, 6, 6, 6, 6, 6, 6, 6, 7, 7, 7, 7, 7, 7, 7, 7, 7, 7, 7, 7, 7, 7, 7, 7, 7, 7, 7, 7, 7, 7, 7, 7, 7, 7, 7, 7, 7, 7, 7, 7, 7, 7, 7, 7, 7, 7, 7, 7, 7, 7, 7, 7, 7, 7, 7, 7, 7, 7, 7, 7, 7, 7, 7, 7, 7, 7, 7, 7, 7, 7, 7, 7, 8, 8, 8, 8, 8, 8, 8, 8, 8, 8, 8, 8, 8, 8, 8, 8, 8, 8, 8, 8, 8, 8, 8, 8, 8, 8, 8, 8, 8, 8, 8, 8, 8, 8, 8, 8, 8, 8, 8, 8, 8, 8, 8, 8, 8, 8, 8, 8, 8, 8, 8, 8, 8, 8, 8, 8, 8, 8, 8, 8, 8, 8, 8, 8, 8, 8, 8, 8, 8, 8, 8, 8, 8, 8, 8, 8, 8, 8, 8, 8, 8, 8, 8, 8, 8, 8, 8, 8, 8, 8, 8, 8, 8, 8, 8, 8, 8, 8, 8, 8, 8, 8, 8, 8, 8, 8, 8, 8, 8, 8, 8, 8, 8, 8, 8, 8, 8, 8, 8, 8, 8, 8, 8, 8, 8, 8, 8, 8]) x21 fun x23 =>
    Let (IntKind.i64.wrap x23) fun x25 =>
    Let (IntKind.i64.wrap (n17 + x25)) fun x26 =>
    Q x26)))
theorem walk_math_bits_Len64 {x1 : Int} {r : Int} (h : W_math_bits_Len64 x1 (fun r' => r' = r)) : Ev_math_bits_Len64 x1 r := by
  unfold W_math_bits_Len64 at h
  refine intr (L := [(0, .dat (.v (.int .u64 x1)))]) Tryd.func40 Tryd.ntmps40 ?_
  refine sN (pI rfl (dn (AWp.seq (AWp.seq (rN (pI rfl (pB rfl (dn ?_))))))))
  obtain ⟨J31, h, hk32⟩ := h
  refine AWp.cutK (I := fun p : Int × Int => mkSt [(0, .dat (.v (.int .u64 p.1))), (2, .dat (.v (.int .i64 p.2)))] []) (Inv := fun p : Int × Int => J31 p.1 p.2) ?_ (fun p hp => ?_)
  · refine cB h (fun h => ?_) (fun h => ?_)
    · refine sN (pI rfl ?_)
      obtain ⟨x6, ex6, h⟩ := h.get
      refine AOps.q rfl rfl rfl rfl rfl (rbin_shr (by decide)) ex6 ?_
      refine pI rfl (dn (rN (pI rfl (dn ?_))))
      exact ⟨⟨x6, (32 : Int)⟩, h, sl⟩
    refine AWp.skip ?_
    exact ⟨⟨x1, (0 : Int)⟩, h, sl⟩
  obtain ⟨x3, n4⟩ := p
  replace h := hk32 x3 n4 hp
  refine AWp.seq (AWp.seq (rN (pI rfl (pB rfl (dn ?_)))))
  obtain ⟨J29, h, hk30⟩ := h
  refine AWp.cutK (I := fun p : Int × Int => mkSt [(0, .dat (.v (.int .u64 p.1))), (2, .dat (.v (.int .i64 p.2)))] []) (Inv := fun p : Int × Int => J29 p.1 p.2) ?_ (fun p hp => ?_)
  · refine cB h (fun h => ?_) (fun h => ?_)
    · refine sN (pI rfl ?_)
      obtain ⟨x12, ex12, h⟩ := h.get
      refine AOps.q rfl rfl rfl rfl rfl (rbin_shr (by decide)) ex12 ?_
      refine pI rfl (dn (rN (pI rfl ?_)))
      obtain ⟨x13, ex13, h⟩ := h.get
      refine ai ex13 rfl (pI rfl (dn ?_))
      exact ⟨⟨x12, x13⟩, h, sl⟩
    refine AWp.skip ?_
    exact ⟨⟨x3, n4⟩, h, sl⟩
  obtain ⟨x9, n10⟩ := p
  replace h := hk30 x9 n10 hp
  refine AWp.seq (AWp.seq (rN (pI rfl (pB rfl (dn ?_)))))
  obtain ⟨J27, h, hk28⟩ := h
  refine AWp.cutK (I := fun p : Int × Int => mkSt [(0, .dat (.v (.int .u64 p.1))), (2, .dat (.v (.int .i64 p.2)))] []) (Inv := fun p : Int × Int => J27 p.1 p.2) ?_ (fun p hp => ?_)
  · refine cB h (fun h => ?_) (fun h => ?_)
    · refine sN (pI rfl ?_)
      obtain ⟨x19, ex19, h⟩ := h.get
      refine AOps.q rfl rfl rfl rfl rfl (rbin_shr (by decide)) ex19 ?_
      refine pI rfl (dn (rN (pI rfl ?_)))
      obtain ⟨x20, ex20, h⟩ := h.get
      refine ai ex20 rfl (pI rfl (dn ?_))
      exact ⟨⟨x19, x20⟩, h, sl⟩
    refine AWp.skip ?_
    exact ⟨⟨x9, n10⟩, h, sl⟩
  obtain ⟨x16, n17⟩ := p
  replace h := hk28 x16 n17 hp
  refine sN (pI rfl (pI rfl ?_))
  obtain ⟨x21, ex21, h⟩ := h.get
  refine ai ex21 rfl ?_
  obtain ⟨hi22, x23, hx24, h⟩ := AtS.get h
  refine AOps.sidxE tabOk rfl rfl rfl rfl rfl rfl rfl hi22 hx24 ?_
  obtain ⟨x25, ex25, h⟩ := h.get
  refine ai ex25 rfl ?_
  obtain ⟨x26, ex26, h⟩ := h.get
  refine ai ex26 rfl (pI rfl (dn (AWp.ret ?_)))
  subst h
  exact ⟨_, rfl, rfl⟩
end Go.Sim.YtefpfeoimgkldaaDoor
