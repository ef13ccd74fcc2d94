/- What is proved: functions of the program compute what plain statements tell. -/
import Derived.Test.YtomeghkmdcfolaaGreatDoorZPPWE
import Derived.ProofKit
import Derived.Test.YtomeghkmdcfolaaGreatDoorZPPBig

namespace Go.Sim.YtomeghkmdcfolaaGreatDoor
open Go.RowKit Go.Proofs Go.Proofs.Tryz
set_option maxRecDepth 100000
def W_rat_Right (a1 : GRat) (Q : Bool -> Prop) : Prop :=
 Br (decide (a1.D >= (1 : Int))) (
 Br (decide (a1.N > (-9223372036854775808 : Int))) (
 Call (Ev_rat_size a1.N) fun x8 =>
 Call (Ev_rat_size a1.D) fun x10 =>
 Call (Ev_rat_gcd x8 x10) fun x12 =>
 Q (x12 == (1 : Int))) (
 Q false)) (
 Q false)
theorem walk_rat_Right {a1 : GRat} {r : Bool} (h : W_rat_Right a1 (fun r' => r' = r)) : Ev_rat_Right a1 r := by
 unfold W_rat_Right at h
 refine intr (L := [(0, .dat (GRat.enc a1))]) Tryz.func120 Tryz.ntmps120 ?_
 refine sN (bx (v := .dat (.st _ _)) ?_)
 refine pB rfl (dn (AWp.seq (rD (pP rfl (pI rfl (pB rfl (pB rfl (sB 6 h (fun h => ?_) (fun h => ?_)))))))))
 ·refine pP rfl (pI rfl (pB rfl (pB rfl (pB rfl (sB 11 h (fun h => ?_) (fun h => ?_))))))
  ·refine pP rfl (pI rfl (kC h rfl ⟨.inl rfl, trivial⟩ rfl fun x8 h => ?_))
   refine pP rfl (pI rfl (kC h rfl ⟨.inl rfl, trivial⟩ rfl fun x10 h => ?_))
   refine kC h rfl ⟨.inl rfl, .inl rfl, trivial⟩ rfl fun x12 h => pB rfl ?_
   refine pB rfl (pB rfl (dn (AWp.ret ?_)))
   subst h
   exact ⟨_, rfl, rfl⟩
  refine fo 8 rfl (pB rfl (pB rfl (dn (AWp.ret ?_))))
  subst h
  exact ⟨_, rfl, rfl⟩
 refine fo 3 rfl (pB rfl (pB rfl (fo 8 rfl (pB rfl (pB rfl (dn (AWp.ret ?_)))))))
 subst h
 exact ⟨_, rfl, rfl⟩
def W_rat_gcd (a1 : Int) (b2 : Int) (Q : Int -> Prop) : Prop :=
 Loop2 a1 b2 (fun (a17 : Int) (b18 : Int) next19 =>
 Br (decide (b18 > (0 : Int))) (
 Nz b18 <|
 Let (Int.tmod a17 b18) fun x20 =>
 next19 b18 x20) (
 Q a17))
theorem walk_rat_gcd {a1 : Int} {b2 : Int} {r : Int} (h : W_rat_gcd a1 b2 (fun r' => r' = r)) : Ev_rat_gcd a1 b2 r := by
 unfold W_rat_gcd at h
 refine intr (L := [(0, .dat (.v (.int .u64 a1))), (1, .dat (.v (.int .u64 b2)))]) Tryz.func155 Tryz.ntmps155 ?_
 refine sN (pI rfl (dn (AWp.seq (AWp.block ?_))))
 obtain ⟨I21, x22, hz23, hr24⟩ := h
 refine AWp.loop (I := fun p : Int × Int => mkSt [(0, .dat (.v (.int .u64 p.1))), (1, .dat (.v (.int .u64 p.2)))] []) (Inv := fun p => I21 p.1 p.2) (μ := fun p => x22 p.1 p.2) (x0 := ⟨a1, b2⟩) hz23 sl (fun p hp => ?_)
 obtain ⟨a17, b18⟩ := p
 have h := hr24 a17 b18 hp
 refine AWp.seq (AWp.seq (rN (pI rfl (pB rfl (dn (cB h (fun h => ?_) (fun h => ?_)))))))
 ·refine AWp.skip (AWp.block (rD (pI rfl (pI rfl (pI rfl ?_)))))
  obtain ⟨hq, h⟩ := h
  obtain ⟨x20, ex20, h⟩ := h.get
  refine AOps.q rfl rfl rfl rfl rfl (rbin_rem hq) ex20 ?_
  refine pI rfl (pI rfl (dn ?_))
  exact ⟨⟨b18, x20⟩, h.1, h.2, sl⟩
 refine AWp.exit ?_
 refine sN (pI rfl (pI rfl (dn (AWp.ret ?_))))
 subst h
 exact ⟨_, rfl, rfl⟩
def W_rat_size (n1 : Int) (Q : Int -> Prop) : Prop :=
 Br (decide (n1 < (0 : Int))) (
 Let (IntKind.u64.wrap n1) fun x4 =>
 Let (IntKind.u64.wrap ((0 : Int) - x4)) fun x5 =>
 Q x5) (
 Let (IntKind.u64.wrap n1) fun x6 =>
 Q x6)
theorem walk_rat_size {n1 : Int} {r : Int} (h : W_rat_size n1 (fun r' => r' = r)) : Ev_rat_size n1 r := by
 unfold W_rat_size at h
 refine intr (L := [(0, .dat (.v (.int .i64 n1)))]) Tryz.func156 Tryz.ntmps156 ?_
 refine sN (pI rfl (dn (AWp.seq (AWp.seq (rN (pI rfl (pB rfl (dn (cB h (fun h => ?_) (fun h => ?_))))))))))
 ·refine sN (pI rfl ?_)
  obtain ⟨x4, ex4, h⟩ := h.get
  refine ai ex4 rfl ?_
  obtain ⟨x5, ex5, h⟩ := h.get
  refine ai ex5 rfl (pI rfl (dn (AWp.ret ?_)))
  subst h
  exact ⟨_, rfl, rfl⟩
 refine AWp.skip (AWp.seq (rN (pI rfl ?_)))
 obtain ⟨x6, ex6, h⟩ := h.get
 refine ai ex6 rfl (pI rfl (dn (AWp.ret ?_)))
 subst h
 exact ⟨_, rfl, rfl⟩
def W_rat_made (neg1 : Bool) (n2 : Int) (d3 : Int) (Q : GRat × Int -> Prop) : Prop :=
 Call (Ev_rat_gcd n2 d3) fun x4 =>
 Nz x4 <|
 Let (IntKind.u64.wrap (Int.tdiv n2 x4)) fun x6 =>
 Nz x4 <|
 Let (IntKind.u64.wrap (Int.tdiv d3 x4)) fun x7 =>
 Br (decide (x6 > (9223372036854775807 : Int))) (Q (GRat.zero, (3 : Int))) (
 Br (decide (x7 > (9223372036854775807 : Int))) (Q (GRat.zero, (3 : Int))) (
 Br neg1 (
 Let (IntKind.i64.wrap x6) fun x11 =>
 Let (IntKind.i64.wrap (0 - x11)) fun x12 =>
 Let (IntKind.i64.wrap x7) fun x13 =>
 Q ((GRat.mk x12 x13), (0 : Int))) (
 Let (IntKind.i64.wrap x6) fun x14 =>
 Let (IntKind.i64.wrap x7) fun x15 =>
 Q ((GRat.mk x14 x15), (0 : Int)))))
theorem walk_rat_made {neg1 : Bool} {n2 : Int} {d3 : Int} {r : GRat × Int} (h : W_rat_made neg1 n2 d3 (fun r' => r' = r)) : Ev_rat_made neg1 n2 d3 r := by
 unfold W_rat_made at h
 refine intr (L := [(0, .dat (.v (.bool neg1))), (1, .dat (.v (.int .u64 n2))), (2, .dat (.v (.int .u64 d3)))]) Tryz.func180 Tryz.ntmps180 ?_
 refine sN (al0 ?_)
 refine pI rfl (dn (AWp.seq (rN (pI rfl (pI rfl (kC h rfl ⟨.inl rfl, .inl rfl, trivial⟩ rfl fun x4 h => ?_))))))
 refine pI rfl (dn (AWp.seq (rD (pI rfl (pI rfl ?_)))))
 obtain ⟨hq, h⟩ := h
 obtain ⟨x6, ex6, h⟩ := h.get
 refine AOps.q rfl rfl rfl rfl rfl (rbin_quo hq) ex6 ?_
 refine pI rfl (pI rfl ?_)
 obtain ⟨hq, h⟩ := h
 obtain ⟨x7, ex7, h⟩ := h.get
 refine AOps.q rfl rfl rfl rfl rfl (rbin_quo hq) ex7 ?_
 refine pI rfl (pI rfl (dn (AWp.seq (AWp.seq (rN (pI rfl (pB rfl (pB rfl (sB 20 h (fun h => ?_) (fun h => ?_))))))))))
 ·refine ff rfl (ff rfl (pB rfl (dn ?_)))
  refine AWp.condT rfl ?_
  refine sW (pT rfl (st (v := .dat (.st _ _)) ?_))
  refine pI rfl (dn (AWp.ret ?_))
  subst h
  exact ⟨_, rfl, rfl⟩
 refine pI rfl (pB rfl (pB rfl (dn (cB h (fun h => ?_) (fun h => ?_)))))
 ·refine sW (pT rfl (st (v := .dat (.st _ _)) ?_))
  refine pI rfl (dn (AWp.ret ?_))
  subst h
  exact ⟨_, rfl, rfl⟩
 refine AWp.skip (AWp.seq (AWp.seq (rN (pB rfl (dn (cB h (fun h => ?_) (fun h => ?_)))))))
 ·refine sW (pI rfl ?_)
  obtain ⟨x11, ex11, h⟩ := h.get
  refine ai ex11 rfl ?_
  obtain ⟨x12, ex12, h⟩ := h.get
  refine ai ex12 rfl (pI rfl ?_)
  obtain ⟨x13, ex13, h⟩ := h.get
  refine ai ex13 rfl (pT rfl (st (v := .dat (.st _ _)) ?_))
  refine pI rfl (dn (AWp.ret ?_))
  subst h
  exact ⟨_, rfl, rfl⟩
 refine AWp.skip (AWp.seq (rW (pI rfl ?_)))
 obtain ⟨x14, ex14, h⟩ := h.get
 refine ai ex14 rfl (pI rfl ?_)
 obtain ⟨x15, ex15, h⟩ := h.get
 refine ai ex15 rfl (pT rfl (st (v := .dat (.st _ _)) ?_))
 refine pI rfl (dn (AWp.ret ?_))
 subst h
 exact ⟨_, rfl, rfl⟩
def W_math_bits_Mul64 (x1 : Int) (y2 : Int) (Q : Int × Int -> Prop) : Prop :=
 Let (bits .and .u64 x1 (4294967295 : Int)) fun x3 =>
 Let (Int.fdiv x1 (2 ^ 32)) fun x4 =>
 Let (bits .and .u64 y2 (4294967295 : Int)) fun x5 =>
 Let (Int.fdiv y2 (2 ^ 32)) fun x6 =>
 Let (IntKind.u64.wrap (x3 * x5)) fun x7 =>
 Let (IntKind.u64.wrap (x4 * x5)) fun x8 =>
 Let (Int.fdiv x7 (2 ^ 32)) fun x9 =>
 Let (IntKind.u64.wrap (x8 + x9)) fun x10 =>
 Let (bits .and .u64 x10 (4294967295 : Int)) fun x11 =>
 Let (Int.fdiv x10 (2 ^ 32)) fun x12 =>
 Let (IntKind.u64.wrap (x3 * x6)) fun x13 =>
 Let (IntKind.u64.wrap (x11 + x13)) fun x14 =>
 Let (IntKind.u64.wrap (x4 * x6)) fun x15 =>
 Let (IntKind.u64.wrap (x15 + x12)) fun x16 =>
 Let (Int.fdiv x14 (2 ^ 32)) fun x17 =>
 Let (IntKind.u64.wrap (x16 + x17)) fun x18 =>
 Let (IntKind.u64.wrap (x1 * y2)) fun x19 =>
 Q (x18, x19)
theorem walk_math_bits_Mul64 {x1 : Int} {y2 : Int} {r : Int × Int} (h : W_math_bits_Mul64 x1 y2 (fun r' => r' = r)) : Ev_math_bits_Mul64 x1 y2 r := by
 unfold W_math_bits_Mul64 at h
 refine intr (L := [(0, .dat (.v (.int .u64 x1))), (1, .dat (.v (.int .u64 y2)))]) Tryz.func165 Tryz.ntmps165 ?_
 refine sN (pI rfl (pI rfl (dn (AWp.seq (rN (pI rfl ?_))))))
 obtain ⟨x3, ex3, h⟩ := h.get
 refine ai ex3 rfl (pI rfl (dn (AWp.seq (rN (pI rfl ?_)))))
 obtain ⟨x4, ex4, h⟩ := h.get
 refine AOps.q rfl rfl rfl rfl rfl (rbin_shr (by decide)) ex4 ?_
 refine pI rfl (dn (AWp.seq (rN (pI rfl ?_))))
 obtain ⟨x5, ex5, h⟩ := h.get
 refine ai ex5 rfl (pI rfl (dn (AWp.seq (rN (pI rfl ?_)))))
 obtain ⟨x6, ex6, h⟩ := h.get
 refine AOps.q rfl rfl rfl rfl rfl (rbin_shr (by decide)) ex6 ?_
 refine pI rfl (dn (AWp.seq (rN (pI rfl (pI rfl ?_)))))
 obtain ⟨x7, ex7, h⟩ := h.get
 refine ai ex7 rfl (pI rfl (dn (AWp.seq (rN (pI rfl (pI rfl ?_))))))
 obtain ⟨x8, ex8, h⟩ := h.get
 refine ai ex8 rfl (pI rfl ?_)
 obtain ⟨x9, ex9, h⟩ := h.get
 refine AOps.q rfl rfl rfl rfl rfl (rbin_shr (by decide)) ex9 ?_
 obtain ⟨x10, ex10, h⟩ := h.get
 refine ai ex10 rfl (pI rfl (dn (AWp.seq (rN (pI rfl ?_)))))
 obtain ⟨x11, ex11, h⟩ := h.get
 refine ai ex11 rfl (pI rfl (dn (AWp.seq (rN (pI rfl ?_)))))
 obtain ⟨x12, ex12, h⟩ := h.get
 refine AOps.q rfl rfl rfl rfl rfl (rbin_shr (by decide)) ex12 ?_
 refine pI rfl (dn (AWp.seq (rN (pI rfl (pI rfl (pI rfl ?_))))))
 obtain ⟨x13, ex13, h⟩ := h.get
 refine ai ex13 rfl ?_
 obtain ⟨x14, ex14, h⟩ := h.get
 refine ai ex14 rfl (pI rfl (dn (AWp.seq (rN (pI rfl (pI rfl ?_))))))
 obtain ⟨x15, ex15, h⟩ := h.get
 refine ai ex15 rfl (pI rfl ?_)
 obtain ⟨x16, ex16, h⟩ := h.get
 refine ai ex16 rfl (pI rfl ?_)
 obtain ⟨x17, ex17, h⟩ := h.get
 refine AOps.q rfl rfl rfl rfl rfl (rbin_shr (by decide)) ex17 ?_
 obtain ⟨x18, ex18, h⟩ := h.get
 refine ai ex18 rfl (pI rfl (dn (AWp.seq (rN (pI rfl (pI rfl ?_))))))
 obtain ⟨x19, ex19, h⟩ := h.get
 refine ai ex19 rfl (pI rfl (dn (AWp.ret ?_)))
 subst h
 exact ⟨_, rfl, rfl⟩
end Go.Sim.YtomeghkmdcfolaaGreatDoor

/- What is proved: the functions of math/bits that the model stands in for yield sums and differences with their carries. -/
namespace Go.Sim.YtomeghkmdcfolaaGreatDoor
open Go.RowKit Go.Proofs Go.Proofs.Tryz
end Go.Sim.YtomeghkmdcfolaaGreatDoor

/- What is proved: functions of the program compute what plain statements tell. -/
namespace Go.Sim.YtomeghkmdcfolaaGreatDoor
open Go.RowKit Go.Proofs Go.Proofs.Tryz
set_option maxRecDepth 100000
def W_math_bits_LeadingZeros64 (x1 : Int) (Q : Int -> Prop) : Prop :=
 Call (Ev_math_bits_Len64 x1) fun x2 =>
 Let (IntKind.i64.wrap ((64 : Int) - x2)) fun x4 =>
 Q x4
theorem walk_math_bits_LeadingZeros64 {x1 : Int} {r : Int} (h : W_math_bits_LeadingZeros64 x1 (fun r' => r' = r)) : Ev_math_bits_LeadingZeros64 x1 r := by
 unfold W_math_bits_LeadingZeros64 at h
 refine intr (L := [(0, .dat (.v (.int .u64 x1)))]) Tryz.func179 Tryz.ntmps179 ?_
 refine sN (pI rfl (dn (AWp.seq (rN (pI rfl (kC h rfl ⟨.inl rfl, trivial⟩ rfl fun x2 h => ?_))))))
 obtain ⟨x4, ex4, h⟩ := h.get
 refine ai ex4 rfl (pI rfl (dn (AWp.ret ?_)))
 subst h
 exact ⟨_, rfl, rfl⟩
def W_math_bits_Len64 (x1 : Int) (Q : Int -> Prop) : Prop :=
 Join2 (fun j5 =>
 Br (decide (x1 >= (4294967296 : Int))) (
 Let (Int.fdiv x1 (2 ^ 32)) fun x6 =>
 j5 x6 (32 : Int)) (
 j5 x1 (0 : Int))
 ) (fun (x3 : Int) (n4 : Int) =>
 Join2 (fun j11 =>
 Br (decide (x3 >= (65536 : Int))) (
 Let (Int.fdiv x3 (2 ^ 16)) fun x12 =>
 Let (IntKind.i64.wrap (n4 + (16 : Int))) fun x13 =>
 j11 x12 x13) (
 j11 x3 n4)
 ) (fun (x9 : Int) (n10 : Int) =>
 Join2 (fun j18 =>
 Br (decide (x9 >= (256 : Int))) (
 Let (Int.fdiv x9 (2 ^ 8)) fun x19 =>
 Let (IntKind.i64.wrap (n10 + (8 : Int))) fun x20 =>
 j18 x19 x20) (
 j18 x9 n10)
 ) (fun (x16 : Int) (n17 : Int) =>
 Let (IntKind.u8.wrap x16) fun x21 =>
 AtS (ByteArray.mk #[0, 1, 2, 2, 3, 3, 3, 3, 4, 4, 4, 4, 4, 4, 4, 4, 5, 5, 5, 5, 5, 5, 5, 5, 5, 5, 5, 5, 5, 5, 5, 5, 6, 6, 6, 6, 6, 6, 6, 6, 6, 6, 6, 6, 6, 6, 6, 6, 6, 6, 6, 6, 6, 6, 6, 6, 6, 6, 6, 6, 6, 6, 6, 6, 7, 7, 7, 7, 7, 7, 7, 7, 7, 7, 7, 7, 7, 7, 7, 7, 7, 7, 7, 7, 7, 7, 7, 7, 7, 7, 7, 7, 7, 7, 7, 7, 7, 7, 7, 7, 7, 7, 7, 7, 7, 7, 7, 7, 7, 7, 7, 7, 7, 7, 7, 7, 7, 7, 7, 7, 7, 7, 7, 7, 7, 7, 7, 7, 8, 8, 8, 8, 8, 8, 8, 8, 8, 8, 8, 8, 8, 8, 8, 8, 8, 8, 8, 8, 8, 8, 8, 8, 8, 8, 8, 8, 8, 8, 8, 8, 8, 8, 8, 8, 8, 8, 8, 8, 8, 8, 8, 8, 8, 8, 8, 8, 8, 8, 8, 8, 8, 8, 8, 8, 8, 8, 8, 8, 8, 8, 8, 8, 8, 8, 8, 8, 8, 8, 8, 8, 8, 8, 8, 8, 8, 8, 8, 8, 8, 8, 8, 8, 8, 8, 8, 8, 8, 8, 8, 8, 8, 8, 8, 8, 8, 8, 8, 8, 8, 8, 8, 8, 8, 8, 8, 8, 8, 8, 8, 8, 8, 8, 8, 8, 8, 8, 8, 8, 8, 8, 8, 8, 8, 8, 8, 8]) x21 fun x23 =>
 Let (IntKind.i64.wrap x23) fun x25 =>
 Let (IntKind.i64.wrap (n17 + x25)) fun x26 =>
 Q x26)))
theorem walk_math_bits_Len64 {x1 : Int} {r : Int} (h : W_math_bits_Len64 x1 (fun r' => r' = r)) : Ev_math_bits_Len64 x1 r := by
 unfold W_math_bits_Len64 at h
 refine intr (L := [(0, .dat (.v (.int .u64 x1)))]) Tryz.func160 Tryz.ntmps160 ?_
 refine sN (pI rfl (dn (AWp.seq (AWp.seq (rN (pI rfl (pB rfl (dn ?_))))))))
 obtain ⟨J31, h, hk32⟩ := h
 refine AWp.cutK (I := fun p : Int × Int => mkSt [(0, .dat (.v (.int .u64 p.1))), (2, .dat (.v (.int .i64 p.2)))] []) (Inv := fun p : Int × Int => J31 p.1 p.2) ?_ (fun p hp => ?_)
 ·refine cB h (fun h => ?_) (fun h => ?_)
  ·refine sN (pI rfl ?_)
   obtain ⟨x6, ex6, h⟩ := h.get
   refine AOps.q rfl rfl rfl rfl rfl (rbin_shr (by decide)) ex6 ?_
   refine pI rfl (dn (rN (pI rfl (dn ?_))))
   exact ⟨⟨x6, (32 : Int)⟩, h, sl⟩
  refine AWp.skip ?_
  exact ⟨⟨x1, (0 : Int)⟩, h, sl⟩
 obtain ⟨x3, n4⟩ := p
 replace h := hk32 x3 n4 hp
 refine AWp.seq (AWp.seq (rN (pI rfl (pB rfl (dn ?_)))))
 obtain ⟨J29, h, hk30⟩ := h
 refine AWp.cutK (I := fun p : Int × Int => mkSt [(0, .dat (.v (.int .u64 p.1))), (2, .dat (.v (.int .i64 p.2)))] []) (Inv := fun p : Int × Int => J29 p.1 p.2) ?_ (fun p hp => ?_)
 ·refine cB h (fun h => ?_) (fun h => ?_)
  ·refine sN (pI rfl ?_)
   obtain ⟨x12, ex12, h⟩ := h.get
   refine AOps.q rfl rfl rfl rfl rfl (rbin_shr (by decide)) ex12 ?_
   refine pI rfl (dn (rN (pI rfl ?_)))
   obtain ⟨x13, ex13, h⟩ := h.get
   refine ai ex13 rfl (pI rfl (dn ?_))
   exact ⟨⟨x12, x13⟩, h, sl⟩
  refine AWp.skip ?_
  exact ⟨⟨x3, n4⟩, h, sl⟩
 obtain ⟨x9, n10⟩ := p
 replace h := hk30 x9 n10 hp
 refine AWp.seq (AWp.seq (rN (pI rfl (pB rfl (dn ?_)))))
 obtain ⟨J27, h, hk28⟩ := h
 refine AWp.cutK (I := fun p : Int × Int => mkSt [(0, .dat (.v (.int .u64 p.1))), (2, .dat (.v (.int .i64 p.2)))] []) (Inv := fun p : Int × Int => J27 p.1 p.2) ?_ (fun p hp => ?_)
 ·refine cB h (fun h => ?_) (fun h => ?_)
  ·refine sN (pI rfl ?_)
   obtain ⟨x19, ex19, h⟩ := h.get
   refine AOps.q rfl rfl rfl rfl rfl (rbin_shr (by decide)) ex19 ?_
   refine pI rfl (dn (rN (pI rfl ?_)))
   obtain ⟨x20, ex20, h⟩ := h.get
   refine ai ex20 rfl (pI rfl (dn ?_))
   exact ⟨⟨x19, x20⟩, h, sl⟩
  refine AWp.skip ?_
  exact ⟨⟨x9, n10⟩, h, sl⟩
 obtain ⟨x16, n17⟩ := p
 replace h := hk28 x16 n17 hp
 refine sN (pI rfl (pI rfl ?_))
 obtain ⟨x21, ex21, h⟩ := h.get
 refine ai ex21 rfl ?_
 obtain ⟨hi22, x23, hx24, h⟩ := AtS.get h
 refine AOps.sidxE tabOk rfl rfl rfl rfl rfl rfl rfl hi22 hx24 ?_
 obtain ⟨x25, ex25, h⟩ := h.get
 refine ai ex25 rfl ?_
 obtain ⟨x26, ex26, h⟩ := h.get
 refine ai ex26 rfl (pI rfl (dn (AWp.ret ?_)))
 subst h
 exact ⟨_, rfl, rfl⟩
end Go.Sim.YtomeghkmdcfolaaGreatDoor

/- What is proved: one digit of a long division: what is guessed, and how the guess is mended. -/
namespace Go.Sim
open Go.RowKit
theorem blen_shift {a k : Nat} (h : 2 ^ k <= a) : blen (a / 2 ^ k) + k = blen a := by
 have key : ∀ n, blen a <= n ↔ blen (a / 2 ^ k) + k <= n := by
  intro n
  rw [blen_le]
  constructor
  ·intro hn
   have hk : k <= n := by
    rcases Nat.lt_or_ge n k with h' | h'
    ·have := Nat.pow_lt_pow_right (a := 2) (by omega) h'; omega
    ·exact h'
   obtain ⟨j, rfl⟩ := Nat.exists_eq_add_of_le hk
   have := (blen_le (a / 2 ^ k) j).2 (Nat.div_lt_of_lt_mul (by rw [← Nat.pow_add]; exact hn))
   omega
  ·intro hn
   obtain ⟨j, rfl⟩ := Nat.exists_eq_add_of_le (show k <= n by omega)
   have := (blen_le (a / 2 ^ k) j).1 (by omega)
   have h2 := (Nat.div_lt_iff_lt_mul (Nat.two_pow_pos k)).1 this
   rw [Nat.pow_add, Nat.mul_comm]
   exact h2
 have a1 := (key _).1 (Nat.le_refl _)
 have a2 := (key _).2 (Nat.le_refl _)
 omega
def tabB (s : ByteArray) : Bool := (List.range 256).all fun x => match s[x]? with | some b => decide (x < 2 ^ b.toNat) && (decide (b.toNat = 0) || decide (2 ^ (b.toNat - 1) <= x)) | none => false
theorem tab_at {s : ByteArray} (h : tabB s = true) {x : Nat} (hx : x < 256) : ∃ b, s[((x : Nat) : Int).toNat]? = some b /\ (b.toNat : Int) = ((blen x : Nat) : Int) := by
 have := List.all_eq_true.1 h x (by simpa using hx)
 rw [Int.toNat_natCast]
 split at this
 ·rename_i b hb
  refine ⟨b, hb, ?_⟩
  simp only [Bool.and_eq_true, Bool.or_eq_true, decide_eq_true_eq] at this
  obtain ⟨h1, h2⟩ := this
  have h3 := (blen_le x _).2 h1
  rcases h2 with h2 | h2
  ·omega
  ·have h4 : ¬ (blen x <= b.toNat - 1) := fun hh => by have := (blen_le x _).1 hh; omega
   omega
 ·cases this
structure DivF (hi lo y s Y y1 y0 U l u1 u0 : Nat) : Prop where
 hs : s = 64 - blen y
 hs64 : s < 64
 hY : Y = y * 2 ^ s
 hYlo : 9223372036854775808 <= Y
 hYhi : Y < 18446744073709551616
 hy1 : y1 = Y / 4294967296
 hy0 : y0 = Y % 4294967296
 hU : U = lo / 2 ^ (64 - s) + hi * 2 ^ s
 hc : lo / 2 ^ (64 - s) < 2 ^ s
 hx : hi * 2 ^ s < 18446744073709551616
 hUY : U < Y
 hl : l = lo * 2 ^ s % 18446744073709551616
 hu1 : u1 = l / 4294967296
 hu0 : u0 = l % 4294967296
end Go.Sim

/- What is proved: 128 bits divided by 64 bits: math/bits.Div64 and Rem64 yield the quotient and the rest. -/
namespace Go.Sim.YtomeghkmdcfolaaGreatDoor
open Go.RowKit Go.Proofs Go.Proofs.Tryz
theorem shrC (a k : Nat) : Int.fdiv (a : Int) (2 ^ k) = ((a / 2 ^ k : Nat) : Int) := by
 rw [Int.fdiv_eq_ediv_of_nonneg _ (Int.pow_nonneg (by omega))]
 simp
theorem tab_k {s : ByteArray} (h : tabB s = true) {x : Nat} (hx : x < 256) {k : Int -> Prop} (hk : k ((blen x : Nat) : Int)) : AtS s (x : Int) k := by
 obtain ⟨b, hb, e⟩ := tab_at h hx
 exact ⟨by omega, b, hb, by rw [e]; exact hk⟩
theorem len64_ev (a : Nat) (ha : a < 18446744073709551616) : Ev_math_bits_Len64 (a : Int) ((blen a : Nat) : Int) := by
 refine walk_math_bits_Len64 ?_
 unfold W_math_bits_Len64
 refine ⟨fun x n => ∃ b m : Nat, x = (b : Int) /\ n = (m : Int) /\ b < 4294967296 /\ blen b + m = blen a /\ m <= 32, Br.d (fun g => Let.as _ (shrC a 32) ⟨_, 32, rfl, rfl, by omega, blen_shift (k := 32) (by simp only [Nat.reducePow]; omega), by omega⟩) (fun g => ⟨a, 0, rfl, rfl, by omega, by simp, by omega⟩), ?_⟩
 rintro _ _ ⟨x, n, rfl, rfl, k1, k2, k3⟩
 refine ⟨fun y m => ∃ b c : Nat, y = (b : Int) /\ m = (c : Int) /\ b < 65536 /\ blen b + c = blen a /\ c <= 48, Br.d (fun g => Let.as _ (shrC x 16) (Let.as _ (show _ = ((n + 16 : Nat) : Int) by rw [wi (by omega) (by omega)]; omega) ⟨_, _, rfl, rfl, by omega, by rw [← k2, ← blen_shift (a := x) (k := 16) (by simp only [Nat.reducePow]; omega)]; omega, by omega⟩)) (fun g => ⟨x, n, rfl, rfl, by omega, k2, by omega⟩), ?_⟩
 rintro _ _ ⟨y, m, rfl, rfl, k1, k2, k3⟩
 refine ⟨fun z l => ∃ b c : Nat, z = (b : Int) /\ l = (c : Int) /\ b < 256 /\ blen b + c = blen a /\ c <= 56, Br.d (fun g => Let.as _ (shrC y 8) (Let.as _ (show _ = ((m + 8 : Nat) : Int) by rw [wi (by omega) (by omega)]; omega) ⟨_, _, rfl, rfl, by omega, by rw [← k2, ← blen_shift (a := y) (k := 8) (by simp only [Nat.reducePow]; omega)]; omega, by omega⟩)) (fun g => ⟨y, m, rfl, rfl, by omega, k2, by omega⟩), ?_⟩
 rintro _ _ ⟨z, l, rfl, rfl, k1, k2, k3⟩
 have hz := (blen_le z 8).2 k1
 refine Let.as (z : Int) (by rw [IntKind.wrap_u8]; omega) ?_
 refine tab_k (by decide +kernel) k1 ?_
 refine Let.as ((blen z : Nat) : Int) (wi (by omega) (by omega)) ?_
 refine Let.as ((blen a : Nat) : Int) (by rw [wi (by omega) (by omega)]; omega) rfl
theorem lz64_ev (a : Nat) (ha : a < 18446744073709551616) : Ev_math_bits_LeadingZeros64 (a : Int) ((64 - blen a : Nat) : Int) := by
 have hb := (blen_le a 64).2 (by simpa using ha)
 refine walk_math_bits_LeadingZeros64 ?_
 unfold W_math_bits_LeadingZeros64
 refine Call.mk (len64_ev a ha) (Let.as _ (show _ = ((64 - blen a : Nat) : Int) by rw [wi (by omega) (by omega)]; omega) rfl)
end Go.Sim.YtomeghkmdcfolaaGreatDoor
