/- What is proved: a float's bits, and the float of bits. -/
import Derived.Test.YtlkpbnhinnhlfaaGreatZIVWE
import Derived.ProofKit

namespace Go.Sim.YtlkpbnhinnhlfaaGreat
open Go.RowKit Go.Proofs Go.Proofs.Tryz
theorem float64bits_ev (b : Nat) : Ev_math_Float64bits b (b : Int) := by
  refine ⟨.int .u64 b, fun w => ?_, fun w S => by simp [RepV, RepD, Value.oneCell']⟩
  rw [run_callFunc_extern Tryz.func69 (by kernel_rfl) (by kernel_rfl) (by kernel_rfl) (e := Extern.MathFloatBits.float64bits) (by kernel_rfl)]
  rfl
theorem float64frombits_ev (b : Nat) : Ev_math_Float64frombits (b : Int) b := by
  refine ⟨.float .f64 b, fun w => ?_, fun w S => by simp [RepV, RepD, Value.oneCell']⟩
  rw [run_callFunc_extern Tryz.func72 (by kernel_rfl) (by kernel_rfl) (by kernel_rfl) (e := Extern.MathFloatBits.float64frombits) (by kernel_rfl)]
  rfl
end Go.Sim.YtlkpbnhinnhlfaaGreat

/- What is proved: the functions of math/bits that the model stands in for yield sums and differences with their carries. -/
namespace Go.Sim.YtlkpbnhinnhlfaaGreat
open Go.RowKit Go.Proofs Go.Proofs.Tryz
def addEntry : Array Value → Sem Value := fun args => do
  let (x, y, c) ← Extern.MathBitsCarry.three "Add64" args
  pure (Extern.MathBitsCarry.pair ((x + y + c) % Extern.MathBitsCarry.m64) ((x + y + c) / Extern.MathBitsCarry.m64))
def subEntry : Array Value → Sem Value := fun args => do
  let (x, y, b) ← Extern.MathBitsCarry.three "Sub64" args
  pure (Extern.MathBitsCarry.pair ((x + Extern.MathBitsCarry.m64 - y - b) % Extern.MathBitsCarry.m64) (if x < y + b then 1 else 0))
theorem rep_two (w : World) (S : Nat → Prop) (a b : Int) : RepV w S (.tup [.v (.int .u64 a), .v (.int .u64 b)]) (.tuple #[.int .u64 a, .int .u64 b]) :=
  ⟨[.int .u64 a, .int .u64 b], rfl, .cons (.inr ⟨rfl, rfl, rfl⟩) (.cons (.inr ⟨rfl, rfl, rfl⟩) .nil)⟩
theorem add64_ev (x y c : Nat) (hc : c ≤ 1) : Ev_math_bits_Add64 (x : Int) (y : Int) (c : Int) ((((x + y + c) % 18446744073709551616 : Nat) : Int), (((x + y + c) / 18446744073709551616 : Nat) : Int)) := by
  refine ⟨.tuple #[.int .u64 (((x + y + c) % 18446744073709551616 : Nat) : Int), .int .u64 (((x + y + c) / 18446744073709551616 : Nat) : Int)], fun w => ?_, fun w S => rep_two w S _ _⟩
  rw [run_callFunc_extern Tryz.func130 (by kernel_rfl) (by kernel_rfl) (by kernel_rfl) (e := addEntry) (by kernel_rfl)]
  have : c = 0 ∨ c = 1 := by omega
  rcases this with rfl | rfl <;> rfl
theorem sub64_ev (x y c : Nat) (hc : c ≤ 1) : Ev_math_bits_Sub64 (x : Int) (y : Int) (c : Int) ((((x + 18446744073709551616 - y - c) % 18446744073709551616 : Nat) : Int), ((if x < y + c then 1 else 0 : Nat) : Int)) := by
  refine ⟨.tuple #[.int .u64 (((x + 18446744073709551616 - y - c) % 18446744073709551616 : Nat) : Int), .int .u64 ((if x < y + c then 1 else 0 : Nat) : Int)], fun w => ?_, fun w S => rep_two w S _ _⟩
  rw [run_callFunc_extern Tryz.func131 (by kernel_rfl) (by kernel_rfl) (by kernel_rfl) (e := subEntry) (by kernel_rfl)]
  have : c = 0 ∨ c = 1 := by omega
  rcases this with rfl | rfl <;> rfl
end Go.Sim.YtlkpbnhinnhlfaaGreat

/- What is proved: functions of the program compute what plain statements tell. -/
namespace Go.Sim.YtlkpbnhinnhlfaaGreat
open Go.RowKit Go.Proofs Go.Proofs.Tryz
set_option maxRecDepth 100000
def W_math_bits_Div64 (x1 : Int) (x2 : Int) (x3 : Int) (Q : Int × Int → Prop) : Prop :=
 Br (x3 == (0 : Int)) (False) (
  Br (decide (x3 ≤ x1)) (False) (
   Br (x1 == (0 : Int)) (
    Nz x3 <|
    Let (IntKind.u64.wrap (Int.tdiv x2 x3)) fun x6 =>
    Nz x3 <|
    Let (Int.tmod x2 x3) fun x7 =>
    Q (x6, x7)) (
    Call (Ev_math_bits_LeadingZeros64 x3) fun x8 =>
    Let (IntKind.u64.wrap x8) fun x10 =>
    Nn x10 <|
    Let (IntKind.u64.wrap (x3 * 2 ^ (min (Int.toNat x10) 64))) fun x11 =>
    Let (Int.fdiv x11 (2 ^ 32)) fun x12 =>
    Let (bits .and .u64 x11 (4294967295 : Int)) fun x13 =>
    Nn x10 <|
    Let (IntKind.u64.wrap (x1 * 2 ^ (min (Int.toNat x10) 64))) fun x14 =>
    Let (IntKind.u64.wrap ((64 : Int) - x10)) fun x15 =>
    Nn x15 <|
    Let (Int.fdiv x2 (2 ^ (min (Int.toNat x15) 64))) fun x16 =>
    Let (bits .or .u64 x14 x16) fun x17 =>
    Nn x10 <|
    Let (IntKind.u64.wrap (x2 * 2 ^ (min (Int.toNat x10) 64))) fun x18 =>
    Let (Int.fdiv x18 (2 ^ 32)) fun x19 =>
    Let (bits .and .u64 x18 (4294967295 : Int)) fun x20 =>
    Nz x12 <|
    Let (IntKind.u64.wrap (Int.tdiv x17 x12)) fun x21 =>
    Let (IntKind.u64.wrap (x21 * x12)) fun x22 =>
    Let (IntKind.u64.wrap (x17 - x22)) fun x23 =>
    Join1 (fun j58 =>
     Loop2 x21 x23 (fun (x73 : Int) (x74 : Int) next75 =>
      Join1 (fun j80 =>
       Br (decide (x73 ≥ (4294967296 : Int))) (j80 true) (
        Let (IntKind.u64.wrap (x73 * x13)) fun x81 =>
        Let (IntKind.u64.wrap ((4294967296 : Int) * x74)) fun x82 =>
        Let (IntKind.u64.wrap (x82 + x19)) fun x83 =>
        j80 (decide (x81 > x83)))
      ) (fun (x79 : Bool) =>
       Br x79 (
        Let (IntKind.u64.wrap (x73 - (1 : Int))) fun x84 =>
        Let (IntKind.u64.wrap (x74 + x12)) fun x85 =>
        Br (decide (x85 ≥ (4294967296 : Int))) (j58 x84) (
         next75 x84 x85)) (
        j58 x73)))
    ) (fun (x57 : Int) =>
     Let (IntKind.u64.wrap (x17 * (4294967296 : Int))) fun x92 =>
     Let (IntKind.u64.wrap (x92 + x19)) fun x93 =>
     Let (IntKind.u64.wrap (x57 * x11)) fun x94 =>
     Let (IntKind.u64.wrap (x93 - x94)) fun x95 =>
     Nz x12 <|
     Let (IntKind.u64.wrap (Int.tdiv x95 x12)) fun x96 =>
     Let (IntKind.u64.wrap (x96 * x12)) fun x97 =>
     Let (IntKind.u64.wrap (x95 - x97)) fun x98 =>
     Join1 (fun j133 =>
      Loop2 x98 x96 (fun (x148 : Int) (x149 : Int) next150 =>
       Join1 (fun j155 =>
        Br (decide (x149 ≥ (4294967296 : Int))) (j155 true) (
         Let (IntKind.u64.wrap (x149 * x13)) fun x156 =>
         Let (IntKind.u64.wrap ((4294967296 : Int) * x148)) fun x157 =>
         Let (IntKind.u64.wrap (x157 + x20)) fun x158 =>
         j155 (decide (x156 > x158)))
       ) (fun (x154 : Bool) =>
        Br x154 (
         Let (IntKind.u64.wrap (x149 - (1 : Int))) fun x159 =>
         Let (IntKind.u64.wrap (x148 + x12)) fun x160 =>
         Br (decide (x160 ≥ (4294967296 : Int))) (j133 x159) (
          next150 x160 x159)) (
         j133 x149)))
     ) (fun (x132 : Int) =>
      Let (IntKind.u64.wrap (x57 * (4294967296 : Int))) fun x167 =>
      Let (IntKind.u64.wrap (x167 + x132)) fun x168 =>
      Let (IntKind.u64.wrap (x95 * (4294967296 : Int))) fun x169 =>
      Let (IntKind.u64.wrap (x169 + x20)) fun x170 =>
      Let (IntKind.u64.wrap (x132 * x11)) fun x171 =>
      Let (IntKind.u64.wrap (x170 - x171)) fun x172 =>
      Nn x10 <|
      Let (Int.fdiv x172 (2 ^ (min (Int.toNat x10) 64))) fun x173 =>
      Q (x168, x173))))))
theorem walk_math_bits_Div64 {x1 : Int} {x2 : Int} {x3 : Int} {r : Int × Int} (h : W_math_bits_Div64 x1 x2 x3 (fun r' => r' = r)) : Ev_math_bits_Div64 x1 x2 x3 r := by
  unfold W_math_bits_Div64 at h
  refine intr (L := [(0, .dat (.v (.int .u64 x1))), (1, .dat (.v (.int .u64 x2))), (2, .dat (.v (.int .u64 x3)))]) Tryz.func84 Tryz.ntmps84 ?_
  refine sN (pI rfl (pI rfl (dn (AWp.seq (AWp.seq (rN (pI rfl (pB rfl (dn (cB h (fun h => ?_) (fun h => ?_)))))))))))
  · exact h.elim
  refine AWp.skip (AWp.seq (AWp.seq (rN (pI rfl (pI rfl (pB rfl (dn (cB h (fun h => ?_) (fun h => ?_)))))))))
  · exact h.elim
  refine AWp.skip (AWp.seq (AWp.seq (rN (pI rfl (pB rfl (dn (cB h (fun h => ?_) (fun h => ?_))))))))
  · refine sD (pI rfl (pI rfl ?_))
    obtain ⟨hq, h⟩ := h
    obtain ⟨x6, ex6, h⟩ := h.get
    refine AOps.q rfl rfl rfl rfl rfl (rbin_quo hq) ex6 ?_
    refine pI rfl (pI rfl ?_)
    obtain ⟨hq, h⟩ := h
    obtain ⟨x7, ex7, h⟩ := h.get
    refine AOps.q rfl rfl rfl rfl rfl (rbin_rem hq) ex7 ?_
    refine pI rfl (pI rfl (dn (AWp.ret ?_)))
    subst h
    exact ⟨_, rfl, rfl⟩
  refine AWp.skip (AWp.seq (rN (pI rfl (kC h rfl ⟨.inl rfl, trivial⟩ rfl fun x8 h => ?_))))
  obtain ⟨x10, ex10, h⟩ := h.get
  refine ai ex10 rfl (pI rfl (dn (AWp.seq (rN (pI rfl (pI rfl ?_))))))
  obtain ⟨hq, h⟩ := h
  obtain ⟨x11, ex11, h⟩ := h.get
  refine AOps.q rfl rfl rfl rfl rfl (rbin_shl hq) ex11 ?_
  refine pI rfl (dn (AWp.seq (rN (pI rfl ?_))))
  obtain ⟨x12, ex12, h⟩ := h.get
  refine AOps.q rfl rfl rfl rfl rfl (rbin_shr (by decide)) ex12 ?_
  refine pI rfl (dn (AWp.seq (rN (pI rfl ?_))))
  obtain ⟨x13, ex13, h⟩ := h.get
  refine ai ex13 rfl (pI rfl (dn (AWp.seq (rN (pI rfl (pI rfl ?_))))))
  obtain ⟨hq, h⟩ := h
  obtain ⟨x14, ex14, h⟩ := h.get
  refine AOps.q rfl rfl rfl rfl rfl (rbin_shl hq) ex14 ?_
  refine pI rfl (pI rfl ?_)
  obtain ⟨x15, ex15, h⟩ := h.get
  refine ai ex15 rfl ?_
  obtain ⟨hq, h⟩ := h
  obtain ⟨x16, ex16, h⟩ := h.get
  refine AOps.q rfl rfl rfl rfl rfl (rbin_shr hq) ex16 ?_
  obtain ⟨x17, ex17, h⟩ := h.get
  refine ai ex17 rfl (pI rfl (dn (AWp.seq (rN (pI rfl (pI rfl ?_))))))
  obtain ⟨hq, h⟩ := h
  obtain ⟨x18, ex18, h⟩ := h.get
  refine AOps.q rfl rfl rfl rfl rfl (rbin_shl hq) ex18 ?_
  refine pI rfl (dn (AWp.seq (rN (pI rfl ?_))))
  obtain ⟨x19, ex19, h⟩ := h.get
  refine AOps.q rfl rfl rfl rfl rfl (rbin_shr (by decide)) ex19 ?_
  refine pI rfl (dn (AWp.seq (rN (pI rfl ?_))))
  obtain ⟨x20, ex20, h⟩ := h.get
  refine ai ex20 rfl (pI rfl (dn (AWp.seq (rN (pI rfl (pI rfl ?_))))))
  obtain ⟨hq, h⟩ := h
  obtain ⟨x21, ex21, h⟩ := h.get
  refine AOps.q rfl rfl rfl rfl rfl (rbin_quo hq) ex21 ?_
  refine pI rfl (dn (AWp.seq (rN (pI rfl (pI rfl (pI rfl ?_))))))
  obtain ⟨x22, ex22, h⟩ := h.get
  refine ai ex22 rfl ?_
  obtain ⟨x23, ex23, h⟩ := h.get
  refine ai ex23 rfl (pI rfl (dn (AWp.seq ?_)))
  obtain ⟨J176, h, hk177⟩ := h
  refine AWp.cutK (I := fun p : Int => mkSt [(2, .dat (.v (.int .u64 x11))), (8, .dat (.v (.int .u64 x10))), (9, .dat (.v (.int .u64 x12))), (10, .dat (.v (.int .u64 x13))), (11, .dat (.v (.int .u64 x17))), (13, .dat (.v (.int .u64 x19))), (14, .dat (.v (.int .u64 x20))), (15, .dat (.v (.int .u64 p)))] []) (Inv := fun p : Int => J176 p) ?_ (fun p hp => ?_)
  · refine AWp.block ?_
    obtain ⟨I88, x89, hz90, hr91⟩ := h
    refine AWp.loop (I := fun p : Int × Int => mkSt [(2, .dat (.v (.int .u64 x11))), (8, .dat (.v (.int .u64 x10))), (9, .dat (.v (.int .u64 x12))), (10, .dat (.v (.int .u64 x13))), (11, .dat (.v (.int .u64 x17))), (13, .dat (.v (.int .u64 x19))), (14, .dat (.v (.int .u64 x20))), (15, .dat (.v (.int .u64 p.1))), (16, .dat (.v (.int .u64 p.2)))] []) (Inv := fun p => I88 p.1 p.2) (μ := fun p => x89 p.1 p.2) (x0 := ⟨x21, x23⟩) hz90 sl (fun p hp => ?_)
    obtain ⟨x73, x74⟩ := p
    have h := hr91 x73 x74 hp
    refine AWp.seq (AWp.seq ?_)
    obtain ⟨J86, h, hk87⟩ := h
    refine AWp.cutK (I := fun p : Bool => mkSt [(2, .dat (.v (.int .u64 x11))), (8, .dat (.v (.int .u64 x10))), (9, .dat (.v (.int .u64 x12))), (10, .dat (.v (.int .u64 x13))), (11, .dat (.v (.int .u64 x17))), (13, .dat (.v (.int .u64 x19))), (14, .dat (.v (.int .u64 x20))), (15, .dat (.v (.int .u64 x73))), (16, .dat (.v (.int .u64 x74))), (78, .dat (.v (.bool p)))] []) (Inv := fun p : Bool => J86 p) ?_ (fun p hp => ?_)
    · refine rN (pI rfl (pB rfl (pB rfl (sB 69 h (fun h => ?_) (fun h => ?_)))))
      · refine fo 8 rfl (pB rfl (dn ?_))
        exact ⟨true, h, sl⟩
      refine pI rfl (pI rfl ?_)
      obtain ⟨x81, ex81, h⟩ := h.get
      refine ai ex81 rfl (pI rfl ?_)
      obtain ⟨x82, ex82, h⟩ := h.get
      refine ai ex82 rfl (pI rfl ?_)
      obtain ⟨x83, ex83, h⟩ := h.get
      refine ai ex83 rfl (pB rfl (pB rfl (dn ?_)))
      exact ⟨(decide (x81 > x83)), h, sl⟩
    replace h := hk87 p hp
    revert h; clear hp; generalize p = x79; intro h
    refine cB h (fun h => ?_) (fun h => ?_)
    · refine AWp.skip (AWp.block (AWp.seq (rN (pI rfl ?_))))
      obtain ⟨x84, ex84, h⟩ := h.get
      refine ai ex84 rfl (pI rfl (dn (AWp.seq (rN (pI rfl (pI rfl ?_))))))
      obtain ⟨x85, ex85, h⟩ := h.get
      refine ai ex85 rfl (pI rfl (dn (AWp.seq (rN (pI rfl (pB rfl (dn (cB h (fun h => ?_) (fun h => ?_)))))))))
      · refine AWp.exit ?_
        exact ⟨x84, h, sl⟩
      refine AWp.skip ?_
      exact ⟨⟨x84, x85⟩, h.1, h.2, sl⟩
    refine AWp.exit ?_
    exact ⟨x73, h, sl⟩
  replace h := hk177 p hp
  revert h; clear hp; generalize p = x57; intro h
  refine sN (pI rfl ?_)
  obtain ⟨x92, ex92, h⟩ := h.get
  refine ai ex92 rfl (pI rfl ?_)
  obtain ⟨x93, ex93, h⟩ := h.get
  refine ai ex93 rfl (pI rfl (pI rfl ?_))
  obtain ⟨x94, ex94, h⟩ := h.get
  refine ai ex94 rfl ?_
  obtain ⟨x95, ex95, h⟩ := h.get
  refine ai ex95 rfl (pI rfl (dn (AWp.seq (rN (pI rfl (pI rfl ?_))))))
  obtain ⟨hq, h⟩ := h
  obtain ⟨x96, ex96, h⟩ := h.get
  refine AOps.q rfl rfl rfl rfl rfl (rbin_quo hq) ex96 ?_
  refine pI rfl (dn (AWp.seq (rN (pI rfl (pI rfl (pI rfl ?_))))))
  obtain ⟨x97, ex97, h⟩ := h.get
  refine ai ex97 rfl ?_
  obtain ⟨x98, ex98, h⟩ := h.get
  refine ai ex98 rfl (pI rfl (dn (AWp.seq ?_)))
  obtain ⟨J174, h, hk175⟩ := h
  refine AWp.cutK (I := fun p : Int => mkSt [(2, .dat (.v (.int .u64 x11))), (8, .dat (.v (.int .u64 x10))), (14, .dat (.v (.int .u64 x20))), (15, .dat (.v (.int .u64 x57))), (17, .dat (.v (.int .u64 x95))), (18, .dat (.v (.int .u64 p)))] []) (Inv := fun p : Int => J174 p) ?_ (fun p hp => ?_)
  · refine AWp.block ?_
    obtain ⟨I163, x164, hz165, hr166⟩ := h
    refine AWp.loop (I := fun p : Int × Int => mkSt [(2, .dat (.v (.int .u64 x11))), (8, .dat (.v (.int .u64 x10))), (9, .dat (.v (.int .u64 x12))), (10, .dat (.v (.int .u64 x13))), (14, .dat (.v (.int .u64 x20))), (15, .dat (.v (.int .u64 x57))), (16, .dat (.v (.int .u64 p.1))), (17, .dat (.v (.int .u64 x95))), (18, .dat (.v (.int .u64 p.2)))] []) (Inv := fun p => I163 p.1 p.2) (μ := fun p => x164 p.1 p.2) (x0 := ⟨x98, x96⟩) hz165 sl (fun p hp => ?_)
    obtain ⟨x148, x149⟩ := p
    have h := hr166 x148 x149 hp
    refine AWp.seq (AWp.seq ?_)
    obtain ⟨J161, h, hk162⟩ := h
    refine AWp.cutK (I := fun p : Bool => mkSt [(2, .dat (.v (.int .u64 x11))), (8, .dat (.v (.int .u64 x10))), (9, .dat (.v (.int .u64 x12))), (10, .dat (.v (.int .u64 x13))), (14, .dat (.v (.int .u64 x20))), (15, .dat (.v (.int .u64 x57))), (16, .dat (.v (.int .u64 x148))), (17, .dat (.v (.int .u64 x95))), (18, .dat (.v (.int .u64 x149))), (113, .dat (.v (.bool p)))] []) (Inv := fun p : Bool => J161 p) ?_ (fun p hp => ?_)
    · refine rN (pI rfl (pB rfl (pB rfl (sB 104 h (fun h => ?_) (fun h => ?_)))))
      · refine fo 8 rfl (pB rfl (dn ?_))
        exact ⟨true, h, sl⟩
      refine pI rfl (pI rfl ?_)
      obtain ⟨x156, ex156, h⟩ := h.get
      refine ai ex156 rfl (pI rfl ?_)
      obtain ⟨x157, ex157, h⟩ := h.get
      refine ai ex157 rfl (pI rfl ?_)
      obtain ⟨x158, ex158, h⟩ := h.get
      refine ai ex158 rfl (pB rfl (pB rfl (dn ?_)))
      exact ⟨(decide (x156 > x158)), h, sl⟩
    replace h := hk162 p hp
    revert h; clear hp; generalize p = x154; intro h
    refine cB h (fun h => ?_) (fun h => ?_)
    · refine AWp.skip (AWp.block (AWp.seq (rN (pI rfl ?_))))
      obtain ⟨x159, ex159, h⟩ := h.get
      refine ai ex159 rfl (pI rfl (dn (AWp.seq (rN (pI rfl (pI rfl ?_))))))
      obtain ⟨x160, ex160, h⟩ := h.get
      refine ai ex160 rfl (pI rfl (dn (AWp.seq (rN (pI rfl (pB rfl (dn (cB h (fun h => ?_) (fun h => ?_)))))))))
      · refine AWp.exit ?_
        exact ⟨x159, h, sl⟩
      refine AWp.skip ?_
      exact ⟨⟨x160, x159⟩, h.1, h.2, sl⟩
    refine AWp.exit ?_
    exact ⟨x149, h, sl⟩
  replace h := hk175 p hp
  revert h; clear hp; generalize p = x132; intro h
  refine sN (pI rfl ?_)
  obtain ⟨x167, ex167, h⟩ := h.get
  refine ai ex167 rfl (pI rfl ?_)
  obtain ⟨x168, ex168, h⟩ := h.get
  refine ai ex168 rfl (pI rfl ?_)
  obtain ⟨x169, ex169, h⟩ := h.get
  refine ai ex169 rfl (pI rfl ?_)
  obtain ⟨x170, ex170, h⟩ := h.get
  refine ai ex170 rfl (pI rfl (pI rfl ?_))
  obtain ⟨x171, ex171, h⟩ := h.get
  refine ai ex171 rfl ?_
  obtain ⟨x172, ex172, h⟩ := h.get
  refine ai ex172 rfl (pI rfl ?_)
  obtain ⟨hq, h⟩ := h
  obtain ⟨x173, ex173, h⟩ := h.get
  refine AOps.q rfl rfl rfl rfl rfl (rbin_shr hq) ex173 ?_
  refine pI rfl (pI rfl (dn (AWp.ret ?_)))
  subst h
  exact ⟨_, rfl, rfl⟩
def W_math_bits_LeadingZeros64 (x1 : Int) (Q : Int → Prop) : Prop :=
 Call (Ev_math_bits_Len64 x1) fun x2 =>
 Let (IntKind.i64.wrap ((64 : Int) - x2)) fun x4 =>
 Q x4
theorem walk_math_bits_LeadingZeros64 {x1 : Int} {r : Int} (h : W_math_bits_LeadingZeros64 x1 (fun r' => r' = r)) : Ev_math_bits_LeadingZeros64 x1 r := by
  unfold W_math_bits_LeadingZeros64 at h
  refine intr (L := [(0, .dat (.v (.int .u64 x1)))]) Tryz.func83 Tryz.ntmps83 ?_
  refine sN (pI rfl (dn (AWp.seq (rN (pI rfl (kC h rfl ⟨.inl rfl, trivial⟩ rfl fun x2 h => ?_))))))
  obtain ⟨x4, ex4, h⟩ := h.get
  refine ai ex4 rfl (pI rfl (dn (AWp.ret ?_)))
  subst h
  exact ⟨_, rfl, rfl⟩
def W_math_bits_Len64 (x1 : Int) (Q : Int → Prop) : Prop :=
 Join2 (fun j5 =>
  Br (decide (x1 ≥ (4294967296 : Int))) (
   Let (Int.fdiv x1 (2 ^ 32)) fun x6 =>
   j5 x6 (32 : Int)) (
   j5 x1 (0 : Int))
 ) (fun (x3 : Int) (n4 : Int) =>
  Join2 (fun j11 =>
   Br (decide (x3 ≥ (65536 : Int))) (
    Let (Int.fdiv x3 (2 ^ 16)) fun x12 =>
    Let (IntKind.i64.wrap (n4 + (16 : Int))) fun x13 =>
    j11 x12 x13) (
    j11 x3 n4)
  ) (fun (x9 : Int) (n10 : Int) =>
   Join2 (fun j18 =>
    Br (decide (x9 ≥ (256 : Int))) (
     Let (Int.fdiv x9 (2 ^ 8)) fun x19 =>
     Let (IntKind.i64.wrap (n10 + (8 : Int))) fun x20 =>
     j18 x19 x20) (
     j18 x9 n10)
   ) (fun (x16 : Int) (n17 : Int) =>
    Let (IntKind.u8.wrap x16) fun x21 =>
    AtS (ByteArray.mk #[0, 1, 2, 2, 3, 3, 3, 3, 4, 4, 4, 4, 4, 4, 4, 4, 5, 5, 5, 5, 5, 5, 5, 5, 5, 5, 5, 5, 5, 5, 5, 5, 6, 6, 6, 6, 6, 6, 6, 6, 6, 6, 6, 6, 6, 6, 6, 6, 6, 6, 6, 6, 6, 6, 6, 6, 6, 6, 6, 6, 6, 6, 6, 6, 7, 7, 7, 7, 7, 7, 7, 7, 7, 7, 7, 7, 7, 7, 7, 7, 7, 7, 7, 7, 7, 7, 7, 7, 7, 7, 7, 7, 7, 7, 7, 7, 7, 7, 7, 7, 7, 7, 7, 7, 7, 7, 7, 7, 7, 7, 7, 7, 7, 7, 7, 7, 7, 7, 7, 7, 7, 7, 7, 7, 7, 7, 7, 7, 8, 8, 8, 8, 8, 8, 8, 8, 8, 8, 8, 8, 8, 8, 8, 8, 8, 8, 8, 8, 8, 8, 8, 8, 8, 8, 8, 8, 8, 8, 8, 8, 8, 8, 8, 8, 8, 8, 8, 8, 8, 8, 8, 8, 8, 8, 8, 8, 8, 8, 8, 8, 8, 8, 8, 8, 8, 8, 8, 8, 8, 8, 8, 8, 8, 8, 8, 8, 8, 8, 8, 8, 8, 8, 8, 8, 8, 8, 8, 8, 8, 8, 8, 8, 8, 8, 8, 8, 8, 8, 8, 8, 8, 8, 8, 8, 8, 8, 8, 8, 8, 8, 8, 8, 8, 8, 8, 8, 8, 8, 8, 8, 8, 8, 8, 8, 8, 8, 8, 8, 8, 8, 8, 8, 8, 8, 8, 8]) x21 fun x23 =>
    Let (IntKind.i64.wrap x23) fun x25 =>
    Let (IntKind.i64.wrap (n17 + x25)) fun x26 =>
    Q x26)))
theorem walk_math_bits_Len64 {x1 : Int} {r : Int} (h : W_math_bits_Len64 x1 (fun r' => r' = r)) : Ev_math_bits_Len64 x1 r := by
  unfold W_math_bits_Len64 at h
  refine intr (L := [(0, .dat (.v (.int .u64 x1)))]) Tryz.func112 Tryz.ntmps112 ?_
  refine sN (pI rfl (dn (AWp.seq (AWp.seq (rN (pI rfl (pB rfl (dn ?_))))))))
  obtain ⟨J31, h, hk32⟩ := h
  refine AWp.cutK (I := fun p : Int × Int => mkSt [(0, .dat (.v (.int .u64 p.1))), (2, .dat (.v (.int .i64 p.2)))] []) (Inv := fun p : Int × Int => J31 p.1 p.2) ?_ (fun p hp => ?_)
  · refine cB h (fun h => ?_) (fun h => ?_)
    · refine sN (pI rfl ?_)
      obtain ⟨x6, ex6, h⟩ := h.get
      refine AOps.q rfl rfl rfl rfl rfl (rbin_shr (by decide)) ex6 ?_
      refine pI rfl (dn (rN (pI rfl (dn ?_))))
      exact ⟨⟨x6, (32 : Int)⟩, h, sl⟩
    refine AWp.skip ?_
    exact ⟨⟨x1, (0 : Int)⟩, h, sl⟩
  obtain ⟨x3, n4⟩ := p
  replace h := hk32 x3 n4 hp
  refine AWp.seq (AWp.seq (rN (pI rfl (pB rfl (dn ?_)))))
  obtain ⟨J29, h, hk30⟩ := h
  refine AWp.cutK (I := fun p : Int × Int => mkSt [(0, .dat (.v (.int .u64 p.1))), (2, .dat (.v (.int .i64 p.2)))] []) (Inv := fun p : Int × Int => J29 p.1 p.2) ?_ (fun p hp => ?_)
  · refine cB h (fun h => ?_) (fun h => ?_)
    · refine sN (pI rfl ?_)
      obtain ⟨x12, ex12, h⟩ := h.get
      refine AOps.q rfl rfl rfl rfl rfl (rbin_shr (by decide)) ex12 ?_
      refine pI rfl (dn (rN (pI rfl ?_)))
      obtain ⟨x13, ex13, h⟩ := h.get
      refine ai ex13 rfl (pI rfl (dn ?_))
      exact ⟨⟨x12, x13⟩, h, sl⟩
    refine AWp.skip ?_
    exact ⟨⟨x3, n4⟩, h, sl⟩
  obtain ⟨x9, n10⟩ := p
  replace h := hk30 x9 n10 hp
  refine AWp.seq (AWp.seq (rN (pI rfl (pB rfl (dn ?_)))))
  obtain ⟨J27, h, hk28⟩ := h
  refine AWp.cutK (I := fun p : Int × Int => mkSt [(0, .dat (.v (.int .u64 p.1))), (2, .dat (.v (.int .i64 p.2)))] []) (Inv := fun p : Int × Int => J27 p.1 p.2) ?_ (fun p hp => ?_)
  · refine cB h (fun h => ?_) (fun h => ?_)
    · refine sN (pI rfl ?_)
      obtain ⟨x19, ex19, h⟩ := h.get
      refine AOps.q rfl rfl rfl rfl rfl (rbin_shr (by decide)) ex19 ?_
      refine pI rfl (dn (rN (pI rfl ?_)))
      obtain ⟨x20, ex20, h⟩ := h.get
      refine ai ex20 rfl (pI rfl (dn ?_))
      exact ⟨⟨x19, x20⟩, h, sl⟩
    refine AWp.skip ?_
    exact ⟨⟨x9, n10⟩, h, sl⟩
  obtain ⟨x16, n17⟩ := p
  replace h := hk28 x16 n17 hp
  refine sN (pI rfl (pI rfl ?_))
  obtain ⟨x21, ex21, h⟩ := h.get
  refine ai ex21 rfl ?_
  obtain ⟨hi22, x23, hx24, h⟩ := AtS.get h
  refine AOps.sidxE tabOk rfl rfl rfl rfl rfl rfl rfl hi22 hx24 ?_
  obtain ⟨x25, ex25, h⟩ := h.get
  refine ai ex25 rfl ?_
  obtain ⟨x26, ex26, h⟩ := h.get
  refine ai ex26 rfl (pI rfl (dn (AWp.ret ?_)))
  subst h
  exact ⟨_, rfl, rfl⟩
end Go.Sim.YtlkpbnhinnhlfaaGreat
