/- What is proved: functions of the program compute what plain statements tell. -/
import Derived.Test.YtnnfiohdkobkdaaGreatDoorZZPLWE

namespace Go.Sim.YtnnfiohdkobkdaaGreatDoor
open Go.RowKit Go.Proofs Go.Proofs.Tryz
set_option maxRecDepth 100000
def W_rat_Right (a1 : GRat) (Q : Bool → Prop) : Prop :=
 Br (decide (a1.D ≥ (1 : Int))) (
  Br (decide (a1.N > (-9223372036854775808 : Int))) (
   Call (Ev_rat_size a1.N) fun x8 =>
   Call (Ev_rat_size a1.D) fun x10 =>
   Call (Ev_rat_gcd x8 x10) fun x12 =>
   Q (x12 == (1 : Int))) (
   Q false)) (
  Q false)
theorem walk_rat_Right {a1 : GRat} {r : Bool} (h : W_rat_Right a1 (fun r' => r' = r)) : Ev_rat_Right a1 r := by
  unfold W_rat_Right at h
  refine intr (L := [(0, .dat (GRat.enc a1))]) Tryz.func152 Tryz.ntmps152 ?_
  refine sN (bx (v := .dat (.st _ _)) ?_)
  refine pB rfl (dn (AWp.seq (rD (pP rfl (pI rfl (pB rfl (pB rfl (sB 6 h (fun h => ?_) (fun h => ?_)))))))))
  · refine pP rfl (pI rfl (pB rfl (pB rfl (pB rfl (sB 11 h (fun h => ?_) (fun h => ?_))))))
    · refine pP rfl (pI rfl ?_)
      obtain ⟨x8, hc9, h⟩ := h
      refine ca hc9 rfl ⟨.inl rfl, trivial⟩ rfl (pP rfl (pI rfl ?_))
      obtain ⟨x10, hc11, h⟩ := h
      refine ca hc11 rfl ⟨.inl rfl, trivial⟩ rfl ?_
      obtain ⟨x12, hc13, h⟩ := h
      refine ca hc13 rfl ⟨.inl rfl, .inl rfl, trivial⟩ rfl (pB rfl (pB rfl (pB rfl (dn (AWp.ret ?_)))))
      subst h
      exact ⟨_, rfl, rfl⟩
    refine ff rfl (ff rfl (ff rfl (ff rfl (ff rfl (ff rfl (ff rfl (ff rfl (pB rfl (pB rfl (dn (AWp.ret ?_)))))))))))
    subst h
    exact ⟨_, rfl, rfl⟩
  refine ff rfl (ff rfl (ff rfl (pB rfl (pB rfl (ff rfl (ff rfl (ff rfl (ff rfl (ff rfl (ff rfl (ff rfl (ff rfl (pB rfl (pB rfl (dn (AWp.ret ?_))))))))))))))))
  subst h
  exact ⟨_, rfl, rfl⟩
def W_rat_gcd (a1 : Int) (b2 : Int) (Q : Int → Prop) : Prop :=
 Loop2 a1 b2 (fun (a17 : Int) (b18 : Int) next19 =>
  Br (decide (b18 > (0 : Int))) (
   Nz b18 <|
   Let (Int.tmod a17 b18) fun x20 =>
   next19 b18 x20) (
   Q a17))
theorem walk_rat_gcd {a1 : Int} {b2 : Int} {r : Int} (h : W_rat_gcd a1 b2 (fun r' => r' = r)) : Ev_rat_gcd a1 b2 r := by
  unfold W_rat_gcd at h
  refine intr (L := [(0, .dat (.v (.int .u64 a1))), (1, .dat (.v (.int .u64 b2)))]) Tryz.func200 Tryz.ntmps200 ?_
  refine sN (pI rfl (dn (AWp.seq (AWp.block ?_))))
  obtain ⟨I21, x22, hz23, hr24⟩ := h
  refine AWp.loop (I := fun p : Int × Int => mkSt [(0, .dat (.v (.int .u64 p.1))), (1, .dat (.v (.int .u64 p.2)))] []) (Inv := fun p => I21 p.1 p.2) (μ := fun p => x22 p.1 p.2) (x0 := ⟨a1, b2⟩) hz23 sl (fun p hp => ?_)
  obtain ⟨a17, b18⟩ := p
  have h := hr24 a17 b18 hp
  refine AWp.seq (AWp.seq (rN (pI rfl (pB rfl (dn (cB h (fun h => ?_) (fun h => ?_)))))))
  · refine AWp.skip ?_
    refine AWp.block (rD (pI rfl (pI rfl (pI rfl ?_))))
    obtain ⟨hq, h⟩ := h
    obtain ⟨x20, ex20, h⟩ := h.get
    refine AOps.q rfl rfl rfl rfl rfl (rbin_rem hq) ex20 ?_
    refine pI rfl (pI rfl (dn ?_))
    exact ⟨⟨b18, x20⟩, h.1, h.2, sl⟩
  refine AWp.exit ?_
  refine sN (pI rfl (pI rfl (dn (AWp.ret ?_))))
  subst h
  exact ⟨_, rfl, rfl⟩
def W_rat_size (n1 : Int) (Q : Int → Prop) : Prop :=
 Br (decide (n1 < (0 : Int))) (
  Let (IntKind.u64.wrap n1) fun x4 =>
  Let (IntKind.u64.wrap ((0 : Int) - x4)) fun x5 =>
  Q x5) (
  Let (IntKind.u64.wrap n1) fun x6 =>
  Q x6)
theorem walk_rat_size {n1 : Int} {r : Int} (h : W_rat_size n1 (fun r' => r' = r)) : Ev_rat_size n1 r := by
  unfold W_rat_size at h
  refine intr (L := [(0, .dat (.v (.int .i64 n1)))]) Tryz.func201 Tryz.ntmps201 ?_
  refine sN (pI rfl (dn (AWp.seq (AWp.seq (rN (pI rfl (pB rfl (dn (cB h (fun h => ?_) (fun h => ?_))))))))))
  · refine sN (pI rfl ?_)
    obtain ⟨x4, ex4, h⟩ := h.get
    refine ai ex4 rfl ?_
    obtain ⟨x5, ex5, h⟩ := h.get
    refine ai ex5 rfl (pI rfl (dn (AWp.ret ?_)))
    subst h
    exact ⟨_, rfl, rfl⟩
  refine AWp.skip ?_
  refine sN (pI rfl ?_)
  obtain ⟨x6, ex6, h⟩ := h.get
  refine ai ex6 rfl (pI rfl (dn (AWp.ret ?_)))
  subst h
  exact ⟨_, rfl, rfl⟩
def W_rat_made (neg1 : Bool) (n2 : Int) (d3 : Int) (Q : GRat × Int → Prop) : Prop :=
 Call (Ev_rat_gcd n2 d3) fun x4 =>
 Nz x4 <|
 Let (IntKind.u64.wrap (Int.tdiv n2 x4)) fun x6 =>
 Nz x4 <|
 Let (IntKind.u64.wrap (Int.tdiv d3 x4)) fun x7 =>
 Br (decide (x6 > (9223372036854775807 : Int))) (Q (GRat.zero, (3 : Int))) (
  Br (decide (x7 > (9223372036854775807 : Int))) (Q (GRat.zero, (3 : Int))) (
   Br neg1 (
    Let (IntKind.i64.wrap x6) fun x11 =>
    Let (IntKind.i64.wrap (0 - x11)) fun x12 =>
    Let (IntKind.i64.wrap x7) fun x13 =>
    Q ((GRat.mk x12 x13), (0 : Int))) (
    Let (IntKind.i64.wrap x6) fun x14 =>
    Let (IntKind.i64.wrap x7) fun x15 =>
    Q ((GRat.mk x14 x15), (0 : Int)))))
theorem walk_rat_made {neg1 : Bool} {n2 : Int} {d3 : Int} {r : GRat × Int} (h : W_rat_made neg1 n2 d3 (fun r' => r' = r)) : Ev_rat_made neg1 n2 d3 r := by
  unfold W_rat_made at h
  refine intr (L := [(0, .dat (.v (.bool neg1))), (1, .dat (.v (.int .u64 n2))), (2, .dat (.v (.int .u64 d3)))]) Tryz.func205 Tryz.ntmps205 ?_
  refine sN (al0 ?_)
  refine pI rfl (dn (AWp.seq (rN (pI rfl (pI rfl ?_)))))
  obtain ⟨x4, hc5, h⟩ := h
  refine ca hc5 rfl ⟨.inl rfl, .inl rfl, trivial⟩ rfl (pI rfl (dn (AWp.seq (rD (pI rfl (pI rfl ?_))))))
  obtain ⟨hq, h⟩ := h
  obtain ⟨x6, ex6, h⟩ := h.get
  refine AOps.q rfl rfl rfl rfl rfl (rbin_quo hq) ex6 ?_
  refine pI rfl (pI rfl ?_)
  obtain ⟨hq, h⟩ := h
  obtain ⟨x7, ex7, h⟩ := h.get
  refine AOps.q rfl rfl rfl rfl rfl (rbin_quo hq) ex7 ?_
  refine pI rfl (pI rfl (dn (AWp.seq (AWp.seq (rN (pI rfl (pB rfl (pB rfl (sB 20 h (fun h => ?_) (fun h => ?_))))))))))
  · refine ff rfl (ff rfl (pB rfl (dn ?_)))
    refine AWp.condT rfl ?_
    refine sW (pT rfl (st (v := .dat (.st _ _)) ?_))
    refine pI rfl (dn (AWp.ret ?_))
    subst h
    exact ⟨_, rfl, rfl⟩
  refine pI rfl (pB rfl (pB rfl (dn (cB h (fun h => ?_) (fun h => ?_)))))
  · refine sW (pT rfl (st (v := .dat (.st _ _)) ?_))
    refine pI rfl (dn (AWp.ret ?_))
    subst h
    exact ⟨_, rfl, rfl⟩
  refine AWp.skip ?_
  refine AWp.seq (AWp.seq (rN (pB rfl (dn (cB h (fun h => ?_) (fun h => ?_))))))
  · refine sW (pI rfl ?_)
    obtain ⟨x11, ex11, h⟩ := h.get
    refine ai ex11 rfl ?_
    obtain ⟨x12, ex12, h⟩ := h.get
    refine ai ex12 rfl (pI rfl ?_)
    obtain ⟨x13, ex13, h⟩ := h.get
    refine ai ex13 rfl (pT rfl (st (v := .dat (.st _ _)) ?_))
    refine pI rfl (dn (AWp.ret ?_))
    subst h
    exact ⟨_, rfl, rfl⟩
  refine AWp.skip ?_
  refine sW (pI rfl ?_)
  obtain ⟨x14, ex14, h⟩ := h.get
  refine ai ex14 rfl (pI rfl ?_)
  obtain ⟨x15, ex15, h⟩ := h.get
  refine ai ex15 rfl (pT rfl (st (v := .dat (.st _ _)) ?_))
  refine pI rfl (dn (AWp.ret ?_))
  subst h
  exact ⟨_, rfl, rfl⟩
def W_math_bits_Mul64 (x1 : Int) (y2 : Int) (Q : Int × Int → Prop) : Prop :=
 Let (bits .and .u64 x1 (4294967295 : Int)) fun x3 =>
 Let (Int.fdiv x1 (2 ^ 32)) fun x4 =>
 Let (bits .and .u64 y2 (4294967295 : Int)) fun x5 =>
 Let (Int.fdiv y2 (2 ^ 32)) fun x6 =>
 Let (IntKind.u64.wrap (x3 * x5)) fun x7 =>
 Let (IntKind.u64.wrap (x4 * x5)) fun x8 =>
 Let (Int.fdiv x7 (2 ^ 32)) fun x9 =>
 Let (IntKind.u64.wrap (x8 + x9)) fun x10 =>
 Let (bits .and .u64 x10 (4294967295 : Int)) fun x11 =>
 Let (Int.fdiv x10 (2 ^ 32)) fun x12 =>
 Let (IntKind.u64.wrap (x3 * x6)) fun x13 =>
 Let (IntKind.u64.wrap (x11 + x13)) fun x14 =>
 Let (IntKind.u64.wrap (x4 * x6)) fun x15 =>
 Let (IntKind.u64.wrap (x15 + x12)) fun x16 =>
 Let (Int.fdiv x14 (2 ^ 32)) fun x17 =>
 Let (IntKind.u64.wrap (x16 + x17)) fun x18 =>
 Let (IntKind.u64.wrap (x1 * y2)) fun x19 =>
 Q (x18, x19)
theorem walk_math_bits_Mul64 {x1 : Int} {y2 : Int} {r : Int × Int} (h : W_math_bits_Mul64 x1 y2 (fun r' => r' = r)) : Ev_math_bits_Mul64 x1 y2 r := by
  unfold W_math_bits_Mul64 at h
  refine intr (L := [(0, .dat (.v (.int .u64 x1))), (1, .dat (.v (.int .u64 y2)))]) Tryz.func230 Tryz.ntmps230 ?_
  refine sN (pI rfl (pI rfl (dn (AWp.seq (rN (pI rfl ?_))))))
  obtain ⟨x3, ex3, h⟩ := h.get
  refine ai ex3 rfl (pI rfl (dn (AWp.seq (rN (pI rfl ?_)))))
  obtain ⟨x4, ex4, h⟩ := h.get
  refine AOps.q rfl rfl rfl rfl rfl (rbin_shr (by decide)) ex4 ?_
  refine pI rfl (dn (AWp.seq (rN (pI rfl ?_))))
  obtain ⟨x5, ex5, h⟩ := h.get
  refine ai ex5 rfl (pI rfl (dn (AWp.seq (rN (pI rfl ?_)))))
  obtain ⟨x6, ex6, h⟩ := h.get
  refine AOps.q rfl rfl rfl rfl rfl (rbin_shr (by decide)) ex6 ?_
  refine pI rfl (dn (AWp.seq (rN (pI rfl (pI rfl ?_)))))
  obtain ⟨x7, ex7, h⟩ := h.get
  refine ai ex7 rfl (pI rfl (dn (AWp.seq (rN (pI rfl (pI rfl ?_))))))
  obtain ⟨x8, ex8, h⟩ := h.get
  refine ai ex8 rfl (pI rfl ?_)
  obtain ⟨x9, ex9, h⟩ := h.get
  refine AOps.q rfl rfl rfl rfl rfl (rbin_shr (by decide)) ex9 ?_
  obtain ⟨x10, ex10, h⟩ := h.get
  refine ai ex10 rfl (pI rfl (dn (AWp.seq (rN (pI rfl ?_)))))
  obtain ⟨x11, ex11, h⟩ := h.get
  refine ai ex11 rfl (pI rfl (dn (AWp.seq (rN (pI rfl ?_)))))
  obtain ⟨x12, ex12, h⟩ := h.get
  refine AOps.q rfl rfl rfl rfl rfl (rbin_shr (by decide)) ex12 ?_
  refine pI rfl (dn (AWp.seq (rN (pI rfl (pI rfl (pI rfl ?_))))))
  obtain ⟨x13, ex13, h⟩ := h.get
  refine ai ex13 rfl ?_
  obtain ⟨x14, ex14, h⟩ := h.get
  refine ai ex14 rfl (pI rfl (dn (AWp.seq (rN (pI rfl (pI rfl ?_))))))
  obtain ⟨x15, ex15, h⟩ := h.get
  refine ai ex15 rfl (pI rfl ?_)
  obtain ⟨x16, ex16, h⟩ := h.get
  refine ai ex16 rfl (pI rfl ?_)
  obtain ⟨x17, ex17, h⟩ := h.get
  refine AOps.q rfl rfl rfl rfl rfl (rbin_shr (by decide)) ex17 ?_
  obtain ⟨x18, ex18, h⟩ := h.get
  refine ai ex18 rfl (pI rfl (dn (AWp.seq (rN (pI rfl (pI rfl ?_))))))
  obtain ⟨x19, ex19, h⟩ := h.get
  refine ai ex19 rfl (pI rfl (dn (AWp.ret ?_)))
  subst h
  exact ⟨_, rfl, rfl⟩
def W_rat_Make (n1 : Int) (d2 : Int) (Q : GRat × Int → Prop) : Prop :=
 Br (d2 == (0 : Int)) (Q (GRat.zero, (6 : Int))) (
  Call (Ev_rat_size n1) fun x3 =>
  Call (Ev_rat_size d2) fun x5 =>
  Call (Ev_rat_made ((decide (n1 < (0 : Int))) != (decide (d2 < (0 : Int)))) x3 x5) fun x7 =>
  Q (x7.1, x7.2))
theorem walk_rat_Make {n1 : Int} {d2 : Int} {r : GRat × Int} (h : W_rat_Make n1 d2 (fun r' => r' = r)) : Ev_rat_Make n1 d2 r := by
  unfold W_rat_Make at h
  refine intr (L := [(0, .dat (.v (.int .i64 n1))), (1, .dat (.v (.int .i64 d2)))]) Tryz.func164 Tryz.ntmps164 ?_
  refine sN (al0 ?_)
  refine pI rfl (dn (AWp.seq (AWp.seq (rN (pI rfl (pB rfl (dn (cB h (fun h => ?_) (fun h => ?_)))))))))
  · refine sW (pT rfl (st (v := .dat (.st _ _)) ?_))
    refine pI rfl (dn (AWp.ret ?_))
    subst h
    exact ⟨_, rfl, rfl⟩
  refine AWp.skip ?_
  refine sW (pI rfl (pB rfl (pI rfl (pB rfl (pB rfl (pI rfl ?_))))))
  obtain ⟨x3, hc4, h⟩ := h
  refine ca hc4 rfl ⟨.inl rfl, trivial⟩ rfl (pI rfl ?_)
  obtain ⟨x5, hc6, h⟩ := h
  refine ca hc6 rfl ⟨.inl rfl, trivial⟩ rfl ?_
  obtain ⟨x7, hc8, h⟩ := h
  refine ca hc8 rfl ⟨.inl rfl, .inl rfl, .inl rfl, trivial⟩ rfl (pT rfl (pI rfl (st (v := .dat (.st _ _)) ?_)))
  refine pI rfl (dn (AWp.ret ?_))
  subst h
  exact ⟨_, rfl, rfl⟩
end Go.Sim.YtnnfiohdkobkdaaGreatDoor
