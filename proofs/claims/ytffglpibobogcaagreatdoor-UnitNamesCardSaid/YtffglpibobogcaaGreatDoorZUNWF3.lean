/- What is proved: functions of the program compute what plain statements tell. -/
import Derived.Test.YtffglpibobogcaaGreatDoorZUNWE

namespace Go.Sim.YtffglpibobogcaaGreatDoor
open Go.RowKit Go.Proofs Go.Proofs.Tryz
set_option maxRecDepth 100000
def W_rat_Right (a1 : GRat) (Q : Bool → Prop) : Prop :=
 Br (decide (a1.D ≥ (1 : Int))) (
  Br (decide (a1.N > (-9223372036854775808 : Int))) (
   Call (Ev_rat_size a1.N) fun x8 =>
   Call (Ev_rat_size a1.D) fun x10 =>
   Call (Ev_rat_gcd x8 x10) fun x12 =>
   Q (x12 == (1 : Int))) (
   Q false)) (
  Q false)
theorem walk_rat_Right {a1 : GRat} {r : Bool} (h : W_rat_Right a1 (fun r' => r' = r)) : Ev_rat_Right a1 r := by
  unfold W_rat_Right at h
  refine intr (L := [(0, .dat (GRat.enc a1))]) Tryz.func67 Tryz.ntmps67 ?_
  refine sN (bx (v := .dat (.st _ _)) ?_)
  refine pB rfl (dn (AWp.seq (rD (pP rfl (pI rfl (pB rfl (pB rfl (sB 6 h (fun h => ?_) (fun h => ?_)))))))))
  · refine pP rfl (pI rfl (pB rfl (pB rfl (pB rfl (sB 11 h (fun h => ?_) (fun h => ?_))))))
    · refine pP rfl (pI rfl ?_)
      obtain ⟨x8, hc9, h⟩ := h
      refine ca hc9 rfl ⟨.inl rfl, trivial⟩ rfl (pP rfl (pI rfl ?_))
      obtain ⟨x10, hc11, h⟩ := h
      refine ca hc11 rfl ⟨.inl rfl, trivial⟩ rfl ?_
      obtain ⟨x12, hc13, h⟩ := h
      refine ca hc13 rfl ⟨.inl rfl, .inl rfl, trivial⟩ rfl (pB rfl (pB rfl (pB rfl (dn (AWp.ret ?_)))))
      subst h
      exact ⟨_, rfl, rfl⟩
    refine ff rfl (ff rfl (ff rfl (ff rfl (ff rfl (ff rfl (ff rfl (ff rfl (pB rfl (pB rfl (dn (AWp.ret ?_)))))))))))
    subst h
    exact ⟨_, rfl, rfl⟩
  refine ff rfl (ff rfl (ff rfl (pB rfl (pB rfl (ff rfl (ff rfl (ff rfl (ff rfl (ff rfl (ff rfl (ff rfl (ff rfl (pB rfl (pB rfl (dn (AWp.ret ?_))))))))))))))))
  subst h
  exact ⟨_, rfl, rfl⟩
def W_rat_gcd (a1 : Int) (b2 : Int) (Q : Int → Prop) : Prop :=
 Loop2 a1 b2 (fun (a17 : Int) (b18 : Int) next19 =>
  Br (decide (b18 > (0 : Int))) (
   Nz b18 <|
   Let (Int.tmod a17 b18) fun x20 =>
   next19 b18 x20) (
   Q a17))
theorem walk_rat_gcd {a1 : Int} {b2 : Int} {r : Int} (h : W_rat_gcd a1 b2 (fun r' => r' = r)) : Ev_rat_gcd a1 b2 r := by
  unfold W_rat_gcd at h
  refine intr (L := [(0, .dat (.v (.int .u64 a1))), (1, .dat (.v (.int .u64 b2)))]) Tryz.func87 Tryz.ntmps87 ?_
  refine sN (pI rfl (dn (AWp.seq (AWp.block ?_))))
  obtain ⟨I21, x22, hz23, hr24⟩ := h
  refine AWp.loop (I := fun p : Int × Int => mkSt [(0, .dat (.v (.int .u64 p.1))), (1, .dat (.v (.int .u64 p.2)))] []) (Inv := fun p => I21 p.1 p.2) (μ := fun p => x22 p.1 p.2) (x0 := ⟨a1, b2⟩) hz23 sl (fun p hp => ?_)
  obtain ⟨a17, b18⟩ := p
  have h := hr24 a17 b18 hp
  refine AWp.seq (AWp.seq (rN (pI rfl (pB rfl (dn (cB h (fun h => ?_) (fun h => ?_)))))))
  · refine AWp.skip ?_
    refine AWp.block (rD (pI rfl (pI rfl (pI rfl ?_))))
    obtain ⟨hq, h⟩ := h
    obtain ⟨x20, ex20, h⟩ := h.get
    refine AOps.q rfl rfl rfl rfl rfl (rbin_rem hq) ex20 ?_
    refine pI rfl (pI rfl (dn ?_))
    exact ⟨⟨b18, x20⟩, h.1, h.2, sl⟩
  refine AWp.exit ?_
  refine sN (pI rfl (pI rfl (dn (AWp.ret ?_))))
  subst h
  exact ⟨_, rfl, rfl⟩
def W_rat_size (n1 : Int) (Q : Int → Prop) : Prop :=
 Br (decide (n1 < (0 : Int))) (
  Let (IntKind.u64.wrap n1) fun x4 =>
  Let (IntKind.u64.wrap ((0 : Int) - x4)) fun x5 =>
  Q x5) (
  Let (IntKind.u64.wrap n1) fun x6 =>
  Q x6)
theorem walk_rat_size {n1 : Int} {r : Int} (h : W_rat_size n1 (fun r' => r' = r)) : Ev_rat_size n1 r := by
  unfold W_rat_size at h
  refine intr (L := [(0, .dat (.v (.int .i64 n1)))]) Tryz.func88 Tryz.ntmps88 ?_
  refine sN (pI rfl (dn (AWp.seq (AWp.seq (rN (pI rfl (pB rfl (dn (cB h (fun h => ?_) (fun h => ?_))))))))))
  · refine sN (pI rfl ?_)
    obtain ⟨x4, ex4, h⟩ := h.get
    refine ai ex4 rfl ?_
    obtain ⟨x5, ex5, h⟩ := h.get
    refine ai ex5 rfl (pI rfl (dn (AWp.ret ?_)))
    subst h
    exact ⟨_, rfl, rfl⟩
  refine AWp.skip ?_
  refine sN (pI rfl ?_)
  obtain ⟨x6, ex6, h⟩ := h.get
  refine ai ex6 rfl (pI rfl (dn (AWp.ret ?_)))
  subst h
  exact ⟨_, rfl, rfl⟩
def W_rat_made (neg1 : Bool) (n2 : Int) (d3 : Int) (Q : GRat × Int → Prop) : Prop :=
 Call (Ev_rat_gcd n2 d3) fun x4 =>
 Nz x4 <|
 Let (IntKind.u64.wrap (Int.tdiv n2 x4)) fun x6 =>
 Nz x4 <|
 Let (IntKind.u64.wrap (Int.tdiv d3 x4)) fun x7 =>
 Br (decide (x6 > (9223372036854775807 : Int))) (Q (GRat.zero, (3 : Int))) (
  Br (decide (x7 > (9223372036854775807 : Int))) (Q (GRat.zero, (3 : Int))) (
   Br neg1 (
    Let (IntKind.i64.wrap x6) fun x11 =>
    Let (IntKind.i64.wrap (0 - x11)) fun x12 =>
    Let (IntKind.i64.wrap x7) fun x13 =>
    Q ((GRat.mk x12 x13), (0 : Int))) (
    Let (IntKind.i64.wrap x6) fun x14 =>
    Let (IntKind.i64.wrap x7) fun x15 =>
    Q ((GRat.mk x14 x15), (0 : Int)))))
theorem walk_rat_made {neg1 : Bool} {n2 : Int} {d3 : Int} {r : GRat × Int} (h : W_rat_made neg1 n2 d3 (fun r' => r' = r)) : Ev_rat_made neg1 n2 d3 r := by
  unfold W_rat_made at h
  refine intr (L := [(0, .dat (.v (.bool neg1))), (1, .dat (.v (.int .u64 n2))), (2, .dat (.v (.int .u64 d3)))]) Tryz.func111 Tryz.ntmps111 ?_
  refine sN (al0 ?_)
  refine pI rfl (dn (AWp.seq (rN (pI rfl (pI rfl ?_)))))
  obtain ⟨x4, hc5, h⟩ := h
  refine ca hc5 rfl ⟨.inl rfl, .inl rfl, trivial⟩ rfl (pI rfl (dn (AWp.seq (rD (pI rfl (pI rfl ?_))))))
  obtain ⟨hq, h⟩ := h
  obtain ⟨x6, ex6, h⟩ := h.get
  refine AOps.q rfl rfl rfl rfl rfl (rbin_quo hq) ex6 ?_
  refine pI rfl (pI rfl ?_)
  obtain ⟨hq, h⟩ := h
  obtain ⟨x7, ex7, h⟩ := h.get
  refine AOps.q rfl rfl rfl rfl rfl (rbin_quo hq) ex7 ?_
  refine pI rfl (pI rfl (dn (AWp.seq (AWp.seq (rN (pI rfl (pB rfl (pB rfl (sB 20 h (fun h => ?_) (fun h => ?_))))))))))
  · refine ff rfl (ff rfl (pB rfl (dn ?_)))
    refine AWp.condT rfl ?_
    refine sW (pT rfl (st (v := .dat (.st _ _)) ?_))
    refine pI rfl (dn (AWp.ret ?_))
    subst h
    exact ⟨_, rfl, rfl⟩
  refine pI rfl (pB rfl (pB rfl (dn (cB h (fun h => ?_) (fun h => ?_)))))
  · refine sW (pT rfl (st (v := .dat (.st _ _)) ?_))
    refine pI rfl (dn (AWp.ret ?_))
    subst h
    exact ⟨_, rfl, rfl⟩
  refine AWp.skip ?_
  refine AWp.seq (AWp.seq (rN (pB rfl (dn (cB h (fun h => ?_) (fun h => ?_))))))
  · refine sW (pI rfl ?_)
    obtain ⟨x11, ex11, h⟩ := h.get
    refine ai ex11 rfl ?_
    obtain ⟨x12, ex12, h⟩ := h.get
    refine ai ex12 rfl (pI rfl ?_)
    obtain ⟨x13, ex13, h⟩ := h.get
    refine ai ex13 rfl (pT rfl (st (v := .dat (.st _ _)) ?_))
    refine pI rfl (dn (AWp.ret ?_))
    subst h
    exact ⟨_, rfl, rfl⟩
  refine AWp.skip ?_
  refine sW (pI rfl ?_)
  obtain ⟨x14, ex14, h⟩ := h.get
  refine ai ex14 rfl (pI rfl ?_)
  obtain ⟨x15, ex15, h⟩ := h.get
  refine ai ex15 rfl (pT rfl (st (v := .dat (.st _ _)) ?_))
  refine pI rfl (dn (AWp.ret ?_))
  subst h
  exact ⟨_, rfl, rfl⟩
def W_rat_Mul (x1 : GRat) (x2 : GRat) (Q : GRat × Int → Prop) : Prop :=
 Call (Ev_rat_Right x1) fun x7 =>
 Br (!x7) (Q (GRat.zero, (1 : Int))) (
  Call (Ev_rat_Right x2) fun x9 =>
  Br (!x9) (Q (GRat.zero, (1 : Int))) (
   Call (Ev_rat_size x1.N) fun x11 =>
   Let (IntKind.u64.wrap x2.D) fun x13 =>
   Call (Ev_rat_gcd x11 x13) fun x14 =>
   Call (Ev_rat_size x2.N) fun x16 =>
   Let (IntKind.u64.wrap x1.D) fun x18 =>
   Call (Ev_rat_gcd x16 x18) fun x19 =>
   Call (Ev_rat_size x1.N) fun x21 =>
   Nz x14 <|
   Let (IntKind.u64.wrap (Int.tdiv x21 x14)) fun x23 =>
   Call (Ev_rat_size x2.N) fun x24 =>
   Nz x19 <|
   Let (IntKind.u64.wrap (Int.tdiv x24 x19)) fun x26 =>
   Call (Ev_math_bits_Mul64 x23 x26) fun x27 =>
   Let (IntKind.u64.wrap x1.D) fun x29 =>
   Nz x19 <|
   Let (IntKind.u64.wrap (Int.tdiv x29 x19)) fun x30 =>
   Let (IntKind.u64.wrap x2.D) fun x31 =>
   Nz x14 <|
   Let (IntKind.u64.wrap (Int.tdiv x31 x14)) fun x32 =>
   Call (Ev_math_bits_Mul64 x30 x32) fun x33 =>
   Br (decide (x27.1 > (0 : Int))) (Q (GRat.zero, (3 : Int))) (
    Br (decide (x33.1 > (0 : Int))) (Q (GRat.zero, (3 : Int))) (
     Call (Ev_rat_made ((decide (x1.N < (0 : Int))) != (decide (x2.N < (0 : Int)))) x27.2 x33.2) fun x35 =>
     Q (x35.1, x35.2)))))
theorem walk_rat_Mul {x1 : GRat} {x2 : GRat} {r : GRat × Int} (h : W_rat_Mul x1 x2 (fun r' => r' = r)) : Ev_rat_Mul x1 x2 r := by
  unfold W_rat_Mul at h
  refine intr (L := [(0, .dat (GRat.enc x1)), (1, .dat (GRat.enc x2))]) Tryz.func89 Tryz.ntmps89 ?_
  refine sN (bx (v := .dat (.st _ _)) ?_)
  refine bx (v := .dat (.st _ _)) ?_
  refine al0 ?_
  refine pI rfl (dn (AWp.seq (AWp.seq (rN (pT rfl ?_)))))
  obtain ⟨x7, hc8, h⟩ := h
  refine ca hc8 rfl ⟨.inl rfl, trivial⟩ rfl (pB rfl (pB rfl (sB 15 h (fun h => ?_) (fun h => ?_))))
  · refine ff rfl (ff rfl (ff rfl (pB rfl (dn ?_))))
    refine AWp.condT rfl ?_
    refine sW (pT rfl (st (v := .dat (.st _ _)) ?_))
    refine pI rfl (dn (AWp.ret ?_))
    subst h
    exact ⟨_, rfl, rfl⟩
  refine pT rfl ?_
  obtain ⟨x9, hc10, h⟩ := h
  refine ca hc10 rfl ⟨.inl rfl, trivial⟩ rfl (pB rfl (pB rfl (dn (cB h (fun h => ?_) (fun h => ?_)))))
  · refine sW (pT rfl (st (v := .dat (.st _ _)) ?_))
    refine pI rfl (dn (AWp.ret ?_))
    subst h
    exact ⟨_, rfl, rfl⟩
  refine AWp.skip ?_
  refine sD (pP rfl (pI rfl ?_))
  obtain ⟨x11, hc12, h⟩ := h
  refine ca hc12 rfl ⟨.inl rfl, trivial⟩ rfl (pP rfl (pI rfl ?_))
  obtain ⟨x13, ex13, h⟩ := h.get
  refine ai ex13 rfl ?_
  obtain ⟨x14, hc15, h⟩ := h
  refine ca hc15 rfl ⟨.inl rfl, .inl rfl, trivial⟩ rfl (pP rfl (pI rfl ?_))
  obtain ⟨x16, hc17, h⟩ := h
  refine ca hc17 rfl ⟨.inl rfl, trivial⟩ rfl (pP rfl (pI rfl ?_))
  obtain ⟨x18, ex18, h⟩ := h.get
  refine ai ex18 rfl ?_
  obtain ⟨x19, hc20, h⟩ := h
  refine ca hc20 rfl ⟨.inl rfl, .inl rfl, trivial⟩ rfl (pI rfl (pI rfl (dn (AWp.seq (rD (pP rfl (pI rfl ?_)))))))
  obtain ⟨x21, hc22, h⟩ := h
  refine ca hc22 rfl ⟨.inl rfl, trivial⟩ rfl (pI rfl ?_)
  obtain ⟨hq, h⟩ := h
  obtain ⟨x23, ex23, h⟩ := h.get
  refine AOps.q rfl rfl rfl rfl rfl (rbin_quo hq) ex23 ?_
  refine pP rfl (pI rfl ?_)
  obtain ⟨x24, hc25, h⟩ := h
  refine ca hc25 rfl ⟨.inl rfl, trivial⟩ rfl (pI rfl ?_)
  obtain ⟨hq, h⟩ := h
  obtain ⟨x26, ex26, h⟩ := h.get
  refine AOps.q rfl rfl rfl rfl rfl (rbin_quo hq) ex26 ?_
  obtain ⟨x27, hc28, h⟩ := h
  refine ca hc28 rfl ⟨.inl rfl, .inl rfl, trivial⟩ rfl (pU rfl (pI rfl (pI rfl (pI rfl (pI rfl (dn (AWp.seq (rD (pP rfl (pI rfl ?_))))))))))
  obtain ⟨x29, ex29, h⟩ := h.get
  refine ai ex29 rfl (pI rfl ?_)
  obtain ⟨hq, h⟩ := h
  obtain ⟨x30, ex30, h⟩ := h.get
  refine AOps.q rfl rfl rfl rfl rfl (rbin_quo hq) ex30 ?_
  refine pP rfl (pI rfl ?_)
  obtain ⟨x31, ex31, h⟩ := h.get
  refine ai ex31 rfl (pI rfl ?_)
  obtain ⟨hq, h⟩ := h
  obtain ⟨x32, ex32, h⟩ := h.get
  refine AOps.q rfl rfl rfl rfl rfl (rbin_quo hq) ex32 ?_
  obtain ⟨x33, hc34, h⟩ := h
  refine ca hc34 rfl ⟨.inl rfl, .inl rfl, trivial⟩ rfl (pU rfl (pI rfl (pI rfl (pI rfl (pI rfl (dn (AWp.seq (AWp.seq (rN (pI rfl (pB rfl (pB rfl (sB 65 h (fun h => ?_) (fun h => ?_))))))))))))))
  · refine ff rfl (ff rfl (pB rfl (dn ?_)))
    refine AWp.condT rfl ?_
    refine sW (pT rfl (st (v := .dat (.st _ _)) ?_))
    refine pI rfl (dn (AWp.ret ?_))
    subst h
    exact ⟨_, rfl, rfl⟩
  refine pI rfl (pB rfl (pB rfl (dn (cB h (fun h => ?_) (fun h => ?_)))))
  · refine sW (pT rfl (st (v := .dat (.st _ _)) ?_))
    refine pI rfl (dn (AWp.ret ?_))
    subst h
    exact ⟨_, rfl, rfl⟩
  refine AWp.skip ?_
  refine sW (pP rfl (pI rfl (pB rfl (pP rfl (pI rfl (pB rfl (pB rfl (pI rfl (pI rfl ?_)))))))))
  obtain ⟨x35, hc36, h⟩ := h
  refine ca hc36 rfl ⟨.inl rfl, .inl rfl, .inl rfl, trivial⟩ rfl (pT rfl (pI rfl (st (v := .dat (.st _ _)) ?_)))
  refine pI rfl (dn (AWp.ret ?_))
  subst h
  exact ⟨_, rfl, rfl⟩
def W_rat_Add (x1 : GRat) (x2 : GRat) (Q : GRat × Int → Prop) : Prop :=
 Call (Ev_rat_Right x1) fun x7 =>
 Br (!x7) (Q (GRat.zero, (1 : Int))) (
  Call (Ev_rat_Right x2) fun x9 =>
  Br (!x9) (Q (GRat.zero, (1 : Int))) (
   Let (IntKind.u64.wrap x1.D) fun x11 =>
   Let (IntKind.u64.wrap x2.D) fun x12 =>
   Call (Ev_rat_gcd x11 x12) fun x13 =>
   Let (IntKind.u64.wrap x1.D) fun x15 =>
   Nz x13 <|
   Let (IntKind.u64.wrap (Int.tdiv x15 x13)) fun x16 =>
   Let (IntKind.u64.wrap x2.D) fun x17 =>
   Nz x13 <|
   Let (IntKind.u64.wrap (Int.tdiv x17 x13)) fun x18 =>
   Call (Ev_rat_size x1.N) fun x19 =>
   Call (Ev_math_bits_Mul64 x19 x18) fun x21 =>
   Call (Ev_rat_size x2.N) fun x23 =>
   Call (Ev_math_bits_Mul64 x23 x16) fun x25 =>
   Join3 (fun j46 =>
    Br ((decide (x1.N < (0 : Int))) == (decide (x2.N < (0 : Int)))) (
     Call (Ev_math_bits_Add64 x21.2 x25.2 (0 : Int)) fun x47 =>
     Let (IntKind.u64.wrap (x25.1 + x47.2)) fun x49 =>
     Let (IntKind.u64.wrap (x21.1 + x49)) fun x50 =>
     j46 x50 x47.1 (decide (x1.N < (0 : Int)))) (
     Join1 (fun j52 =>
      Br (decide (x21.1 > x25.1)) (j52 true) (
       Br (x21.1 == x25.1) (j52 (decide (x21.2 ≥ x25.2))) (
        j52 false))
     ) (fun (x51 : Bool) =>
      Br x51 (
       Call (Ev_math_bits_Sub64 x21.2 x25.2 (0 : Int)) fun x53 =>
       Let (IntKind.u64.wrap (x25.1 + x53.2)) fun x55 =>
       Let (IntKind.u64.wrap (x21.1 - x55)) fun x56 =>
       j46 x56 x53.1 (decide (x1.N < (0 : Int)))) (
       Call (Ev_math_bits_Sub64 x25.2 x21.2 (0 : Int)) fun x57 =>
       Let (IntKind.u64.wrap (x25.1 - x21.1)) fun x59 =>
       Let (IntKind.u64.wrap (x59 - x57.2)) fun x60 =>
       j46 x60 x57.1 (decide (x2.N < (0 : Int))))))
   ) (fun (x43 : Int) (x44 : Int) (x45 : Bool) =>
    Call (Ev_math_bits_Rem64 x43 x44 x13) fun x63 =>
    Call (Ev_rat_gcd x63 x13) fun x65 =>
    Br (x65 == (0 : Int)) (Q (GRat.zero, (3 : Int))) (
     Br (decide (x43 ≥ x65)) (Q (GRat.zero, (3 : Int))) (
      Call (Ev_math_bits_Div64 x43 x44 x65) fun x67 =>
      Br (x67.1 == (0 : Int)) (Q (({ GRat.zero with D := (1 : Int) }), (0 : Int))) (
       Nz x65 <|
       Let (IntKind.u64.wrap (Int.tdiv x13 x65)) fun x69 =>
       Let (IntKind.u64.wrap (x16 * x69)) fun x70 =>
       Call (Ev_math_bits_Mul64 x70 x18) fun x71 =>
       Br (decide (x71.1 > (0 : Int))) (Q (GRat.zero, (3 : Int))) (
        Call (Ev_rat_made x45 x67.1 x71.2) fun x73 =>
        Q (x73.1, x73.2))))))))
theorem walk_rat_Add {x1 : GRat} {x2 : GRat} {r : GRat × Int} (h : W_rat_Add x1 x2 (fun r' => r' = r)) : Ev_rat_Add x1 x2 r := by
  unfold W_rat_Add at h
  refine intr (L := [(0, .dat (GRat.enc x1)), (1, .dat (GRat.enc x2))]) Tryz.func90 Tryz.ntmps90 ?_
  refine sN (bx (v := .dat (.st _ _)) ?_)
  refine bx (v := .dat (.st _ _)) ?_
  refine al0 ?_
  refine pI rfl (dn (AWp.seq (AWp.seq (rN (pT rfl ?_)))))
  obtain ⟨x7, hc8, h⟩ := h
  refine ca hc8 rfl ⟨.inl rfl, trivial⟩ rfl (pB rfl (pB rfl (sB 23 h (fun h => ?_) (fun h => ?_))))
  · refine ff rfl (ff rfl (ff rfl (pB rfl (dn ?_))))
    refine AWp.condT rfl ?_
    refine sW (pT rfl (st (v := .dat (.st _ _)) ?_))
    refine pI rfl (dn (AWp.ret ?_))
    subst h
    exact ⟨_, rfl, rfl⟩
  refine pT rfl ?_
  obtain ⟨x9, hc10, h⟩ := h
  refine ca hc10 rfl ⟨.inl rfl, trivial⟩ rfl (pB rfl (pB rfl (dn (cB h (fun h => ?_) (fun h => ?_)))))
  · refine sW (pT rfl (st (v := .dat (.st _ _)) ?_))
    refine pI rfl (dn (AWp.ret ?_))
    subst h
    exact ⟨_, rfl, rfl⟩
  refine AWp.skip ?_
  refine sN (pP rfl (pI rfl ?_))
  obtain ⟨x11, ex11, h⟩ := h.get
  refine ai ex11 rfl (pP rfl (pI rfl ?_))
  obtain ⟨x12, ex12, h⟩ := h.get
  refine ai ex12 rfl ?_
  obtain ⟨x13, hc14, h⟩ := h
  refine ca hc14 rfl ⟨.inl rfl, .inl rfl, trivial⟩ rfl (pI rfl (dn (AWp.seq (rD (pP rfl (pI rfl ?_))))))
  obtain ⟨x15, ex15, h⟩ := h.get
  refine ai ex15 rfl (pI rfl ?_)
  obtain ⟨hq, h⟩ := h
  obtain ⟨x16, ex16, h⟩ := h.get
  refine AOps.q rfl rfl rfl rfl rfl (rbin_quo hq) ex16 ?_
  refine pP rfl (pI rfl ?_)
  obtain ⟨x17, ex17, h⟩ := h.get
  refine ai ex17 rfl (pI rfl ?_)
  obtain ⟨hq, h⟩ := h
  obtain ⟨x18, ex18, h⟩ := h.get
  refine AOps.q rfl rfl rfl rfl rfl (rbin_quo hq) ex18 ?_
  refine pI rfl (pI rfl (dn (AWp.seq (rN (pP rfl (pI rfl ?_))))))
  obtain ⟨x19, hc20, h⟩ := h
  refine ca hc20 rfl ⟨.inl rfl, trivial⟩ rfl (pI rfl ?_)
  obtain ⟨x21, hc22, h⟩ := h
  refine ca hc22 rfl ⟨.inl rfl, .inl rfl, trivial⟩ rfl (pU rfl (pI rfl (pI rfl (pI rfl (pI rfl (dn (AWp.seq (rN (pP rfl (pI rfl ?_))))))))))
  obtain ⟨x23, hc24, h⟩ := h
  refine ca hc24 rfl ⟨.inl rfl, trivial⟩ rfl (pI rfl ?_)
  obtain ⟨x25, hc26, h⟩ := h
  refine ca hc26 rfl ⟨.inl rfl, .inl rfl, trivial⟩ rfl (pU rfl (pI rfl (pI rfl (pI rfl (pI rfl (dn (AWp.seq (rN (pP rfl (pI rfl (pB rfl (pB rfl (dn (AWp.seq (rN (pI rfl (dn (AWp.seq ?_))))))))))))))))))
  obtain ⟨J75, h, hk76⟩ := h
  refine AWp.cutK (I := fun p : Int × Int × Bool => mkSt [(4, .pt 4 [] 0), (6, .dat (.v (.int .u64 x13))), (7, .dat (.v (.int .u64 x16))), (8, .dat (.v (.int .u64 x18))), (9, .dat (.v (.int .u64 p.1))), (10, .dat (.v (.int .u64 p.2.1))), (13, .dat (.v (.bool p.2.2)))] [(4, .box 23 2 (.dat (GRat.enc GRat.zero)))]) (Inv := fun p : Int × Int × Bool => J75 p.1 p.2.1 p.2.2) ?_ (fun p hp => ?_)
  · refine AWp.block (AWp.seq (rN (pP rfl (pI rfl (pB rfl (pP rfl (pI rfl (pB rfl (pB rfl (pB rfl (dn (cB h (fun h => ?_) (fun h => ?_)))))))))))))
    · refine sN (pI rfl (pI rfl ?_))
      obtain ⟨x47, hc48, h⟩ := h
      refine AOps.extC hc48 rfl rfl rfl (.cons rfl (.cons rfl (.cons rfl .nil))) ?_
      refine pU rfl (pI rfl (pI rfl (pI rfl (pI rfl (dn (rN (pI rfl (pI rfl (pI rfl ?_)))))))))
      obtain ⟨x49, ex49, h⟩ := h.get
      refine ai ex49 rfl ?_
      obtain ⟨x50, ex50, h⟩ := h.get
      refine ai ex50 rfl (pI rfl (dn ?_))
      exact ⟨⟨x50, x47.1, (decide (x1.N < (0 : Int)))⟩, h, sl⟩
    refine AWp.seq ?_
    obtain ⟨J61, h, hk62⟩ := h
    refine AWp.cutK (I := fun p : Bool => mkSt [(3, .pt 3 [] 0), (4, .pt 4 [] 0), (6, .dat (.v (.int .u64 x13))), (7, .dat (.v (.int .u64 x16))), (8, .dat (.v (.int .u64 x18))), (9, .dat (.v (.int .u64 x21.1))), (10, .dat (.v (.int .u64 x21.2))), (11, .dat (.v (.int .u64 x25.1))), (12, .dat (.v (.int .u64 x25.2))), (13, .dat (.v (.bool (decide (x1.N < (0 : Int)))))), (98, .dat (.v (.bool p)))] [(3, .box 23 2 (.dat (GRat.enc x2))), (4, .box 23 2 (.dat (GRat.enc GRat.zero)))]) (Inv := fun p : Bool => J61 p) ?_ (fun p hp => ?_)
    · refine rN (pI rfl (pI rfl (pB rfl (pB rfl (sB 102 h (fun h => ?_) (fun h => ?_))))))
      · refine ff rfl (ff rfl (ff rfl (ff rfl (ff rfl (ff rfl (ff rfl (ff rfl (pB rfl (pB rfl (dn ?_))))))))))
        exact ⟨true, h, sl⟩
      refine pI rfl (pI rfl (pB rfl (pB rfl (sB 106 h (fun h => ?_) (fun h => ?_)))))
      · refine pI rfl (pI rfl (pB rfl (pB rfl (pB rfl (pB rfl (dn ?_))))))
        exact ⟨(decide (x21.2 ≥ x25.2)), h, sl⟩
      refine ff rfl (ff rfl (ff rfl (pB rfl (pB rfl (pB rfl (dn ?_))))))
      exact ⟨false, h, sl⟩
    replace h := hk62 p hp
    revert h; clear hp; generalize p = x51; intro h
    refine cB h (fun h => ?_) (fun h => ?_)
    · refine sN (pI rfl (pI rfl ?_))
      obtain ⟨x53, hc54, h⟩ := h
      refine AOps.extC hc54 rfl rfl rfl (.cons rfl (.cons rfl (.cons rfl .nil))) ?_
      refine pU rfl (pI rfl (pI rfl (pI rfl (pI rfl (dn (rN (pI rfl (pI rfl (pI rfl ?_)))))))))
      obtain ⟨x55, ex55, h⟩ := h.get
      refine ai ex55 rfl ?_
      obtain ⟨x56, ex56, h⟩ := h.get
      refine ai ex56 rfl (pI rfl (dn ?_))
      exact ⟨⟨x56, x53.1, (decide (x1.N < (0 : Int)))⟩, h, sl⟩
    refine sN (pP rfl (pI rfl (pB rfl (pB rfl (dn (AWp.seq (rN (pI rfl (pI rfl ?_)))))))))
    obtain ⟨x57, hc58, h⟩ := h
    refine AOps.extC hc58 rfl rfl rfl (.cons rfl (.cons rfl (.cons rfl .nil))) ?_
    refine pU rfl (pI rfl (pI rfl (pI rfl (pI rfl (dn (rN (pI rfl (pI rfl ?_))))))))
    obtain ⟨x59, ex59, h⟩ := h.get
    refine ai ex59 rfl (pI rfl ?_)
    obtain ⟨x60, ex60, h⟩ := h.get
    refine ai ex60 rfl (pI rfl (dn ?_))
    exact ⟨⟨x60, x57.1, (decide (x2.N < (0 : Int)))⟩, h, sl⟩
  obtain ⟨x43, x44, x45⟩ := p
  replace h := hk76 x43 x44 x45 hp
  refine sN (pI rfl (pI rfl (pI rfl ?_)))
  obtain ⟨x63, hc64, h⟩ := h
  refine ca hc64 rfl ⟨.inl rfl, .inl rfl, .inl rfl, trivial⟩ rfl (pI rfl ?_)
  obtain ⟨x65, hc66, h⟩ := h
  refine ca hc66 rfl ⟨.inl rfl, .inl rfl, trivial⟩ rfl (pI rfl (dn (AWp.seq (AWp.seq (rN (pI rfl (pB rfl (pB rfl (sB 131 h (fun h => ?_) (fun h => ?_))))))))))
  · refine ff rfl (ff rfl (ff rfl (pB rfl (dn ?_))))
    refine AWp.condT rfl ?_
    refine sW (pT rfl (st (v := .dat (.st _ _)) ?_))
    refine pI rfl (dn (AWp.ret ?_))
    subst h
    exact ⟨_, rfl, rfl⟩
  refine pI rfl (pI rfl (pB rfl (pB rfl (dn (cB h (fun h => ?_) (fun h => ?_))))))
  · refine sW (pT rfl (st (v := .dat (.st _ _)) ?_))
    refine pI rfl (dn (AWp.ret ?_))
    subst h
    exact ⟨_, rfl, rfl⟩
  refine AWp.skip ?_
  refine sN (pI rfl (pI rfl (pI rfl ?_)))
  obtain ⟨x67, hc68, h⟩ := h
  refine ca hc68 rfl ⟨.inl rfl, .inl rfl, .inl rfl, trivial⟩ rfl (pU rfl (pI rfl (pI rfl (pI rfl (pI rfl (dn (AWp.seq (AWp.seq (rN (pI rfl (pB rfl (dn (cB h (fun h => ?_) (fun h => ?_))))))))))))))
  · refine sW (pT rfl (st (v := .dat (.st _ _)) ?_))
    refine pI rfl (dn (AWp.ret ?_))
    subst h
    exact ⟨_, rfl, rfl⟩
  refine AWp.skip ?_
  refine sN (pI rfl (pI rfl (pI rfl ?_)))
  obtain ⟨hq, h⟩ := h
  obtain ⟨x69, ex69, h⟩ := h.get
  refine AOps.q rfl rfl rfl rfl rfl (rbin_quo hq) ex69 ?_
  obtain ⟨x70, ex70, h⟩ := h.get
  refine ai ex70 rfl (pI rfl ?_)
  obtain ⟨x71, hc72, h⟩ := h
  refine ca hc72 rfl ⟨.inl rfl, .inl rfl, trivial⟩ rfl (pU rfl (pI rfl (pI rfl (pI rfl (pI rfl (dn (AWp.seq (AWp.seq (rN (pI rfl (pB rfl (dn (cB h (fun h => ?_) (fun h => ?_))))))))))))))
  · refine sW (pT rfl (st (v := .dat (.st _ _)) ?_))
    refine pI rfl (dn (AWp.ret ?_))
    subst h
    exact ⟨_, rfl, rfl⟩
  refine AWp.skip ?_
  refine sW (pB rfl (pI rfl (pI rfl ?_)))
  obtain ⟨x73, hc74, h⟩ := h
  refine ca hc74 rfl ⟨.inl rfl, .inl rfl, .inl rfl, trivial⟩ rfl (pT rfl (pI rfl (st (v := .dat (.st _ _)) ?_)))
  refine pI rfl (dn (AWp.ret ?_))
  subst h
  exact ⟨_, rfl, rfl⟩
def W_math_bits_Mul64 (x1 : Int) (y2 : Int) (Q : Int × Int → Prop) : Prop :=
 Let (bits .and .u64 x1 (4294967295 : Int)) fun x3 =>
 Let (Int.fdiv x1 (2 ^ 32)) fun x4 =>
 Let (bits .and .u64 y2 (4294967295 : Int)) fun x5 =>
 Let (Int.fdiv y2 (2 ^ 32)) fun x6 =>
 Let (IntKind.u64.wrap (x3 * x5)) fun x7 =>
 Let (IntKind.u64.wrap (x4 * x5)) fun x8 =>
 Let (Int.fdiv x7 (2 ^ 32)) fun x9 =>
 Let (IntKind.u64.wrap (x8 + x9)) fun x10 =>
 Let (bits .and .u64 x10 (4294967295 : Int)) fun x11 =>
 Let (Int.fdiv x10 (2 ^ 32)) fun x12 =>
 Let (IntKind.u64.wrap (x3 * x6)) fun x13 =>
 Let (IntKind.u64.wrap (x11 + x13)) fun x14 =>
 Let (IntKind.u64.wrap (x4 * x6)) fun x15 =>
 Let (IntKind.u64.wrap (x15 + x12)) fun x16 =>
 Let (Int.fdiv x14 (2 ^ 32)) fun x17 =>
 Let (IntKind.u64.wrap (x16 + x17)) fun x18 =>
 Let (IntKind.u64.wrap (x1 * y2)) fun x19 =>
 Q (x18, x19)
theorem walk_math_bits_Mul64 {x1 : Int} {y2 : Int} {r : Int × Int} (h : W_math_bits_Mul64 x1 y2 (fun r' => r' = r)) : Ev_math_bits_Mul64 x1 y2 r := by
  unfold W_math_bits_Mul64 at h
  refine intr (L := [(0, .dat (.v (.int .u64 x1))), (1, .dat (.v (.int .u64 y2)))]) Tryz.func110 Tryz.ntmps110 ?_
  refine sN (pI rfl (pI rfl (dn (AWp.seq (rN (pI rfl ?_))))))
  obtain ⟨x3, ex3, h⟩ := h.get
  refine ai ex3 rfl (pI rfl (dn (AWp.seq (rN (pI rfl ?_)))))
  obtain ⟨x4, ex4, h⟩ := h.get
  refine AOps.q rfl rfl rfl rfl rfl (rbin_shr (by decide)) ex4 ?_
  refine pI rfl (dn (AWp.seq (rN (pI rfl ?_))))
  obtain ⟨x5, ex5, h⟩ := h.get
  refine ai ex5 rfl (pI rfl (dn (AWp.seq (rN (pI rfl ?_)))))
  obtain ⟨x6, ex6, h⟩ := h.get
  refine AOps.q rfl rfl rfl rfl rfl (rbin_shr (by decide)) ex6 ?_
  refine pI rfl (dn (AWp.seq (rN (pI rfl (pI rfl ?_)))))
  obtain ⟨x7, ex7, h⟩ := h.get
  refine ai ex7 rfl (pI rfl (dn (AWp.seq (rN (pI rfl (pI rfl ?_))))))
  obtain ⟨x8, ex8, h⟩ := h.get
  refine ai ex8 rfl (pI rfl ?_)
  obtain ⟨x9, ex9, h⟩ := h.get
  refine AOps.q rfl rfl rfl rfl rfl (rbin_shr (by decide)) ex9 ?_
  obtain ⟨x10, ex10, h⟩ := h.get
  refine ai ex10 rfl (pI rfl (dn (AWp.seq (rN (pI rfl ?_)))))
  obtain ⟨x11, ex11, h⟩ := h.get
  refine ai ex11 rfl (pI rfl (dn (AWp.seq (rN (pI rfl ?_)))))
  obtain ⟨x12, ex12, h⟩ := h.get
  refine AOps.q rfl rfl rfl rfl rfl (rbin_shr (by decide)) ex12 ?_
  refine pI rfl (dn (AWp.seq (rN (pI rfl (pI rfl (pI rfl ?_))))))
  obtain ⟨x13, ex13, h⟩ := h.get
  refine ai ex13 rfl ?_
  obtain ⟨x14, ex14, h⟩ := h.get
  refine ai ex14 rfl (pI rfl (dn (AWp.seq (rN (pI rfl (pI rfl ?_))))))
  obtain ⟨x15, ex15, h⟩ := h.get
  refine ai ex15 rfl (pI rfl ?_)
  obtain ⟨x16, ex16, h⟩ := h.get
  refine ai ex16 rfl (pI rfl ?_)
  obtain ⟨x17, ex17, h⟩ := h.get
  refine AOps.q rfl rfl rfl rfl rfl (rbin_shr (by decide)) ex17 ?_
  obtain ⟨x18, ex18, h⟩ := h.get
  refine ai ex18 rfl (pI rfl (dn (AWp.seq (rN (pI rfl (pI rfl ?_))))))
  obtain ⟨x19, ex19, h⟩ := h.get
  refine ai ex19 rfl (pI rfl (dn (AWp.ret ?_)))
  subst h
  exact ⟨_, rfl, rfl⟩
end Go.Sim.YtffglpibobogcaaGreatDoor
