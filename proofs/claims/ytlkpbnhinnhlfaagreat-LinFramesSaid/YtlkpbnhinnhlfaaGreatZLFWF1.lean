/- What is proved: functions of the program compute what plain statements tell. -/
import Derived.Test.YtlkpbnhinnhlfaaGreatZLFWE

namespace Go.Sim.YtlkpbnhinnhlfaaGreat
open Go.RowKit Go.Proofs Go.Proofs.Tryz
set_option maxRecDepth 100000
def W_ulp_Add (a1 : Nat) (b2 : Nat) (dir3 : Int) (Q : Nat → Prop) : Prop :=
 Call (Ev_ulp_both a1 b2) fun x4 =>
 Br (!x4.2.2) (
  FOp .add a1 b2 fun x7 =>
  Q x7) (
  Join1 (fun j9 =>
   Br (decide (x4.1.E < x4.2.1.E)) (j9 true) (
    Br (x4.1.E == x4.2.1.E) (j9 (decide (x4.1.M < x4.2.1.M))) (
     j9 false))
  ) (fun (x8 : Bool) =>
   Join2 (fun j12 =>
    Br x8 (j12 x4.2.1 x4.1) (
     j12 x4.1 x4.2.1)
   ) (fun (p10 : GParts) (q11 : GParts) =>
    Call (Ev_ulp_sum p10 q11) fun x13 =>
    Call (Ev_ulp_value_round x13 dir3) fun x15 =>
    Q x15)))
theorem walk_ulp_Add {a1 : Nat} {b2 : Nat} {dir3 : Int} {r : Nat} (h : W_ulp_Add a1 b2 dir3 (fun r' => r' = r)) : Ev_ulp_Add a1 b2 dir3 r := by
  unfold W_ulp_Add at h
  refine intr (L := [(0, .dat (.v (.float .f64 a1))), (1, .dat (.v (.float .f64 b2))), (2, .dat (.v (.int .i64 dir3)))]) Tryz.func79 Tryz.ntmps79 ?_
  refine sN (pF rfl (dn (AWp.seq (rW (pF rfl (pF rfl (kC h rfl ⟨.inl rfl, .inl rfl, trivial⟩ rfl fun x4 h => ?_)))))))
  refine pU rfl (pT rfl (pT rfl (pB rfl (al0 ?_))))
  refine al0 ?_
  refine st (v := .dat (.st _ _)) ?_
  refine st (v := .dat (.st _ _)) ?_
  refine pB rfl (dn (AWp.seq (AWp.seq (rN (pB rfl (pB rfl (dn (cB h (fun h => ?_) (fun h => ?_)))))))))
  · refine sN (pF rfl (pF rfl ?_))
    obtain ⟨x7, hq, h⟩ := h
    refine AOps.v rfl rfl (Step.flt rfl rfl rfl hq) ?_
    refine pF rfl (dn (AWp.ret ?_))
    subst h
    exact ⟨_, rfl, rfl⟩
  refine AWp.skip (AWp.seq (AWp.seq ?_))
  obtain ⟨J19, h, hk20⟩ := h
  refine AWp.cutK (I := fun p : Bool => mkSt [(2, .dat (.v (.int .i64 dir3))), (7, .pt 7 [] 0), (8, .pt 8 [] 0), (40, .dat (.v (.bool p)))] [(7, .box 94 3 (.dat (GParts.enc x4.1))), (8, .box 94 3 (.dat (GParts.enc x4.2.1)))]) (Inv := fun p : Bool => J19 p) ?_ (fun p hp => ?_)
  · refine rN (pP rfl (pI rfl (pP rfl (pI rfl (pB rfl (pB rfl (sB 27 h (fun h => ?_) (fun h => ?_))))))))
    · refine fo 12 rfl (pB rfl (dn ?_))
      exact ⟨true, h, sl⟩
    refine pP rfl (pI rfl (pP rfl (pI rfl (pB rfl (pB rfl (sB 33 h (fun h => ?_) (fun h => ?_)))))))
    · refine pP rfl (pI rfl (pP rfl (pI rfl (pB rfl (pB rfl (pB rfl (dn ?_)))))))
      exact ⟨(decide (x4.1.M < x4.2.1.M)), h, sl⟩
    refine fo 5 rfl (pB rfl (pB rfl (dn ?_)))
    exact ⟨false, h, sl⟩
  replace h := hk20 p hp
  revert h; clear hp; generalize p = x8; intro h
  obtain ⟨J17, h, hk18⟩ := h
  refine AWp.cutK (I := fun p : GParts × GParts => mkSt [(2, .dat (.v (.int .i64 dir3))), (7, .pt 7 [] 0), (8, .pt 8 [] 0)] [(7, .box 94 3 (.dat (GParts.enc p.1))), (8, .box 94 3 (.dat (GParts.enc p.2)))]) (Inv := fun p : GParts × GParts => J17 p.1 p.2) ?_ (fun p hp => ?_)
  · refine cB h (fun h => ?_) (fun h => ?_)
    · refine rW (pT rfl (pT rfl (st (v := .dat (.st _ _)) ?_)))
      refine st (v := .dat (.st _ _)) ?_
      refine dn ?_
      exact ⟨⟨x4.2.1, x4.1⟩, h, sl⟩
    refine AWp.skip ?_
    exact ⟨⟨x4.1, x4.2.1⟩, h, sl⟩
  obtain ⟨p10, q11⟩ := p
  replace h := hk18 p10 q11 hp
  refine sN (pT rfl (pT rfl (kC h rfl ⟨.inl rfl, .inl rfl, trivial⟩ rfl fun x13 h => ?_)))
  refine pI rfl (kC h rfl ⟨.inl rfl, .inl rfl, trivial⟩ rfl fun x15 h => ?_)
  refine pF rfl (dn (AWp.ret ?_))
  subst h
  exact ⟨_, rfl, rfl⟩
def W_ulp_Mul (a1 : Nat) (b2 : Nat) (dir3 : Int) (Q : Nat → Prop) : Prop :=
 Call (Ev_ulp_both a1 b2) fun x4 =>
 Join1 (fun j26 =>
  Call (Ev_math_IsNaN a1) fun x27 =>
  Br x27 (j26 true) (
   Call (Ev_math_IsNaN b2) fun x29 =>
   j26 x29)
 ) (fun (x25 : Bool) =>
  Br x25 (
   Call (Ev_math_NaN) fun x31 =>
   Q x31) (
   Br (FloatKind.f64.format.order a1 (0 : Nat) == some .eq) (Q (0 : Nat)) (
    Br (FloatKind.f64.format.order b2 (0 : Nat) == some .eq) (Q (0 : Nat)) (
     Br (!x4.2.2) (
      FOp .mul a1 b2 fun x33 =>
      Q x33) (
      Call (Ev_math_bits_Mul64 x4.1.M x4.2.1.M) fun x34 =>
      Let (IntKind.i64.wrap (x4.1.E + x4.2.1.E)) fun x36 =>
      Call (Ev_ulp_value_round ({ Gulpvalue.zero with neg_ := (x4.1.Neg != x4.2.1.Neg), hi_ := x34.1, lo_ := x34.2, e_ := x36 }) dir3) fun x37 =>
      Q x37)))))
theorem walk_ulp_Mul {a1 : Nat} {b2 : Nat} {dir3 : Int} {r : Nat} (h : W_ulp_Mul a1 b2 dir3 (fun r' => r' = r)) : Ev_ulp_Mul a1 b2 dir3 r := by
  unfold W_ulp_Mul at h
  refine intr (L := [(0, .dat (.v (.float .f64 a1))), (1, .dat (.v (.float .f64 b2))), (2, .dat (.v (.int .i64 dir3)))]) Tryz.func40 Tryz.ntmps40 ?_
  refine sN (pF rfl (dn (AWp.seq (rW (pF rfl (pF rfl (kC h rfl ⟨.inl rfl, .inl rfl, trivial⟩ rfl fun x4 h => ?_)))))))
  refine pU rfl (pT rfl (pT rfl (pB rfl (al0 ?_))))
  refine al0 ?_
  refine st (v := .dat (.st _ _)) ?_
  refine st (v := .dat (.st _ _)) ?_
  refine pB rfl (dn (AWp.seq (AWp.block (AWp.seq ?_))))
  obtain ⟨J39, h, hk40⟩ := h
  refine AWp.cutK (I := fun p : Bool => mkSt [(0, .dat (.v (.float .f64 a1))), (1, .dat (.v (.float .f64 b2))), (2, .dat (.v (.int .i64 dir3))), (7, .pt 7 [] 0), (8, .pt 8 [] 0), (9, .dat (.v (.bool x4.2.2))), (19, .dat (.v (.bool p)))] [(7, .box 94 3 (.dat (GParts.enc x4.1))), (8, .box 94 3 (.dat (GParts.enc x4.2.1)))]) (Inv := fun p : Bool => J39 p) ?_ (fun p hp => ?_)
  · refine rN (pF rfl (kC h rfl ⟨.inl rfl, trivial⟩ rfl fun x27 h => ?_))
    refine pB rfl (sB 22 h (fun h => ?_) (fun h => ?_))
    · refine ff rfl (ff rfl (pB rfl (pB rfl (dn ?_))))
      exact ⟨true, h, sl⟩
    refine pF rfl (kC h rfl ⟨.inl rfl, trivial⟩ rfl fun x29 h => ?_)
    refine pB rfl (pB rfl (dn ?_))
    exact ⟨x29, h, sl⟩
  replace h := hk40 p hp
  revert h; clear hp; generalize p = x25; intro h
  refine cB h (fun h => ?_) (fun h => ?_)
  · refine sN (kC h rfl trivial rfl fun x31 h => ?_)
    refine pF rfl (dn (AWp.ret ?_))
    subst h
    exact ⟨_, rfl, rfl⟩
  refine sN (pF rfl (pB rfl (pB rfl (sB 30 h (fun h => ?_) (fun h => ?_)))))
  · refine ff rfl (ff rfl (pB rfl (pB rfl (dn ?_))))
    refine AWp.condT rfl ?_
    refine sN (pF rfl (dn (AWp.ret ?_)))
    subst h
    exact ⟨_, rfl, rfl⟩
  refine pF rfl (pB rfl (pB rfl (pB rfl (dn (cB h (fun h => ?_) (fun h => ?_))))))
  · refine sN (pF rfl (dn (AWp.ret ?_)))
    subst h
    exact ⟨_, rfl, rfl⟩
  refine sN (pB rfl (pB rfl (pB rfl (dn (cB h (fun h => ?_) (fun h => ?_))))))
  · refine sN (pF rfl (pF rfl ?_))
    obtain ⟨x33, hq, h⟩ := h
    refine AOps.v rfl rfl (Step.flt rfl rfl rfl hq) ?_
    refine pF rfl (dn (AWp.ret ?_))
    subst h
    exact ⟨_, rfl, rfl⟩
  refine AWp.skip (AWp.seq (rN (pP rfl (pI rfl (pP rfl (pI rfl (kC h rfl ⟨.inl rfl, .inl rfl, trivial⟩ rfl fun x34 h => ?_)))))))
  refine pU rfl (pI rfl (pI rfl (pI rfl (pI rfl (dn (AWp.seq (rN (pP rfl (pB rfl (pP rfl (pB rfl (pB rfl (pI rfl (pI rfl (pP rfl (pI rfl (pP rfl (pI rfl ?_))))))))))))))))))
  obtain ⟨x36, ex36, h⟩ := h.get
  refine ai ex36 rfl (pT rfl (pI rfl (kC h rfl ⟨.inl rfl, .inl rfl, trivial⟩ rfl fun x37 h => ?_)))
  refine pF rfl (dn (AWp.ret ?_))
  subst h
  exact ⟨_, rfl, rfl⟩
def W_ulp_both (a1 : Nat) (b2 : Nat) (Q : GParts × GParts × Bool → Prop) : Prop :=
 Call (Ev_ulp_Split a1) fun x3 =>
 Call (Ev_ulp_Split b2) fun x5 =>
 Br x3.2 (Q (x3.1, x5.1, x5.2)) (
  Q (x3.1, x5.1, false))
theorem walk_ulp_both {a1 : Nat} {b2 : Nat} {r : GParts × GParts × Bool} (h : W_ulp_both a1 b2 (fun r' => r' = r)) : Ev_ulp_both a1 b2 r := by
  unfold W_ulp_both at h
  refine intr (L := [(0, .dat (.v (.float .f64 a1))), (1, .dat (.v (.float .f64 b2)))]) Tryz.func81 Tryz.ntmps81 ?_
  refine sN (al0 ?_)
  refine al0 ?_
  refine pB rfl (dn (AWp.seq (rW (pF rfl (kC h rfl ⟨.inl rfl, trivial⟩ rfl fun x3 h => ?_)))))
  refine pU rfl (pT rfl (pB rfl (al0 ?_)))
  refine st (v := .dat (.st _ _)) ?_
  refine pB rfl (dn (AWp.seq (rW (pF rfl (kC h rfl ⟨.inl rfl, trivial⟩ rfl fun x5 h => ?_)))))
  refine pU rfl (pT rfl (pB rfl (al0 ?_)))
  refine st (v := .dat (.st _ _)) ?_
  refine pB rfl (dn (AWp.seq (rE [(4, [4]), (5, [5]), (7, [7]), (9, [9])] (pT rfl (pT rfl (pB rfl (pB rfl (sB 24 h (fun h => ?_) (fun h => ?_)))))))))
  · refine pB rfl (pB rfl (st (v := .dat (.st _ _)) ?_))
    refine st (v := .dat (.st _ _)) ?_
    refine pB rfl (dn (AWp.ret ?_))
    subst h
    exact ⟨_, rfl, rfl⟩
  refine ff rfl (pB rfl (st (v := .dat (.st _ _)) ?_))
  refine st (v := .dat (.st _ _)) ?_
  refine pB rfl (dn (AWp.ret ?_))
  subst h
  exact ⟨_, rfl, rfl⟩
def W_ulp_sum (x1 : GParts) (x2 : GParts) (Q : Gulpvalue → Prop) : Prop :=
 Br (x2.M == (0 : Int)) (Q ({ Gulpvalue.zero with neg_ := x1.Neg, lo_ := x1.M, e_ := x1.E })) (
  Br (x1.M == (0 : Int)) (Q ({ Gulpvalue.zero with neg_ := x2.Neg, lo_ := x2.M, e_ := x2.E })) (
   Let (IntKind.i64.wrap (x1.E - x2.E)) fun x3 =>
   Let (opMinI x3 (70 : Int)) fun x4 =>
   Let (IntKind.i64.wrap (x1.E - x4)) fun x5 =>
   Join1 (fun j12 =>
    Br (decide (x4 ≥ (64 : Int))) (
     Let (IntKind.i64.wrap (x4 - (64 : Int))) fun x13 =>
     Nn x13 <|
     Let (IntKind.u64.wrap (x1.M * 2 ^ (min (Int.toNat x13) 64))) fun x14 =>
     j12 ({ Gulpvalue.zero with neg_ := x1.Neg, hi_ := x14, e_ := x5 })) (
     Let (IntKind.i64.wrap ((64 : Int) - x4)) fun x15 =>
     Nn x15 <|
     Let (Int.fdiv x1.M (2 ^ (min (Int.toNat x15) 64))) fun x16 =>
     Nn x4 <|
     Let (IntKind.u64.wrap (x1.M * 2 ^ (min (Int.toNat x4) 64))) fun x17 =>
     j12 ({ Gulpvalue.zero with neg_ := x1.Neg, hi_ := x16, lo_ := x17, e_ := x5 }))
   ) (fun (x11 : Gulpvalue) =>
    Join2 (fun j27 =>
     Br (decide (x3 > x4)) (
      Let (IntKind.i64.wrap (x3 - x4)) fun x28 =>
      Let (opMinI x28 (63 : Int)) fun x29 =>
      Nn x29 <|
      Let (Int.fdiv x2.M (2 ^ (min (Int.toNat x29) 64))) fun x30 =>
      Let (IntKind.i64.wrap (x3 - x4)) fun x31 =>
      Let (opMinI x31 (63 : Int)) fun x32 =>
      Nn x32 <|
      Let (IntKind.u64.wrap (x30 * 2 ^ (min (Int.toNat x32) 64))) fun x33 =>
      Br (x2.M != x33) (j27 ({ x11 with more_ := true }) x30) (
       Let (IntKind.i64.wrap (x3 - x4)) fun x34 =>
       j27 ({ x11 with more_ := (decide (x34 > (63 : Int))) }) x30)) (
      j27 x11 x2.M)
    ) (fun (x25 : Gulpvalue) (x26 : Int) =>
     Br (x1.Neg == x2.Neg) (
      Call (Ev_math_bits_Add64 x25.lo_ x26 (0 : Int)) fun x38 =>
      Let (IntKind.u64.wrap (x25.hi_ + x38.2)) fun x40 =>
      Q ({ x25 with hi_ := x40, lo_ := x38.1 })) (
      Join1 (fun j43 =>
       Br x25.more_ (
        Let (IntKind.u64.wrap (x26 + (1 : Int))) fun x44 =>
        j43 x44) (
        j43 x26)
      ) (fun (x42 : Int) =>
       Call (Ev_math_bits_Sub64 x25.lo_ x42 (0 : Int)) fun x45 =>
       Call (Ev_math_bits_Sub64 x25.hi_ (0 : Int) x45.2) fun x47 =>
       Br (x47.2 == (1 : Int)) (
        Call (Ev_math_bits_Sub64 (0 : Int) x45.1 (0 : Int)) fun x53 =>
        Call (Ev_math_bits_Sub64 (0 : Int) x47.1 x53.2) fun x55 =>
        Q ({ x25 with neg_ := (!x25.neg_), hi_ := x55.1, lo_ := x53.1 })) (
        Q ({ x25 with hi_ := x47.1, lo_ := x45.1 }))))))))
theorem walk_ulp_sum {x1 : GParts} {x2 : GParts} {r : Gulpvalue} (h : W_ulp_sum x1 x2 (fun r' => r' = r)) : Ev_ulp_sum x1 x2 r := by
  unfold W_ulp_sum at h
  refine intr (L := [(0, .dat (GParts.enc x1)), (1, .dat (GParts.enc x2))]) Tryz.func110 Tryz.ntmps110 ?_
  refine sN (bx (v := .dat (.st _ _)) ?_)
  refine bx (v := .dat (.st _ _)) ?_
  refine al0 ?_
  refine dn (AWp.seq (AWp.seq (rN (pP rfl (pI rfl (pB rfl (dn (cB h (fun h => ?_) (fun h => ?_)))))))))
  · refine sW (pP rfl (pB rfl (pP rfl (pI rfl (pP rfl (pI rfl (pT rfl (st (v := .dat (.st _ _)) ?_))))))))
    subst h; exact dn (AWp.ret ⟨_, rfl, rfl⟩)
  refine AWp.skip (AWp.seq (AWp.seq (rN (pP rfl (pI rfl (pB rfl (dn (cB h (fun h => ?_) (fun h => ?_)))))))))
  · refine sW (pP rfl (pB rfl (pP rfl (pI rfl (pP rfl (pI rfl (pT rfl (st (v := .dat (.st _ _)) ?_))))))))
    subst h; exact dn (AWp.ret ⟨_, rfl, rfl⟩)
  refine AWp.skip (AWp.seq (rN (pP rfl (pI rfl (pP rfl (pI rfl ?_))))))
  obtain ⟨x3, ex3, h⟩ := h.get
  refine ai ex3 rfl (pI rfl (dn (AWp.seq (rN (pI rfl ?_)))))
  obtain ⟨x4, ex4, h⟩ := h.get
  refine ai ex4 rfl (pI rfl (dn (AWp.seq (rW (pP rfl (pB rfl (pP rfl (pI rfl (pI rfl ?_)))))))))
  obtain ⟨x5, ex5, h⟩ := h.get
  refine ai ex5 rfl (pT rfl (al0 ?_))
  refine st (v := .dat (.st _ _)) ?_
  refine dn (AWp.seq (AWp.seq (rN (pI rfl (pB rfl (dn ?_))))))
  obtain ⟨J61, h, hk62⟩ := h
  refine AWp.cutK (I := fun p : Gulpvalue => mkSt [(2, .pt 2 [] 0), (3, .pt 3 [] 0), (4, .pt 4 [] 0), (5, .dat (.v (.int .i64 x3))), (6, .dat (.v (.int .i64 x4))), (7, .pt 7 [] 0)] [(2, .box 94 3 (.dat (GParts.enc x1))), (3, .box 94 3 (.dat (GParts.enc x2))), (4, .box 101 5 (.dat (Gulpvalue.enc Gulpvalue.zero))), (7, .box 101 5 (.dat (Gulpvalue.enc p)))]) (Inv := fun p : Gulpvalue => J61 p) ?_ (fun p hp => ?_)
  · refine cB h (fun h => ?_) (fun h => ?_)
    · refine rW (pP rfl (pI rfl (pI rfl ?_)))
      obtain ⟨x13, ex13, h⟩ := h.get
      refine ai ex13 rfl ?_
      obtain ⟨hq, h⟩ := h
      obtain ⟨x14, ex14, h⟩ := h.get
      refine AOps.q rfl rfl rfl rfl rfl (rbin_shl hq) ex14 ?_
      refine pP rfl (st (v := .dat (.v (.int _ _))) ?_)
      refine dn ?_
      exact ⟨({ Gulpvalue.zero with neg_ := x1.Neg, hi_ := x14, e_ := x5 }), h, sl⟩
    refine rE [(2, [2]), (7, [7]), (52, [2]), (57, [2]), (61, [7]), (62, [7])] (pP rfl (pI rfl (pI rfl ?_)))
    obtain ⟨x15, ex15, h⟩ := h.get
    refine ai ex15 rfl ?_
    obtain ⟨hq, h⟩ := h
    obtain ⟨x16, ex16, h⟩ := h.get
    refine AOps.q rfl rfl rfl rfl rfl (rbin_shr hq) ex16 ?_
    refine pP rfl (pI rfl (pI rfl ?_))
    obtain ⟨hq, h⟩ := h
    obtain ⟨x17, ex17, h⟩ := h.get
    refine AOps.q rfl rfl rfl rfl rfl (rbin_shl hq) ex17 ?_
    refine pP rfl (st (v := .dat (.v (.int _ _))) ?_)
    refine pP rfl (st (v := .dat (.v (.int _ _))) ?_)
    refine dn ?_
    exact ⟨({ Gulpvalue.zero with neg_ := x1.Neg, hi_ := x16, lo_ := x17, e_ := x5 }), h, sl⟩
  replace h := hk62 p hp
  revert h; clear hp; generalize p = x11; intro h
  refine sN (pP rfl (pI rfl (pI rfl (dn (AWp.seq (AWp.seq (rN (pI rfl (pI rfl (pB rfl (dn ?_)))))))))))
  obtain ⟨J59, h, hk60⟩ := h
  refine AWp.cutK (I := fun p : Gulpvalue × Int => mkSt [(2, .pt 2 [] 0), (3, .pt 3 [] 0), (4, .pt 4 [] 0), (7, .pt 7 [] 0), (8, .dat (.v (.int .u64 p.2)))] [(2, .box 94 3 (.dat (GParts.enc x1))), (3, .box 94 3 (.dat (GParts.enc x2))), (4, .box 101 5 (.dat (Gulpvalue.enc Gulpvalue.zero))), (7, .box 101 5 (.dat (Gulpvalue.enc p.1)))]) (Inv := fun p : Gulpvalue × Int => J59 p.1 p.2) ?_ (fun p hp => ?_)
  · refine cB h (fun h => ?_) (fun h => ?_)
    · refine sN (pP rfl (pI rfl (pI rfl (pI rfl ?_))))
      obtain ⟨x28, ex28, h⟩ := h.get
      refine ai ex28 rfl ?_
      obtain ⟨x29, ex29, h⟩ := h.get
      refine ai ex29 rfl ?_
      obtain ⟨hq, h⟩ := h
      obtain ⟨x30, ex30, h⟩ := h.get
      refine AOps.q rfl rfl rfl rfl rfl (rbin_shr hq) ex30 ?_
      refine pI rfl (dn (rE [(3, [3]), (7, [7]), (75, [3]), (90, [7])] (pP rfl (pI rfl (pI rfl (pI rfl (pI rfl ?_)))))))
      obtain ⟨x31, ex31, h⟩ := h.get
      refine ai ex31 rfl ?_
      obtain ⟨x32, ex32, h⟩ := h.get
      refine ai ex32 rfl ?_
      obtain ⟨hq, h⟩ := h
      obtain ⟨x33, ex33, h⟩ := h.get
      refine AOps.q rfl rfl rfl rfl rfl (rbin_shl hq) ex33 ?_
      refine pB rfl (pB rfl (sB 84 h (fun h => ?_) (fun h => ?_)))
      · refine fo 4 rfl (pB rfl (pP rfl (st (v := .dat (.v (.bool _))) ?_)))
        refine dn ?_
        exact ⟨⟨({ x11 with more_ := true }), x30⟩, h, sl⟩
      refine pI rfl (pI rfl ?_)
      obtain ⟨x34, ex34, h⟩ := h.get
      refine ai ex34 rfl (pB rfl (pB rfl (pP rfl (st (v := .dat (.v (.bool _))) ?_))))
      refine dn ?_
      exact ⟨⟨({ x11 with more_ := (decide (x34 > (63 : Int))) }), x30⟩, h, sl⟩
    refine AWp.skip ?_
    exact ⟨⟨x11, x2.M⟩, h, sl⟩
  obtain ⟨x25, x26⟩ := p
  replace h := hk60 x25 x26 hp
  refine sN (pI rfl (dn (AWp.seq (AWp.seq (rN (pP rfl (pB rfl (pP rfl (pB rfl (pB rfl (dn (cB h (fun h => ?_) (fun h => ?_)))))))))))))
  · refine sW (pP rfl (pI rfl (pI rfl ?_)))
    obtain ⟨x38, hc39, h⟩ := h
    refine AOps.extC hc39 rfl rfl rfl (.cons rfl (.cons rfl (.cons rfl .nil))) ?_
    refine pU rfl (pI rfl (pI rfl (pP rfl (st (v := .dat (.v (.int _ _))) ?_))))
    refine pI rfl (dn (AWp.seq (rW (pP rfl (pI rfl (pI rfl ?_))))))
    obtain ⟨x40, ex40, h⟩ := h.get
    refine ai ex40 rfl (pP rfl (st (v := .dat (.v (.int _ _))) ?_))
    refine dn (sW (pT rfl (st (v := .dat (.st _ _)) ?_)))
    subst h; exact dn (AWp.ret ⟨_, rfl, rfl⟩)
  refine AWp.skip (AWp.seq (AWp.seq (rN (pP rfl (pB rfl (dn ?_))))))
  obtain ⟨J57, h, hk58⟩ := h
  refine AWp.cutK (I := fun p : Int => mkSt [(4, .pt 4 [] 0), (7, .pt 7 [] 0), (8, .dat (.v (.int .u64 p)))] [(4, .box 101 5 (.dat (Gulpvalue.enc Gulpvalue.zero))), (7, .box 101 5 (.dat (Gulpvalue.enc x25)))]) (Inv := fun p : Int => J57 p) ?_ (fun p hp => ?_)
  · refine cB h (fun h => ?_) (fun h => ?_)
    · refine rN (pI rfl ?_)
      obtain ⟨x44, ex44, h⟩ := h.get
      refine ai ex44 rfl (pI rfl (dn ?_))
      exact ⟨x44, h, sl⟩
    refine AWp.skip ?_
    exact ⟨x26, h, sl⟩
  replace h := hk58 p hp
  revert h; clear hp; generalize p = x42; intro h
  refine sW (pP rfl (pI rfl (pI rfl ?_)))
  obtain ⟨x45, hc46, h⟩ := h
  refine AOps.extC hc46 rfl rfl rfl (.cons rfl (.cons rfl (.cons rfl .nil))) ?_
  refine pU rfl (pI rfl (pI rfl (pP rfl (st (v := .dat (.v (.int _ _))) ?_))))
  refine pI rfl (dn (AWp.seq (rW (pP rfl (pI rfl (pI rfl ?_))))))
  obtain ⟨x47, hc48, h⟩ := h
  refine AOps.extC hc48 rfl rfl rfl (.cons rfl (.cons rfl (.cons rfl .nil))) ?_
  refine pU rfl (pI rfl (pI rfl (pP rfl (st (v := .dat (.v (.int _ _))) ?_))))
  refine pI rfl (dn (AWp.seq (AWp.seq (rN (pI rfl (pB rfl (dn (cB h (fun h => ?_) (fun h => ?_)))))))))
  · refine sW (pP rfl (pB rfl (pB rfl (pP rfl (st (v := .dat (.v (.bool _))) ?_)))))
    refine dn (sW (pP rfl (pI rfl ?_)))
    obtain ⟨x53, hc54, h⟩ := h
    refine AOps.extC hc54 rfl rfl rfl (.cons rfl (.cons rfl (.cons rfl .nil))) ?_
    refine pU rfl (pI rfl (pI rfl (pP rfl (st (v := .dat (.v (.int _ _))) ?_))))
    refine pI rfl (dn (rW (pP rfl (pI rfl (pI rfl ?_)))))
    obtain ⟨x55, hc56, h⟩ := h
    refine AOps.extC hc56 rfl rfl rfl (.cons rfl (.cons rfl (.cons rfl .nil))) ?_
    refine pU rfl (pI rfl (pI rfl (pP rfl (st (v := .dat (.v (.int _ _))) ?_))))
    refine dn (sW (pT rfl (st (v := .dat (.st _ _)) ?_)))
    subst h; exact dn (AWp.ret ⟨_, rfl, rfl⟩)
  refine AWp.skip (AWp.seq (rW (pT rfl (st (v := .dat (.st _ _)) ?_))))
  subst h; exact dn (AWp.ret ⟨_, rfl, rfl⟩)
def W_ulp_value_round (x1 : Gulpvalue) (x2 : Int) (Q : Nat → Prop) : Prop :=
 Let (opMaxI x2 (-1 : Int)) fun x3 =>
 Let (opMinI x3 (1 : Int)) fun x4 =>
 Join1 (fun j6 =>
  Br (x1.hi_ == (0 : Int)) (
   Br (x1.lo_ == (0 : Int)) (j6 (!x1.more_)) (
    j6 false)) (
   j6 false)
 ) (fun (x5 : Bool) =>
  Br x5 (Q (0 : Nat)) (
   Call (Ev_ulp_value_len x1) fun x7 =>
   Let (IntKind.i64.wrap (x7 - (53 : Int))) fun x9 =>
   Let (IntKind.i64.wrap ((-1074 : Int) - x1.e_)) fun x10 =>
   Let (opMaxI x9 x10) fun x11 =>
   Join2 (fun j18 =>
    Br (decide (x11 > (0 : Int))) (
     Call (Ev_ulp_value_shifted x1 x11) fun x19 =>
     j18 x19.1 x19.2) (
     Let (IntKind.i64.wrap (0 - x11)) fun x21 =>
     Nn x21 <|
     Let (IntKind.u64.wrap (x1.lo_ * 2 ^ (min (Int.toNat x21) 64))) fun x22 =>
     Br x1.more_ (j18 x22 (1 : Int)) (
      j18 x22 (0 : Int)))
   ) (fun (x16 : Int) (x17 : Int) =>
    Join1 (fun j25 =>
     Br x1.neg_ (
      Let (IntKind.i64.wrap (0 - x4)) fun x26 =>
      j25 x26) (
      j25 x4)
    ) (fun (x24 : Int) =>
     Join1 (fun j30 =>
      Br (decide (x24 > (0 : Int))) (
       Br (decide (x17 > (0 : Int))) (j30 true) (
        Br (x24 == (0 : Int)) (
         Br (x17 == (3 : Int)) (j30 true) (
          Br (x17 == (2 : Int)) (
           Let (bits .and .u64 x16 (1 : Int)) fun x31 =>
           j30 (x31 == (1 : Int))) (
           j30 false))) (
         j30 false))) (
       Br (x24 == (0 : Int)) (
        Br (x17 == (3 : Int)) (j30 true) (
         Br (x17 == (2 : Int)) (
          Let (bits .and .u64 x16 (1 : Int)) fun x32 =>
          j30 (x32 == (1 : Int))) (
          j30 false))) (
        j30 false))
     ) (fun (x29 : Bool) =>
      Join1 (fun j35 =>
       Br x29 (
        Let (IntKind.u64.wrap (x16 + (1 : Int))) fun x36 =>
        j35 x36) (
        j35 x16)
      ) (fun (x34 : Int) =>
       Let (IntKind.i64.wrap (x1.e_ + x11)) fun x37 =>
       Call (Ev_ulp_value_made x1 x34 x37 x24) fun x38 =>
       Q x38))))))
theorem walk_ulp_value_round {x1 : Gulpvalue} {x2 : Int} {r : Nat} (h : W_ulp_value_round x1 x2 (fun r' => r' = r)) : Ev_ulp_value_round x1 x2 r := by
  unfold W_ulp_value_round at h
  refine intr (L := [(0, .dat (Gulpvalue.enc x1)), (1, .dat (.v (.int .i64 x2)))]) Tryz.func85 Tryz.ntmps85 ?_
  refine sN (bx (v := .dat (.st _ _)) ?_)
  refine pF rfl (dn (AWp.seq (rN (pI rfl ?_))))
  obtain ⟨x3, ex3, h⟩ := h.get
  refine ai ex3 rfl ?_
  obtain ⟨x4, ex4, h⟩ := h.get
  refine ai ex4 rfl (pI rfl (dn (AWp.seq (AWp.seq ?_))))
  obtain ⟨J48, h, hk49⟩ := h
  refine AWp.cutK (I := fun p : Bool => mkSt [(1, .dat (.v (.int .i64 x4))), (2, .pt 2 [] 0), (23, .dat (.v (.bool p)))] [(2, .box 101 5 (.dat (Gulpvalue.enc x1)))]) (Inv := fun p : Bool => J48 p) ?_ (fun p hp => ?_)
  · refine rN (pP rfl (pI rfl (pB rfl (pB rfl (sB 14 h (fun h => ?_) (fun h => ?_))))))
    · refine pP rfl (pI rfl (pB rfl (pB rfl (pB rfl (sB 19 h (fun h => ?_) (fun h => ?_))))))
      · refine pP rfl (pB rfl (pB rfl (pB rfl (dn ?_))))
        exact ⟨(!x1.more_), h, sl⟩
      refine fo 3 rfl (pB rfl (dn ?_))
      exact ⟨false, h, sl⟩
    refine fo 3 rfl (pB rfl (pB rfl (fo 3 rfl (pB rfl (dn ?_)))))
    exact ⟨false, h, sl⟩
  replace h := hk49 p hp
  revert h; clear hp; generalize p = x5; intro h
  refine cB h (fun h => ?_) (fun h => ?_)
  · refine sN (pF rfl (dn (AWp.ret ?_)))
    subst h
    exact ⟨_, rfl, rfl⟩
  refine AWp.skip (AWp.seq (rD (pT rfl (kC h rfl ⟨.inl rfl, trivial⟩ rfl fun x7 h => ?_))))
  obtain ⟨x9, ex9, h⟩ := h.get
  refine ai ex9 rfl (pP rfl (pI rfl ?_))
  obtain ⟨x10, ex10, h⟩ := h.get
  refine ai ex10 rfl ?_
  obtain ⟨x11, ex11, h⟩ := h.get
  refine ai ex11 rfl (pI rfl (dn (AWp.seq (rN (pI rfl (dn (AWp.seq (rN (pI rfl (dn (AWp.seq (AWp.seq (rN (pI rfl (pB rfl (dn ?_))))))))))))))))
  obtain ⟨J46, h, hk47⟩ := h
  refine AWp.cutK (I := fun p : Int × Int => mkSt [(1, .dat (.v (.int .i64 x4))), (2, .pt 2 [] 0), (5, .dat (.v (.int .i64 x11))), (6, .dat (.v (.int .u64 p.1))), (7, .dat (.v (.int .i64 p.2)))] [(2, .box 101 5 (.dat (Gulpvalue.enc x1)))]) (Inv := fun p : Int × Int => J46 p.1 p.2) ?_ (fun p hp => ?_)
  · refine cB h (fun h => ?_) (fun h => ?_)
    · refine rN (pT rfl (pI rfl (kC h rfl ⟨.inl rfl, .inl rfl, trivial⟩ rfl fun x19 h => ?_)))
      refine pU rfl (pI rfl (pI rfl (pI rfl (pI rfl (dn ?_)))))
      exact ⟨⟨x19.1, x19.2⟩, h, sl⟩
    refine sN (pP rfl (pI rfl (pI rfl ?_)))
    obtain ⟨x21, ex21, h⟩ := h.get
    refine ai ex21 rfl ?_
    obtain ⟨hq, h⟩ := h
    obtain ⟨x22, ex22, h⟩ := h.get
    refine AOps.q rfl rfl rfl rfl rfl (rbin_shl hq) ex22 ?_
    refine pI rfl (dn (AWp.seq (rN (pP rfl (pB rfl (dn (cB h (fun h => ?_) (fun h => ?_))))))))
    · refine rN (pI rfl (dn ?_))
      exact ⟨⟨x22, (1 : Int)⟩, h, sl⟩
    refine AWp.skip ?_
    exact ⟨⟨x22, (0 : Int)⟩, h, sl⟩
  obtain ⟨x16, x17⟩ := p
  replace h := hk47 x16 x17 hp
  refine AWp.seq (AWp.seq (rN (pP rfl (pB rfl (dn ?_)))))
  obtain ⟨J44, h, hk45⟩ := h
  refine AWp.cutK (I := fun p : Int => mkSt [(1, .dat (.v (.int .i64 p))), (2, .pt 2 [] 0), (5, .dat (.v (.int .i64 x11))), (6, .dat (.v (.int .u64 x16))), (7, .dat (.v (.int .i64 x17)))] [(2, .box 101 5 (.dat (Gulpvalue.enc x1)))]) (Inv := fun p : Int => J44 p) ?_ (fun p hp => ?_)
  · refine cB h (fun h => ?_) (fun h => ?_)
    · refine rN (pI rfl ?_)
      obtain ⟨x26, ex26, h⟩ := h.get
      refine ai ex26 rfl (pI rfl (dn ?_))
      exact ⟨x26, h, sl⟩
    refine AWp.skip ?_
    exact ⟨x4, h, sl⟩
  replace h := hk45 p hp
  revert h; clear hp; generalize p = x24; intro h
  refine AWp.seq (AWp.seq ?_)
  obtain ⟨J42, h, hk43⟩ := h
  refine AWp.cutK (I := fun p : Bool => mkSt [(1, .dat (.v (.int .i64 x24))), (2, .pt 2 [] 0), (5, .dat (.v (.int .i64 x11))), (6, .dat (.v (.int .u64 x16))), (72, .dat (.v (.bool p)))] [(2, .box 101 5 (.dat (Gulpvalue.enc x1)))]) (Inv := fun p : Bool => J42 p) ?_ (fun p hp => ?_)
  · refine rN (pI rfl (pB rfl (pB rfl (sB 52 h (fun h => ?_) (fun h => ?_)))))
    · refine pI rfl (pB rfl (pB rfl (pB rfl (sB 56 h (fun h => ?_) (fun h => ?_)))))
      · refine fo 15 rfl (pB rfl (dn ?_))
        exact ⟨true, h, sl⟩
      refine pI rfl (pB rfl (pB rfl (sB 59 h (fun h => ?_) (fun h => ?_))))
      · refine pI rfl (pB rfl (pB rfl (sB 62 h (fun h => ?_) (fun h => ?_))))
        · refine fo 7 rfl (pB rfl (pB rfl (pB rfl (dn ?_))))
          exact ⟨true, h, sl⟩
        refine pI rfl (pB rfl (pB rfl (sB 65 h (fun h => ?_) (fun h => ?_))))
        · refine pI rfl ?_
          obtain ⟨x31, ex31, h⟩ := h.get
          refine ai ex31 rfl (pB rfl (pB rfl (pB rfl (pB rfl (pB rfl (dn ?_))))))
          exact ⟨(x31 == (1 : Int)), h, sl⟩
        refine fo 3 rfl (pB rfl (pB rfl (pB rfl (pB rfl (dn ?_)))))
        exact ⟨false, h, sl⟩
      refine fo 11 rfl (pB rfl (pB rfl (dn ?_)))
      exact ⟨false, h, sl⟩
    refine ff rfl (ff rfl (pB rfl (pB rfl (pI rfl (pB rfl (pB rfl (sB 59 h (fun h => ?_) (fun h => ?_))))))))
    · refine pI rfl (pB rfl (pB rfl (sB 62 h (fun h => ?_) (fun h => ?_))))
      · refine fo 7 rfl (pB rfl (pB rfl (pB rfl (dn ?_))))
        exact ⟨true, h, sl⟩
      refine pI rfl (pB rfl (pB rfl (sB 65 h (fun h => ?_) (fun h => ?_))))
      · refine pI rfl ?_
        obtain ⟨x32, ex32, h⟩ := h.get
        refine ai ex32 rfl (pB rfl (pB rfl (pB rfl (pB rfl (pB rfl (dn ?_))))))
        exact ⟨(x32 == (1 : Int)), h, sl⟩
      refine fo 3 rfl (pB rfl (pB rfl (pB rfl (pB rfl (dn ?_)))))
      exact ⟨false, h, sl⟩
    refine fo 11 rfl (pB rfl (pB rfl (dn ?_)))
    exact ⟨false, h, sl⟩
  replace h := hk43 p hp
  revert h; clear hp; generalize p = x29; intro h
  obtain ⟨J40, h, hk41⟩ := h
  refine AWp.cutK (I := fun p : Int => mkSt [(1, .dat (.v (.int .i64 x24))), (2, .pt 2 [] 0), (5, .dat (.v (.int .i64 x11))), (6, .dat (.v (.int .u64 p)))] [(2, .box 101 5 (.dat (Gulpvalue.enc x1)))]) (Inv := fun p : Int => J40 p) ?_ (fun p hp => ?_)
  · refine cB h (fun h => ?_) (fun h => ?_)
    · refine rN (pI rfl ?_)
      obtain ⟨x36, ex36, h⟩ := h.get
      refine ai ex36 rfl (pI rfl (dn ?_))
      exact ⟨x36, h, sl⟩
    refine AWp.skip ?_
    exact ⟨x16, h, sl⟩
  replace h := hk41 p hp
  revert h; clear hp; generalize p = x34; intro h
  refine sN (pT rfl (pI rfl (pP rfl (pI rfl (pI rfl ?_)))))
  obtain ⟨x37, ex37, h⟩ := h.get
  refine ai ex37 rfl (pI rfl (kC h rfl ⟨.inl rfl, .inl rfl, .inl rfl, .inl rfl, trivial⟩ rfl fun x38 h => ?_))
  refine pF rfl (dn (AWp.ret ?_))
  subst h
  exact ⟨_, rfl, rfl⟩
def W_ulp_Split (x1 : Nat) (Q : GParts × Bool → Prop) : Prop :=
 Call (Ev_math_IsNaN x1) fun x6 =>
 Br x6 (Q (GParts.zero, false)) (
  Call (Ev_math_IsInf x1 (0 : Int)) fun x8 =>
  Br x8 (Q (GParts.zero, false)) (
   Call (Ev_math_Float64bits x1) fun x10 =>
   Let (IntKind.u64.wrap (x10 * 2 ^ 12)) fun x12 =>
   Let (Int.fdiv x12 (2 ^ 12)) fun x13 =>
   Let (IntKind.u64.wrap (x10 * 2 ^ 1)) fun x14 =>
   Let (Int.fdiv x14 (2 ^ 53)) fun x15 =>
   Let (IntKind.i64.wrap x15) fun x16 =>
   Join2 (fun j24 =>
    Join1 (fun j26 =>
     Br (x13 == (0 : Int)) (j26 (x16 == (0 : Int))) (
      j26 false)
    ) (fun (x25 : Bool) =>
     Br x25 (Q (GParts.zero, true)) (
      Br (x16 == (0 : Int)) (j24 x13 (1 : Int)) (
       Let (bits .or .u64 x13 (4503599627370496 : Int)) fun x27 =>
       j24 x27 x16)))
   ) (fun (m22 : Int) (e23 : Int) =>
    Let (IntKind.i64.wrap (e23 + (-1074 : Int))) fun x30 =>
    Let (IntKind.i64.wrap (x30 - (1 : Int))) fun x31 =>
    Q ((GParts.mk (FloatKind.f64.format.order x1 (0 : Nat) == some .lt) m22 x31), true))))
theorem walk_ulp_Split {x1 : Nat} {r : GParts × Bool} (h : W_ulp_Split x1 (fun r' => r' = r)) : Ev_ulp_Split x1 r := by
  unfold W_ulp_Split at h
  refine intr (L := [(0, .dat (.v (.float .f64 x1)))]) Tryz.func111 Tryz.ntmps111 ?_
  refine sN (al0 ?_)
  refine pB rfl (dn (AWp.seq (AWp.seq (rN (pF rfl (kC h rfl ⟨.inl rfl, trivial⟩ rfl fun x6 h => ?_))))))
  refine pB rfl (sB 9 h (fun h => ?_) (fun h => ?_))
  · refine ff rfl (ff rfl (pB rfl (dn ?_)))
    refine AWp.condT rfl ?_
    refine sW (pT rfl (st (v := .dat (.st _ _)) ?_))
    refine pB rfl (dn (AWp.ret ?_))
    subst h
    exact ⟨_, rfl, rfl⟩
  refine pF rfl (kC h rfl ⟨.inl rfl, .inl rfl, trivial⟩ rfl fun x8 h => ?_)
  refine pB rfl (dn (cB h (fun h => ?_) (fun h => ?_)))
  · refine sW (pT rfl (st (v := .dat (.st _ _)) ?_))
    refine pB rfl (dn (AWp.ret ?_))
    subst h
    exact ⟨_, rfl, rfl⟩
  refine AWp.skip (AWp.seq (rN (pF rfl ?_)))
  obtain ⟨x10, hc11, h⟩ := h
  refine AOps.extC hc11 rfl rfl rfl (.cons rfl .nil) ?_
  refine pI rfl (dn (AWp.seq (rN (pI rfl ?_))))
  obtain ⟨x12, ex12, h⟩ := h.get
  refine AOps.q rfl rfl rfl rfl rfl (rbin_shl (by decide)) ex12 ?_
  obtain ⟨x13, ex13, h⟩ := h.get
  refine AOps.q rfl rfl rfl rfl rfl (rbin_shr (by decide)) ex13 ?_
  refine pI rfl ?_
  obtain ⟨x14, ex14, h⟩ := h.get
  refine AOps.q rfl rfl rfl rfl rfl (rbin_shl (by decide)) ex14 ?_
  obtain ⟨x15, ex15, h⟩ := h.get
  refine AOps.q rfl rfl rfl rfl rfl (rbin_shr (by decide)) ex15 ?_
  obtain ⟨x16, ex16, h⟩ := h.get
  refine ai ex16 rfl (pI rfl (pI rfl (dn (AWp.seq ?_))))
  obtain ⟨J32, h, hk33⟩ := h
  refine AWp.cutK (I := fun p : Int × Int => mkSt [(0, .dat (.v (.float .f64 x1))), (2, .pt 2 [] 0), (5, .dat (.v (.int .u64 p.1))), (6, .dat (.v (.int .i64 p.2)))] [(2, .box 94 3 (.dat (GParts.enc GParts.zero)))]) (Inv := fun p : Int × Int => J32 p.1 p.2) ?_ (fun p hp => ?_)
  · refine AWp.block (AWp.seq ?_)
    obtain ⟨J28, h, hk29⟩ := h
    refine AWp.cutK (I := fun p : Bool => mkSt [(0, .dat (.v (.float .f64 x1))), (2, .pt 2 [] 0), (5, .dat (.v (.int .u64 x13))), (6, .dat (.v (.int .i64 x16))), (25, .dat (.v (.bool p)))] [(2, .box 94 3 (.dat (GParts.enc GParts.zero)))]) (Inv := fun p : Bool => J28 p) ?_ (fun p hp => ?_)
    · refine rN (pI rfl (pB rfl (pB rfl (sB 28 h (fun h => ?_) (fun h => ?_)))))
      · refine pI rfl (pB rfl (pB rfl (pB rfl (dn ?_))))
        exact ⟨(x16 == (0 : Int)), h, sl⟩
      refine ff rfl (ff rfl (pB rfl (pB rfl (dn ?_))))
      exact ⟨false, h, sl⟩
    replace h := hk29 p hp
    revert h; clear hp; generalize p = x25; intro h
    refine cB h (fun h => ?_) (fun h => ?_)
    · refine sW (pT rfl (st (v := .dat (.st _ _)) ?_))
      refine pB rfl (dn (AWp.ret ?_))
      subst h
      exact ⟨_, rfl, rfl⟩
    refine sN (pI rfl (pB rfl (pB rfl (dn (cB h (fun h => ?_) (fun h => ?_))))))
    · refine rN (pI rfl (dn ?_))
      exact ⟨⟨x13, (1 : Int)⟩, h, sl⟩
    refine rN (pI rfl ?_)
    obtain ⟨x27, ex27, h⟩ := h.get
    refine ai ex27 rfl (pI rfl (dn ?_))
    exact ⟨⟨x27, x16⟩, h, sl⟩
  obtain ⟨m22, e23⟩ := p
  replace h := hk33 m22 e23 hp
  refine sW (pF rfl (pB rfl (pI rfl (pI rfl ?_))))
  obtain ⟨x30, ex30, h⟩ := h.get
  refine ai ex30 rfl ?_
  obtain ⟨x31, ex31, h⟩ := h.get
  refine ai ex31 rfl (pT rfl (st (v := .dat (.st _ _)) ?_))
  refine pB rfl (dn (AWp.ret ?_))
  subst h
  exact ⟨_, rfl, rfl⟩
def W_ulp_value_len (v1 : Gulpvalue) (Q : Int → Prop) : Prop :=
 Br (decide (v1.hi_ > (0 : Int))) (
  Call (Ev_math_bits_Len64 v1.hi_) fun x5 =>
  Let (IntKind.i64.wrap ((64 : Int) + x5)) fun x7 =>
  Q x7) (
  Call (Ev_math_bits_Len64 v1.lo_) fun x8 =>
  Q x8)
theorem walk_ulp_value_len {v1 : Gulpvalue} {r : Int} (h : W_ulp_value_len v1 (fun r' => r' = r)) : Ev_ulp_value_len v1 r := by
  unfold W_ulp_value_len at h
  refine intr (L := [(0, .dat (Gulpvalue.enc v1))]) Tryz.func113 Tryz.ntmps113 ?_
  refine sN (bx (v := .dat (.st _ _)) ?_)
  refine pI rfl (dn (AWp.seq (AWp.seq (rN (pP rfl (pI rfl (pB rfl (dn (cB h (fun h => ?_) (fun h => ?_))))))))))
  · refine sN (pP rfl (pI rfl (kC h rfl ⟨.inl rfl, trivial⟩ rfl fun x5 h => ?_)))
    obtain ⟨x7, ex7, h⟩ := h.get
    refine ai ex7 rfl (pI rfl (dn (AWp.ret ?_)))
    subst h
    exact ⟨_, rfl, rfl⟩
  refine AWp.skip (AWp.seq (rN (pP rfl (pI rfl (kC h rfl ⟨.inl rfl, trivial⟩ rfl fun x8 h => ?_)))))
  refine pI rfl (dn (AWp.ret ?_))
  subst h
  exact ⟨_, rfl, rfl⟩
def W_ulp_value_shifted (v1 : Gulpvalue) (n2 : Int) (Q : Int × Int → Prop) : Prop :=
 Br (decide (n2 > (128 : Int))) (Q ((0 : Int), (1 : Int))) (
  Call (Ev_ulp_value_right ({ Gulpvalue.zero with hi_ := v1.hi_, lo_ := v1.lo_ }) n2) fun x3 =>
  Let (IntKind.i64.wrap (n2 - (1 : Int))) fun x5 =>
  Call (Ev_ulp_value_right ({ Gulpvalue.zero with hi_ := v1.hi_, lo_ := v1.lo_ }) x5) fun x6 =>
  Let (bits .and .u64 x6 (1 : Int)) fun x8 =>
  Join1 (fun j13 =>
   Br v1.more_ (j13 true) (
    Br (decide (n2 ≥ (2 : Int))) (
     Let (IntKind.i64.wrap (n2 - (1 : Int))) fun x14 =>
     Call (Ev_ulp_value_even ({ Gulpvalue.zero with hi_ := v1.hi_, lo_ := v1.lo_ }) x14) fun x15 =>
     j13 (!x15)) (
     j13 false))
  ) (fun (rest12 : Bool) =>
   Join1 (fun j22 =>
    Br (x8 == (1 : Int)) (j22 rest12) (
     j22 false)
   ) (fun (x21 : Bool) =>
    Br x21 (Q (x3, (3 : Int))) (
     Br (x8 == (1 : Int)) (Q (x3, (2 : Int))) (
      Br rest12 (Q (x3, (1 : Int))) (
       Q (x3, (0 : Int))))))))
theorem walk_ulp_value_shifted {v1 : Gulpvalue} {n2 : Int} {r : Int × Int} (h : W_ulp_value_shifted v1 n2 (fun r' => r' = r)) : Ev_ulp_value_shifted v1 n2 r := by
  unfold W_ulp_value_shifted at h
  refine intr (L := [(0, .dat (Gulpvalue.enc v1)), (1, .dat (.v (.int .i64 n2)))]) Tryz.func114 Tryz.ntmps114 ?_
  refine sN (bx (v := .dat (.st _ _)) ?_)
  refine pI rfl (pI rfl (dn (AWp.seq (AWp.seq (rN (pI rfl (pB rfl (dn (cB h (fun h => ?_) (fun h => ?_))))))))))
  · refine sN (pI rfl (pI rfl (dn (AWp.ret ?_))))
    subst h
    exact ⟨_, rfl, rfl⟩
  refine AWp.skip (AWp.seq (rW (pP rfl (pI rfl (pP rfl (pI rfl (pT rfl (al0 ?_))))))))
  refine st (v := .dat (.st _ _)) ?_
  refine dn (sN (pT rfl (pI rfl (kC h rfl ⟨.inl rfl, .inl rfl, trivial⟩ rfl fun x3 h => ?_))))
  refine pI rfl (dn (AWp.seq (rN (pT rfl (pI rfl ?_)))))
  obtain ⟨x5, ex5, h⟩ := h.get
  refine ai ex5 rfl (kC h rfl ⟨.inl rfl, .inl rfl, trivial⟩ rfl fun x6 h => ?_)
  obtain ⟨x8, ex8, h⟩ := h.get
  refine ai ex8 rfl (pI rfl (dn (AWp.seq ?_)))
  obtain ⟨J25, h, hk26⟩ := h
  refine AWp.cutK (I := fun p : Bool => mkSt [(7, .dat (.v (.int .u64 x3))), (8, .dat (.v (.int .u64 x8))), (9, .dat (.v (.bool p)))] []) (Inv := fun p : Bool => J25 p) ?_ (fun p hp => ?_)
  · refine rN (pP rfl (pB rfl (pB rfl (sB 27 h (fun h => ?_) (fun h => ?_)))))
    · refine fo 9 rfl (pB rfl (pB rfl (dn ?_)))
      exact ⟨true, h, sl⟩
    refine pI rfl (pB rfl (pB rfl (sB 30 h (fun h => ?_) (fun h => ?_))))
    · refine pT rfl (pI rfl ?_)
      obtain ⟨x14, ex14, h⟩ := h.get
      refine ai ex14 rfl (kC h rfl ⟨.inl rfl, .inl rfl, trivial⟩ rfl fun x15 h => ?_)
      refine pB rfl (pB rfl (pB rfl (pB rfl (dn ?_))))
      exact ⟨(!x15), h, sl⟩
    refine fo 5 rfl (pB rfl (pB rfl (pB rfl (dn ?_))))
    exact ⟨false, h, sl⟩
  replace h := hk26 p hp
  revert h; clear hp; generalize p = rest12; intro h
  refine AWp.seq (AWp.block (AWp.seq ?_))
  obtain ⟨J23, h, hk24⟩ := h
  refine AWp.cutK (I := fun p : Bool => mkSt [(7, .dat (.v (.int .u64 x3))), (8, .dat (.v (.int .u64 x8))), (9, .dat (.v (.bool rest12))), (38, .dat (.v (.bool p)))] []) (Inv := fun p : Bool => J23 p) ?_ (fun p hp => ?_)
  · refine rN (pI rfl (pB rfl (pB rfl (sB 41 h (fun h => ?_) (fun h => ?_)))))
    · refine pB rfl (pB rfl (pB rfl (dn ?_)))
      exact ⟨rest12, h, sl⟩
    refine ff rfl (pB rfl (pB rfl (dn ?_)))
    exact ⟨false, h, sl⟩
  replace h := hk24 p hp
  revert h; clear hp; generalize p = x21; intro h
  refine cB h (fun h => ?_) (fun h => ?_)
  · refine sN (pI rfl (pI rfl (pI rfl (dn (AWp.ret ?_)))))
    subst h
    exact ⟨_, rfl, rfl⟩
  refine sN (pI rfl (pB rfl (pB rfl (dn (cB h (fun h => ?_) (fun h => ?_))))))
  · refine sN (pI rfl (pI rfl (pI rfl (dn (AWp.ret ?_)))))
    subst h
    exact ⟨_, rfl, rfl⟩
  refine sN (pB rfl (pB rfl (dn (cB h (fun h => ?_) (fun h => ?_)))))
  · refine sN (pI rfl (pI rfl (pI rfl (dn (AWp.ret ?_)))))
    subst h
    exact ⟨_, rfl, rfl⟩
  refine AWp.skip (AWp.seq (rN (pI rfl (pI rfl (pI rfl (dn (AWp.ret ?_)))))))
  subst h
  exact ⟨_, rfl, rfl⟩
def W_ulp_value_made (v1 : Gulpvalue) (q2 : Int) (e3 : Int) (dir4 : Int) (Q : Nat → Prop) : Prop :=
 Br (q2 == (0 : Int)) (Q (0 : Nat)) (
  Call (Ev_math_bits_Len64 q2) fun x5 =>
  Let (IntKind.i64.wrap (x5 + e3)) fun x7 =>
  Join1 (fun j14 =>
   Br (decide (x7 ≤ (1024 : Int))) (
    Let (FloatKind.f64.nearest q2) fun x15 =>
    Call (Ev_math_Ldexp x15 e3) fun x16 =>
    j14 x16) (
    Br (decide (dir4 ≥ (0 : Int))) (
     Call (Ev_math_Inf (1 : Int)) fun x18 =>
     j14 x18) (
     j14 (9218868437227405311 : Nat)))
  ) (fun (x13 : Nat) =>
   Br v1.neg_ (
    Let (Op.negFloat .f64 x13) fun x21 =>
    Q x21) (
    Q x13)))
theorem walk_ulp_value_made {v1 : Gulpvalue} {q2 : Int} {e3 : Int} {dir4 : Int} {r : Nat} (h : W_ulp_value_made v1 q2 e3 dir4 (fun r' => r' = r)) : Ev_ulp_value_made v1 q2 e3 dir4 r := by
  unfold W_ulp_value_made at h
  refine intr (L := [(0, .dat (Gulpvalue.enc v1)), (1, .dat (.v (.int .u64 q2))), (2, .dat (.v (.int .i64 e3))), (3, .dat (.v (.int .i64 dir4)))]) Tryz.func115 Tryz.ntmps115 ?_
  refine sN (bx (v := .dat (.st _ _)) ?_)
  refine pF rfl (dn (AWp.seq (rN (pF rfl (dn (AWp.seq (AWp.seq (rN (pI rfl (pB rfl (dn (cB h (fun h => ?_) (fun h => ?_)))))))))))))
  · refine sN (pF rfl (dn (AWp.ret ?_)))
    subst h
    exact ⟨_, rfl, rfl⟩
  refine AWp.skip (AWp.seq (AWp.seq (rN (pI rfl (kC h rfl ⟨.inl rfl, trivial⟩ rfl fun x5 h => ?_)))))
  refine pI rfl ?_
  obtain ⟨x7, ex7, h⟩ := h.get
  refine ai ex7 rfl (pB rfl (dn ?_))
  obtain ⟨J22, h, hk23⟩ := h
  refine AWp.cutK (I := fun p : Nat => mkSt [(4, .pt 4 [] 0), (9, .dat (.v (.float .f64 p)))] [(4, .box 101 5 (.dat (Gulpvalue.enc v1)))]) (Inv := fun p : Nat => J22 p) ?_ (fun p hp => ?_)
  · refine cB h (fun h => ?_) (fun h => ?_)
    · refine rN (pI rfl ?_)
      obtain ⟨x15, ex15, h⟩ := h.get
      refine AOps.fl tabOk rfl rfl rfl ex15 ?_
      refine pI rfl (kC h rfl ⟨.inl rfl, .inl rfl, trivial⟩ rfl fun x16 h => ?_)
      refine pF rfl (dn ?_)
      exact ⟨x16, h, sl⟩
    refine sN (pI rfl (pB rfl (dn (cB h (fun h => ?_) (fun h => ?_)))))
    · refine rN (kC h rfl ⟨.inl rfl, trivial⟩ rfl fun x18 h => ?_)
      refine pF rfl (dn ?_)
      exact ⟨x18, h, sl⟩
    refine AWp.skip ?_
    exact ⟨(9218868437227405311 : Nat), h, sl⟩
  replace h := hk23 p hp
  revert h; clear hp; generalize p = x13; intro h
  refine AWp.seq (AWp.seq (rN (pP rfl (pB rfl (dn (cB h (fun h => ?_) (fun h => ?_)))))))
  · refine sN (pF rfl ?_)
    obtain ⟨x21, ex21, h⟩ := h.get
    refine AOps.fl tabOk rfl rfl rfl ex21 ?_
    refine pF rfl (dn (AWp.ret ?_))
    subst h
    exact ⟨_, rfl, rfl⟩
  refine AWp.skip (AWp.seq (rN (pF rfl (pF rfl (dn (AWp.ret ?_))))))
  subst h
  exact ⟨_, rfl, rfl⟩
def W_ulp_value_right (v1 : Gulpvalue) (n2 : Int) (Q : Int → Prop) : Prop :=
 Br (decide (n2 ≥ (128 : Int))) (Q (0 : Int)) (
  Br (decide (n2 ≥ (64 : Int))) (
   Let (IntKind.i64.wrap (n2 - (64 : Int))) fun x5 =>
   Nn x5 <|
   Let (Int.fdiv v1.hi_ (2 ^ (min (Int.toNat x5) 64))) fun x6 =>
   Q x6) (
   Br (n2 == (0 : Int)) (Q v1.lo_) (
    Nn n2 <|
    Let (Int.fdiv v1.lo_ (2 ^ (min (Int.toNat n2) 64))) fun x7 =>
    Let (IntKind.i64.wrap ((64 : Int) - n2)) fun x8 =>
    Nn x8 <|
    Let (IntKind.u64.wrap (v1.hi_ * 2 ^ (min (Int.toNat x8) 64))) fun x9 =>
    Let (bits .or .u64 x7 x9) fun x10 =>
    Q x10)))
theorem walk_ulp_value_right {v1 : Gulpvalue} {n2 : Int} {r : Int} (h : W_ulp_value_right v1 n2 (fun r' => r' = r)) : Ev_ulp_value_right v1 n2 r := by
  unfold W_ulp_value_right at h
  refine intr (L := [(0, .dat (Gulpvalue.enc v1)), (1, .dat (.v (.int .i64 n2)))]) Tryz.func132 Tryz.ntmps132 ?_
  refine sN (bx (v := .dat (.st _ _)) ?_)
  refine pI rfl (dn (AWp.seq (AWp.block (AWp.seq (rN (pI rfl (pB rfl (pB rfl (dn (cB h (fun h => ?_) (fun h => ?_)))))))))))
  · refine sN (pI rfl (dn (AWp.ret ?_)))
    subst h
    exact ⟨_, rfl, rfl⟩
  refine sN (pI rfl (pB rfl (pB rfl (dn (cB h (fun h => ?_) (fun h => ?_))))))
  · refine sN (pP rfl (pI rfl (pI rfl ?_)))
    obtain ⟨x5, ex5, h⟩ := h.get
    refine ai ex5 rfl ?_
    obtain ⟨hq, h⟩ := h
    obtain ⟨x6, ex6, h⟩ := h.get
    refine AOps.q rfl rfl rfl rfl rfl (rbin_shr hq) ex6 ?_
    refine pI rfl (dn (AWp.ret ?_))
    subst h
    exact ⟨_, rfl, rfl⟩
  refine sN (pI rfl (pB rfl (pB rfl (dn (cB h (fun h => ?_) (fun h => ?_))))))
  · refine sN (pP rfl (pI rfl (pI rfl (dn (AWp.ret ?_)))))
    subst h
    exact ⟨_, rfl, rfl⟩
  refine AWp.skip (AWp.seq (rD (pP rfl (pI rfl (pI rfl ?_)))))
  obtain ⟨hq, h⟩ := h
  obtain ⟨x7, ex7, h⟩ := h.get
  refine AOps.q rfl rfl rfl rfl rfl (rbin_shr hq) ex7 ?_
  refine pP rfl (pI rfl (pI rfl ?_))
  obtain ⟨x8, ex8, h⟩ := h.get
  refine ai ex8 rfl ?_
  obtain ⟨hq, h⟩ := h
  obtain ⟨x9, ex9, h⟩ := h.get
  refine AOps.q rfl rfl rfl rfl rfl (rbin_shl hq) ex9 ?_
  obtain ⟨x10, ex10, h⟩ := h.get
  refine ai ex10 rfl (pI rfl (dn (AWp.ret ?_)))
  subst h
  exact ⟨_, rfl, rfl⟩
def W_ulp_value_even (v1 : Gulpvalue) (n2 : Int) (Q : Bool → Prop) : Prop :=
 Br (decide (n2 ≥ (64 : Int))) (
  Br (v1.lo_ == (0 : Int)) (
   Br (n2 == (64 : Int)) (Q true) (
    Let (IntKind.i64.wrap ((128 : Int) - n2)) fun x9 =>
    Nn x9 <|
    Let (IntKind.u64.wrap (v1.hi_ * 2 ^ (min (Int.toNat x9) 64))) fun x10 =>
    Q (x10 == (0 : Int)))) (
   Q false)) (
  Let (IntKind.i64.wrap ((64 : Int) - n2)) fun x11 =>
  Nn x11 <|
  Let (IntKind.u64.wrap (v1.lo_ * 2 ^ (min (Int.toNat x11) 64))) fun x12 =>
  Q (x12 == (0 : Int)))
theorem walk_ulp_value_even {v1 : Gulpvalue} {n2 : Int} {r : Bool} (h : W_ulp_value_even v1 n2 (fun r' => r' = r)) : Ev_ulp_value_even v1 n2 r := by
  unfold W_ulp_value_even at h
  refine intr (L := [(0, .dat (Gulpvalue.enc v1)), (1, .dat (.v (.int .i64 n2)))]) Tryz.func133 Tryz.ntmps133 ?_
  refine sN (bx (v := .dat (.st _ _)) ?_)
  refine pB rfl (dn (AWp.seq (AWp.seq (rN (pI rfl (pB rfl (dn (cB h (fun h => ?_) (fun h => ?_)))))))))
  · refine sN (pP rfl (pI rfl (pB rfl (pB rfl (sB 10 h (fun h => ?_) (fun h => ?_))))))
    · refine pI rfl (pB rfl (pB rfl (sB 13 h (fun h => ?_) (fun h => ?_))))
      · refine fo 6 rfl (pB rfl (pB rfl (pB rfl (dn (AWp.ret ?_)))))
        subst h
        exact ⟨_, rfl, rfl⟩
      refine pP rfl (pI rfl (pI rfl ?_))
      obtain ⟨x9, ex9, h⟩ := h.get
      refine ai ex9 rfl ?_
      obtain ⟨hq, h⟩ := h
      obtain ⟨x10, ex10, h⟩ := h.get
      refine AOps.q rfl rfl rfl rfl rfl (rbin_shl hq) ex10 ?_
      refine pB rfl (pB rfl (pB rfl (pB rfl (dn (AWp.ret ?_)))))
      subst h
      exact ⟨_, rfl, rfl⟩
    refine fo 10 rfl (pB rfl (pB rfl (dn (AWp.ret ?_))))
    subst h
    exact ⟨_, rfl, rfl⟩
  refine AWp.skip (AWp.seq (rN (pP rfl (pI rfl (pI rfl ?_)))))
  obtain ⟨x11, ex11, h⟩ := h.get
  refine ai ex11 rfl ?_
  obtain ⟨hq, h⟩ := h
  obtain ⟨x12, ex12, h⟩ := h.get
  refine AOps.q rfl rfl rfl rfl rfl (rbin_shl hq) ex12 ?_
  refine pB rfl (pB rfl (dn (AWp.ret ?_)))
  subst h
  exact ⟨_, rfl, rfl⟩
def W_math_Ldexp (frac1 : Nat) (exp2 : Int) (Q : Nat → Prop) : Prop :=
 Call (Ev_math_ldexp frac1 exp2) fun x3 =>
 Q x3
theorem walk_math_Ldexp {frac1 : Nat} {exp2 : Int} {r : Nat} (h : W_math_Ldexp frac1 exp2 (fun r' => r' = r)) : Ev_math_Ldexp frac1 exp2 r := by
  unfold W_math_Ldexp at h
  refine intr (L := [(0, .dat (.v (.float .f64 frac1))), (1, .dat (.v (.int .i64 exp2)))]) Tryz.func12 Tryz.ntmps12 ?_
  refine sN (pF rfl (dn (AWp.seq ?_)))
  refine AWp.condF rfl ?_
  refine AWp.skip (AWp.seq (rN (pF rfl (pI rfl (kC h rfl ⟨.inl rfl, .inl rfl, trivial⟩ rfl fun x3 h => ?_)))))
  refine pF rfl (dn (AWp.ret ?_))
  subst h
  exact ⟨_, rfl, rfl⟩
def W_math_ldexp (frac1 : Nat) (exp2 : Int) (Q : Nat → Prop) : Prop :=
 Br (FloatKind.f64.format.order frac1 (0 : Nat) == some .eq) (Q frac1) (
  Call (Ev_math_IsInf frac1 (0 : Int)) fun x15 =>
  Br x15 (Q frac1) (
   Call (Ev_math_IsNaN frac1) fun x17 =>
   Br x17 (Q frac1) (
    Call (Ev_math_normalize frac1) fun x19 =>
    Let (IntKind.i64.wrap (exp2 + x19.2)) fun x21 =>
    Call (Ev_math_Float64bits x19.1) fun x22 =>
    Let (Int.fdiv x22 (2 ^ 52)) fun x24 =>
    Let (IntKind.i64.wrap x24) fun x25 =>
    Let (bits .and .i64 x25 (2047 : Int)) fun x26 =>
    Let (IntKind.i64.wrap (x26 - (1023 : Int))) fun x27 =>
    Let (IntKind.i64.wrap (x21 + x27)) fun x28 =>
    Br (decide (x28 < (-1075 : Int))) (
     Call (Ev_math_Copysign (0 : Nat) x19.1) fun x31 =>
     Q x31) (
     Br (decide (x28 > (1023 : Int))) (
      Br (FloatKind.f64.format.order x19.1 (0 : Nat) == some .lt) (
       Call (Ev_math_Inf (-1 : Int)) fun x41 =>
       Q x41) (
       Call (Ev_math_Inf (1 : Int)) fun x43 =>
       Q x43)) (
      Join2 (fun j48 =>
       Br (decide (x28 < (-1022 : Int))) (
        Let (IntKind.i64.wrap (x28 + (53 : Int))) fun x49 =>
        j48 x49 (4368491638549381120 : Nat)) (
        j48 x28 (4607182418800017408 : Nat))
      ) (fun (exp46 : Int) (m47 : Nat) =>
       Let (bits .andNot .u64 x22 (9218868437227405312 : Int)) fun x50 =>
       Let (IntKind.i64.wrap (exp46 + (1023 : Int))) fun x51 =>
       Let (IntKind.u64.wrap x51) fun x52 =>
       Let (IntKind.u64.wrap (x52 * 2 ^ 52)) fun x53 =>
       Let (bits .or .u64 x50 x53) fun x54 =>
       Call (Ev_math_Float64frombits x54) fun x55 =>
       FOp .mul m47 x55 fun x57 =>
       Q x57))))))
theorem walk_math_ldexp {frac1 : Nat} {exp2 : Int} {r : Nat} (h : W_math_ldexp frac1 exp2 (fun r' => r' = r)) : Ev_math_ldexp frac1 exp2 r := by
  unfold W_math_ldexp at h
  refine intr (L := [(0, .dat (.v (.float .f64 frac1))), (1, .dat (.v (.int .i64 exp2)))]) Tryz.func31 Tryz.ntmps31 ?_
  refine sN (pF rfl (dn (AWp.seq (AWp.block (AWp.seq (rN (pF rfl (pB rfl (pB rfl (dn (cB h (fun h => ?_) (fun h => ?_))))))))))))
  · refine sN (pF rfl (pF rfl (dn (AWp.ret ?_))))
    subst h
    exact ⟨_, rfl, rfl⟩
  refine sN (pF rfl (kC h rfl ⟨.inl rfl, .inl rfl, trivial⟩ rfl fun x15 h => ?_))
  refine pB rfl (sB 15 h (fun h => ?_) (fun h => ?_))
  · refine ff rfl (ff rfl (pB rfl (pB rfl (dn ?_))))
    refine AWp.condT rfl ?_
    refine sN (pF rfl (pF rfl (dn (AWp.ret ?_))))
    subst h
    exact ⟨_, rfl, rfl⟩
  refine pF rfl (kC h rfl ⟨.inl rfl, trivial⟩ rfl fun x17 h => ?_)
  refine pB rfl (pB rfl (dn (cB h (fun h => ?_) (fun h => ?_))))
  · refine sN (pF rfl (pF rfl (dn (AWp.ret ?_))))
    subst h
    exact ⟨_, rfl, rfl⟩
  refine AWp.skip (AWp.seq (rN (pF rfl (kC h rfl ⟨.inl rfl, trivial⟩ rfl fun x19 h => ?_))))
  refine pU rfl (pF rfl (pI rfl (pF rfl (pI rfl (dn (AWp.seq (rN (pI rfl (pI rfl ?_)))))))))
  obtain ⟨x21, ex21, h⟩ := h.get
  refine ai ex21 rfl (pI rfl (dn (AWp.seq (rN (pF rfl ?_)))))
  obtain ⟨x22, hc23, h⟩ := h
  refine AOps.extC hc23 rfl rfl rfl (.cons rfl .nil) ?_
  refine pI rfl (dn (AWp.seq (rN (pI rfl (pI rfl ?_)))))
  obtain ⟨x24, ex24, h⟩ := h.get
  refine AOps.q rfl rfl rfl rfl rfl (rbin_shr (by decide)) ex24 ?_
  obtain ⟨x25, ex25, h⟩ := h.get
  refine ai ex25 rfl ?_
  obtain ⟨x26, ex26, h⟩ := h.get
  refine ai ex26 rfl ?_
  obtain ⟨x27, ex27, h⟩ := h.get
  refine ai ex27 rfl ?_
  obtain ⟨x28, ex28, h⟩ := h.get
  refine ai ex28 rfl (pI rfl (dn (AWp.seq (AWp.seq (rN (pI rfl (pB rfl (dn (cB h (fun h => ?_) (fun h => ?_))))))))))
  · refine sN (pF rfl (kC h rfl ⟨.inl rfl, .inl rfl, trivial⟩ rfl fun x31 h => ?_))
    refine pF rfl (dn (AWp.ret ?_))
    subst h
    exact ⟨_, rfl, rfl⟩
  refine AWp.skip (AWp.seq (AWp.seq (rN (pI rfl (pB rfl (dn (cB h (fun h => ?_) (fun h => ?_))))))))
  · refine AWp.seq (AWp.seq (rN (pF rfl (pB rfl (dn (cB h (fun h => ?_) (fun h => ?_)))))))
    · refine sN (kC h rfl ⟨.inl rfl, trivial⟩ rfl fun x41 h => ?_)
      refine pF rfl (dn (AWp.ret ?_))
      subst h
      exact ⟨_, rfl, rfl⟩
    refine AWp.skip (AWp.seq (rN (kC h rfl ⟨.inl rfl, trivial⟩ rfl fun x43 h => ?_)))
    refine pF rfl (dn (AWp.ret ?_))
    subst h
    exact ⟨_, rfl, rfl⟩
  refine AWp.skip (AWp.seq (rN (pF rfl (dn (AWp.seq (AWp.seq (rN (pI rfl (pB rfl (dn ?_))))))))))
  obtain ⟨J58, h, hk59⟩ := h
  refine AWp.cutK (I := fun p : Int × Nat => mkSt [(1, .dat (.v (.int .i64 p.1))), (6, .dat (.v (.int .u64 x22))), (7, .dat (.v (.float .f64 p.2)))] []) (Inv := fun p : Int × Nat => J58 p.1 p.2) ?_ (fun p hp => ?_)
  · refine cB h (fun h => ?_) (fun h => ?_)
    · refine sN (pI rfl ?_)
      obtain ⟨x49, ex49, h⟩ := h.get
      refine ai ex49 rfl (pI rfl (dn (rN (pF rfl (dn ?_)))))
      exact ⟨⟨x49, (4368491638549381120 : Nat)⟩, h, sl⟩
    refine AWp.skip ?_
    exact ⟨⟨x28, (4607182418800017408 : Nat)⟩, h, sl⟩
  obtain ⟨exp46, m47⟩ := p
  replace h := hk59 exp46 m47 hp
  refine sN (pI rfl ?_)
  obtain ⟨x50, ex50, h⟩ := h.get
  refine ai ex50 rfl (pI rfl (dn (AWp.seq (rN (pI rfl (pI rfl ?_))))))
  obtain ⟨x51, ex51, h⟩ := h.get
  refine ai ex51 rfl ?_
  obtain ⟨x52, ex52, h⟩ := h.get
  refine ai ex52 rfl ?_
  obtain ⟨x53, ex53, h⟩ := h.get
  refine AOps.q rfl rfl rfl rfl rfl (rbin_shl (by decide)) ex53 ?_
  obtain ⟨x54, ex54, h⟩ := h.get
  refine ai ex54 rfl (pI rfl (dn (AWp.seq (rN (pF rfl (pI rfl ?_))))))
  obtain ⟨x55, hc56, h⟩ := h
  refine AOps.extC hc56 rfl rfl rfl (.cons rfl .nil) ?_
  obtain ⟨x57, hq, h⟩ := h
  refine AOps.v rfl rfl (Step.flt rfl rfl rfl hq) ?_
  refine pF rfl (dn (AWp.ret ?_))
  subst h
  exact ⟨_, rfl, rfl⟩
def W_math_normalize (x1 : Nat) (Q : Nat × Int → Prop) : Prop :=
 Call (Ev_math_Abs x1) fun x2 =>
 Br (FloatKind.f64.format.order x2 (4503599627370496 : Nat) == some .lt) (
  FOp .mul x1 (4841369599423283200 : Nat) fun x5 =>
  Q (x5, (-52 : Int))) (
  Q (x1, (0 : Int)))
theorem walk_math_normalize {x1 : Nat} {r : Nat × Int} (h : W_math_normalize x1 (fun r' => r' = r)) : Ev_math_normalize x1 r := by
  unfold W_math_normalize at h
  refine intr (L := [(0, .dat (.v (.float .f64 x1)))]) Tryz.func68 Tryz.ntmps68 ?_
  refine sN (pF rfl (pI rfl (dn (AWp.seq (AWp.seq (rN (pF rfl (kC h rfl ⟨.inl rfl, trivial⟩ rfl fun x2 h => ?_))))))))
  refine pB rfl (dn (cB h (fun h => ?_) (fun h => ?_)))
  · refine sN (pF rfl ?_)
    obtain ⟨x5, hq, h⟩ := h
    refine AOps.v rfl rfl (Step.flt rfl rfl rfl hq) ?_
    refine pF rfl (pI rfl (dn (AWp.ret ?_)))
    subst h
    exact ⟨_, rfl, rfl⟩
  refine AWp.skip (AWp.seq (rN (pF rfl (pF rfl (pI rfl (dn (AWp.ret ?_)))))))
  subst h
  exact ⟨_, rfl, rfl⟩
def W_math_Abs (x1 : Nat) (Q : Nat → Prop) : Prop :=
 Call (Ev_math_Float64bits x1) fun x2 =>
 Let (bits .andNot .u64 x2 (9223372036854775808 : Int)) fun x4 =>
 Call (Ev_math_Float64frombits x4) fun x5 =>
 Q x5
theorem walk_math_Abs {x1 : Nat} {r : Nat} (h : W_math_Abs x1 (fun r' => r' = r)) : Ev_math_Abs x1 r := by
  unfold W_math_Abs at h
  refine intr (L := [(0, .dat (.v (.float .f64 x1)))]) Tryz.func39 Tryz.ntmps39 ?_
  refine sN (pF rfl (dn (AWp.seq (rN (pF rfl ?_)))))
  obtain ⟨x2, hc3, h⟩ := h
  refine AOps.extC hc3 rfl rfl rfl (.cons rfl .nil) ?_
  obtain ⟨x4, ex4, h⟩ := h.get
  refine ai ex4 rfl ?_
  obtain ⟨x5, hc6, h⟩ := h
  refine AOps.extC hc6 rfl rfl rfl (.cons rfl .nil) ?_
  refine pF rfl (dn (AWp.ret ?_))
  subst h
  exact ⟨_, rfl, rfl⟩
def W_math_IsNaN (f1 : Nat) (Q : Bool → Prop) : Prop :=
 Q (FloatKind.f64.format.order f1 f1 != some .eq)
theorem walk_math_IsNaN {f1 : Nat} {r : Bool} (h : W_math_IsNaN f1 (fun r' => r' = r)) : Ev_math_IsNaN f1 r := by
  unfold W_math_IsNaN at h
  refine intr (L := [(0, .dat (.v (.float .f64 f1)))]) Tryz.func53 Tryz.ntmps53 ?_
  refine sN (pB rfl (dn (AWp.seq (rN (pF rfl (pF rfl (pB rfl (pB rfl (dn (AWp.ret ?_))))))))))
  subst h
  exact ⟨_, rfl, rfl⟩
def W_math_IsInf (f1 : Nat) (sign2 : Int) (Q : Bool → Prop) : Prop :=
 Br (sign2 == (0 : Int)) (
  Call (Ev_math_Abs f1) fun x6 =>
  Q (FloatKind.f64.format.order x6 (9218868437227405311 : Nat) == some .gt)) (
  Br (decide (sign2 < (0 : Int))) (
   Let (Op.negFloat .f64 f1) fun x9 =>
   Q (FloatKind.f64.format.order x9 (9218868437227405311 : Nat) == some .gt)) (
   Q (FloatKind.f64.format.order f1 (9218868437227405311 : Nat) == some .gt)))
theorem walk_math_IsInf {f1 : Nat} {sign2 : Int} {r : Bool} (h : W_math_IsInf f1 sign2 (fun r' => r' = r)) : Ev_math_IsInf f1 sign2 r := by
  unfold W_math_IsInf at h
  refine intr (L := [(0, .dat (.v (.float .f64 f1))), (1, .dat (.v (.int .i64 sign2)))]) Tryz.func54 Tryz.ntmps54 ?_
  refine sN (pB rfl (dn (AWp.seq (AWp.seq (rN (pI rfl (pB rfl (dn (cB h (fun h => ?_) (fun h => ?_))))))))))
  · refine rN (pF rfl (kC h rfl ⟨.inl rfl, trivial⟩ rfl fun x6 h => ?_))
    refine pF rfl (dn (AWp.seq (rN (pF rfl (pB rfl (pB rfl (dn (AWp.ret ?_))))))))
    subst h
    exact ⟨_, rfl, rfl⟩
  refine sN (pI rfl (pB rfl (dn (cB h (fun h => ?_) (fun h => ?_)))))
  · refine rN (pF rfl ?_)
    obtain ⟨x9, ex9, h⟩ := h.get
    refine AOps.fl tabOk rfl rfl rfl ex9 ?_
    refine pF rfl (dn (AWp.seq (rN (pF rfl (pB rfl (pB rfl (dn (AWp.ret ?_))))))))
    subst h
    exact ⟨_, rfl, rfl⟩
  refine AWp.skip (AWp.seq (rN (pF rfl (pB rfl (pB rfl (dn (AWp.ret ?_)))))))
  subst h
  exact ⟨_, rfl, rfl⟩
def W_math_Inf (sign1 : Int) (Q : Nat → Prop) : Prop :=
 Join1 (fun j3 =>
  Br (decide (sign1 ≥ (0 : Int))) (j3 (9218868437227405312 : Int)) (
   j3 (18442240474082181120 : Int))
 ) (fun (v2 : Int) =>
  Call (Ev_math_Float64frombits v2) fun x4 =>
  Q x4)
theorem walk_math_Inf {sign1 : Int} {r : Nat} (h : W_math_Inf sign1 (fun r' => r' = r)) : Ev_math_Inf sign1 r := by
  unfold W_math_Inf at h
  refine intr (L := [(0, .dat (.v (.int .i64 sign1)))]) Tryz.func71 Tryz.ntmps71 ?_
  refine sN (pF rfl (dn (AWp.seq (rN (pI rfl (dn (AWp.seq (AWp.seq (rN (pI rfl (pB rfl (dn ?_))))))))))))
  obtain ⟨J6, h, hk7⟩ := h
  refine AWp.cutK (I := fun p : Int => mkSt [(3, .dat (.v (.int .u64 p)))] []) (Inv := fun p : Int => J6 p) ?_ (fun p hp => ?_)
  · refine cB h (fun h => ?_) (fun h => ?_)
    · refine rN (pI rfl (dn ?_))
      exact ⟨(9218868437227405312 : Int), h, sl⟩
    refine rN (pI rfl (dn ?_))
    exact ⟨(18442240474082181120 : Int), h, sl⟩
  replace h := hk7 p hp
  revert h; clear hp; generalize p = v2; intro h
  refine sN (pI rfl ?_)
  obtain ⟨x4, hc5, h⟩ := h
  refine AOps.extC hc5 rfl rfl rfl (.cons rfl .nil) ?_
  refine pF rfl (dn (AWp.ret ?_))
  subst h
  exact ⟨_, rfl, rfl⟩
def W_math_Signbit (x1 : Nat) (Q : Bool → Prop) : Prop :=
 Call (Ev_math_Float64bits x1) fun x2 =>
 Let (IntKind.i64.wrap x2) fun x4 =>
 Q (decide (x4 < (0 : Int)))
theorem walk_math_Signbit {x1 : Nat} {r : Bool} (h : W_math_Signbit x1 (fun r' => r' = r)) : Ev_math_Signbit x1 r := by
  unfold W_math_Signbit at h
  refine intr (L := [(0, .dat (.v (.float .f64 x1)))]) Tryz.func134 Tryz.ntmps134 ?_
  refine sN (pB rfl (dn (AWp.seq (rN (pF rfl ?_)))))
  obtain ⟨x2, hc3, h⟩ := h
  refine AOps.extC hc3 rfl rfl rfl (.cons rfl .nil) ?_
  obtain ⟨x4, ex4, h⟩ := h.get
  refine ai ex4 rfl (pB rfl (pB rfl (dn (AWp.ret ?_))))
  subst h
  exact ⟨_, rfl, rfl⟩
end Go.Sim.YtlkpbnhinnhlfaaGreat
