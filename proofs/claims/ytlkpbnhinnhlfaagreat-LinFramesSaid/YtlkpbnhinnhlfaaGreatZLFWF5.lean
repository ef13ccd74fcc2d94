/- What is proved: functions of the program compute what plain statements tell. -/
import Derived.Test.YtlkpbnhinnhlfaaGreatZLFWE

namespace Go.Sim.YtlkpbnhinnhlfaaGreat
open Go.RowKit Go.Proofs Go.Proofs.Tryz
set_option maxRecDepth 100000
def W_ref02_None (x1 : GIval) (Q : Bool → Prop) : Prop :=
 Call (Ev_ref02_Right x1) fun x4 =>
 Br (!x4) (Q true) (
  Q (FloatKind.f64.format.order x1.Lo x1.Hi == some .gt))
theorem walk_ref02_None {x1 : GIval} {r : Bool} (h : W_ref02_None x1 (fun r' => r' = r)) : Ev_ref02_None x1 r := by
  unfold W_ref02_None at h
  refine intr (L := [(0, .dat (GIval.enc x1))]) Tryz.func51 Tryz.ntmps51 ?_
  refine sN (bx (v := .dat (.st _ _)) ?_)
  refine pB rfl (dn (AWp.seq (rN (pT rfl (kC h rfl ⟨.inl rfl, trivial⟩ rfl fun x4 h => ?_)))))
  refine pB rfl (pB rfl (sB 6 h (fun h => ?_) (fun h => ?_)))
  · refine fo 5 rfl (pB rfl (pB rfl (dn (AWp.ret ?_))))
    subst h
    exact ⟨_, rfl, rfl⟩
  refine pP rfl (pF rfl (pP rfl (pF rfl (pB rfl (pB rfl (pB rfl (dn (AWp.ret ?_))))))))
  subst h
  exact ⟨_, rfl, rfl⟩
def W_ref02_Make (lo1 : Nat) (hi2 : Nat) (Q : GIval → Prop) : Prop :=
 Call (Ev_ref02_zero lo1) fun x3 =>
 Call (Ev_ref02_zero hi2) fun x5 =>
 Call (Ev_ref02_Right (GIval.mk x3 x5)) fun x7 =>
 Br (!x7) (
  Call (Ev_ref02_Empty) fun x11 =>
  Q x11) (
  Q (GIval.mk x3 x5))
theorem walk_ref02_Make {lo1 : Nat} {hi2 : Nat} {r : GIval} (h : W_ref02_Make lo1 hi2 (fun r' => r' = r)) : Ev_ref02_Make lo1 hi2 r := by
  unfold W_ref02_Make at h
  refine intr (L := [(0, .dat (.v (.float .f64 lo1))), (1, .dat (.v (.float .f64 hi2)))]) Tryz.func25 Tryz.ntmps25 ?_
  refine sN (al0 ?_)
  refine dn (sW (pF rfl (kC h rfl ⟨.inl rfl, trivial⟩ rfl fun x3 h => ?_)))
  refine pF rfl (kC h rfl ⟨.inl rfl, trivial⟩ rfl fun x5 h => ?_)
  refine pT rfl (al0 ?_)
  refine st (v := .dat (.st _ _)) ?_
  refine dn (AWp.seq (AWp.seq (rN (pT rfl (kC h rfl ⟨.inl rfl, trivial⟩ rfl fun x7 h => ?_)))))
  refine pB rfl (dn (cB h (fun h => ?_) (fun h => ?_)))
  · refine sW (kC h rfl trivial rfl fun x11 h => ?_)
    refine st (v := .dat (.st _ _)) ?_
    subst h; exact dn (AWp.ret ⟨_, rfl, rfl⟩)
  refine AWp.skip (AWp.seq (rW (pT rfl (st (v := .dat (.st _ _)) ?_))))
  subst h; exact dn (AWp.ret ⟨_, rfl, rfl⟩)
def W_ref01_Add (a1 : Nat) (b2 : Nat) (dir3 : Int) (Q : Nat → Prop) : Prop :=
 Join1 (fun j9 =>
  Call (Ev_ref01_IsNum a1) fun x10 =>
  Br (!x10) (j9 true) (
   Call (Ev_ref01_IsNum b2) fun x12 =>
   j9 (!x12))
 ) (fun (x8 : Bool) =>
  Br x8 (
   Call (Ev_math_NaN) fun x16 =>
   Q x16) (
   Join1 (fun j23 =>
    Call (Ev_ref01_finite a1) fun x24 =>
    Br x24 (
     Call (Ev_ref01_finite b2) fun x26 =>
     j23 x26) (
     j23 false)
   ) (fun (x22 : Bool) =>
    Br x22 (
     Call (Ev_ref01_Float a1) fun x36 =>
     Call (Ev_ref01_Float b2) fun x38 =>
     Call (Ev_ref01_Sum x36 x38) fun x40 =>
     Call (Ev_ref01_Whole x40 dir3) fun x42 =>
     Q x42) (
     Call (Ev_ref01_finite a1) fun x46 =>
     Br x46 (Q b2) (
      Br (FloatKind.f64.format.order a1 b2 == some .eq) (Q b2) (
       Call (Ev_ref01_finite b2) fun x48 =>
       Br x48 (Q a1) (
        Call (Ev_math_NaN) fun x50 =>
        Q x50)))))))
theorem walk_ref01_Add {a1 : Nat} {b2 : Nat} {dir3 : Int} {r : Nat} (h : W_ref01_Add a1 b2 dir3 (fun r' => r' = r)) : Ev_ref01_Add a1 b2 dir3 r := by
  unfold W_ref01_Add at h
  refine intr (L := [(0, .dat (.v (.float .f64 a1))), (1, .dat (.v (.float .f64 b2))), (2, .dat (.v (.int .i64 dir3)))]) Tryz.func28 Tryz.ntmps28 ?_
  refine sN (pF rfl (dn (AWp.seq (AWp.seq ?_))))
  obtain ⟨J54, h, hk55⟩ := h
  refine AWp.cutK (I := fun p : Bool => mkSt [(0, .dat (.v (.float .f64 a1))), (1, .dat (.v (.float .f64 b2))), (2, .dat (.v (.int .i64 dir3))), (14, .dat (.v (.bool p)))] []) (Inv := fun p : Bool => J54 p) ?_ (fun p hp => ?_)
  · refine rN (pF rfl (kC h rfl ⟨.inl rfl, trivial⟩ rfl fun x10 h => ?_))
    refine pB rfl (pB rfl (sB 10 h (fun h => ?_) (fun h => ?_)))
    · refine fo 3 rfl (pB rfl (dn ?_))
      exact ⟨true, h, sl⟩
    refine pF rfl (kC h rfl ⟨.inl rfl, trivial⟩ rfl fun x12 h => ?_)
    refine pB rfl (pB rfl (dn ?_))
    exact ⟨(!x12), h, sl⟩
  replace h := hk55 p hp
  revert h; clear hp; generalize p = x8; intro h
  refine cB h (fun h => ?_) (fun h => ?_)
  · refine sN (kC h rfl trivial rfl fun x16 h => ?_)
    refine pF rfl (dn (AWp.ret ?_))
    subst h
    exact ⟨_, rfl, rfl⟩
  refine AWp.skip (AWp.seq (AWp.seq ?_))
  obtain ⟨J52, h, hk53⟩ := h
  refine AWp.cutK (I := fun p : Bool => mkSt [(0, .dat (.v (.float .f64 a1))), (1, .dat (.v (.float .f64 b2))), (2, .dat (.v (.int .i64 dir3))), (21, .dat (.v (.bool p)))] []) (Inv := fun p : Bool => J52 p) ?_ (fun p hp => ?_)
  · refine rN (pF rfl (kC h rfl ⟨.inl rfl, trivial⟩ rfl fun x24 h => ?_))
    refine pB rfl (sB 18 h (fun h => ?_) (fun h => ?_))
    · refine pF rfl (kC h rfl ⟨.inl rfl, trivial⟩ rfl fun x26 h => ?_)
      refine pB rfl (dn ?_)
      exact ⟨x26, h, sl⟩
    refine ff rfl (ff rfl (pB rfl (dn ?_)))
    exact ⟨false, h, sl⟩
  replace h := hk53 p hp
  revert h; clear hp; generalize p = x22; intro h
  refine cB h (fun h => ?_) (fun h => ?_)
  · refine sN (pF rfl (kC h rfl ⟨.inl rfl, trivial⟩ rfl fun x36 h => ?_))
    refine pF rfl (kC h rfl ⟨.inl rfl, trivial⟩ rfl fun x38 h => ?_)
    refine kC h rfl ⟨.inl rfl, .inl rfl, trivial⟩ rfl fun x40 h => pI rfl ?_
    refine kC h rfl ⟨.inl rfl, .inl rfl, trivial⟩ rfl fun x42 h => pF rfl ?_
    subst h; exact dn (AWp.ret ⟨_, rfl, rfl⟩)
  refine AWp.skip (AWp.seq (AWp.seq (rN (pF rfl (kC h rfl ⟨.inl rfl, trivial⟩ rfl fun x46 h => ?_)))))
  refine pB rfl (sB 31 h (fun h => ?_) (fun h => ?_))
  · refine fo 3 rfl (pB rfl (dn ?_))
    refine AWp.condT rfl ?_
    refine sN (pF rfl (pF rfl (dn (AWp.ret ?_))))
    subst h
    exact ⟨_, rfl, rfl⟩
  refine pF rfl (pF rfl (pB rfl (pB rfl (dn (cB h (fun h => ?_) (fun h => ?_))))))
  · refine sN (pF rfl (pF rfl (dn (AWp.ret ?_))))
    subst h
    exact ⟨_, rfl, rfl⟩
  refine AWp.skip (AWp.seq (AWp.seq (rN (pF rfl (kC h rfl ⟨.inl rfl, trivial⟩ rfl fun x48 h => ?_)))))
  refine dn (cB h (fun h => ?_) (fun h => ?_))
  · refine sN (pF rfl (pF rfl (dn (AWp.ret ?_))))
    subst h
    exact ⟨_, rfl, rfl⟩
  refine AWp.skip (AWp.seq (rN (kC h rfl trivial rfl fun x50 h => ?_)))
  refine pF rfl (dn (AWp.ret ?_))
  subst h
  exact ⟨_, rfl, rfl⟩
def W_ref02_Mag (x1 : GIval) (Q : Nat → Prop) : Prop :=
 Call (Ev_ref02_None x1) fun x2 =>
 Br x2 (Q (0 : Nat)) (
  Call (Ev_math_Abs x1.Lo) fun x4 =>
  Call (Ev_math_Abs x1.Hi) fun x6 =>
  Br (FloatKind.f64.format.order x6 x4 == some .gt) (
   Call (Ev_math_Abs x1.Hi) fun x10 =>
   Q x10) (
   Q x4))
theorem walk_ref02_Mag {x1 : GIval} {r : Nat} (h : W_ref02_Mag x1 (fun r' => r' = r)) : Ev_ref02_Mag x1 r := by
  unfold W_ref02_Mag at h
  refine intr (L := [(0, .dat (GIval.enc x1))]) Tryz.func29 Tryz.ntmps29 ?_
  refine sN (bx (v := .dat (.st _ _)) ?_)
  refine pF rfl (dn (AWp.seq (AWp.seq (rN (pT rfl (kC h rfl ⟨.inl rfl, trivial⟩ rfl fun x2 h => ?_))))))
  refine dn (cB h (fun h => ?_) (fun h => ?_))
  · refine sN (pF rfl (dn (AWp.ret ?_)))
    subst h
    exact ⟨_, rfl, rfl⟩
  refine AWp.skip (AWp.seq (rN (pP rfl (pF rfl (kC h rfl ⟨.inl rfl, trivial⟩ rfl fun x4 h => ?_)))))
  refine pF rfl (dn (AWp.seq (AWp.seq (rN (pP rfl (pF rfl (kC h rfl ⟨.inl rfl, trivial⟩ rfl fun x6 h => ?_)))))))
  refine pF rfl (pB rfl (dn (cB h (fun h => ?_) (fun h => ?_))))
  · refine rN (pP rfl (pF rfl (kC h rfl ⟨.inl rfl, trivial⟩ rfl fun x10 h => ?_)))
    refine pF rfl (dn (AWp.seq (rN (pF rfl (pF rfl (dn (AWp.ret ?_)))))))
    subst h
    exact ⟨_, rfl, rfl⟩
  refine AWp.skip (AWp.seq (rN (pF rfl (pF rfl (dn (AWp.ret ?_))))))
  subst h
  exact ⟨_, rfl, rfl⟩
def W_ref02_Right (x1 : GIval) (Q : Bool → Prop) : Prop :=
 Join1 (fun j7 =>
  Call (Ev_ref02_inf (1 : Int)) fun x8 =>
  Br (FloatKind.f64.format.order x1.Lo x8 == some .eq) (
   Call (Ev_ref02_inf (-1 : Int)) fun x10 =>
   j7 (FloatKind.f64.format.order x1.Hi x10 == some .eq)) (
   j7 false)
 ) (fun (x6 : Bool) =>
  Br x6 (Q true) (
   Br ((FloatKind.f64.format.order x1.Lo x1.Hi == some .lt) || (FloatKind.f64.format.order x1.Lo x1.Hi == some .eq)) (
    Call (Ev_ref02_inf (1 : Int)) fun x20 =>
    Br (FloatKind.f64.format.order x1.Lo x20 != some .eq) (
     Call (Ev_ref02_inf (-1 : Int)) fun x22 =>
     Br (FloatKind.f64.format.order x1.Hi x22 != some .eq) (
      Call (Ev_ref02_minus0 x1.Lo) fun x24 =>
      Br (!x24) (
       Call (Ev_ref02_minus0 x1.Hi) fun x26 =>
       Q (!x26)) (
       Q false)) (
      Q false)) (
     Q false)) (
    Q false)))
theorem walk_ref02_Right {x1 : GIval} {r : Bool} (h : W_ref02_Right x1 (fun r' => r' = r)) : Ev_ref02_Right x1 r := by
  unfold W_ref02_Right at h
  refine intr (L := [(0, .dat (GIval.enc x1))]) Tryz.func59 Tryz.ntmps59 ?_
  refine sN (bx (v := .dat (.st _ _)) ?_)
  refine pB rfl (dn (AWp.seq (AWp.seq ?_)))
  obtain ⟨J28, h, hk29⟩ := h
  refine AWp.cutK (I := fun p : Bool => mkSt [(1, .pt 1 [] 0), (12, .dat (.v (.bool p)))] [(1, .box 35 2 (.dat (GIval.enc x1)))]) (Inv := fun p : Bool => J28 p) ?_ (fun p hp => ?_)
  · refine rD (pP rfl (pF rfl (kC h rfl ⟨.inl rfl, trivial⟩ rfl fun x8 h => ?_)))
    refine pB rfl (pB rfl (sB 7 h (fun h => ?_) (fun h => ?_)))
    · refine pP rfl (pF rfl (kC h rfl ⟨.inl rfl, trivial⟩ rfl fun x10 h => ?_))
      refine pB rfl (pB rfl (dn ?_))
      exact ⟨(FloatKind.f64.format.order x1.Hi x10 == some .eq), h, sl⟩
    refine fo 4 rfl (pB rfl (dn ?_))
    exact ⟨false, h, sl⟩
  replace h := hk29 p hp
  revert h; clear hp; generalize p = x6; intro h
  refine cB h (fun h => ?_) (fun h => ?_)
  · refine sN (pB rfl (dn (AWp.ret ?_)))
    subst h
    exact ⟨_, rfl, rfl⟩
  refine AWp.skip (AWp.seq (rD (pP rfl (pF rfl (pP rfl (pF rfl (pB rfl (pB rfl (sB 18 h (fun h => ?_) (fun h => ?_))))))))))
  · refine pP rfl (pF rfl (kC h rfl ⟨.inl rfl, trivial⟩ rfl fun x20 h => ?_))
    refine pB rfl (pB rfl (pB rfl (sB 24 h (fun h => ?_) (fun h => ?_))))
    · refine pP rfl (pF rfl (kC h rfl ⟨.inl rfl, trivial⟩ rfl fun x22 h => ?_))
      refine pB rfl (pB rfl (pB rfl (sB 30 h (fun h => ?_) (fun h => ?_))))
      · refine pP rfl (pF rfl (kC h rfl ⟨.inl rfl, trivial⟩ rfl fun x24 h => ?_))
        refine pB rfl (pB rfl (pB rfl (sB 36 h (fun h => ?_) (fun h => ?_))))
        · refine pP rfl (pF rfl (kC h rfl ⟨.inl rfl, trivial⟩ rfl fun x26 h => ?_))
          refine pB rfl (pB rfl (pB rfl (dn (AWp.ret ?_))))
          subst h
          exact ⟨_, rfl, rfl⟩
        refine fo 4 rfl (pB rfl (pB rfl (dn (AWp.ret ?_))))
        subst h
        exact ⟨_, rfl, rfl⟩
      refine fo 4 rfl (pB rfl (pB rfl (fo 4 rfl (pB rfl (pB rfl (dn (AWp.ret ?_)))))))
      subst h
      exact ⟨_, rfl, rfl⟩
    refine fo 4 rfl (pB rfl (pB rfl (fo 4 rfl (pB rfl (pB rfl (fo 4 rfl (pB rfl (pB rfl (dn (AWp.ret ?_))))))))))
    subst h
    exact ⟨_, rfl, rfl⟩
  refine fo 4 rfl (pB rfl (pB rfl (fo 4 rfl (pB rfl (pB rfl (fo 4 rfl (pB rfl (pB rfl (fo 4 rfl (pB rfl (pB rfl (dn (AWp.ret ?_)))))))))))))
  subst h
  exact ⟨_, rfl, rfl⟩
def W_ref02_Add (x1 : GIval) (y2 : GIval) (Q : GIval → Prop) : Prop :=
 Join1 (fun j8 =>
  Call (Ev_ref02_None x1) fun x9 =>
  Br x9 (j8 true) (
   Call (Ev_ref02_None y2) fun x11 =>
   j8 x11)
 ) (fun (x7 : Bool) =>
  Br x7 (
   Call (Ev_ref02_Empty) fun x15 =>
   Q x15) (
   Call (Ev_ref01_Add x1.Lo y2.Lo (-1 : Int)) fun x17 =>
   Call (Ev_ref01_Add x1.Hi y2.Hi (1 : Int)) fun x19 =>
   Call (Ev_ref02_ends x17 x19) fun x21 =>
   Q x21))
theorem walk_ref02_Add {x1 : GIval} {y2 : GIval} {r : GIval} (h : W_ref02_Add x1 y2 (fun r' => r' = r)) : Ev_ref02_Add x1 y2 r := by
  unfold W_ref02_Add at h
  refine intr (L := [(0, .dat (GIval.enc x1)), (1, .dat (GIval.enc y2))]) Tryz.func26 Tryz.ntmps26 ?_
  refine sN (bx (v := .dat (.st _ _)) ?_)
  refine bx (v := .dat (.st _ _)) ?_
  refine al0 ?_
  refine dn (AWp.seq (AWp.seq ?_))
  obtain ⟨J23, h, hk24⟩ := h
  refine AWp.cutK (I := fun p : Bool => mkSt [(2, .pt 2 [] 0), (3, .pt 3 [] 0), (4, .pt 4 [] 0), (10, .dat (.v (.bool p)))] [(2, .box 35 2 (.dat (GIval.enc x1))), (3, .box 35 2 (.dat (GIval.enc y2))), (4, .box 35 2 (.dat (GIval.enc GIval.zero)))]) (Inv := fun p : Bool => J23 p) ?_ (fun p hp => ?_)
  · refine rN (pT rfl (kC h rfl ⟨.inl rfl, trivial⟩ rfl fun x9 h => ?_))
    refine pB rfl (sB 7 h (fun h => ?_) (fun h => ?_))
    · refine ff rfl (ff rfl (pB rfl (dn ?_)))
      exact ⟨true, h, sl⟩
    refine pT rfl (kC h rfl ⟨.inl rfl, trivial⟩ rfl fun x11 h => ?_)
    refine pB rfl (dn ?_)
    exact ⟨x11, h, sl⟩
  replace h := hk24 p hp
  revert h; clear hp; generalize p = x7; intro h
  refine cB h (fun h => ?_) (fun h => ?_)
  · refine sW (kC h rfl trivial rfl fun x15 h => ?_)
    refine st (v := .dat (.st _ _)) ?_
    subst h; exact dn (AWp.ret ⟨_, rfl, rfl⟩)
  refine AWp.skip (AWp.seq (rE [(2, [2]), (3, [3]), (4, [4]), (12, [2]), (14, [3]), (17, [2]), (19, [3])] (pP rfl (pF rfl (pP rfl (pF rfl (kC h rfl ⟨.inl rfl, .inl rfl, .inl rfl, trivial⟩ rfl fun x17 h => ?_)))))))
  refine pP rfl (pF rfl (pP rfl (pF rfl (kC h rfl ⟨.inl rfl, .inl rfl, .inl rfl, trivial⟩ rfl fun x19 h => ?_))))
  refine kC h rfl ⟨.inl rfl, .inl rfl, trivial⟩ rfl fun x21 h => st (v := .dat (.st _ _)) ?_
  subst h; exact dn (AWp.ret ⟨_, rfl, rfl⟩)
def W_ref02_Mul (x1 : GIval) (y2 : GIval) (Q : GIval → Prop) : Prop :=
 Join1 (fun j8 =>
  Call (Ev_ref02_None x1) fun x9 =>
  Br x9 (j8 true) (
   Call (Ev_ref02_None y2) fun x11 =>
   j8 x11)
 ) (fun (x7 : Bool) =>
  Br x7 (
   Call (Ev_ref02_Empty) fun x15 =>
   Q x15) (
   Call (Ev_ref02_Empty) fun x17 =>
   Loop2 x17 (0 : Int) (fun (out356 : GIval) (x357 : Int) next358 =>
    Br (decide (x357 < ((([x1.Lo, x1.Hi]).length : Nat) : Int))) (
     At ([x1.Lo, x1.Hi]) x357 fun x413 =>
     Loop2 out356 (0 : Int) (fun (out439 : GIval) (x440 : Int) next441 =>
      Br (decide (x440 < ((([y2.Lo, y2.Hi]).length : Nat) : Int))) (
       At ([y2.Lo, y2.Hi]) x440 fun x452 =>
       Call (Ev_ref01_Mul x413 x452 (-1 : Int)) fun x454 =>
       Call (Ev_ref01_Mul x413 x452 (1 : Int)) fun x456 =>
       Call (Ev_ref02_wider out439 x454 x456) fun x458 =>
       Let (IntKind.i64.wrap (x440 + (1 : Int))) fun x460 =>
       next441 x458 x460) (
       Let (IntKind.i64.wrap (x357 + (1 : Int))) fun x461 =>
       next358 out439 x461))) (
     Call (Ev_ref02_ends out356.Lo out356.Hi) fun x466 =>
     Q x466))))
theorem walk_ref02_Mul {x1 : GIval} {y2 : GIval} {r : GIval} (h : W_ref02_Mul x1 y2 (fun r' => r' = r)) : Ev_ref02_Mul x1 y2 r := by
  unfold W_ref02_Mul at h
  refine intr (L := [(0, .dat (GIval.enc x1)), (1, .dat (GIval.enc y2))]) Tryz.func57 Tryz.ntmps57 ?_
  refine sN (bx (v := .dat (.st _ _)) ?_)
  refine bx (v := .dat (.st _ _)) ?_
  refine al0 ?_
  refine dn (AWp.seq (AWp.seq ?_))
  obtain ⟨J472, h, hk473⟩ := h
  refine AWp.cutK (I := fun p : Bool => mkSt [(2, .pt 2 [] 0), (3, .pt 3 [] 0), (4, .pt 4 [] 0), (15, .dat (.v (.bool p)))] [(2, .box 35 2 (.dat (GIval.enc x1))), (3, .box 35 2 (.dat (GIval.enc y2))), (4, .box 35 2 (.dat (GIval.enc GIval.zero)))]) (Inv := fun p : Bool => J472 p) ?_ (fun p hp => ?_)
  · refine rN (pT rfl (kC h rfl ⟨.inl rfl, trivial⟩ rfl fun x9 h => ?_))
    refine pB rfl (sB 12 h (fun h => ?_) (fun h => ?_))
    · refine ff rfl (ff rfl (pB rfl (dn ?_)))
      exact ⟨true, h, sl⟩
    refine pT rfl (kC h rfl ⟨.inl rfl, trivial⟩ rfl fun x11 h => ?_)
    refine pB rfl (dn ?_)
    exact ⟨x11, h, sl⟩
  replace h := hk473 p hp
  revert h; clear hp; generalize p = x7; intro h
  refine cB h (fun h => ?_) (fun h => ?_)
  · refine sW (kC h rfl trivial rfl fun x15 h => ?_)
    refine st (v := .dat (.st _ _)) ?_
    subst h; exact dn (AWp.ret ⟨_, rfl, rfl⟩)
  refine AWp.skip (AWp.seq (rW (kC h rfl trivial rfl fun x17 h => ?_)))
  refine al0 ?_
  refine st (v := .dat (.st _ _)) ?_
  refine dn (AWp.seq (AWp.seq (rN (pP rfl (pF rfl (pP rfl (pF rfl ?_)))))))
  refine AOps.lit tabOk (ys := [.v (.float .f64 x1.Lo), .v (.float .f64 x1.Hi)]) rfl rfl rfl rfl rfl rfl ?_
  refine al (((([x1.Lo, x1.Hi]).length : Nat) : Int)) rfl (pI rfl (dn (AWp.block ?_)))
  obtain ⟨I468, x469, hz470, hr471⟩ := h
  refine AWp.loop (I := fun p : GIval × Int => mkSt [(3, .pt 3 [] 0), (4, .pt 4 [] 0), (5, .pt 5 [] 0), (22, .dat (.sl 28 1 (List.map (eFlt .f64) [x1.Lo, x1.Hi]))), (23, .dat (.v (.int .i64 ((([x1.Lo, x1.Hi]).length : Nat) : Int)))), (24, .dat (.v (.int .i64 p.2)))] [(3, .box 35 2 (.dat (GIval.enc y2))), (4, .box 35 2 (.dat (GIval.enc GIval.zero))), (5, .box 35 2 (.dat (GIval.enc p.1)))]) (Inv := fun p => I468 p.1 p.2) (μ := fun p => x469 p.1 p.2) (x0 := ⟨x17, (0 : Int)⟩) hz470 sl (fun p hp => ?_)
  obtain ⟨out356, x357⟩ := p
  have h := hr471 out356 x357 hp
  refine sN (pW rfl (dn (AWp.seq (cB h (fun h => ?_) (fun h => ?_)))))
  · refine AWp.skip (AWp.seq (AWp.block (AWp.seq (rN (kI h map_get rfl rfl rfl rfl rfl rfl rfl fun x413 h => ?_)))))
    refine pF rfl (pF rfl (dn (AWp.seq (rN (pP rfl (pF rfl (pP rfl (pF rfl ?_))))))))
    refine AOps.lit tabOk (ys := [.v (.float .f64 y2.Lo), .v (.float .f64 y2.Hi)]) rfl rfl rfl rfl rfl rfl ?_
    refine al (((([y2.Lo, y2.Hi]).length : Nat) : Int)) rfl (pI rfl (dn (AWp.block ?_)))
    obtain ⟨I462, x463, hz464, hr465⟩ := h
    refine AWp.loop (I := fun p : GIval × Int => mkSt [(3, .pt 3 [] 0), (4, .pt 4 [] 0), (5, .pt 5 [] 0), (7, .dat (.v (.float .f64 x413))), (22, .dat (.sl 28 1 (List.map (eFlt .f64) [x1.Lo, x1.Hi]))), (23, .dat (.v (.int .i64 ((([x1.Lo, x1.Hi]).length : Nat) : Int)))), (24, .dat (.v (.int .i64 x357))), (32, .dat (.sl 28 1 (List.map (eFlt .f64) [y2.Lo, y2.Hi]))), (33, .dat (.v (.int .i64 ((([y2.Lo, y2.Hi]).length : Nat) : Int)))), (34, .dat (.v (.int .i64 p.2)))] [(3, .box 35 2 (.dat (GIval.enc y2))), (4, .box 35 2 (.dat (GIval.enc GIval.zero))), (5, .box 35 2 (.dat (GIval.enc p.1)))]) (Inv := fun p => I462 p.1 p.2) (μ := fun p => x463 p.1 p.2) (x0 := ⟨out356, (0 : Int)⟩) hz464 sl (fun p hp => ?_)
    obtain ⟨out439, x440⟩ := p
    have h := hr465 out439 x440 hp
    refine sN (pW rfl (dn (AWp.seq (cB h (fun h => ?_) (fun h => ?_)))))
    · refine AWp.skip (AWp.seq (AWp.block (AWp.seq (rN (kI h map_get rfl rfl rfl rfl rfl rfl rfl fun x452 h => ?_)))))
      refine pF rfl (pF rfl (dn (rE [(5, [5]), (7, []), (9, []), (39, []), (40, []), (42, []), (43, [])] (pT rfl (pF rfl (pF rfl (kC h rfl ⟨.inl rfl, .inl rfl, .inl rfl, trivial⟩ rfl fun x454 h => ?_)))))))
      refine pF rfl (pF rfl (kC h rfl ⟨.inl rfl, .inl rfl, .inl rfl, trivial⟩ rfl fun x456 h => ?_))
      refine kC h rfl ⟨.inl rfl, .inl rfl, .inl rfl, trivial⟩ rfl fun x458 h => st (v := .dat (.st _ _)) ?_
      refine dn (rN ?_)
      obtain ⟨x460, ex460, h⟩ := h.get
      refine ai ex460 rfl (pI rfl (dn ?_))
      exact ⟨⟨x458, x460⟩, h.1, h.2, sl⟩
    refine AWp.exit ?_
    refine rN ?_
    obtain ⟨x461, ex461, h⟩ := h.get
    refine ai ex461 rfl (pI rfl (dn ?_))
    exact ⟨⟨out439, x461⟩, h.1, h.2, sl⟩
  refine AWp.exit ?_
  refine sW (pP rfl (pF rfl (pP rfl (pF rfl (kC h rfl ⟨.inl rfl, .inl rfl, trivial⟩ rfl fun x466 h => ?_)))))
  refine st (v := .dat (.st _ _)) ?_
  subst h; exact dn (AWp.ret ⟨_, rfl, rfl⟩)
def W_ref02_inf (sign1 : Int) (Q : Nat → Prop) : Prop :=
 Call (Ev_math_Inf sign1) fun x2 =>
 Q x2
theorem walk_ref02_inf {sign1 : Int} {r : Nat} (h : W_ref02_inf sign1 (fun r' => r' = r)) : Ev_ref02_inf sign1 r := by
  unfold W_ref02_inf at h
  refine intr (L := [(0, .dat (.v (.int .i64 sign1)))]) Tryz.func52 Tryz.ntmps52 ?_
  refine sN (pF rfl (dn (AWp.seq (rN (pI rfl (kC h rfl ⟨.inl rfl, trivial⟩ rfl fun x2 h => ?_))))))
  refine pF rfl (dn (AWp.ret ?_))
  subst h
  exact ⟨_, rfl, rfl⟩
def W_ref01_Mul (a1 : Nat) (b2 : Nat) (dir3 : Int) (Q : Nat → Prop) : Prop :=
 Join1 (fun j9 =>
  Call (Ev_ref01_IsNum a1) fun x10 =>
  Br (!x10) (j9 true) (
   Call (Ev_ref01_IsNum b2) fun x12 =>
   j9 (!x12))
 ) (fun (x8 : Bool) =>
  Br x8 (
   Call (Ev_math_NaN) fun x16 =>
   Q x16) (
   Br (FloatKind.f64.format.order a1 (0 : Nat) == some .eq) (Q (0 : Nat)) (
    Br (FloatKind.f64.format.order b2 (0 : Nat) == some .eq) (Q (0 : Nat)) (
     Join1 (fun j23 =>
      Call (Ev_ref01_finite a1) fun x24 =>
      Br (!x24) (j23 true) (
       Call (Ev_ref01_finite b2) fun x26 =>
       j23 (!x26))
     ) (fun (x22 : Bool) =>
      Br x22 (
       Call (Ev_ref01_inf ((FloatKind.f64.format.order a1 (0 : Nat) == some .lt) != (FloatKind.f64.format.order b2 (0 : Nat) == some .lt))) fun x30 =>
       Q x30) (
       Call (Ev_ref01_Float a1) fun x32 =>
       Call (Ev_ref01_Float b2) fun x34 =>
       Call (Ev_ref01_Product x32 x34) fun x36 =>
       Call (Ev_ref01_Whole x36 dir3) fun x38 =>
       Q x38))))))
theorem walk_ref01_Mul {a1 : Nat} {b2 : Nat} {dir3 : Int} {r : Nat} (h : W_ref01_Mul a1 b2 dir3 (fun r' => r' = r)) : Ev_ref01_Mul a1 b2 dir3 r := by
  unfold W_ref01_Mul at h
  refine intr (L := [(0, .dat (.v (.float .f64 a1))), (1, .dat (.v (.float .f64 b2))), (2, .dat (.v (.int .i64 dir3)))]) Tryz.func96 Tryz.ntmps96 ?_
  refine sN (pF rfl (dn (AWp.seq (AWp.seq ?_))))
  obtain ⟨J42, h, hk43⟩ := h
  refine AWp.cutK (I := fun p : Bool => mkSt [(0, .dat (.v (.float .f64 a1))), (1, .dat (.v (.float .f64 b2))), (2, .dat (.v (.int .i64 dir3))), (14, .dat (.v (.bool p)))] []) (Inv := fun p : Bool => J42 p) ?_ (fun p hp => ?_)
  · refine rN (pF rfl (kC h rfl ⟨.inl rfl, trivial⟩ rfl fun x10 h => ?_))
    refine pB rfl (pB rfl (sB 10 h (fun h => ?_) (fun h => ?_)))
    · refine fo 3 rfl (pB rfl (dn ?_))
      exact ⟨true, h, sl⟩
    refine pF rfl (kC h rfl ⟨.inl rfl, trivial⟩ rfl fun x12 h => ?_)
    refine pB rfl (pB rfl (dn ?_))
    exact ⟨(!x12), h, sl⟩
  replace h := hk43 p hp
  revert h; clear hp; generalize p = x8; intro h
  refine cB h (fun h => ?_) (fun h => ?_)
  · refine sN (kC h rfl trivial rfl fun x16 h => ?_)
    refine pF rfl (dn (AWp.ret ?_))
    subst h
    exact ⟨_, rfl, rfl⟩
  refine AWp.skip (AWp.seq (AWp.seq (rN (pF rfl (pB rfl (pB rfl (sB 18 h (fun h => ?_) (fun h => ?_))))))))
  · refine ff rfl (ff rfl (pB rfl (dn ?_)))
    refine AWp.condT rfl ?_
    refine sN (pF rfl (dn (AWp.ret ?_)))
    subst h
    exact ⟨_, rfl, rfl⟩
  refine pF rfl (pB rfl (pB rfl (dn (cB h (fun h => ?_) (fun h => ?_)))))
  · refine sN (pF rfl (dn (AWp.ret ?_)))
    subst h
    exact ⟨_, rfl, rfl⟩
  refine AWp.skip (AWp.seq (AWp.seq ?_))
  obtain ⟨J40, h, hk41⟩ := h
  refine AWp.cutK (I := fun p : Bool => mkSt [(0, .dat (.v (.float .f64 a1))), (1, .dat (.v (.float .f64 b2))), (2, .dat (.v (.int .i64 dir3))), (29, .dat (.v (.bool p)))] []) (Inv := fun p : Bool => J40 p) ?_ (fun p hp => ?_)
  · refine rN (pF rfl (kC h rfl ⟨.inl rfl, trivial⟩ rfl fun x24 h => ?_))
    refine pB rfl (pB rfl (sB 25 h (fun h => ?_) (fun h => ?_)))
    · refine fo 3 rfl (pB rfl (dn ?_))
      exact ⟨true, h, sl⟩
    refine pF rfl (kC h rfl ⟨.inl rfl, trivial⟩ rfl fun x26 h => ?_)
    refine pB rfl (pB rfl (dn ?_))
    exact ⟨(!x26), h, sl⟩
  replace h := hk41 p hp
  revert h; clear hp; generalize p = x22; intro h
  refine cB h (fun h => ?_) (fun h => ?_)
  · refine sN (pF rfl (pB rfl (pF rfl (pB rfl (pB rfl (kC h rfl ⟨.inl rfl, trivial⟩ rfl fun x30 h => ?_))))))
    refine pF rfl (dn (AWp.ret ?_))
    subst h
    exact ⟨_, rfl, rfl⟩
  refine AWp.skip (AWp.seq (rN (pF rfl (kC h rfl ⟨.inl rfl, trivial⟩ rfl fun x32 h => ?_))))
  refine pF rfl (kC h rfl ⟨.inl rfl, trivial⟩ rfl fun x34 h => ?_)
  refine kC h rfl ⟨.inl rfl, .inl rfl, trivial⟩ rfl fun x36 h => pI rfl ?_
  refine kC h rfl ⟨.inl rfl, .inl rfl, trivial⟩ rfl fun x38 h => pF rfl ?_
  subst h; exact dn (AWp.ret ⟨_, rfl, rfl⟩)
def W_ref02_zero (v1 : Nat) (Q : Nat → Prop) : Prop :=
 Br (FloatKind.f64.format.order v1 (0 : Nat) == some .eq) (Q (0 : Nat)) (
  Q v1)
theorem walk_ref02_zero {v1 : Nat} {r : Nat} (h : W_ref02_zero v1 (fun r' => r' = r)) : Ev_ref02_zero v1 r := by
  unfold W_ref02_zero at h
  refine intr (L := [(0, .dat (.v (.float .f64 v1)))]) Tryz.func58 Tryz.ntmps58 ?_
  refine sN (pF rfl (dn (AWp.seq (AWp.seq (rN (pF rfl (pB rfl (dn (cB h (fun h => ?_) (fun h => ?_))))))))))
  · refine sN (pF rfl (dn (AWp.ret ?_)))
    subst h
    exact ⟨_, rfl, rfl⟩
  refine AWp.skip (AWp.seq (rN (pF rfl (pF rfl (dn (AWp.ret ?_))))))
  subst h
  exact ⟨_, rfl, rfl⟩
def W_ref02_Empty (Q : GIval → Prop) : Prop :=
 Call (Ev_ref02_inf (1 : Int)) fun x1 =>
 Call (Ev_ref02_inf (-1 : Int)) fun x3 =>
 Q (GIval.mk x1 x3)
theorem walk_ref02_Empty {r : GIval} (h : W_ref02_Empty (fun r' => r' = r)) : Ev_ref02_Empty r := by
  unfold W_ref02_Empty at h
  refine intr (L := []) Tryz.func60 Tryz.ntmps60 ?_
  refine sN (al0 ?_)
  refine dn (sW (kC h rfl ⟨.inl rfl, trivial⟩ rfl fun x1 h => ?_))
  refine kC h rfl ⟨.inl rfl, trivial⟩ rfl fun x3 h => pT rfl ?_
  refine st (v := .dat (.st _ _)) ?_
  subst h; exact dn (AWp.ret ⟨_, rfl, rfl⟩)
def W_ref01_IsNum (x1 : Nat) (Q : Bool → Prop) : Prop :=
 Br ((FloatKind.f64.format.order x1 (0 : Nat) == some .lt) || (FloatKind.f64.format.order x1 (0 : Nat) == some .eq)) (Q true) (
  Q (FloatKind.f64.format.order x1 (0 : Nat) == some .gt))
theorem walk_ref01_IsNum {x1 : Nat} {r : Bool} (h : W_ref01_IsNum x1 (fun r' => r' = r)) : Ev_ref01_IsNum x1 r := by
  unfold W_ref01_IsNum at h
  refine intr (L := [(0, .dat (.v (.float .f64 x1)))]) Tryz.func62 Tryz.ntmps62 ?_
  refine sN (pB rfl (dn (AWp.seq (rN (pF rfl (pB rfl (pB rfl (sB 5 h (fun h => ?_) (fun h => ?_)))))))))
  · refine ff rfl (ff rfl (pB rfl (pB rfl (dn (AWp.ret ?_)))))
    subst h
    exact ⟨_, rfl, rfl⟩
  refine pF rfl (pB rfl (pB rfl (pB rfl (dn (AWp.ret ?_)))))
  subst h
  exact ⟨_, rfl, rfl⟩
def W_ref01_finite (x1 : Nat) (Q : Bool → Prop) : Prop :=
 Call (Ev_ref01_Split x1) fun x2 =>
 Call (Ev_ref01_IsNum x1) fun x6 =>
 Br x6 (Q x2.2) (
  Q false)
theorem walk_ref01_finite {x1 : Nat} {r : Bool} (h : W_ref01_finite x1 (fun r' => r' = r)) : Ev_ref01_finite x1 r := by
  unfold W_ref01_finite at h
  refine intr (L := [(0, .dat (.v (.float .f64 x1)))]) Tryz.func64 Tryz.ntmps64 ?_
  refine sN (pB rfl (dn (AWp.seq (rW (pF rfl (kC h rfl ⟨.inl rfl, trivial⟩ rfl fun x2 h => ?_))))))
  refine pU rfl (pT rfl (pB rfl (al0 ?_)))
  refine st (v := .dat (.st _ _)) ?_
  refine pB rfl (dn (AWp.seq (rN (pF rfl (kC h rfl ⟨.inl rfl, trivial⟩ rfl fun x6 h => ?_)))))
  refine pB rfl (sB 12 h (fun h => ?_) (fun h => ?_))
  · refine pB rfl (pB rfl (pB rfl (dn (AWp.ret ?_))))
    subst h
    exact ⟨_, rfl, rfl⟩
  refine ff rfl (pB rfl (pB rfl (dn (AWp.ret ?_))))
  subst h
  exact ⟨_, rfl, rfl⟩
def W_ref01_Whole (a1 : Gref01Num) (dir2 : Int) (Q : Nat → Prop) : Prop :=
 Call (Ev_ref01_Int (1 : Int)) fun x3 =>
 Call (Ev_ref01_Rounded ({ Gref01Exact.zero with A := a1, B := x3 }) dir2) fun x5 =>
 Q x5
theorem walk_ref01_Whole {a1 : Gref01Num} {dir2 : Int} {r : Nat} (h : W_ref01_Whole a1 dir2 (fun r' => r' = r)) : Ev_ref01_Whole a1 dir2 r := by
  unfold W_ref01_Whole at h
  refine intr (L := [(0, .dat (Gref01Num.enc a1)), (1, .dat (.v (.int .i64 dir2)))]) Tryz.func65 Tryz.ntmps65 ?_
  refine sN (bx (v := .dat (.st _ _)) ?_)
  refine pF rfl (dn (AWp.seq (rD (pT rfl (kC h rfl ⟨.inl rfl, trivial⟩ rfl fun x3 h => ?_)))))
  refine pT rfl (pI rfl (kC h rfl ⟨.inl rfl, .inl rfl, trivial⟩ rfl fun x5 h => ?_))
  refine pF rfl (dn (AWp.ret ?_))
  subst h
  exact ⟨_, rfl, rfl⟩
def W_ref01_Float (x1 : Nat) (Q : Gref01Num → Prop) : Prop :=
 Call (Ev_ref01_Split x1) fun x2 =>
 Call (Ev_ref01_Of x2.1.M) fun x4 =>
 Q (Gref01Num.mk x2.1.Neg x4 x2.1.E)
theorem walk_ref01_Float {x1 : Nat} {r : Gref01Num} (h : W_ref01_Float x1 (fun r' => r' = r)) : Ev_ref01_Float x1 r := by
  unfold W_ref01_Float at h
  refine intr (L := [(0, .dat (.v (.float .f64 x1)))]) Tryz.func67 Tryz.ntmps67 ?_
  refine sN (al0 ?_)
  refine dn (sW (pF rfl (kC h rfl ⟨.inl rfl, trivial⟩ rfl fun x2 h => ?_)))
  refine pU rfl (pT rfl (pB rfl (al0 ?_)))
  refine st (v := .dat (.st _ _)) ?_
  refine pB rfl (dn (AWp.seq (rE [(2, [2]), (3, [3]), (10, [3]), (12, [3]), (15, [3])] (pP rfl (pB rfl (pP rfl (pI rfl (kC h rfl ⟨.inl rfl, trivial⟩ rfl fun x4 h => ?_))))))))
  refine pP rfl (pI rfl (pT rfl (st (v := .dat (.st _ _)) ?_)))
  subst h; exact dn (AWp.ret ⟨_, rfl, rfl⟩)
def W_ref04_finite (v1 : Nat) (Q : Bool → Prop) : Prop :=
 Br ((FloatKind.f64.format.order v1 (18442240474082181119 : Nat) == some .gt) || (FloatKind.f64.format.order v1 (18442240474082181119 : Nat) == some .eq)) (Q ((FloatKind.f64.format.order v1 (9218868437227405311 : Nat) == some .lt) || (FloatKind.f64.format.order v1 (9218868437227405311 : Nat) == some .eq))) (
  Q false)
theorem walk_ref04_finite {v1 : Nat} {r : Bool} (h : W_ref04_finite v1 (fun r' => r' = r)) : Ev_ref04_finite v1 r := by
  unfold W_ref04_finite at h
  refine intr (L := [(0, .dat (.v (.float .f64 v1)))]) Tryz.func56 Tryz.ntmps56 ?_
  refine sN (pB rfl (dn (AWp.seq (rN (pF rfl (pB rfl (pB rfl (sB 5 h (fun h => ?_) (fun h => ?_)))))))))
  · refine pF rfl (pB rfl (pB rfl (pB rfl (dn (AWp.ret ?_)))))
    subst h
    exact ⟨_, rfl, rfl⟩
  refine ff rfl (ff rfl (pB rfl (pB rfl (dn (AWp.ret ?_)))))
  subst h
  exact ⟨_, rfl, rfl⟩
def W_ref02_minus0 (v1 : Nat) (Q : Bool → Prop) : Prop :=
 Br (FloatKind.f64.format.order v1 (0 : Nat) == some .eq) (
  Call (Ev_math_Float64bits v1) fun x4 =>
  Q (x4 != (0 : Int))) (
  Q false)
theorem walk_ref02_minus0 {v1 : Nat} {r : Bool} (h : W_ref02_minus0 v1 (fun r' => r' = r)) : Ev_ref02_minus0 v1 r := by
  unfold W_ref02_minus0 at h
  refine intr (L := [(0, .dat (.v (.float .f64 v1)))]) Tryz.func97 Tryz.ntmps97 ?_
  refine sN (pB rfl (dn (AWp.seq (rN (pF rfl (pB rfl (pB rfl (sB 5 h (fun h => ?_) (fun h => ?_)))))))))
  · refine pF rfl ?_
    obtain ⟨x4, hc5, h⟩ := h
    refine AOps.extC hc5 rfl rfl rfl (.cons rfl .nil) ?_
    refine pB rfl (pB rfl (pB rfl (dn (AWp.ret ?_))))
    subst h
    exact ⟨_, rfl, rfl⟩
  refine fo 3 rfl (pB rfl (pB rfl (dn (AWp.ret ?_))))
  subst h
  exact ⟨_, rfl, rfl⟩
def W_ref02_ends (lo1 : Nat) (hi2 : Nat) (Q : GIval → Prop) : Prop :=
 Join1 (fun j4 =>
  Br (FloatKind.f64.format.order lo1 (9218868437227405311 : Nat) == some .gt) (j4 (9218868437227405311 : Nat)) (
   j4 lo1)
 ) (fun (lo3 : Nat) =>
  Join1 (fun j6 =>
   Br (FloatKind.f64.format.order hi2 (18442240474082181119 : Nat) == some .lt) (j6 (18442240474082181119 : Nat)) (
    j6 hi2)
  ) (fun (hi5 : Nat) =>
   Call (Ev_ref02_Make lo3 hi5) fun x7 =>
   Q x7))
theorem walk_ref02_ends {lo1 : Nat} {hi2 : Nat} {r : GIval} (h : W_ref02_ends lo1 hi2 (fun r' => r' = r)) : Ev_ref02_ends lo1 hi2 r := by
  unfold W_ref02_ends at h
  refine intr (L := [(0, .dat (.v (.float .f64 lo1))), (1, .dat (.v (.float .f64 hi2)))]) Tryz.func61 Tryz.ntmps61 ?_
  refine sN (al0 ?_)
  refine dn (AWp.seq (AWp.seq (rN (pF rfl (pB rfl (dn ?_))))))
  obtain ⟨J11, h, hk12⟩ := h
  refine AWp.cutK (I := fun p : Nat => mkSt [(0, .dat (.v (.float .f64 p))), (1, .dat (.v (.float .f64 hi2))), (4, .pt 4 [] 0)] [(4, .box 35 2 (.dat (GIval.enc GIval.zero)))]) (Inv := fun p : Nat => J11 p) ?_ (fun p hp => ?_)
  · refine cB h (fun h => ?_) (fun h => ?_)
    · refine rN (pF rfl (dn ?_))
      exact ⟨(9218868437227405311 : Nat), h, sl⟩
    refine AWp.skip ?_
    exact ⟨lo1, h, sl⟩
  replace h := hk12 p hp
  revert h; clear hp; generalize p = lo3; intro h
  refine AWp.seq (AWp.seq (rN (pF rfl (pB rfl (dn ?_)))))
  obtain ⟨J9, h, hk10⟩ := h
  refine AWp.cutK (I := fun p : Nat => mkSt [(0, .dat (.v (.float .f64 lo3))), (1, .dat (.v (.float .f64 p))), (4, .pt 4 [] 0)] [(4, .box 35 2 (.dat (GIval.enc GIval.zero)))]) (Inv := fun p : Nat => J9 p) ?_ (fun p hp => ?_)
  · refine cB h (fun h => ?_) (fun h => ?_)
    · refine rN (pF rfl (dn ?_))
      exact ⟨(18442240474082181119 : Nat), h, sl⟩
    refine AWp.skip ?_
    exact ⟨hi2, h, sl⟩
  replace h := hk10 p hp
  revert h; clear hp; generalize p = hi5; intro h
  refine sW (pF rfl (pF rfl (kC h rfl ⟨.inl rfl, .inl rfl, trivial⟩ rfl fun x7 h => ?_)))
  refine st (v := .dat (.st _ _)) ?_
  subst h; exact dn (AWp.ret ⟨_, rfl, rfl⟩)
def W_ref02_wider (x1 : GIval) (lo2 : Nat) (hi3 : Nat) (Q : GIval → Prop) : Prop :=
 Join1 (fun j5 =>
  Br (FloatKind.f64.format.order lo2 x1.Lo == some .lt) (j5 ({ x1 with Lo := lo2 })) (
   j5 x1)
 ) (fun (x4 : GIval) =>
  Br (FloatKind.f64.format.order hi3 x4.Hi == some .gt) (Q ({ x4 with Hi := hi3 })) (
   Q x4))
theorem walk_ref02_wider {x1 : GIval} {lo2 : Nat} {hi3 : Nat} {r : GIval} (h : W_ref02_wider x1 lo2 hi3 (fun r' => r' = r)) : Ev_ref02_wider x1 lo2 hi3 r := by
  unfold W_ref02_wider at h
  refine intr (L := [(0, .dat (GIval.enc x1)), (1, .dat (.v (.float .f64 lo2))), (2, .dat (.v (.float .f64 hi3)))]) Tryz.func95 Tryz.ntmps95 ?_
  refine sN (bx (v := .dat (.st _ _)) ?_)
  refine al0 ?_
  refine dn (AWp.seq (AWp.seq (rN (pF rfl (pP rfl (pF rfl (pB rfl (dn ?_))))))))
  obtain ⟨J6, h, hk7⟩ := h
  refine AWp.cutK (I := fun p : GIval => mkSt [(2, .dat (.v (.float .f64 hi3))), (3, .pt 3 [] 0), (6, .pt 6 [] 0)] [(3, .box 35 2 (.dat (GIval.enc p))), (6, .box 35 2 (.dat (GIval.enc GIval.zero)))]) (Inv := fun p : GIval => J6 p) ?_ (fun p hp => ?_)
  · refine cB h (fun h => ?_) (fun h => ?_)
    · refine rW (pF rfl (pP rfl (st (v := .dat (.v (.float _ _))) ?_)))
      refine dn ?_
      exact ⟨({ x1 with Lo := lo2 }), h, sl⟩
    refine AWp.skip ?_
    exact ⟨x1, h, sl⟩
  replace h := hk7 p hp
  revert h; clear hp; generalize p = x4; intro h
  refine AWp.seq (AWp.seq (rN (pF rfl (pP rfl (pF rfl (pB rfl (dn (cB h (fun h => ?_) (fun h => ?_)))))))))
  · refine rW (pF rfl (pP rfl (st (v := .dat (.v (.float _ _))) ?_)))
    refine dn (sW (pT rfl (st (v := .dat (.st _ _)) ?_)))
    subst h; exact dn (AWp.ret ⟨_, rfl, rfl⟩)
  refine AWp.skip (AWp.seq (rW (pT rfl (st (v := .dat (.st _ _)) ?_))))
  subst h; exact dn (AWp.ret ⟨_, rfl, rfl⟩)
def W_ref01_inf (neg1 : Bool) (Q : Nat → Prop) : Prop :=
 Br neg1 (
  Call (Ev_ref01_At (-9218868437227405312 : Int)) fun x4 =>
  Q x4) (
  Call (Ev_ref01_At (9218868437227405312 : Int)) fun x6 =>
  Q x6)
theorem walk_ref01_inf {neg1 : Bool} {r : Nat} (h : W_ref01_inf neg1 (fun r' => r' = r)) : Ev_ref01_inf neg1 r := by
  unfold W_ref01_inf at h
  refine intr (L := [(0, .dat (.v (.bool neg1)))]) Tryz.func120 Tryz.ntmps120 ?_
  refine sN (pF rfl (dn (AWp.seq (AWp.seq (rN (pB rfl (dn (cB h (fun h => ?_) (fun h => ?_)))))))))
  · refine sN (kC h rfl ⟨.inl rfl, trivial⟩ rfl fun x4 h => ?_)
    refine pF rfl (dn (AWp.ret ?_))
    subst h
    exact ⟨_, rfl, rfl⟩
  refine AWp.skip (AWp.seq (rN (kC h rfl ⟨.inl rfl, trivial⟩ rfl fun x6 h => ?_)))
  refine pF rfl (dn (AWp.ret ?_))
  subst h
  exact ⟨_, rfl, rfl⟩
def W_ref01_Split (x1 : Nat) (Q : GParts × Bool → Prop) : Prop :=
 Call (Ev_ref01_Index x1) fun x2 =>
 Join1 (fun j6 =>
  Br (decide (x2 < (0 : Int))) (
   Let (IntKind.i64.wrap ((0 : Int) - x2)) fun x7 =>
   j6 x7) (
   j6 x2)
 ) (fun (i5 : Int) =>
  Br (decide (i5 > (9218868437227405311 : Int))) (Q (GParts.zero, false)) (
   Br (i5 == (0 : Int)) (Q (GParts.zero, true)) (
    Let (IntKind.u64.wrap i5) fun x8 =>
    Let (Int.tmod x8 (4503599627370496 : Int)) fun x9 =>
    Let (IntKind.u64.wrap i5) fun x10 =>
    Let (IntKind.u64.wrap (Int.tdiv x10 (4503599627370496 : Int))) fun x11 =>
    Let (IntKind.i64.wrap x11) fun x12 =>
    Br (x12 == (0 : Int)) (Q ((GParts.mk (decide (x2 < (0 : Int))) x9 (-1074 : Int)), true)) (
     Let (IntKind.u64.wrap (x9 + (4503599627370496 : Int))) fun x13 =>
     Let (IntKind.i64.wrap (x12 - (1075 : Int))) fun x14 =>
     Q ((GParts.mk (decide (x2 < (0 : Int))) x13 x14), true)))))
theorem walk_ref01_Split {x1 : Nat} {r : GParts × Bool} (h : W_ref01_Split x1 (fun r' => r' = r)) : Ev_ref01_Split x1 r := by
  unfold W_ref01_Split at h
  refine intr (L := [(0, .dat (.v (.float .f64 x1)))]) Tryz.func98 Tryz.ntmps98 ?_
  refine sN (al0 ?_)
  refine pB rfl (dn (AWp.seq (rN (pF rfl (kC h rfl ⟨.inl rfl, trivial⟩ rfl fun x2 h => ?_)))))
  refine pI rfl (dn (AWp.seq (rN (pI rfl (pB rfl (pB rfl (dn (AWp.seq (AWp.seq (rN (pB rfl (dn ?_))))))))))))
  obtain ⟨J15, h, hk16⟩ := h
  refine AWp.cutK (I := fun p : Int => mkSt [(2, .pt 2 [] 0), (4, .dat (.v (.int .i64 p))), (5, .dat (.v (.bool (decide (x2 < (0 : Int))))))] [(2, .box 94 3 (.dat (GParts.enc GParts.zero)))]) (Inv := fun p : Int => J15 p) ?_ (fun p hp => ?_)
  · refine cB h (fun h => ?_) (fun h => ?_)
    · refine rN (pI rfl ?_)
      obtain ⟨x7, ex7, h⟩ := h.get
      refine ai ex7 rfl (pI rfl (dn ?_))
      exact ⟨x7, h, sl⟩
    refine AWp.skip ?_
    exact ⟨x2, h, sl⟩
  replace h := hk16 p hp
  revert h; clear hp; generalize p = i5; intro h
  refine AWp.seq (AWp.seq (rN (pI rfl (pB rfl (dn (cB h (fun h => ?_) (fun h => ?_)))))))
  · refine sW (pT rfl (st (v := .dat (.st _ _)) ?_))
    refine pB rfl (dn (AWp.ret ?_))
    subst h
    exact ⟨_, rfl, rfl⟩
  refine AWp.skip (AWp.seq (AWp.seq (rN (pI rfl (pB rfl (dn (cB h (fun h => ?_) (fun h => ?_))))))))
  · refine sW (pT rfl (st (v := .dat (.st _ _)) ?_))
    refine pB rfl (dn (AWp.ret ?_))
    subst h
    exact ⟨_, rfl, rfl⟩
  refine AWp.skip (AWp.seq (rN (pI rfl ?_)))
  obtain ⟨x8, ex8, h⟩ := h.get
  refine ai ex8 rfl ?_
  obtain ⟨x9, ex9, h⟩ := h.get
  refine AOps.q rfl rfl rfl rfl rfl (rbin_rem (by decide)) ex9 ?_
  refine pI rfl (dn (AWp.seq (rN (pI rfl ?_))))
  obtain ⟨x10, ex10, h⟩ := h.get
  refine ai ex10 rfl ?_
  obtain ⟨x11, ex11, h⟩ := h.get
  refine AOps.q rfl rfl rfl rfl rfl (rbin_quo (by decide)) ex11 ?_
  obtain ⟨x12, ex12, h⟩ := h.get
  refine ai ex12 rfl (pI rfl (dn (AWp.seq (AWp.seq (rN (pI rfl (pB rfl (dn (cB h (fun h => ?_) (fun h => ?_))))))))))
  · refine sW (pB rfl (pI rfl (pT rfl (st (v := .dat (.st _ _)) ?_))))
    refine pB rfl (dn (AWp.ret ?_))
    subst h
    exact ⟨_, rfl, rfl⟩
  refine AWp.skip (AWp.seq (rW (pB rfl (pI rfl ?_))))
  obtain ⟨x13, ex13, h⟩ := h.get
  refine ai ex13 rfl (pI rfl ?_)
  obtain ⟨x14, ex14, h⟩ := h.get
  refine ai ex14 rfl (pT rfl (st (v := .dat (.st _ _)) ?_))
  refine pB rfl (dn (AWp.ret ?_))
  subst h
  exact ⟨_, rfl, rfl⟩
def W_ref01_Rounded (x1 : Gref01Exact) (dir2 : Int) (Q : Nat → Prop) : Prop :=
 Call (Ev_ref01_Down x1) fun x3 =>
 Join1 (fun j12 =>
  Br (decide (x3 ≥ (-9218868437227405311 : Int))) (
   Call (Ev_ref01_At x3) fun x13 =>
   Call (Ev_ref01_Float x13) fun x15 =>
   Call (Ev_ref01_same x15 x1) fun x17 =>
   Br x17 (j12 true) (
    j12 (decide (dir2 < (0 : Int))))) (
   j12 (decide (dir2 < (0 : Int))))
 ) (fun (x11 : Bool) =>
  Br x11 (
   Call (Ev_ref01_At x3) fun x21 =>
   Q x21) (
   Br (decide (dir2 > (0 : Int))) (
    Let (IntKind.i64.wrap (x3 + (1 : Int))) fun x26 =>
    Call (Ev_ref01_At x26) fun x27 =>
    Q x27) (
    Call (Ev_ref01_grid x3) fun x29 =>
    Let (IntKind.i64.wrap (x3 + (1 : Int))) fun x31 =>
    Call (Ev_ref01_grid x31) fun x32 =>
    Call (Ev_ref01_Sum x29 x32) fun x34 =>
    Let (IntKind.i64.wrap (x34.E - (1 : Int))) fun x36 =>
    Call (Ev_ref01_same (Gref01Num.mk x34.Neg x34.M x36) x1) fun x37 =>
    Br x37 (
     Let (Int.tmod x3 (2 : Int)) fun x47 =>
     Br (x47 == (0 : Int)) (
      Call (Ev_ref01_At x3) fun x50 =>
      Q x50) (
      Let (IntKind.i64.wrap (x3 + (1 : Int))) fun x52 =>
      Call (Ev_ref01_At x52) fun x53 =>
      Q x53)) (
     Call (Ev_ref01_below (Gref01Num.mk x34.Neg x34.M x36) x1) fun x55 =>
     Br x55 (
      Let (IntKind.i64.wrap (x3 + (1 : Int))) fun x60 =>
      Call (Ev_ref01_At x60) fun x61 =>
      Q x61) (
      Call (Ev_ref01_At x3) fun x63 =>
      Q x63)))))
theorem walk_ref01_Rounded {x1 : Gref01Exact} {dir2 : Int} {r : Nat} (h : W_ref01_Rounded x1 dir2 (fun r' => r' = r)) : Ev_ref01_Rounded x1 dir2 r := by
  unfold W_ref01_Rounded at h
  refine intr (L := [(0, .dat (Gref01Exact.enc x1)), (1, .dat (.v (.int .i64 dir2)))]) Tryz.func99 Tryz.ntmps99 ?_
  refine sN (bx (v := .dat (.st _ _)) ?_)
  refine pF rfl (dn (AWp.seq (rN (pT rfl (kC h rfl ⟨.inl rfl, trivial⟩ rfl fun x3 h => ?_)))))
  refine pI rfl (dn (AWp.seq (AWp.seq ?_)))
  obtain ⟨J65, h, hk66⟩ := h
  refine AWp.cutK (I := fun p : Bool => mkSt [(1, .dat (.v (.int .i64 dir2))), (2, .pt 2 [] 0), (5, .dat (.v (.int .i64 x3))), (22, .dat (.v (.bool p)))] [(2, .box 112 7 (.dat (Gref01Exact.enc x1)))]) (Inv := fun p : Bool => J65 p) ?_ (fun p hp => ?_)
  · refine rD (pI rfl (pB rfl (pB rfl (sB 12 h (fun h => ?_) (fun h => ?_)))))
    · refine pI rfl (kC h rfl ⟨.inl rfl, trivial⟩ rfl fun x13 h => ?_)
      refine kC h rfl ⟨.inl rfl, trivial⟩ rfl fun x15 h => pT rfl ?_
      refine kC h rfl ⟨.inl rfl, .inl rfl, trivial⟩ rfl fun x17 h => pB rfl ?_
      refine pB rfl (sB 19 h (fun h => ?_) (fun h => ?_))
      · refine ff rfl (ff rfl (pB rfl (dn ?_)))
        exact ⟨true, h, sl⟩
      refine pI rfl (pB rfl (pB rfl (dn ?_)))
      exact ⟨(decide (dir2 < (0 : Int))), h, sl⟩
    refine fo 5 rfl (pB rfl (pB rfl (pI rfl (pB rfl (pB rfl (dn ?_))))))
    exact ⟨(decide (dir2 < (0 : Int))), h, sl⟩
  replace h := hk66 p hp
  revert h; clear hp; generalize p = x11; intro h
  refine cB h (fun h => ?_) (fun h => ?_)
  · refine sN (pI rfl (kC h rfl ⟨.inl rfl, trivial⟩ rfl fun x21 h => ?_))
    refine pF rfl (dn (AWp.ret ?_))
    subst h
    exact ⟨_, rfl, rfl⟩
  refine AWp.skip (AWp.seq (AWp.seq (rN (pI rfl (pB rfl (dn (cB h (fun h => ?_) (fun h => ?_))))))))
  · refine sN (pI rfl ?_)
    obtain ⟨x26, ex26, h⟩ := h.get
    refine ai ex26 rfl (kC h rfl ⟨.inl rfl, trivial⟩ rfl fun x27 h => ?_)
    refine pF rfl (dn (AWp.ret ?_))
    subst h
    exact ⟨_, rfl, rfl⟩
  refine AWp.skip (AWp.seq (rW (pI rfl (kC h rfl ⟨.inl rfl, trivial⟩ rfl fun x29 h => ?_))))
  refine pI rfl ?_
  obtain ⟨x31, ex31, h⟩ := h.get
  refine ai ex31 rfl (kC h rfl ⟨.inl rfl, trivial⟩ rfl fun x32 h => ?_)
  refine kC h rfl ⟨.inl rfl, .inl rfl, trivial⟩ rfl fun x34 h => al0 ?_
  refine st (v := .dat (.st _ _)) ?_
  refine dn (sW (pP rfl (pB rfl (pP rfl (pS rfl (pP rfl (pI rfl ?_)))))))
  obtain ⟨x36, ex36, h⟩ := h.get
  refine ai ex36 rfl (pT rfl (al0 ?_))
  refine st (v := .dat (.st _ _)) ?_
  refine dn (AWp.seq (AWp.seq (rN (pT rfl (pT rfl (kC h rfl ⟨.inl rfl, .inl rfl, trivial⟩ rfl fun x37 h => ?_))))))
  refine dn (cB h (fun h => ?_) (fun h => ?_))
  · refine AWp.seq (AWp.seq (rN (pI rfl ?_)))
    obtain ⟨x47, ex47, h⟩ := h.get
    refine AOps.q rfl rfl rfl rfl rfl (rbin_rem (by decide)) ex47 ?_
    refine pB rfl (dn (cB h (fun h => ?_) (fun h => ?_)))
    · refine sN (pI rfl (kC h rfl ⟨.inl rfl, trivial⟩ rfl fun x50 h => ?_))
      refine pF rfl (dn (AWp.ret ?_))
      subst h
      exact ⟨_, rfl, rfl⟩
    refine AWp.skip (AWp.seq (rN (pI rfl ?_)))
    obtain ⟨x52, ex52, h⟩ := h.get
    refine ai ex52 rfl (kC h rfl ⟨.inl rfl, trivial⟩ rfl fun x53 h => ?_)
    refine pF rfl (dn (AWp.ret ?_))
    subst h
    exact ⟨_, rfl, rfl⟩
  refine AWp.skip (AWp.seq (AWp.seq (rN (pT rfl (pT rfl (kC h rfl ⟨.inl rfl, .inl rfl, trivial⟩ rfl fun x55 h => ?_))))))
  refine dn (cB h (fun h => ?_) (fun h => ?_))
  · refine sN (pI rfl ?_)
    obtain ⟨x60, ex60, h⟩ := h.get
    refine ai ex60 rfl (kC h rfl ⟨.inl rfl, trivial⟩ rfl fun x61 h => ?_)
    refine pF rfl (dn (AWp.ret ?_))
    subst h
    exact ⟨_, rfl, rfl⟩
  refine AWp.skip (AWp.seq (rN (pI rfl (kC h rfl ⟨.inl rfl, trivial⟩ rfl fun x63 h => ?_))))
  refine pF rfl (dn (AWp.ret ?_))
  subst h
  exact ⟨_, rfl, rfl⟩
def W_ref01_Int (n1 : Int) (Q : Gref01Num → Prop) : Prop :=
 Br (decide (n1 < (0 : Int))) (
  Let (IntKind.u64.wrap n1) fun x6 =>
  Let (IntKind.u64.wrap ((0 : Int) - x6)) fun x7 =>
  Call (Ev_ref01_Of x7) fun x8 =>
  Q (Gref01Num.mk true x8 (0 : Int))) (
  Let (IntKind.u64.wrap n1) fun x10 =>
  Call (Ev_ref01_Of x10) fun x11 =>
  Q (Gref01Num.mk false x11 (0 : Int)))
theorem walk_ref01_Int {n1 : Int} {r : Gref01Num} (h : W_ref01_Int n1 (fun r' => r' = r)) : Ev_ref01_Int n1 r := by
  unfold W_ref01_Int at h
  refine intr (L := [(0, .dat (.v (.int .i64 n1)))]) Tryz.func90 Tryz.ntmps90 ?_
  refine sN (al0 ?_)
  refine dn (AWp.seq (AWp.seq (rN (pI rfl (pB rfl (dn (cB h (fun h => ?_) (fun h => ?_))))))))
  · refine sW (pI rfl ?_)
    obtain ⟨x6, ex6, h⟩ := h.get
    refine ai ex6 rfl ?_
    obtain ⟨x7, ex7, h⟩ := h.get
    refine ai ex7 rfl (kC h rfl ⟨.inl rfl, trivial⟩ rfl fun x8 h => ?_)
    refine pT rfl (st (v := .dat (.st _ _)) ?_)
    subst h; exact dn (AWp.ret ⟨_, rfl, rfl⟩)
  refine AWp.skip (AWp.seq (rW (pI rfl ?_)))
  obtain ⟨x10, ex10, h⟩ := h.get
  refine ai ex10 rfl (kC h rfl ⟨.inl rfl, trivial⟩ rfl fun x11 h => ?_)
  refine pT rfl (st (v := .dat (.st _ _)) ?_)
  subst h; exact dn (AWp.ret ⟨_, rfl, rfl⟩)
def W_ref01_At (i1 : Int) (Q : Nat → Prop) : Prop :=
 Br (decide (i1 < (0 : Int))) (
  Let (IntKind.i64.wrap ((0 : Int) - i1)) fun x7 =>
  Let (IntKind.u64.wrap x7) fun x8 =>
  Let (IntKind.u64.wrap (x8 + (9223372036854775808 : Int))) fun x9 =>
  Call (Ev_math_Float64frombits x9) fun x10 =>
  Q x10) (
  Let (IntKind.u64.wrap i1) fun x12 =>
  Call (Ev_math_Float64frombits x12) fun x13 =>
  Q x13)
theorem walk_ref01_At {i1 : Int} {r : Nat} (h : W_ref01_At i1 (fun r' => r' = r)) : Ev_ref01_At i1 r := by
  unfold W_ref01_At at h
  refine intr (L := [(0, .dat (.v (.int .i64 i1)))]) Tryz.func124 Tryz.ntmps124 ?_
  refine sN (pF rfl (dn (AWp.seq (AWp.seq (rN (pI rfl (pB rfl (dn (cB h (fun h => ?_) (fun h => ?_))))))))))
  · refine sN (pI rfl ?_)
    obtain ⟨x7, ex7, h⟩ := h.get
    refine ai ex7 rfl ?_
    obtain ⟨x8, ex8, h⟩ := h.get
    refine ai ex8 rfl ?_
    obtain ⟨x9, ex9, h⟩ := h.get
    refine ai ex9 rfl ?_
    obtain ⟨x10, hc11, h⟩ := h
    refine AOps.extC hc11 rfl rfl rfl (.cons rfl .nil) ?_
    refine pF rfl (dn (AWp.ret ?_))
    subst h
    exact ⟨_, rfl, rfl⟩
  refine AWp.skip (AWp.seq (rN (pI rfl ?_)))
  obtain ⟨x12, ex12, h⟩ := h.get
  refine ai ex12 rfl ?_
  obtain ⟨x13, hc14, h⟩ := h
  refine AOps.extC hc14 rfl rfl rfl (.cons rfl .nil) ?_
  refine pF rfl (dn (AWp.ret ?_))
  subst h
  exact ⟨_, rfl, rfl⟩
def W_ref01_Index (x1 : Nat) (Q : Int → Prop) : Prop :=
 Call (Ev_math_Float64bits x1) fun x2 =>
 Let (Int.fdiv x2 (2 ^ 63)) fun x4 =>
 Br (x4 == (1 : Int)) (
  Let (IntKind.u64.wrap (x2 - (9223372036854775808 : Int))) fun x8 =>
  Let (IntKind.i64.wrap x8) fun x9 =>
  Let (IntKind.i64.wrap ((0 : Int) - x9)) fun x10 =>
  Q x10) (
  Let (IntKind.i64.wrap x2) fun x11 =>
  Q x11)
theorem walk_ref01_Index {x1 : Nat} {r : Int} (h : W_ref01_Index x1 (fun r' => r' = r)) : Ev_ref01_Index x1 r := by
  unfold W_ref01_Index at h
  refine intr (L := [(0, .dat (.v (.float .f64 x1)))]) Tryz.func121 Tryz.ntmps121 ?_
  refine sN (pI rfl (dn (AWp.seq (rN (pF rfl ?_)))))
  obtain ⟨x2, hc3, h⟩ := h
  refine AOps.extC hc3 rfl rfl rfl (.cons rfl .nil) ?_
  refine pI rfl (dn (AWp.seq (AWp.seq (rN (pI rfl ?_)))))
  obtain ⟨x4, ex4, h⟩ := h.get
  refine AOps.q rfl rfl rfl rfl rfl (rbin_shr (by decide)) ex4 ?_
  refine pB rfl (dn (cB h (fun h => ?_) (fun h => ?_)))
  · refine sN (pI rfl ?_)
    obtain ⟨x8, ex8, h⟩ := h.get
    refine ai ex8 rfl ?_
    obtain ⟨x9, ex9, h⟩ := h.get
    refine ai ex9 rfl ?_
    obtain ⟨x10, ex10, h⟩ := h.get
    refine ai ex10 rfl (pI rfl (dn (AWp.ret ?_)))
    subst h
    exact ⟨_, rfl, rfl⟩
  refine AWp.skip (AWp.seq (rN (pI rfl ?_)))
  obtain ⟨x11, ex11, h⟩ := h.get
  refine ai ex11 rfl (pI rfl (dn (AWp.ret ?_)))
  subst h
  exact ⟨_, rfl, rfl⟩
def W_ref01_Down (x1 : Gref01Exact) (Q : Int → Prop) : Prop :=
 Loop2 (-9218868437227405312 : Int) (9218868437227405311 : Int) (fun (lo81 : Int) (hi82 : Int) next83 =>
  Br (decide (lo81 < hi82)) (
   Let (IntKind.i64.wrap (Int.tdiv lo81 (2 : Int))) fun x84 =>
   Let (IntKind.i64.wrap (Int.tdiv hi82 (2 : Int))) fun x85 =>
   Let (IntKind.i64.wrap (x84 + x85)) fun x86 =>
   Let (Int.tmod lo81 (2 : Int)) fun x87 =>
   Let (Int.tmod hi82 (2 : Int)) fun x88 =>
   Let (IntKind.i64.wrap (x87 + x88)) fun x89 =>
   Let (IntKind.i64.wrap (x89 + (1 : Int))) fun x90 =>
   Let (IntKind.i64.wrap (Int.tdiv x90 (2 : Int))) fun x91 =>
   Let (IntKind.i64.wrap (x86 + x91)) fun x92 =>
   Join1 (fun j95 =>
    Br (decide (x92 ≤ lo81)) (
     Let (IntKind.i64.wrap (lo81 + (1 : Int))) fun x96 =>
     j95 x96) (
     j95 x92)
   ) (fun (mid94 : Int) =>
    Call (Ev_ref01_At mid94) fun x97 =>
    Call (Ev_ref01_Float x97) fun x99 =>
    Call (Ev_ref01_below x99 x1) fun x101 =>
    Br x101 (next83 mid94 hi82) (
     Let (IntKind.i64.wrap (mid94 - (1 : Int))) fun x103 =>
     next83 lo81 x103))) (
   Q lo81))
theorem walk_ref01_Down {x1 : Gref01Exact} {r : Int} (h : W_ref01_Down x1 (fun r' => r' = r)) : Ev_ref01_Down x1 r := by
  unfold W_ref01_Down at h
  refine intr (L := [(0, .dat (Gref01Exact.enc x1))]) Tryz.func122 Tryz.ntmps122 ?_
  refine sN (bx (v := .dat (.st _ _)) ?_)
  refine pI rfl (dn (AWp.seq (rN (pI rfl (dn (AWp.seq (rN (pI rfl (dn (AWp.seq (AWp.block ?_)))))))))))
  obtain ⟨I106, x107, hz108, hr109⟩ := h
  refine AWp.loop (I := fun p : Int × Int => mkSt [(1, .pt 1 [] 0), (3, .dat (.v (.int .i64 p.1))), (4, .dat (.v (.int .i64 p.2)))] [(1, .box 112 7 (.dat (Gref01Exact.enc x1)))]) (Inv := fun p => I106 p.1 p.2) (μ := fun p => x107 p.1 p.2) (x0 := ⟨(-9218868437227405312 : Int), (9218868437227405311 : Int)⟩) hz108 sl (fun p hp => ?_)
  obtain ⟨lo81, hi82⟩ := p
  have h := hr109 lo81 hi82 hp
  refine AWp.seq (AWp.seq (rN (pI rfl (pI rfl (pB rfl (dn (cB h (fun h => ?_) (fun h => ?_))))))))
  · refine AWp.skip (AWp.block (AWp.seq (rN (pI rfl ?_))))
    obtain ⟨x84, ex84, h⟩ := h.get
    refine AOps.q rfl rfl rfl rfl rfl (rbin_quo (by decide)) ex84 ?_
    refine pI rfl ?_
    obtain ⟨x85, ex85, h⟩ := h.get
    refine AOps.q rfl rfl rfl rfl rfl (rbin_quo (by decide)) ex85 ?_
    obtain ⟨x86, ex86, h⟩ := h.get
    refine ai ex86 rfl (pI rfl ?_)
    obtain ⟨x87, ex87, h⟩ := h.get
    refine AOps.q rfl rfl rfl rfl rfl (rbin_rem (by decide)) ex87 ?_
    refine pI rfl ?_
    obtain ⟨x88, ex88, h⟩ := h.get
    refine AOps.q rfl rfl rfl rfl rfl (rbin_rem (by decide)) ex88 ?_
    obtain ⟨x89, ex89, h⟩ := h.get
    refine ai ex89 rfl ?_
    obtain ⟨x90, ex90, h⟩ := h.get
    refine ai ex90 rfl ?_
    obtain ⟨x91, ex91, h⟩ := h.get
    refine AOps.q rfl rfl rfl rfl rfl (rbin_quo (by decide)) ex91 ?_
    obtain ⟨x92, ex92, h⟩ := h.get
    refine ai ex92 rfl (pI rfl (dn (AWp.seq (AWp.seq (rN (pI rfl (pI rfl (pB rfl (dn ?_)))))))))
    obtain ⟨J104, h, hk105⟩ := h
    refine AWp.cutK (I := fun p : Int => mkSt [(1, .pt 1 [] 0), (3, .dat (.v (.int .i64 lo81))), (4, .dat (.v (.int .i64 hi82))), (5, .dat (.v (.int .i64 p)))] [(1, .box 112 7 (.dat (Gref01Exact.enc x1)))]) (Inv := fun p : Int => J104 p) ?_ (fun p hp => ?_)
    · refine cB h (fun h => ?_) (fun h => ?_)
      · refine rN (pI rfl ?_)
        obtain ⟨x96, ex96, h⟩ := h.get
        refine ai ex96 rfl (pI rfl (dn ?_))
        exact ⟨x96, h, sl⟩
      refine AWp.skip ?_
      exact ⟨x92, h, sl⟩
    replace h := hk105 p hp
    revert h; clear hp; generalize p = mid94; intro h
    refine sD (pI rfl (kC h rfl ⟨.inl rfl, trivial⟩ rfl fun x97 h => ?_))
    refine kC h rfl ⟨.inl rfl, trivial⟩ rfl fun x99 h => pT rfl ?_
    refine kC h rfl ⟨.inl rfl, .inl rfl, trivial⟩ rfl fun x101 h => dn ?_
    refine cB h (fun h => ?_) (fun h => ?_)
    · refine rN (pI rfl (pI rfl (dn ?_)))
      exact ⟨⟨mid94, hi82⟩, h.1, h.2, sl⟩
    refine rN (pI rfl ?_)
    obtain ⟨x103, ex103, h⟩ := h.get
    refine ai ex103 rfl (pI rfl (dn ?_))
    exact ⟨⟨lo81, x103⟩, h.1, h.2, sl⟩
  refine AWp.exit ?_
  refine sN (pI rfl (pI rfl (dn (AWp.ret ?_))))
  subst h
  exact ⟨_, rfl, rfl⟩
def W_ref01_same (r1 : Gref01Num) (x2 : Gref01Exact) (Q : Bool → Prop) : Prop :=
 Br x2.Root (
  Call (Ev_ref01_Sign r1) fun x21 =>
  Br (decide (x21 ≥ (0 : Int))) (
   Call (Ev_ref01_Product r1 r1) fun x23 =>
   Call (Ev_ref01_Order x23 x2.A) fun x25 =>
   Q (x25 == (0 : Int))) (
   Q false)) (
  Call (Ev_ref01_Product r1 x2.B) fun x27 =>
  Call (Ev_ref01_Order x27 x2.A) fun x29 =>
  Q (x29 == (0 : Int)))
theorem walk_ref01_same {r1 : Gref01Num} {x2 : Gref01Exact} {r : Bool} (h : W_ref01_same r1 x2 (fun r' => r' = r)) : Ev_ref01_same r1 x2 r := by
  unfold W_ref01_same at h
  refine intr (L := [(0, .dat (Gref01Num.enc r1)), (1, .dat (Gref01Exact.enc x2))]) Tryz.func123 Tryz.ntmps123 ?_
  refine sN (bx (v := .dat (.st _ _)) ?_)
  refine bx (v := .dat (.st _ _)) ?_
  refine pB rfl (dn (AWp.seq (AWp.seq (rN (pP rfl (pB rfl (dn (cB h (fun h => ?_) (fun h => ?_)))))))))
  · refine sD (pT rfl (kC h rfl ⟨.inl rfl, trivial⟩ rfl fun x21 h => ?_))
    refine pB rfl (pB rfl (sB 10 h (fun h => ?_) (fun h => ?_)))
    · refine pT rfl (pT rfl (kC h rfl ⟨.inl rfl, .inl rfl, trivial⟩ rfl fun x23 h => ?_))
      refine pP rfl (pT rfl (kC h rfl ⟨.inl rfl, .inl rfl, trivial⟩ rfl fun x25 h => ?_))
      refine pB rfl (pB rfl (pB rfl (dn (AWp.ret ?_))))
      subst h
      exact ⟨_, rfl, rfl⟩
    refine fo 7 rfl (pB rfl (pB rfl (dn (AWp.ret ?_))))
    subst h
    exact ⟨_, rfl, rfl⟩
  refine AWp.skip (AWp.seq (rD (pT rfl (pP rfl (pT rfl (kC h rfl ⟨.inl rfl, .inl rfl, trivial⟩ rfl fun x27 h => ?_))))))
  refine pP rfl (pT rfl (kC h rfl ⟨.inl rfl, .inl rfl, trivial⟩ rfl fun x29 h => ?_))
  refine pB rfl (pB rfl (dn (AWp.ret ?_)))
  subst h
  exact ⟨_, rfl, rfl⟩
def W_ref01_grid (i1 : Int) (Q : Gref01Num → Prop) : Prop :=
 Br (decide (i1 > (9218868437227405311 : Int))) (
  Call (Ev_ref01_Of (1 : Int)) fun x4 =>
  Q (Gref01Num.mk false x4 (1024 : Int))) (
  Br (decide (i1 < (-9218868437227405311 : Int))) (
   Call (Ev_ref01_Of (1 : Int)) fun x8 =>
   Q (Gref01Num.mk true x8 (1024 : Int))) (
   Call (Ev_ref01_At i1) fun x10 =>
   Call (Ev_ref01_Float x10) fun x12 =>
   Q x12))
theorem walk_ref01_grid {i1 : Int} {r : Gref01Num} (h : W_ref01_grid i1 (fun r' => r' = r)) : Ev_ref01_grid i1 r := by
  unfold W_ref01_grid at h
  refine intr (L := [(0, .dat (.v (.int .i64 i1)))]) Tryz.func125 Tryz.ntmps125 ?_
  refine sN (al0 ?_)
  refine dn (AWp.seq (AWp.seq (rN (pI rfl (pB rfl (dn (cB h (fun h => ?_) (fun h => ?_))))))))
  · refine sW (kC h rfl ⟨.inl rfl, trivial⟩ rfl fun x4 h => ?_)
    refine pT rfl (st (v := .dat (.st _ _)) ?_)
    subst h; exact dn (AWp.ret ⟨_, rfl, rfl⟩)
  refine AWp.skip (AWp.seq (AWp.seq (rN (pI rfl (pB rfl (dn (cB h (fun h => ?_) (fun h => ?_))))))))
  · refine sW (kC h rfl ⟨.inl rfl, trivial⟩ rfl fun x8 h => ?_)
    refine pT rfl (st (v := .dat (.st _ _)) ?_)
    subst h; exact dn (AWp.ret ⟨_, rfl, rfl⟩)
  refine AWp.skip (AWp.seq (rW (pI rfl (kC h rfl ⟨.inl rfl, trivial⟩ rfl fun x10 h => ?_))))
  refine kC h rfl ⟨.inl rfl, trivial⟩ rfl fun x12 h => st (v := .dat (.st _ _)) ?_
  subst h; exact dn (AWp.ret ⟨_, rfl, rfl⟩)
def W_ref01_below (r1 : Gref01Num) (x2 : Gref01Exact) (Q : Bool → Prop) : Prop :=
 Br x2.Root (
  Call (Ev_ref01_Sign r1) fun x21 =>
  Br (decide (x21 ≤ (0 : Int))) (Q true) (
   Call (Ev_ref01_Product r1 r1) fun x23 =>
   Call (Ev_ref01_Order x23 x2.A) fun x25 =>
   Q (decide (x25 ≤ (0 : Int))))) (
  Call (Ev_ref01_Product r1 x2.B) fun x27 =>
  Call (Ev_ref01_Order x27 x2.A) fun x29 =>
  Call (Ev_ref01_Sign x2.B) fun x31 =>
  Br (decide (x31 < (0 : Int))) (Q (decide (x29 ≥ (0 : Int)))) (
   Q (decide (x29 ≤ (0 : Int)))))
theorem walk_ref01_below {r1 : Gref01Num} {x2 : Gref01Exact} {r : Bool} (h : W_ref01_below r1 x2 (fun r' => r' = r)) : Ev_ref01_below r1 x2 r := by
  unfold W_ref01_below at h
  refine intr (L := [(0, .dat (Gref01Num.enc r1)), (1, .dat (Gref01Exact.enc x2))]) Tryz.func126 Tryz.ntmps126 ?_
  refine sN (bx (v := .dat (.st _ _)) ?_)
  refine bx (v := .dat (.st _ _)) ?_
  refine pB rfl (dn (AWp.seq (AWp.seq (rN (pP rfl (pB rfl (dn (cB h (fun h => ?_) (fun h => ?_)))))))))
  · refine sD (pT rfl (kC h rfl ⟨.inl rfl, trivial⟩ rfl fun x21 h => ?_))
    refine pB rfl (pB rfl (sB 11 h (fun h => ?_) (fun h => ?_)))
    · refine fo 7 rfl (pB rfl (pB rfl (dn (AWp.ret ?_))))
      subst h
      exact ⟨_, rfl, rfl⟩
    refine pT rfl (pT rfl (kC h rfl ⟨.inl rfl, .inl rfl, trivial⟩ rfl fun x23 h => ?_))
    refine pP rfl (pT rfl (kC h rfl ⟨.inl rfl, .inl rfl, trivial⟩ rfl fun x25 h => ?_))
    refine pB rfl (pB rfl (pB rfl (dn (AWp.ret ?_))))
    subst h
    exact ⟨_, rfl, rfl⟩
  refine AWp.skip (AWp.seq (rD (pT rfl (pP rfl (pT rfl (kC h rfl ⟨.inl rfl, .inl rfl, trivial⟩ rfl fun x27 h => ?_))))))
  refine pP rfl (pT rfl (kC h rfl ⟨.inl rfl, .inl rfl, trivial⟩ rfl fun x29 h => ?_))
  refine pI rfl (dn (AWp.seq (AWp.seq (rN (pP rfl (pT rfl (kC h rfl ⟨.inl rfl, trivial⟩ rfl fun x31 h => ?_)))))))
  refine pB rfl (dn (cB h (fun h => ?_) (fun h => ?_)))
  · refine sN (pI rfl (pB rfl (pB rfl (dn (AWp.ret ?_)))))
    subst h
    exact ⟨_, rfl, rfl⟩
  refine AWp.skip (AWp.seq (rN (pI rfl (pB rfl (pB rfl (dn (AWp.ret ?_)))))))
  subst h
  exact ⟨_, rfl, rfl⟩
end Go.Sim.YtlkpbnhinnhlfaaGreat
