/- What is proved: functions of the program compute what plain statements tell. -/
import Derived.Test.YtlkpbnhinnhlfaaGreatZLFWE

namespace Go.Sim.YtlkpbnhinnhlfaaGreat
open Go.RowKit Go.Proofs Go.Proofs.Tryz
set_option maxRecDepth 100000
def W_ival_Add (x1 : GIval) (y2 : GIval) (Q : GIval → Prop) : Prop :=
 Call (Ev_ival_none ([x1, y2])) fun x3 =>
 Br x3 (
  Call (Ev_ival_Empty) fun x7 =>
  Q x7) (
  Call (Ev_ulp_Add x1.Lo y2.Lo (-1 : Int)) fun x9 =>
  Call (Ev_ulp_Add x1.Hi y2.Hi (1 : Int)) fun x11 =>
  Call (Ev_ival_ends x9 x11) fun x13 =>
  Q x13)
theorem walk_ival_Add {x1 : GIval} {y2 : GIval} {r : GIval} (h : W_ival_Add x1 y2 (fun r' => r' = r)) : Ev_ival_Add x1 y2 r := by
  unfold W_ival_Add at h
  refine intr (L := [(0, .dat (GIval.enc x1)), (1, .dat (GIval.enc y2))]) Tryz.func41 Tryz.ntmps41 ?_
  refine sN (bx (v := .dat (.st _ _)) ?_)
  refine bx (v := .dat (.st _ _)) ?_
  refine al0 ?_
  refine dn (AWp.seq (AWp.seq (rN (pT rfl (pT rfl ?_)))))
  refine AOps.lit tabOk (ys := [GIval.enc x1, GIval.enc y2]) rfl rfl rfl rfl rfl rfl ?_
  refine kC h rfl ⟨.inl rfl, trivial⟩ rfl fun x3 h => dn ?_
  refine cB h (fun h => ?_) (fun h => ?_)
  · refine sW (kC h rfl trivial rfl fun x7 h => ?_)
    refine st (v := .dat (.st _ _)) ?_
    subst h; exact dn (AWp.ret ⟨_, rfl, rfl⟩)
  refine AWp.skip (AWp.seq (rE [(2, [2]), (3, [3]), (4, [4]), (10, [2]), (12, [3]), (15, [2]), (17, [3])] (pP rfl (pF rfl (pP rfl (pF rfl (kC h rfl ⟨.inl rfl, .inl rfl, .inl rfl, trivial⟩ rfl fun x9 h => ?_)))))))
  refine pP rfl (pF rfl (pP rfl (pF rfl (kC h rfl ⟨.inl rfl, .inl rfl, .inl rfl, trivial⟩ rfl fun x11 h => ?_))))
  refine kC h rfl ⟨.inl rfl, .inl rfl, trivial⟩ rfl fun x13 h => st (v := .dat (.st _ _)) ?_
  subst h; exact dn (AWp.ret ⟨_, rfl, rfl⟩)
def W_ival_Mul (x1 : GIval) (y2 : GIval) (Q : GIval → Prop) : Prop :=
 Call (Ev_ival_none ([x1, y2])) fun x3 =>
 Br x3 (
  Call (Ev_ival_Empty) fun x7 =>
  Q x7) (
  Call (Ev_ival_corners x1 y2 Fn_ulp_Mul) fun x9 =>
  Q x9)
theorem walk_ival_Mul {x1 : GIval} {y2 : GIval} {r : GIval} (h : W_ival_Mul x1 y2 (fun r' => r' = r)) : Ev_ival_Mul x1 y2 r := by
  unfold W_ival_Mul at h
  refine intr (L := [(0, .dat (GIval.enc x1)), (1, .dat (GIval.enc y2))]) Tryz.func108 Tryz.ntmps108 ?_
  refine sN (bx (v := .dat (.st _ _)) ?_)
  refine bx (v := .dat (.st _ _)) ?_
  refine al0 ?_
  refine dn (AWp.seq (AWp.seq (rN (pT rfl (pT rfl ?_)))))
  refine AOps.lit tabOk (ys := [GIval.enc x1, GIval.enc y2]) rfl rfl rfl rfl rfl rfl ?_
  refine kC h rfl ⟨.inl rfl, trivial⟩ rfl fun x3 h => dn ?_
  refine cB h (fun h => ?_) (fun h => ?_)
  · refine sW (kC h rfl trivial rfl fun x7 h => ?_)
    refine st (v := .dat (.st _ _)) ?_
    subst h; exact dn (AWp.ret ⟨_, rfl, rfl⟩)
  refine AWp.skip (AWp.seq (rW (pT rfl (pT rfl (kC h rfl ⟨.inl rfl, .inl rfl, .inl rfl, trivial⟩ rfl fun x9 h => ?_)))))
  refine st (v := .dat (.st _ _)) ?_
  subst h; exact dn (AWp.ret ⟨_, rfl, rfl⟩)
def W_ival_Mag (x1 : GIval) (Q : Nat → Prop) : Prop :=
 Call (Ev_ival_none ([x1])) fun x2 =>
 Br x2 (Q (0 : Nat)) (
  Call (Ev_math_Abs x1.Lo) fun x4 =>
  Call (Ev_math_Abs x1.Hi) fun x6 =>
  FMx x4 x6 fun x8 =>
  Q x8)
theorem walk_ival_Mag {x1 : GIval} {r : Nat} (h : W_ival_Mag x1 (fun r' => r' = r)) : Ev_ival_Mag x1 r := by
  unfold W_ival_Mag at h
  refine intr (L := [(0, .dat (GIval.enc x1))]) Tryz.func80 Tryz.ntmps80 ?_
  refine sN (bx (v := .dat (.st _ _)) ?_)
  refine pF rfl (dn (AWp.seq (AWp.seq (rN (pT rfl ?_)))))
  refine AOps.lit tabOk (ys := [GIval.enc x1]) rfl rfl rfl rfl rfl rfl ?_
  refine kC h rfl ⟨.inl rfl, trivial⟩ rfl fun x2 h => dn ?_
  refine cB h (fun h => ?_) (fun h => ?_)
  · refine sN (pF rfl (dn (AWp.ret ?_)))
    subst h
    exact ⟨_, rfl, rfl⟩
  refine AWp.skip (AWp.seq (rD (pP rfl (pF rfl (kC h rfl ⟨.inl rfl, trivial⟩ rfl fun x4 h => ?_)))))
  refine pP rfl (pF rfl (kC h rfl ⟨.inl rfl, trivial⟩ rfl fun x6 h => ?_))
  obtain ⟨hq, x8, ex8, h⟩ := h.get
  refine AOps.v rfl rfl (Step.fmax rfl rfl rfl hq ex8) ?_
  refine pF rfl (dn (AWp.ret ?_))
  subst h
  exact ⟨_, rfl, rfl⟩
def W_ival_Point (v1 : Nat) (Q : GIval → Prop) : Prop :=
 Call (Ev_ival_Make v1 v1) fun x2 =>
 Q x2
theorem walk_ival_Point {v1 : Nat} {r : GIval} (h : W_ival_Point v1 (fun r' => r' = r)) : Ev_ival_Point v1 r := by
  unfold W_ival_Point at h
  refine intr (L := [(0, .dat (.v (.float .f64 v1)))]) Tryz.func76 Tryz.ntmps76 ?_
  refine sN (al0 ?_)
  refine dn (sW (pF rfl (pF rfl (kC h rfl ⟨.inl rfl, .inl rfl, trivial⟩ rfl fun x2 h => ?_))))
  refine st (v := .dat (.st _ _)) ?_
  subst h; exact dn (AWp.ret ⟨_, rfl, rfl⟩)
def W_ival_none (l1 : List GIval) (Q : Bool → Prop) : Prop :=
 Loop1 (0 : Int) (fun (x80 : Int) next81 =>
  Br (decide (x80 < ((l1.length : Nat) : Int))) (
   At l1 x80 fun x94 =>
   Call (Ev_ival_Right x94) fun x100 =>
   Br (!x100) (Q true) (
    Call (Ev_ival_Empty) fun x102 =>
    Br (GIval.beq x94 x102) (Q true) (
     Let (IntKind.i64.wrap (x80 + (1 : Int))) fun x104 =>
     next81 x104))) (
   Q false))
theorem walk_ival_none {l1 : List GIval} {r : Bool} (h : W_ival_none l1 (fun r' => r' = r)) : Ev_ival_none l1 r := by
  unfold W_ival_none at h
  refine intr (L := [(0, .dat (.sl 35 2 (List.map GIval.enc l1)))]) Tryz.func87 Tryz.ntmps87 ?_
  refine sN (pB rfl (dn (AWp.seq (AWp.seq (rN (pS rfl (al (((l1.length : Nat) : Int)) rfl (pI rfl (dn (AWp.block ?_))))))))))
  obtain ⟨I105, x106, hz107, hr108⟩ := h
  refine AWp.loop (I := fun p : Int => mkSt [(5, .dat (.sl 35 2 (List.map GIval.enc l1))), (6, .dat (.v (.int .i64 ((l1.length : Nat) : Int)))), (7, .dat (.v (.int .i64 p)))] []) (Inv := fun p => I105 p) (μ := fun p => x106 p) (x0 := (0 : Int)) hz107 sl (fun p hp => ?_)
  have h := hr108 p hp
  revert h; clear hp; generalize p = x80; intro h
  refine sN (pW rfl (dn (AWp.seq (cB h (fun h => ?_) (fun h => ?_)))))
  · refine AWp.skip (AWp.seq (AWp.block (AWp.seq (rW (kI h map_get rfl rfl rfl rfl rfl rfl rfl fun x94 h => ?_)))))
    refine pT rfl (al0 ?_)
    refine st (v := .dat (.st _ _)) ?_
    refine dn (sD (pT rfl (kC h rfl ⟨.inl rfl, trivial⟩ rfl fun x100 h => ?_)))
    refine pB rfl (pB rfl (sB 14 h (fun h => ?_) (fun h => ?_)))
    · refine fo 3 rfl (pB rfl (dn ?_))
      refine AWp.condT rfl ?_
      refine sN (pB rfl (dn (AWp.ret ?_)))
      subst h
      exact ⟨_, rfl, rfl⟩
    refine pT rfl (kC h rfl trivial rfl fun x102 h => ?_)
    refine AOps.eqs rfl rfl rfl rfl rfl rfl rfl (by decide +kernel) (GIval.eqok35 _ x94 x102) ?_
    refine pB rfl (dn (cB h (fun h => ?_) (fun h => ?_)))
    · refine sN (pB rfl (dn (AWp.ret ?_)))
      subst h
      exact ⟨_, rfl, rfl⟩
    refine AWp.skip (rN ?_)
    obtain ⟨x104, ex104, h⟩ := h.get
    refine ai ex104 rfl (pI rfl (dn ?_))
    exact ⟨x104, h.1, h.2, sl⟩
  refine AWp.exit ?_
  refine sN (pB rfl (dn (AWp.ret ?_)))
  subst h
  exact ⟨_, rfl, rfl⟩
def W_ival_Empty (Q : GIval → Prop) : Prop :=
 Call (Ev_math_Inf (1 : Int)) fun x1 =>
 Call (Ev_math_Inf (-1 : Int)) fun x3 =>
 Q (GIval.mk x1 x3)
theorem walk_ival_Empty {r : GIval} (h : W_ival_Empty (fun r' => r' = r)) : Ev_ival_Empty r := by
  unfold W_ival_Empty at h
  refine intr (L := []) Tryz.func43 Tryz.ntmps43 ?_
  refine sN (al0 ?_)
  refine dn (sW (kC h rfl ⟨.inl rfl, trivial⟩ rfl fun x1 h => ?_))
  refine kC h rfl ⟨.inl rfl, trivial⟩ rfl fun x3 h => pT rfl ?_
  refine st (v := .dat (.st _ _)) ?_
  subst h; exact dn (AWp.ret ⟨_, rfl, rfl⟩)
def W_ival_Make (lo1 : Nat) (hi2 : Nat) (Q : GIval → Prop) : Prop :=
 FOp .add lo1 (0 : Nat) fun x3 =>
 FOp .add hi2 (0 : Nat) fun x4 =>
 Call (Ev_ival_Right (GIval.mk x3 x4)) fun x5 =>
 Br (!x5) (
  Call (Ev_ival_Empty) fun x9 =>
  Q x9) (
  Q (GIval.mk x3 x4))
theorem walk_ival_Make {lo1 : Nat} {hi2 : Nat} {r : GIval} (h : W_ival_Make lo1 hi2 (fun r' => r' = r)) : Ev_ival_Make lo1 hi2 r := by
  unfold W_ival_Make at h
  refine intr (L := [(0, .dat (.v (.float .f64 lo1))), (1, .dat (.v (.float .f64 hi2)))]) Tryz.func42 Tryz.ntmps42 ?_
  refine sN (al0 ?_)
  refine dn (sW (pF rfl ?_))
  obtain ⟨x3, hq, h⟩ := h
  refine AOps.v rfl rfl (Step.flt rfl rfl rfl hq) ?_
  refine pF rfl ?_
  obtain ⟨x4, hq, h⟩ := h
  refine AOps.v rfl rfl (Step.flt rfl rfl rfl hq) ?_
  refine pT rfl (al0 ?_)
  refine st (v := .dat (.st _ _)) ?_
  refine dn (AWp.seq (AWp.seq (rN (pT rfl (kC h rfl ⟨.inl rfl, trivial⟩ rfl fun x5 h => ?_)))))
  refine pB rfl (dn (cB h (fun h => ?_) (fun h => ?_)))
  · refine sW (kC h rfl trivial rfl fun x9 h => ?_)
    refine st (v := .dat (.st _ _)) ?_
    subst h; exact dn (AWp.ret ⟨_, rfl, rfl⟩)
  refine AWp.skip (AWp.seq (rW (pT rfl (st (v := .dat (.st _ _)) ?_))))
  subst h; exact dn (AWp.ret ⟨_, rfl, rfl⟩)
def W_ival_ends (lo1 : Nat) (hi2 : Nat) (Q : GIval → Prop) : Prop :=
 FMn lo1 (9218868437227405311 : Nat) fun x3 =>
 FMx hi2 (18442240474082181119 : Nat) fun x4 =>
 Call (Ev_ival_Make x3 x4) fun x5 =>
 Q x5
theorem walk_ival_ends {lo1 : Nat} {hi2 : Nat} {r : GIval} (h : W_ival_ends lo1 hi2 (fun r' => r' = r)) : Ev_ival_ends lo1 hi2 r := by
  unfold W_ival_ends at h
  refine intr (L := [(0, .dat (.v (.float .f64 lo1))), (1, .dat (.v (.float .f64 hi2)))]) Tryz.func88 Tryz.ntmps88 ?_
  refine sN (al0 ?_)
  refine dn (sW (pF rfl ?_))
  obtain ⟨hq, x3, ex3, h⟩ := h.get
  refine AOps.v rfl rfl (Step.fmin rfl rfl rfl hq ex3) ?_
  refine pF rfl ?_
  obtain ⟨hq, x4, ex4, h⟩ := h.get
  refine AOps.v rfl rfl (Step.fmax rfl rfl rfl hq ex4) ?_
  refine kC h rfl ⟨.inl rfl, .inl rfl, trivial⟩ rfl fun x5 h => st (v := .dat (.st _ _)) ?_
  subst h; exact dn (AWp.ret ⟨_, rfl, rfl⟩)
def W_ival_corners (x1 : GIval) (y2 : GIval) (do3 : DV) (Q : GIval → Prop) : Prop :=
 Call (Ev_math_Inf (1 : Int)) fun x4 =>
 Call (Ev_math_Inf (-1 : Int)) fun x6 =>
 Loop3 x4 x6 (0 : Int) (fun (lo420 : Nat) (hi421 : Nat) (x422 : Int) next423 =>
  Br (decide (x422 < ((([x1.Lo, x1.Hi]).length : Nat) : Int))) (
   At ([x1.Lo, x1.Hi]) x422 fun x490 =>
   Loop3 lo420 hi421 (0 : Int) (fun (lo522 : Nat) (hi523 : Nat) (x524 : Int) next525 =>
    Br (decide (x524 < ((([y2.Lo, y2.Hi]).length : Nat) : Int))) (
     At ([y2.Lo, y2.Hi]) x524 fun x538 =>
     Call (fun x540 : Nat => FVal prog do3 [.v (.float .f64 x490), .v (.float .f64 x538), .v (.int .i64 (-1 : Int))] (.v (.float .f64 x540))) fun x540 =>
     Call (fun x542 : Nat => FVal prog do3 [.v (.float .f64 x490), .v (.float .f64 x538), .v (.int .i64 (1 : Int))] (.v (.float .f64 x542))) fun x542 =>
     Call (Ev_math_IsNaN x540) fun x544 =>
     Br (!x544) (
      FMn lo522 x540 fun x546 =>
      FMx hi523 x542 fun x547 =>
      Let (IntKind.i64.wrap (x524 + (1 : Int))) fun x548 =>
      next525 x546 x547 x548) (
      Let (IntKind.i64.wrap (x524 + (1 : Int))) fun x549 =>
      next525 lo522 hi523 x549)) (
     Let (IntKind.i64.wrap (x422 + (1 : Int))) fun x550 =>
     next423 lo522 hi523 x550))) (
   Call (Ev_ival_ends lo420 hi421) fun x555 =>
   Q x555))
theorem walk_ival_corners {x1 : GIval} {y2 : GIval} {do3 : DV} {r : GIval} (h : W_ival_corners x1 y2 do3 (fun r' => r' = r)) : Ev_ival_corners x1 y2 do3 r := by
  unfold W_ival_corners at h
  refine intr (L := [(0, .dat (GIval.enc x1)), (1, .dat (GIval.enc y2)), (2, .dat (do3))]) Tryz.func129 Tryz.ntmps129 ?_
  refine sN (bx (v := .dat (.st _ _)) ?_)
  refine bx (v := .dat (.st _ _)) ?_
  refine al0 ?_
  refine dn (sN (kC h rfl ⟨.inl rfl, trivial⟩ rfl fun x4 h => ?_))
  refine kC h rfl ⟨.inl rfl, trivial⟩ rfl fun x6 h => pF rfl ?_
  refine pF rfl (dn (AWp.seq (AWp.seq (rN (pP rfl (pF rfl (pP rfl (pF rfl ?_))))))))
  refine AOps.lit tabOk (ys := [.v (.float .f64 x1.Lo), .v (.float .f64 x1.Hi)]) rfl rfl rfl rfl rfl rfl ?_
  refine al (((([x1.Lo, x1.Hi]).length : Nat) : Int)) rfl (pI rfl (dn (AWp.block ?_)))
  obtain ⟨I557, x558, hz559, hr560⟩ := h
  refine AWp.loop (I := fun p : Nat × Nat × Int => mkSt [(2, .dat (do3)), (4, .pt 4 [] 0), (6, .pt 6 [] 0), (7, .dat (.v (.float .f64 p.1))), (8, .dat (.v (.float .f64 p.2.1))), (21, .dat (.sl 28 1 (List.map (eFlt .f64) [x1.Lo, x1.Hi]))), (22, .dat (.v (.int .i64 ((([x1.Lo, x1.Hi]).length : Nat) : Int)))), (23, .dat (.v (.int .i64 p.2.2)))] [(4, .box 35 2 (.dat (GIval.enc y2))), (6, .box 35 2 (.dat (GIval.enc GIval.zero)))]) (Inv := fun p => I557 p.1 p.2.1 p.2.2) (μ := fun p => x558 p.1 p.2.1 p.2.2) (x0 := ⟨x4, x6, (0 : Int)⟩) hz559 sl (fun p hp => ?_)
  obtain ⟨lo420, hi421, x422⟩ := p
  have h := hr560 lo420 hi421 x422 hp
  refine sN (pW rfl (dn (AWp.seq (cB h (fun h => ?_) (fun h => ?_)))))
  · refine AWp.skip (AWp.seq (AWp.block (AWp.seq (rN (kI h map_get rfl rfl rfl rfl rfl rfl rfl fun x490 h => ?_)))))
    refine pF rfl (pF rfl (dn (AWp.seq (rN (pP rfl (pF rfl (pP rfl (pF rfl ?_))))))))
    refine AOps.lit tabOk (ys := [.v (.float .f64 y2.Lo), .v (.float .f64 y2.Hi)]) rfl rfl rfl rfl rfl rfl ?_
    refine al (((([y2.Lo, y2.Hi]).length : Nat) : Int)) rfl (pI rfl (dn (AWp.block ?_)))
    obtain ⟨I551, x552, hz553, hr554⟩ := h
    refine AWp.loop (I := fun p : Nat × Nat × Int => mkSt [(2, .dat (do3)), (4, .pt 4 [] 0), (6, .pt 6 [] 0), (7, .dat (.v (.float .f64 p.1))), (8, .dat (.v (.float .f64 p.2.1))), (10, .dat (.v (.float .f64 x490))), (21, .dat (.sl 28 1 (List.map (eFlt .f64) [x1.Lo, x1.Hi]))), (22, .dat (.v (.int .i64 ((([x1.Lo, x1.Hi]).length : Nat) : Int)))), (23, .dat (.v (.int .i64 x422))), (31, .dat (.sl 28 1 (List.map (eFlt .f64) [y2.Lo, y2.Hi]))), (32, .dat (.v (.int .i64 ((([y2.Lo, y2.Hi]).length : Nat) : Int)))), (33, .dat (.v (.int .i64 p.2.2)))] [(4, .box 35 2 (.dat (GIval.enc y2))), (6, .box 35 2 (.dat (GIval.enc GIval.zero)))]) (Inv := fun p => I551 p.1 p.2.1 p.2.2) (μ := fun p => x552 p.1 p.2.1 p.2.2) (x0 := ⟨lo420, hi421, (0 : Int)⟩) hz553 sl (fun p hp => ?_)
    obtain ⟨lo522, hi523, x524⟩ := p
    have h := hr554 lo522 hi523 x524 hp
    refine sN (pW rfl (dn (AWp.seq (cB h (fun h => ?_) (fun h => ?_)))))
    · refine AWp.skip (AWp.seq (AWp.block (AWp.seq (rN (kI h map_get rfl rfl rfl rfl rfl rfl rfl fun x538 h => ?_)))))
      refine pF rfl (pF rfl (dn (AWp.seq (rN ?_))))
      refine AOps.mv rfl rfl (.inl rfl) rfl ?_
      refine pF rfl (pF rfl ?_)
      obtain ⟨x540, hc541, h⟩ := h
      refine AOps.callv hc541 rfl rfl rfl rfl ⟨.inl rfl, .inl rfl, .inl rfl, trivial⟩ ?_
      refine AOps.mv rfl rfl (.inl rfl) rfl ?_
      refine pF rfl (pF rfl ?_)
      obtain ⟨x542, hc543, h⟩ := h
      refine AOps.callv hc543 rfl rfl rfl rfl ⟨.inl rfl, .inl rfl, .inl rfl, trivial⟩ ?_
      refine pF rfl (pF rfl (dn (AWp.seq (rN (pF rfl (kC h rfl ⟨.inl rfl, trivial⟩ rfl fun x544 h => ?_))))))
      refine pB rfl (dn (cB h (fun h => ?_) (fun h => ?_)))
      · refine rN (pF rfl (pF rfl ?_))
        obtain ⟨hq, x546, ex546, h⟩ := h.get
        refine AOps.v rfl rfl (Step.fmin rfl rfl rfl hq ex546) ?_
        refine pF rfl (pF rfl ?_)
        obtain ⟨hq, x547, ex547, h⟩ := h.get
        refine AOps.v rfl rfl (Step.fmax rfl rfl rfl hq ex547) ?_
        refine pF rfl (pF rfl (dn (rN ?_)))
        obtain ⟨x548, ex548, h⟩ := h.get
        refine ai ex548 rfl (pI rfl (dn ?_))
        exact ⟨⟨x546, x547, x548⟩, h.1, h.2, sl⟩
      refine AWp.skip (rN ?_)
      obtain ⟨x549, ex549, h⟩ := h.get
      refine ai ex549 rfl (pI rfl (dn ?_))
      exact ⟨⟨lo522, hi523, x549⟩, h.1, h.2, sl⟩
    refine AWp.exit ?_
    refine rN ?_
    obtain ⟨x550, ex550, h⟩ := h.get
    refine ai ex550 rfl (pI rfl (dn ?_))
    exact ⟨⟨lo522, hi523, x550⟩, h.1, h.2, sl⟩
  refine AWp.exit ?_
  refine sW (pF rfl (pF rfl (kC h rfl ⟨.inl rfl, .inl rfl, trivial⟩ rfl fun x555 h => ?_)))
  refine st (v := .dat (.st _ _)) ?_
  subst h; exact dn (AWp.ret ⟨_, rfl, rfl⟩)
def W_ival_Right (x1 : GIval) (Q : Bool → Prop) : Prop :=
 Call (Ev_ival_Empty) fun x12 =>
 Br (GIval.beq x1 x12) (Q true) (
  Br ((FloatKind.f64.format.order x1.Lo x1.Hi == some .lt) || (FloatKind.f64.format.order x1.Lo x1.Hi == some .eq)) (
   Call (Ev_math_Inf (1 : Int)) fun x14 =>
   Br (FloatKind.f64.format.order x1.Lo x14 == some .lt) (
    Call (Ev_math_Inf (-1 : Int)) fun x16 =>
    Br (FloatKind.f64.format.order x1.Hi x16 == some .gt) (
     Call (Ev_ival_plus x1.Lo) fun x18 =>
     Br x18 (
      Call (Ev_ival_plus x1.Hi) fun x20 =>
      Q x20) (
      Q false)) (
     Q false)) (
    Q false)) (
   Q false))
theorem walk_ival_Right {x1 : GIval} {r : Bool} (h : W_ival_Right x1 (fun r' => r' = r)) : Ev_ival_Right x1 r := by
  unfold W_ival_Right at h
  refine intr (L := [(0, .dat (GIval.enc x1))]) Tryz.func89 Tryz.ntmps89 ?_
  refine sN (bx (v := .dat (.st _ _)) ?_)
  refine pB rfl (dn (AWp.seq (rD (pT rfl (kC h rfl trivial rfl fun x12 h => ?_)))))
  refine AOps.eqs rfl rfl rfl rfl rfl rfl rfl (by decide +kernel) (GIval.eqok35 _ x1 x12) ?_
  refine pB rfl (sB 6 h (fun h => ?_) (fun h => ?_))
  · refine fo 27 rfl (pB rfl (pB rfl (dn (AWp.ret ?_))))
    subst h
    exact ⟨_, rfl, rfl⟩
  refine pP rfl (pF rfl (pP rfl (pF rfl (pB rfl (pB rfl (sB 12 h (fun h => ?_) (fun h => ?_)))))))
  · refine pP rfl (pF rfl (kC h rfl ⟨.inl rfl, trivial⟩ rfl fun x14 h => ?_))
    refine pB rfl (pB rfl (pB rfl (sB 18 h (fun h => ?_) (fun h => ?_))))
    · refine pP rfl (pF rfl (kC h rfl ⟨.inl rfl, trivial⟩ rfl fun x16 h => ?_))
      refine pB rfl (pB rfl (pB rfl (sB 24 h (fun h => ?_) (fun h => ?_))))
      · refine pP rfl (pF rfl (kC h rfl ⟨.inl rfl, trivial⟩ rfl fun x18 h => ?_))
        refine pB rfl (pB rfl (sB 29 h (fun h => ?_) (fun h => ?_)))
        · refine pP rfl (pF rfl (kC h rfl ⟨.inl rfl, trivial⟩ rfl fun x20 h => ?_))
          refine pB rfl (pB rfl (pB rfl (dn (AWp.ret ?_))))
          subst h
          exact ⟨_, rfl, rfl⟩
        refine fo 3 rfl (pB rfl (pB rfl (pB rfl (dn (AWp.ret ?_)))))
        subst h
        exact ⟨_, rfl, rfl⟩
      refine fo 3 rfl (pB rfl (pB rfl (fo 3 rfl (pB rfl (pB rfl (pB rfl (dn (AWp.ret ?_))))))))
      subst h
      exact ⟨_, rfl, rfl⟩
    refine fo 4 rfl (pB rfl (pB rfl (fo 3 rfl (pB rfl (pB rfl (fo 3 rfl (pB rfl (pB rfl (pB rfl (dn (AWp.ret ?_)))))))))))
    subst h
    exact ⟨_, rfl, rfl⟩
  refine fo 4 rfl (pB rfl (pB rfl (fo 4 rfl (pB rfl (pB rfl (fo 3 rfl (pB rfl (pB rfl (fo 3 rfl (pB rfl (pB rfl (pB rfl (dn (AWp.ret ?_))))))))))))))
  subst h
  exact ⟨_, rfl, rfl⟩
def W_ival_plus (v1 : Nat) (Q : Bool → Prop) : Prop :=
 Br (FloatKind.f64.format.order v1 (0 : Nat) != some .eq) (Q true) (
  Call (Ev_math_Signbit v1) fun x4 =>
  Q (!x4))
theorem walk_ival_plus {v1 : Nat} {r : Bool} (h : W_ival_plus v1 (fun r' => r' = r)) : Ev_ival_plus v1 r := by
  unfold W_ival_plus at h
  refine intr (L := [(0, .dat (.v (.float .f64 v1)))]) Tryz.func116 Tryz.ntmps116 ?_
  refine sN (pB rfl (dn (AWp.seq (rN (pF rfl (pB rfl (pB rfl (sB 5 h (fun h => ?_) (fun h => ?_)))))))))
  · refine fo 3 rfl (pB rfl (pB rfl (dn (AWp.ret ?_))))
    subst h
    exact ⟨_, rfl, rfl⟩
  refine pF rfl (kC h rfl ⟨.inl rfl, trivial⟩ rfl fun x4 h => ?_)
  refine pB rfl (pB rfl (pB rfl (dn (AWp.ret ?_))))
  subst h
  exact ⟨_, rfl, rfl⟩
end Go.Sim.YtlkpbnhinnhlfaaGreat
