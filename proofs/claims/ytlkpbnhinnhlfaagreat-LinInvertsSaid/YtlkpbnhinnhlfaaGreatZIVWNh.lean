/- What is proved: functions of the program compute what plain statements tell. -/
import Derived.Test.YtlkpbnhinnhlfaaGreatZIVWE

namespace Go.Sim.YtlkpbnhinnhlfaaGreat
open Go.RowKit Go.Proofs Go.Proofs.Tryz
set_option maxRecDepth 100000
-- NOT orrery/orrerylaw04.LinFrames: store to S
def W_law04_LinInverts (x1 : List (List Nat)) (Q : Bool → Prop) : Prop :=
 CallS (EvS_lin_Inverse x1) fun x2 =>
 Call (Ev_law04_square x1) fun x3 =>
 Br (!x3) (
  Br (x2.2 == (1 : Int)) (Q (((x2.1.length : Nat) : Int) == (0 : Int))) (
   Q false)) (
  Br (x2.2 != (0 : Int)) (
   Br (x2.2 == (40 : Int)) (Q (((x2.1.length : Nat) : Int) == (0 : Int))) (
    Q false)) (
   Call (Ev_ref04_Matrix x2.1) fun x22 =>
   Br (!x22) (Q false) (
    Br (((x2.1.length : Nat) : Int) != ((x1.length : Nat) : Int)) (Q false) (
     At x2.1 (0 : Int) fun x27 =>
     Br (((x27.length : Nat) : Int) != ((x1.length : Nat) : Int)) (Q false) (
      Br (decide (((x1.length : Nat) : Int) ≤ (3 : Int))) (
       Call (Ev_ref04_HoldsInverse x2.1 x1) fun x34 =>
       Q x34) (
       Call (Ev_ref04_Points x1) fun x36 =>
       Call (Ev_ref04_Mul x36 x2.1) fun x38 =>
       Loop1 (0 : Int) (fun (x418 : Int) next419 =>
        Br (decide (x418 < ((x38.length : Nat) : Int))) (
         At x38 x418 fun x482 =>
         Loop1 (0 : Int) (fun (x511 : Int) next512 =>
          Br (decide (x511 < ((x482.length : Nat) : Int))) (
           Join1 (fun j526 =>
            Br (x418 == x511) (j526 (4607182418800017408 : Nat)) (
             j526 (0 : Nat))
           ) (fun (x525 : Nat) =>
            At x38 x418 fun x528 =>
            At x528 x511 fun x531 =>
            Call (Ev_ref02_Has x531 x525) fun x533 =>
            Br (!x533) (Q false) (
             Let (IntKind.i64.wrap (x511 + (1 : Int))) fun x535 =>
             next512 x535))) (
           Let (IntKind.i64.wrap (x418 + (1 : Int))) fun x538 =>
           next419 x538))) (
         Q true))))))))
theorem walkS_law04_LinInverts {x1 : List (List Nat)} {R : Bool → Prop} (h : W_law04_LinInverts x1 R) : EvS_law04_LinInverts x1 R := by
  unfold W_law04_LinInverts at h
  refine AFnS.intro' (L := [(0, .dat (.sl 27 1 (List.map (eSl 28 1 (eFlt .f64)) x1)))]) tabOk Tryz.func4 rfl rfl Tryz.ntmps4 rfl rfl rfl ?_
  refine sN (pB rfl (dn (AWp.seq ?_)))
  refine AWp.regionL ?_
  refine NOps.split 1 (cf := (fun _ => false)) rfl ?_
  refine pS rfl (dn ?_)
  refine KN.callS h rfl rfl (fun _ h => h) rfl rfl rfl rfl ⟨.inl rfl, trivial⟩ fun x2 h => ?_
  refine NOps.tail (cf := (fun _ => false)) rfl rfl ?_
  refine pU rfl (pS rfl (pI rfl (pS rfl (pI rfl (dn (AWp.seq (AWp.seq (rN (pS rfl (kC h rfl ⟨.inl rfl, trivial⟩ rfl fun x3 h => ?_))))))))))
  refine pB rfl (dn (cB h (fun h => ?_) (fun h => ?_)))
  · refine sN (pI rfl (pB rfl (pB rfl (sB 19 h (fun h => ?_) (fun h => ?_)))))
    · refine pS rfl (al (((x2.1.length : Nat) : Int)) rfl (pB rfl (pB rfl (pB rfl (dn (AWp.ret ?_))))))
      exact ⟨_, rfl, _, h, rfl⟩
    refine fo 3 rfl (pB rfl (pB rfl (dn (AWp.ret ?_))))
    exact ⟨_, rfl, _, h, rfl⟩
  refine AWp.skip (AWp.seq (AWp.seq (rN (pI rfl (pB rfl (dn (cB h (fun h => ?_) (fun h => ?_))))))))
  · refine sN (pI rfl (pB rfl (pB rfl (sB 28 h (fun h => ?_) (fun h => ?_)))))
    · refine pS rfl (al (((x2.1.length : Nat) : Int)) rfl (pB rfl (pB rfl (pB rfl (dn (AWp.ret ?_))))))
      exact ⟨_, rfl, _, h, rfl⟩
    refine fo 3 rfl (pB rfl (pB rfl (dn (AWp.ret ?_))))
    exact ⟨_, rfl, _, h, rfl⟩
  refine AWp.skip (AWp.seq (AWp.seq (rN (pS rfl (kC h rfl ⟨.inl rfl, trivial⟩ rfl fun x22 h => ?_)))))
  refine pB rfl (pB rfl (sB 36 h (fun h => ?_) (fun h => ?_)))
  · refine fo 5 rfl (pB rfl (pB rfl (fo 7 rfl (pB rfl (dn ?_)))))
    refine AWp.condT rfl ?_
    refine sN (pB rfl (dn (AWp.ret ?_)))
    exact ⟨_, rfl, _, h, rfl⟩
  refine pS rfl (al (((x2.1.length : Nat) : Int)) rfl (pS rfl (al (((x1.length : Nat) : Int)) rfl (pB rfl (pB rfl (pB rfl (sB 43 h (fun h => ?_) (fun h => ?_))))))))
  · refine fo 7 rfl (pB rfl (dn ?_))
    refine AWp.condT rfl ?_
    refine sN (pB rfl (dn (AWp.ret ?_)))
    exact ⟨_, rfl, _, h, rfl⟩
  refine pS rfl (kI h map_get rfl rfl rfl rfl rfl rfl rfl fun x27 h => ?_)
  refine pS rfl (al (((x27.length : Nat) : Int)) rfl (pS rfl (al (((x1.length : Nat) : Int)) rfl (pB rfl (pB rfl (dn (cB h (fun h => ?_) (fun h => ?_))))))))
  · refine sN (pB rfl (dn (AWp.ret ?_)))
    exact ⟨_, rfl, _, h, rfl⟩
  refine AWp.skip (AWp.seq (AWp.seq (rN (pS rfl (al (((x1.length : Nat) : Int)) rfl (pB rfl (dn (cB h (fun h => ?_) (fun h => ?_)))))))))
  · refine sN (pS rfl (pS rfl (kC h rfl ⟨.inl rfl, .inl rfl, trivial⟩ rfl fun x34 h => ?_)))
    refine pB rfl (dn (AWp.ret ?_))
    exact ⟨_, rfl, _, h, rfl⟩
  refine AWp.skip (AWp.seq (rN (pS rfl (kC h rfl ⟨.inl rfl, trivial⟩ rfl fun x36 h => ?_))))
  refine pS rfl (kC h rfl ⟨.inl rfl, .inl rfl, trivial⟩ rfl fun x38 h => ?_)
  refine pS rfl (dn (AWp.seq (AWp.seq (rN (pS rfl (al (((x38.length : Nat) : Int)) rfl (pI rfl (dn (AWp.block ?_)))))))))
  obtain ⟨I543, x544, hz545, hr546⟩ := h
  refine AWp.loop (I := fun p : Int => mkSt [(5, .dat (.sl 33 1 (List.map (eSl 35 2 GIval.enc) x38))), (63, .dat (.v (.int .i64 ((x38.length : Nat) : Int)))), (64, .dat (.v (.int .i64 p)))] []) (Inv := fun p => I543 p) (μ := fun p => x544 p) (x0 := (0 : Int)) hz545 sl (fun p hp => ?_)
  have h := hr546 p hp
  revert h; clear hp; generalize p = x418; intro h
  refine sN (pW rfl (dn (AWp.seq (cB h (fun h => ?_) (fun h => ?_)))))
  · refine AWp.skip (AWp.seq (AWp.block (AWp.seq (rN (pI rfl (pI rfl (dn (AWp.seq (rN (pS rfl (pI rfl (kI h map_get rfl rfl rfl rfl rfl rfl rfl fun x482 h => ?_))))))))))))
    refine pS rfl (al (((x482.length : Nat) : Int)) rfl (pI rfl (dn (AWp.block ?_))))
    obtain ⟨I539, x540, hz541, hr542⟩ := h
    refine AWp.loop (I := fun p : Int => mkSt [(5, .dat (.sl 33 1 (List.map (eSl 35 2 GIval.enc) x38))), (6, .dat (.v (.int .i64 x418))), (63, .dat (.v (.int .i64 ((x38.length : Nat) : Int)))), (64, .dat (.v (.int .i64 x418))), (71, .dat (.v (.int .i64 ((x482.length : Nat) : Int)))), (72, .dat (.v (.int .i64 p)))] []) (Inv := fun p => I539 p) (μ := fun p => x540 p) (x0 := (0 : Int)) hz541 sl (fun p hp => ?_)
    have h := hr542 p hp
    revert h; clear hp; generalize p = x511; intro h
    refine sN (pW rfl (dn (AWp.seq (cB h (fun h => ?_) (fun h => ?_)))))
    · refine AWp.skip (AWp.seq (AWp.block (AWp.seq (rN (pI rfl (pI rfl (dn (AWp.seq (rN (pF rfl (dn (AWp.seq (AWp.seq (rN (pI rfl (pI rfl (pB rfl (dn ?_))))))))))))))))))
      obtain ⟨J536, h, hk537⟩ := h
      refine AWp.cutK (I := fun p : Nat => mkSt [(5, .dat (.sl 33 1 (List.map (eSl 35 2 GIval.enc) x38))), (6, .dat (.v (.int .i64 x418))), (7, .dat (.v (.int .i64 x511))), (8, .dat (.v (.float .f64 p))), (63, .dat (.v (.int .i64 ((x38.length : Nat) : Int)))), (64, .dat (.v (.int .i64 x418))), (71, .dat (.v (.int .i64 ((x482.length : Nat) : Int)))), (72, .dat (.v (.int .i64 x511)))] []) (Inv := fun p : Nat => J536 p) ?_ (fun p hp => ?_)
      · refine cB h (fun h => ?_) (fun h => ?_)
        · refine rN (pF rfl (dn ?_))
          exact ⟨(4607182418800017408 : Nat), h, sl⟩
        refine AWp.skip ?_
        exact ⟨(0 : Nat), h, sl⟩
      replace h := hk537 p hp
      revert h; clear hp; generalize p = x525; intro h
      refine sN (pS rfl (pI rfl (kI h map_get rfl rfl rfl rfl rfl rfl rfl fun x528 h => ?_)))
      refine pS rfl (pI rfl (kI h map_get rfl rfl rfl rfl rfl rfl rfl fun x531 h => ?_))
      refine pT rfl (pF rfl (kC h rfl ⟨.inl rfl, .inl rfl, trivial⟩ rfl fun x533 h => ?_))
      refine pB rfl (dn (cB h (fun h => ?_) (fun h => ?_)))
      · refine sN (pB rfl (dn (AWp.ret ?_)))
        exact ⟨_, rfl, _, h, rfl⟩
      refine AWp.skip (rN ?_)
      obtain ⟨x535, ex535, h⟩ := h.get
      refine ai ex535 rfl (pI rfl (dn ?_))
      exact ⟨x535, h.1, h.2, sl⟩
    refine AWp.exit ?_
    refine rN ?_
    obtain ⟨x538, ex538, h⟩ := h.get
    refine ai ex538 rfl (pI rfl (dn ?_))
    exact ⟨x538, h.1, h.2, sl⟩
  refine AWp.exit ?_
  refine sN (pB rfl (dn (AWp.ret ?_)))
  exact ⟨_, rfl, _, h, rfl⟩
-- NOT orrery/lin.Frame: append to D x66
def W_ref04_HoldsInverse (x1 : List (List GIval)) (a2 : List (List Nat)) (Q : Bool → Prop) : Prop :=
 Call (Ev_ref04_Nums a2) fun x3 =>
 Call (Ev_ref04_Det x3) fun x5 =>
 Call (Ev_ref01_Sign x5) fun x7 =>
 Br (x7 == (0 : Int)) (Q false) (
  Loop1 (0 : Int) (fun (x635 : Int) next636 =>
   Br (decide (x635 < ((x1.length : Nat) : Int))) (
    At x1 x635 fun x740 =>
    Loop1 (0 : Int) (fun (x790 : Int) next791 =>
     Br (decide (x790 < ((x740.length : Nat) : Int))) (
      Call (Ev_ref04_without x3 x790 x635) fun x814 =>
      Call (Ev_ref04_Det x814) fun x816 =>
      Let (IntKind.i64.wrap (x635 + x790)) fun x818 =>
      Let (Int.tmod x818 (2 : Int)) fun x819 =>
      Join1 (fun j823 =>
       Br (x819 == (1 : Int)) (
        Call (Ev_ref01_Minus x816) fun x824 =>
        j823 x824) (
        j823 x816)
      ) (fun (c822 : Gref01Num) =>
       At x1 x635 fun x827 =>
       At x827 x790 fun x830 =>
       Call (Ev_ref04_HoldsQuotient x830 c822 x5) fun x832 =>
       Br (!x832) (Q false) (
        Let (IntKind.i64.wrap (x790 + (1 : Int))) fun x834 =>
        next791 x834))) (
      Let (IntKind.i64.wrap (x635 + (1 : Int))) fun x837 =>
      next636 x837))) (
    Q true)))
theorem walk_ref04_HoldsInverse {x1 : List (List GIval)} {a2 : List (List Nat)} {r : Bool} (h : W_ref04_HoldsInverse x1 a2 (fun r' => r' = r)) : Ev_ref04_HoldsInverse x1 a2 r := by
  unfold W_ref04_HoldsInverse at h
  refine intr (L := [(0, .dat (.sl 33 1 (List.map (eSl 35 2 GIval.enc) x1))), (1, .dat (.sl 27 1 (List.map (eSl 28 1 (eFlt .f64)) a2)))]) Tryz.func15 Tryz.ntmps15 ?_
  refine sN (pB rfl (dn (AWp.seq (rN (pS rfl (kC h rfl ⟨.inl rfl, trivial⟩ rfl fun x3 h => ?_))))))
  refine pS rfl (dn (AWp.seq (rW (pS rfl (kC h rfl ⟨.inl rfl, trivial⟩ rfl fun x5 h => ?_)))))
  refine al0 ?_
  refine st (v := .dat (.st _ _)) ?_
  refine dn (AWp.seq (AWp.seq (rN (pT rfl (kC h rfl ⟨.inl rfl, trivial⟩ rfl fun x7 h => ?_)))))
  refine pB rfl (dn (cB h (fun h => ?_) (fun h => ?_)))
  · refine sN (pB rfl (dn (AWp.ret ?_)))
    subst h
    exact ⟨_, rfl, rfl⟩
  refine AWp.skip (AWp.seq (AWp.seq (rN (pS rfl (al (((x1.length : Nat) : Int)) rfl (pI rfl (dn (AWp.block ?_))))))))
  obtain ⟨I842, x843, hz844, hr845⟩ := h
  refine AWp.loop (I := fun p : Int => mkSt [(0, .dat (.sl 33 1 (List.map (eSl 35 2 GIval.enc) x1))), (5, .dat (.sl 104 1 (List.map (eSl 69 3 Gref01Num.enc) x3))), (6, .pt 6 [] 0), (18, .dat (.v (.int .i64 ((x1.length : Nat) : Int)))), (19, .dat (.v (.int .i64 p)))] [(6, .box 69 3 (.dat (Gref01Num.enc x5)))]) (Inv := fun p => I842 p) (μ := fun p => x843 p) (x0 := (0 : Int)) hz844 sl (fun p hp => ?_)
  have h := hr845 p hp
  revert h; clear hp; generalize p = x635; intro h
  refine sN (pW rfl (dn (AWp.seq (cB h (fun h => ?_) (fun h => ?_)))))
  · refine AWp.skip (AWp.seq (AWp.block (AWp.seq (rN (pI rfl (pI rfl (dn (AWp.seq (rN (pS rfl (pI rfl (kI h map_get rfl rfl rfl rfl rfl rfl rfl fun x740 h => ?_))))))))))))
    refine pS rfl (al (((x740.length : Nat) : Int)) rfl (pI rfl (dn (AWp.block ?_))))
    obtain ⟨I838, x839, hz840, hr841⟩ := h
    refine AWp.loop (I := fun p : Int => mkSt [(0, .dat (.sl 33 1 (List.map (eSl 35 2 GIval.enc) x1))), (5, .dat (.sl 104 1 (List.map (eSl 69 3 Gref01Num.enc) x3))), (6, .pt 6 [] 0), (7, .dat (.v (.int .i64 x635))), (18, .dat (.v (.int .i64 ((x1.length : Nat) : Int)))), (19, .dat (.v (.int .i64 x635))), (26, .dat (.v (.int .i64 ((x740.length : Nat) : Int)))), (27, .dat (.v (.int .i64 p)))] [(6, .box 69 3 (.dat (Gref01Num.enc x5)))]) (Inv := fun p => I838 p) (μ := fun p => x839 p) (x0 := (0 : Int)) hz840 sl (fun p hp => ?_)
    have h := hr841 p hp
    revert h; clear hp; generalize p = x790; intro h
    refine sN (pW rfl (dn (AWp.seq (cB h (fun h => ?_) (fun h => ?_)))))
    · refine AWp.skip (AWp.seq (AWp.block (AWp.seq (rN (pI rfl (pI rfl (dn (AWp.seq (rW (pS rfl (pI rfl (pI rfl (kC h rfl ⟨.inl rfl, .inl rfl, .inl rfl, trivial⟩ rfl fun x814 h => ?_)))))))))))))
      refine kC h rfl ⟨.inl rfl, trivial⟩ rfl fun x816 h => al0 ?_
      refine st (v := .dat (.st _ _)) ?_
      refine dn (AWp.seq (AWp.seq (rN (pI rfl (pI rfl ?_)))))
      obtain ⟨x818, ex818, h⟩ := h.get
      refine ai ex818 rfl ?_
      obtain ⟨x819, ex819, h⟩ := h.get
      refine AOps.q rfl rfl rfl rfl rfl (rbin_rem (by decide)) ex819 ?_
      refine pB rfl (dn ?_)
      obtain ⟨J835, h, hk836⟩ := h
      refine AWp.cutK (I := fun p : Gref01Num => mkSt [(0, .dat (.sl 33 1 (List.map (eSl 35 2 GIval.enc) x1))), (5, .dat (.sl 104 1 (List.map (eSl 69 3 Gref01Num.enc) x3))), (6, .pt 6 [] 0), (7, .dat (.v (.int .i64 x635))), (8, .dat (.v (.int .i64 x790))), (9, .pt 9 [] 0), (18, .dat (.v (.int .i64 ((x1.length : Nat) : Int)))), (19, .dat (.v (.int .i64 x635))), (26, .dat (.v (.int .i64 ((x740.length : Nat) : Int)))), (27, .dat (.v (.int .i64 x790)))] [(6, .box 69 3 (.dat (Gref01Num.enc x5))), (9, .box 69 3 (.dat (Gref01Num.enc p)))]) (Inv := fun p : Gref01Num => J835 p) ?_ (fun p hp => ?_)
      · refine cB h (fun h => ?_) (fun h => ?_)
        · refine rW (pT rfl (kC h rfl ⟨.inl rfl, trivial⟩ rfl fun x824 h => ?_))
          refine st (v := .dat (.st _ _)) ?_
          refine dn ?_
          exact ⟨x824, h, sl⟩
        refine AWp.skip ?_
        exact ⟨x816, h, sl⟩
      replace h := hk836 p hp
      revert h; clear hp; generalize p = c822; intro h
      refine sD (pS rfl (pI rfl (kI h map_get rfl rfl rfl rfl rfl rfl rfl fun x827 h => ?_)))
      refine pS rfl (pI rfl (kI h map_get rfl rfl rfl rfl rfl rfl rfl fun x830 h => ?_))
      refine pT rfl (pT rfl (pT rfl (kC h rfl ⟨.inl rfl, .inl rfl, .inl rfl, trivial⟩ rfl fun x832 h => ?_)))
      refine pB rfl (dn (cB h (fun h => ?_) (fun h => ?_)))
      · refine sN (pB rfl (dn (AWp.ret ?_)))
        subst h
        exact ⟨_, rfl, rfl⟩
      refine AWp.skip (rN ?_)
      obtain ⟨x834, ex834, h⟩ := h.get
      refine ai ex834 rfl (pI rfl (dn ?_))
      exact ⟨x834, h.1, h.2, sl⟩
    refine AWp.exit ?_
    refine rN ?_
    obtain ⟨x837, ex837, h⟩ := h.get
    refine ai ex837 rfl (pI rfl (dn ?_))
    exact ⟨x837, h.1, h.2, sl⟩
  refine AWp.exit ?_
  refine sN (pB rfl (dn (AWp.ret ?_)))
  subst h
  exact ⟨_, rfl, rfl⟩
-- NOT orrery/lin.apart: builtin copy
def W_ref04_HoldsQuotient (x1 : GIval) (a2 : Gref01Num) (b3 : Gref01Num) (Q : Bool → Prop) : Prop :=
 Call (Ev_ref02_None x1) fun x4 =>
 Br x4 (Q false) (
  Call (Ev_ref01_Sign b3) fun x6 =>
  Join2 (fun j14 =>
   Br (decide (x6 < (0 : Int))) (
    Call (Ev_ref01_Minus a2) fun x15 =>
    Call (Ev_ref01_Minus b3) fun x17 =>
    j14 x15 x17) (
    j14 a2 b3)
  ) (fun (a12 : Gref01Num) (b13 : Gref01Num) =>
   Join1 (fun j28 =>
    Call (Ev_ref04_finite x1.Lo) fun x29 =>
    Br (!x29) (j28 true) (
     Call (Ev_ref01_Float x1.Lo) fun x31 =>
     Call (Ev_ref01_Product x31 b13) fun x33 =>
     Call (Ev_ref01_Order x33 a12) fun x35 =>
     j28 (decide (x35 ≤ (0 : Int))))
   ) (fun (low27 : Bool) =>
    Join1 (fun j46 =>
     Call (Ev_ref04_finite x1.Hi) fun x47 =>
     Br (!x47) (j46 true) (
      Call (Ev_ref01_Float x1.Hi) fun x49 =>
      Call (Ev_ref01_Product x49 b13) fun x51 =>
      Call (Ev_ref01_Order x51 a12) fun x53 =>
      j46 (decide (x53 ≥ (0 : Int))))
    ) (fun (high45 : Bool) =>
     Br low27 (Q high45) (
      Q false)))))
theorem walk_ref04_HoldsQuotient {x1 : GIval} {a2 : Gref01Num} {b3 : Gref01Num} {r : Bool} (h : W_ref04_HoldsQuotient x1 a2 b3 (fun r' => r' = r)) : Ev_ref04_HoldsQuotient x1 a2 b3 r := by
  unfold W_ref04_HoldsQuotient at h
  refine intr (L := [(0, .dat (GIval.enc x1)), (1, .dat (Gref01Num.enc a2)), (2, .dat (Gref01Num.enc b3))]) Tryz.func50 Tryz.ntmps50 ?_
  refine sN (bx (v := .dat (.st _ _)) ?_)
  refine bx (v := .dat (.st _ _)) ?_
  refine bx (v := .dat (.st _ _)) ?_
  refine pB rfl (dn (AWp.seq (AWp.seq (rN (pT rfl (kC h rfl ⟨.inl rfl, trivial⟩ rfl fun x4 h => ?_))))))
  refine dn (cB h (fun h => ?_) (fun h => ?_))
  · refine sN (pB rfl (dn (AWp.ret ?_)))
    subst h
    exact ⟨_, rfl, rfl⟩
  refine AWp.skip (AWp.seq (AWp.seq (rN (pT rfl (kC h rfl ⟨.inl rfl, trivial⟩ rfl fun x6 h => ?_)))))
  refine pB rfl (dn ?_)
  obtain ⟨J59, h, hk60⟩ := h
  refine AWp.cutK (I := fun p : Gref01Num × Gref01Num => mkSt [(3, .pt 3 [] 0), (4, .pt 4 [] 0), (5, .pt 5 [] 0)] [(3, .box 35 2 (.dat (GIval.enc x1))), (4, .box 69 3 (.dat (Gref01Num.enc p.1))), (5, .box 69 3 (.dat (Gref01Num.enc p.2)))]) (Inv := fun p : Gref01Num × Gref01Num => J59 p.1 p.2) ?_ (fun p hp => ?_)
  · refine cB h (fun h => ?_) (fun h => ?_)
    · refine sW (pT rfl (kC h rfl ⟨.inl rfl, trivial⟩ rfl fun x15 h => ?_))
      refine st (v := .dat (.st _ _)) ?_
      refine dn (rW (pT rfl (kC h rfl ⟨.inl rfl, trivial⟩ rfl fun x17 h => ?_)))
      refine st (v := .dat (.st _ _)) ?_
      refine dn ?_
      exact ⟨⟨x15, x17⟩, h, sl⟩
    refine AWp.skip ?_
    exact ⟨⟨a2, b3⟩, h, sl⟩
  obtain ⟨a12, b13⟩ := p
  replace h := hk60 a12 b13 hp
  refine AWp.seq ?_
  obtain ⟨J57, h, hk58⟩ := h
  refine AWp.cutK (I := fun p : Bool => mkSt [(3, .pt 3 [] 0), (4, .pt 4 [] 0), (5, .pt 5 [] 0), (7, .dat (.v (.bool p)))] [(3, .box 35 2 (.dat (GIval.enc x1))), (4, .box 69 3 (.dat (Gref01Num.enc a12))), (5, .box 69 3 (.dat (Gref01Num.enc b13)))]) (Inv := fun p : Bool => J57 p) ?_ (fun p hp => ?_)
  · refine rD (pP rfl (pF rfl (kC h rfl ⟨.inl rfl, trivial⟩ rfl fun x29 h => ?_)))
    refine pB rfl (pB rfl (sB 22 h (fun h => ?_) (fun h => ?_)))
    · refine fo 8 rfl (pB rfl (pB rfl (dn ?_)))
      exact ⟨true, h, sl⟩
    refine pP rfl (pF rfl (kC h rfl ⟨.inl rfl, trivial⟩ rfl fun x31 h => ?_))
    refine pT rfl (kC h rfl ⟨.inl rfl, .inl rfl, trivial⟩ rfl fun x33 h => ?_)
    refine pT rfl (kC h rfl ⟨.inl rfl, .inl rfl, trivial⟩ rfl fun x35 h => ?_)
    refine pB rfl (pB rfl (pB rfl (dn ?_)))
    exact ⟨(decide (x35 ≤ (0 : Int))), h, sl⟩
  replace h := hk58 p hp
  revert h; clear hp; generalize p = low27; intro h
  refine AWp.seq ?_
  obtain ⟨J55, h, hk56⟩ := h
  refine AWp.cutK (I := fun p : Bool => mkSt [(7, .dat (.v (.bool low27))), (8, .dat (.v (.bool p)))] []) (Inv := fun p : Bool => J55 p) ?_ (fun p hp => ?_)
  · refine rD (pP rfl (pF rfl (kC h rfl ⟨.inl rfl, trivial⟩ rfl fun x47 h => ?_)))
    refine pB rfl (pB rfl (sB 36 h (fun h => ?_) (fun h => ?_)))
    · refine fo 8 rfl (pB rfl (pB rfl (dn ?_)))
      exact ⟨true, h, sl⟩
    refine pP rfl (pF rfl (kC h rfl ⟨.inl rfl, trivial⟩ rfl fun x49 h => ?_))
    refine pT rfl (kC h rfl ⟨.inl rfl, .inl rfl, trivial⟩ rfl fun x51 h => ?_)
    refine pT rfl (kC h rfl ⟨.inl rfl, .inl rfl, trivial⟩ rfl fun x53 h => ?_)
    refine pB rfl (pB rfl (pB rfl (dn ?_)))
    exact ⟨(decide (x53 ≥ (0 : Int))), h, sl⟩
  replace h := hk56 p hp
  revert h; clear hp; generalize p = high45; intro h
  refine sN (pB rfl (pB rfl (sB 47 h (fun h => ?_) (fun h => ?_))))
  · refine pB rfl (pB rfl (pB rfl (dn (AWp.ret ?_))))
    subst h
    exact ⟨_, rfl, rfl⟩
  refine ff rfl (pB rfl (pB rfl (dn (AWp.ret ?_))))
  subst h
  exact ⟨_, rfl, rfl⟩
end Go.Sim.YtlkpbnhinnhlfaaGreat
