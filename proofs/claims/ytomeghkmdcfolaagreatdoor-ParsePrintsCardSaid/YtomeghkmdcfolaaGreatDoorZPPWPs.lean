/- What is proved: functions of the program compute what plain statements tell. -/
import Derived.Test.YtomeghkmdcfolaaGreatDoorZPPWE

namespace Go.Sim.YtomeghkmdcfolaaGreatDoor
open Go.RowKit Go.Proofs Go.Proofs.Tryz
set_option maxRecDepth 100000
def W_ref13_one (x1 : GTree) (Q : Bool -> Prop) : Prop :=
 Call (Ev_ref13_spec x1.Kind) fun x2 =>
 Join1 (fun j15 =>
 Br (!x2.2) (j15 true) (
 Call (Ev_ref13_has x2.1.Has (78 : Int)) fun x16 =>
 Call (Ev_ref13_name x1.Name x16) fun x18 =>
 Br (!x18) (j15 true) (
 Call (Ev_ref13_has x2.1.Has (65 : Int)) fun x20 =>
 Call (Ev_ref13_name x1.Alias x20) fun x22 =>
 Br (!x22) (j15 true) (
 Br x1.Flag (
 Call (Ev_ref13_has x2.1.Has (70 : Int)) fun x24 =>
 j15 (!x24)) (
 j15 false))))
 ) (fun (x14 : Bool) =>
 Br x14 (Q false) (
 Br (decide (x1.N < x2.1.From)) (Q false) (
 Br (decide (x1.N > x2.1.To)) (Q false) (
 Br (decide (x1.M < (0 : Int))) (Q false) (
 Br (decide (x1.M > x2.1.M)) (Q false) (
 Call (Ev_ref13_kids x1.Kids x2.1.Kids) fun x28 =>
 Br (!x28) (Q false) (
 Br (x1.Kind == (1 : Int)) (
 Call (Ev_ref13_Decimal x1.Num) fun x48 =>
 Q x48) (
 Br (x1.Kind == (24 : Int)) (
 Call (Ev_ref11_Right x1.Num) fun x52 =>
 Br x52 (
 Br (decide (x1.Num.N >= (-64 : Int))) (
 Br (decide (x1.Num.N <= (64 : Int))) (Q (decide (x1.Num.D <= (64 : Int)))) (
 Q false)) (
 Q false)) (
 Q false)) (
 Br (x1.Kind == (3 : Int)) (
 Br (GRat.beq x1.Num GRat.zero) (
 Br (((x1.Kids.length : Nat) : Int) == (0 : Int)) (Q true) (
 At x1.Kids (0 : Int) fun x62 =>
 Call (Ev_ref13_isIndex x62) fun x64 =>
 Q x64)) (
 Q false)) (
 Q (GRat.beq x1.Num GRat.zero)))))))))))
theorem walk_ref13_one {x1 : GTree} {r : Bool} (h : W_ref13_one x1 (fun r' => r' = r)) : Ev_ref13_one x1 r := by
 unfold W_ref13_one at h
 refine intr (L := [(0, .dat (GTree.out x1))]) Tryz.func66 Tryz.ntmps66 ?_
 refine sN (bx (v := .dat (.st _ _)) ?_)
 refine pB rfl (dn (AWp.seq (rW (pP rfl (pI rfl (kC h rfl ⟨.inl rfl, trivial⟩ rfl fun x2 h => ?_))))))
 refine pU rfl (pT rfl (pB rfl (al0 ?_)))
 refine st (v := .dat (.st _ _)) ?_
 refine pB rfl (dn (AWp.seq (AWp.seq ?_)))
 obtain ⟨J66, h, hk67⟩ := h
 refine AWp.cutK (I := fun p : Bool => mkSt [(1, .pt 1 [] 0), (3, .pt 3 [] 0), (40, .dat (.v (.bool p)))] [(1, .box 26 9 (.dat (GTree.out x1))), (3, .box 102 5 (.dat (Gref13Spec.enc x2.1)))]) (Inv := fun p : Bool => J66 p) ?_ (fun p hp => ?_)
 ·refine rD (pB rfl (pB rfl (pB rfl (sB 13 h (fun h => ?_) (fun h => ?_)))))
  ·refine fo 7 rfl (pB rfl (pB rfl (fo 7 rfl (pB rfl (pB rfl (fo 8 rfl (pB rfl (dn ?_))))))))
   exact ⟨true, h, sl⟩
  refine pP rfl (pG rfl (pP rfl (pG rfl (kC h rfl ⟨.inl rfl, .inl rfl, trivial⟩ rfl fun x16 h => ?_))))
  refine kC h rfl ⟨.inl rfl, .inl rfl, trivial⟩ rfl fun x18 h => pB rfl ?_
  refine pB rfl (pB rfl (sB 22 h (fun h => ?_) (fun h => ?_)))
  ·refine fo 7 rfl (pB rfl (pB rfl (fo 8 rfl (pB rfl (dn ?_)))))
   exact ⟨true, h, sl⟩
  refine pP rfl (pG rfl (pP rfl (pG rfl (kC h rfl ⟨.inl rfl, .inl rfl, trivial⟩ rfl fun x20 h => ?_))))
  refine kC h rfl ⟨.inl rfl, .inl rfl, trivial⟩ rfl fun x22 h => pB rfl ?_
  refine pB rfl (pB rfl (sB 31 h (fun h => ?_) (fun h => ?_)))
  ·refine fo 8 rfl (pB rfl (dn ?_))
   exact ⟨true, h, sl⟩
  refine pP rfl (pB rfl (pB rfl (sB 34 h (fun h => ?_) (fun h => ?_))))
  ·refine pP rfl (pG rfl (kC h rfl ⟨.inl rfl, .inl rfl, trivial⟩ rfl fun x24 h => ?_))
   refine pB rfl (pB rfl (pB rfl (dn ?_)))
   exact ⟨(!x24), h, sl⟩
  refine fo 4 rfl (pB rfl (pB rfl (dn ?_)))
  exact ⟨false, h, sl⟩
 replace h := hk67 p hp
 revert h; clear hp; generalize p = x14; intro h
 refine cB h (fun h => ?_) (fun h => ?_)
 ·refine sN (pB rfl (dn (AWp.ret ?_)))
  subst h
  exact ⟨_, rfl, rfl⟩
 refine AWp.skip (AWp.seq (AWp.seq (rN (pP rfl (pI rfl (pP rfl (pI rfl (pB rfl (pB rfl (sB 46 h (fun h => ?_) (fun h => ?_)))))))))))
 ·refine fo 5 rfl (pB rfl (pB rfl (fo 3 rfl (pB rfl (pB rfl (fo 5 rfl (pB rfl (pB rfl (fo 6 rfl (pB rfl (dn ?_)))))))))))
  refine AWp.condT rfl ?_
  refine sN (pB rfl (dn (AWp.ret ?_)))
  subst h
  exact ⟨_, rfl, rfl⟩
 refine pP rfl (pI rfl (pP rfl (pI rfl (pB rfl (pB rfl (pB rfl (sB 53 h (fun h => ?_) (fun h => ?_))))))))
 ·refine fo 3 rfl (pB rfl (pB rfl (fo 5 rfl (pB rfl (pB rfl (fo 6 rfl (pB rfl (dn ?_))))))))
  refine AWp.condT rfl ?_
  refine sN (pB rfl (dn (AWp.ret ?_)))
  subst h
  exact ⟨_, rfl, rfl⟩
 refine pP rfl (pI rfl (pB rfl (pB rfl (pB rfl (sB 58 h (fun h => ?_) (fun h => ?_))))))
 ·refine fo 5 rfl (pB rfl (pB rfl (fo 6 rfl (pB rfl (dn ?_)))))
  refine AWp.condT rfl ?_
  refine sN (pB rfl (dn (AWp.ret ?_)))
  subst h
  exact ⟨_, rfl, rfl⟩
 refine pP rfl (pI rfl (pP rfl (pI rfl (pB rfl (pB rfl (pB rfl (sB 65 h (fun h => ?_) (fun h => ?_))))))))
 ·refine fo 6 rfl (pB rfl (dn ?_))
  refine AWp.condT rfl ?_
  refine sN (pB rfl (dn (AWp.ret ?_)))
  subst h
  exact ⟨_, rfl, rfl⟩
 refine pP rfl (pS rfl (pP rfl (pG rfl (kC h rfl ⟨.inl rfl, .inl rfl, trivial⟩ rfl fun x28 h => ?_))))
 refine pB rfl (pB rfl (dn (cB h (fun h => ?_) (fun h => ?_))))
 ·refine sN (pB rfl (dn (AWp.ret ?_)))
  subst h
  exact ⟨_, rfl, rfl⟩
 refine AWp.skip (AWp.seq (AWp.seq (rN (pP rfl (pI rfl (dn (AWp.block (AWp.seq (rN (pB rfl (pB rfl (dn (cB h (fun h => ?_) (fun h => ?_))))))))))))))
 ·refine sN (pP rfl (pT rfl (kC h rfl ⟨.inl rfl, trivial⟩ rfl fun x48 h => ?_)))
  refine pB rfl (dn (AWp.ret ?_))
  subst h
  exact ⟨_, rfl, rfl⟩
 refine sN (pB rfl (pB rfl (dn (cB h (fun h => ?_) (fun h => ?_)))))
 ·refine sN (pP rfl (pT rfl (kC h rfl ⟨.inl rfl, trivial⟩ rfl fun x52 h => ?_)))
  refine pB rfl (sB 85 h (fun h => ?_) (fun h => ?_))
  ·refine pP rfl (pP rfl (pI rfl (pB rfl (pB rfl (pB rfl (sB 91 h (fun h => ?_) (fun h => ?_)))))))
   ·refine pP rfl (pP rfl (pI rfl (pB rfl (pB rfl (pB rfl (sB 97 h (fun h => ?_) (fun h => ?_)))))))
    ·refine pP rfl (pP rfl (pI rfl (pB rfl (pB rfl (pB rfl (dn (AWp.ret ?_)))))))
     subst h
     exact ⟨_, rfl, rfl⟩
    refine fo 4 rfl (pB rfl (pB rfl (dn (AWp.ret ?_))))
    subst h
    exact ⟨_, rfl, rfl⟩
   refine fo 4 rfl (pB rfl (pB rfl (fo 4 rfl (pB rfl (pB rfl (dn (AWp.ret ?_)))))))
   subst h
   exact ⟨_, rfl, rfl⟩
  refine fo 4 rfl (pB rfl (pB rfl (fo 4 rfl (pB rfl (pB rfl (fo 4 rfl (pB rfl (pB rfl (dn (AWp.ret ?_))))))))))
  subst h
  exact ⟨_, rfl, rfl⟩
 refine sN (pB rfl (pB rfl (dn (cB h (fun h => ?_) (fun h => ?_)))))
 ·refine sN (pP rfl (pT rfl (pT rfl ?_)))
  refine AOps.eqs rfl rfl rfl rfl rfl rfl rfl (by decide +kernel) (GRat.eqok23 _ x1.Num GRat.zero) ?_
  refine pB rfl (sB 109 h (fun h => ?_) (fun h => ?_))
  ·refine pP rfl (pS rfl (al (((x1.Kids.length : Nat) : Int)) rfl (pB rfl (pB rfl (sB 114 h (fun h => ?_) (fun h => ?_))))))
   ·refine fo 5 rfl (pB rfl (pB rfl (pB rfl (dn (AWp.ret ?_)))))
    subst h
    exact ⟨_, rfl, rfl⟩
   refine pP rfl (pS rfl (kI h GTree.get rfl rfl rfl rfl rfl rfl rfl fun x62 h => ?_))
   refine pT rfl (kC h rfl ⟨.inl rfl, trivial⟩ rfl fun x64 h => ?_)
   refine pB rfl (pB rfl (pB rfl (dn (AWp.ret ?_))))
   subst h
   exact ⟨_, rfl, rfl⟩
  refine fo 11 rfl (pB rfl (pB rfl (dn (AWp.ret ?_))))
  subst h
  exact ⟨_, rfl, rfl⟩
 refine AWp.skip (AWp.seq (rN (pP rfl (pT rfl (pT rfl ?_)))))
 refine AOps.eqs rfl rfl rfl rfl rfl rfl rfl (by decide +kernel) (GRat.eqok23 _ x1.Num GRat.zero) ?_
 refine pB rfl (dn (AWp.ret ?_))
 subst h
 exact ⟨_, rfl, rfl⟩
def W_ref13_spec (x1 : Int) (Q : Gref13Spec × Bool -> Prop) : Prop :=
 Br (x1 == (30 : Int)) (Q ((Gref13Spec.mk (ByteArray.mk #[]) (0 : Int) (0 : Int) (0 : Int) (ByteArray.mk #[117, 42])), true)) (
 Br (x1 == (31 : Int)) (Q ((Gref13Spec.mk (ByteArray.mk #[78]) (0 : Int) (0 : Int) (0 : Int) (ByteArray.mk #[100, 63])), true)) (
 Br (x1 == (32 : Int)) (Q ((Gref13Spec.mk (ByteArray.mk #[78]) (1 : Int) (2 : Int) (0 : Int) (ByteArray.mk #[73, 42])), true)) (
 Br (x1 == (33 : Int)) (Q ((Gref13Spec.mk (ByteArray.mk #[78]) (0 : Int) (0 : Int) (0 : Int) (ByteArray.mk #[116, 69])), true)) (
 Br (x1 == (34 : Int)) (Q ((Gref13Spec.mk (ByteArray.mk #[78, 70]) (0 : Int) (1000000 : Int) (0 : Int) (ByteArray.mk #[116])), true)) (
 Br (x1 == (35 : Int)) (Q ((Gref13Spec.mk (ByteArray.mk #[78, 65]) (0 : Int) (1000000 : Int) (0 : Int) (ByteArray.mk #[109, 42])), true)) (
 Br (x1 == (36 : Int)) (Q ((Gref13Spec.mk (ByteArray.mk #[78]) (0 : Int) (0 : Int) (0 : Int) (ByteArray.mk #[69])), true)) (
 Br (x1 == (37 : Int)) (Q ((Gref13Spec.mk (ByteArray.mk #[]) (0 : Int) (0 : Int) (0 : Int) (ByteArray.mk #[83, 69, 69])), true)) (
 Br (x1 == (38 : Int)) (Q ((Gref13Spec.mk (ByteArray.mk #[]) (0 : Int) (0 : Int) (0 : Int) (ByteArray.mk #[102, 102])), true)) (
 Join1 (fun j15 =>
 Br (x1 == (39 : Int)) (j15 (x1 == (39 : Int))) (
 Br (x1 == (8 : Int)) (j15 (x1 == (8 : Int))) (
 Br (x1 == (9 : Int)) (j15 (x1 == (9 : Int))) (
 Br (x1 == (10 : Int)) (j15 (x1 == (10 : Int))) (
 j15 (x1 == (11 : Int))))))
 ) (fun (x14 : Bool) =>
 Br x14 (Q ((Gref13Spec.mk (ByteArray.mk #[]) (0 : Int) (0 : Int) (0 : Int) (ByteArray.mk #[69, 69])), true)) (
 Br (x1 == (40 : Int)) (Q ((Gref13Spec.mk (ByteArray.mk #[78]) (0 : Int) (1000000 : Int) (1000000 : Int) (ByteArray.mk #[114, 42])), true)) (
 Br (x1 == (41 : Int)) (Q ((Gref13Spec.mk (ByteArray.mk #[]) (0 : Int) (0 : Int) (0 : Int) (ByteArray.mk #[100, 63])), true)) (
 Br (x1 == (1 : Int)) (Q ((Gref13Spec.mk (ByteArray.mk #[82]) (0 : Int) (0 : Int) (0 : Int) (ByteArray.mk #[])), true)) (
 Br (x1 == (2 : Int)) (Q ((Gref13Spec.mk (ByteArray.mk #[]) (0 : Int) (0 : Int) (0 : Int) (ByteArray.mk #[120, 43])), true)) (
 Br (x1 == (3 : Int)) (Q ((Gref13Spec.mk (ByteArray.mk #[78]) (0 : Int) (0 : Int) (0 : Int) (ByteArray.mk #[69, 63])), true)) (
 Br (x1 == (4 : Int)) (Q ((Gref13Spec.mk (ByteArray.mk #[]) (0 : Int) (0 : Int) (0 : Int) (ByteArray.mk #[102])), true)) (
 Join1 (fun j17 =>
 Br (x1 == (5 : Int)) (j17 (x1 == (5 : Int))) (
 j17 (x1 == (20 : Int)))
 ) (fun (x16 : Bool) =>
 Br x16 (Q ((Gref13Spec.mk (ByteArray.mk #[]) (0 : Int) (0 : Int) (0 : Int) (ByteArray.mk #[])), true)) (
 Br (x1 == (6 : Int)) (Q ((Gref13Spec.mk (ByteArray.mk #[]) (9 : Int) (14 : Int) (0 : Int) (ByteArray.mk #[69])), true)) (
 Br (x1 == (7 : Int)) (Q ((Gref13Spec.mk (ByteArray.mk #[]) (0 : Int) (0 : Int) (0 : Int) (ByteArray.mk #[69])), true)) (
 Br (x1 == (12 : Int)) (Q ((Gref13Spec.mk (ByteArray.mk #[]) (-64 : Int) (64 : Int) (0 : Int) (ByteArray.mk #[69])), true)) (
 Br (x1 == (21 : Int)) (Q ((Gref13Spec.mk (ByteArray.mk #[78]) (0 : Int) (0 : Int) (0 : Int) (ByteArray.mk #[])), true)) (
 Join1 (fun j19 =>
 Br (x1 == (22 : Int)) (j19 (x1 == (22 : Int))) (
 j19 (x1 == (23 : Int)))
 ) (fun (x18 : Bool) =>
 Br x18 (Q ((Gref13Spec.mk (ByteArray.mk #[]) (0 : Int) (0 : Int) (0 : Int) (ByteArray.mk #[100, 100])), true)) (
 Br (x1 == (24 : Int)) (Q ((Gref13Spec.mk (ByteArray.mk #[82]) (0 : Int) (0 : Int) (0 : Int) (ByteArray.mk #[100])), true)) (
 Q (Gref13Spec.zero, false)))))))))))))))))))))))))))
theorem walk_ref13_spec {x1 : Int} {r : Gref13Spec × Bool} (h : W_ref13_spec x1 (fun r' => r' = r)) : Ev_ref13_spec x1 r := by
 unfold W_ref13_spec at h
 refine intr (L := [(0, .dat (.v (.int .i64 x1)))]) Tryz.func102 Tryz.ntmps102 ?_
 refine sN (al0 ?_)
 refine pB rfl (dn (AWp.seq (rN (pI rfl (dn (AWp.seq (AWp.seq (rN (pI rfl (dn (AWp.block (AWp.seq (rN (pB rfl (pB rfl (dn (cB h (fun h => ?_) (fun h => ?_))))))))))))))))))
 ·refine sW (pT rfl (st (v := .dat (.st _ _)) ?_))
  refine pB rfl (dn (AWp.ret ?_))
  subst h
  exact ⟨_, rfl, rfl⟩
 refine sN (pB rfl (pB rfl (dn (cB h (fun h => ?_) (fun h => ?_)))))
 ·refine sW (pT rfl (st (v := .dat (.st _ _)) ?_))
  refine pB rfl (dn (AWp.ret ?_))
  subst h
  exact ⟨_, rfl, rfl⟩
 refine sN (pB rfl (pB rfl (dn (cB h (fun h => ?_) (fun h => ?_)))))
 ·refine sW (pT rfl (st (v := .dat (.st _ _)) ?_))
  refine pB rfl (dn (AWp.ret ?_))
  subst h
  exact ⟨_, rfl, rfl⟩
 refine sN (pB rfl (pB rfl (dn (cB h (fun h => ?_) (fun h => ?_)))))
 ·refine sW (pT rfl (st (v := .dat (.st _ _)) ?_))
  refine pB rfl (dn (AWp.ret ?_))
  subst h
  exact ⟨_, rfl, rfl⟩
 refine sN (pB rfl (pB rfl (dn (cB h (fun h => ?_) (fun h => ?_)))))
 ·refine sW (pI rfl (pT rfl (st (v := .dat (.st _ _)) ?_)))
  refine pB rfl (dn (AWp.ret ?_))
  subst h
  exact ⟨_, rfl, rfl⟩
 refine sN (pB rfl (pB rfl (dn (cB h (fun h => ?_) (fun h => ?_)))))
 ·refine sW (pI rfl (pT rfl (st (v := .dat (.st _ _)) ?_)))
  refine pB rfl (dn (AWp.ret ?_))
  subst h
  exact ⟨_, rfl, rfl⟩
 refine sN (pB rfl (pB rfl (dn (cB h (fun h => ?_) (fun h => ?_)))))
 ·refine sW (pT rfl (st (v := .dat (.st _ _)) ?_))
  refine pB rfl (dn (AWp.ret ?_))
  subst h
  exact ⟨_, rfl, rfl⟩
 refine sN (pB rfl (pB rfl (dn (cB h (fun h => ?_) (fun h => ?_)))))
 ·refine sW (pT rfl (st (v := .dat (.st _ _)) ?_))
  refine pB rfl (dn (AWp.ret ?_))
  subst h
  exact ⟨_, rfl, rfl⟩
 refine sN (pB rfl (pB rfl (dn (cB h (fun h => ?_) (fun h => ?_)))))
 ·refine sW (pT rfl (st (v := .dat (.st _ _)) ?_))
  refine pB rfl (dn (AWp.ret ?_))
  subst h
  exact ⟨_, rfl, rfl⟩
 refine AWp.seq (AWp.seq (rN (pB rfl (pB rfl (dn ?_)))))
 obtain ⟨J24, h, hk25⟩ := h
 refine AWp.cutK (I := fun p : Bool => mkSt [(2, .pt 2 [] 0), (4, .dat (.v (.int .i64 (1000000 : Int)))), (5, .dat (.v (.int .i64 x1))), (35, .dat (.v (.bool p)))] [(2, .box 102 5 (.dat (Gref13Spec.enc Gref13Spec.zero)))]) (Inv := fun p : Bool => J24 p) ?_ (fun p hp => ?_)
 ·refine cB h (fun h => ?_) (fun h => ?_)
  ·refine AWp.skip ?_
   exact ⟨(x1 == (39 : Int)), h, sl⟩
  refine sN (pB rfl (pB rfl (dn (cB h (fun h => ?_) (fun h => ?_)))))
  ·refine AWp.skip ?_
   exact ⟨(x1 == (8 : Int)), h, sl⟩
  refine sN (pB rfl (pB rfl (dn (cB h (fun h => ?_) (fun h => ?_)))))
  ·refine AWp.skip ?_
   exact ⟨(x1 == (9 : Int)), h, sl⟩
  refine sN (pB rfl (pB rfl (dn (cB h (fun h => ?_) (fun h => ?_)))))
  ·refine AWp.skip ?_
   exact ⟨(x1 == (10 : Int)), h, sl⟩
  refine rN (pB rfl (pB rfl (dn ?_)))
  exact ⟨(x1 == (11 : Int)), h, sl⟩
 replace h := hk25 p hp
 revert h; clear hp; generalize p = x14; intro h
 refine cB h (fun h => ?_) (fun h => ?_)
 ·refine sW (pT rfl (st (v := .dat (.st _ _)) ?_))
  refine pB rfl (dn (AWp.ret ?_))
  subst h
  exact ⟨_, rfl, rfl⟩
 refine sN (pB rfl (pB rfl (dn (cB h (fun h => ?_) (fun h => ?_)))))
 ·refine sW (pI rfl (pI rfl (pT rfl (st (v := .dat (.st _ _)) ?_))))
  refine pB rfl (dn (AWp.ret ?_))
  subst h
  exact ⟨_, rfl, rfl⟩
 refine sN (pB rfl (pB rfl (dn (cB h (fun h => ?_) (fun h => ?_)))))
 ·refine sW (pT rfl (st (v := .dat (.st _ _)) ?_))
  refine pB rfl (dn (AWp.ret ?_))
  subst h
  exact ⟨_, rfl, rfl⟩
 refine sN (pB rfl (pB rfl (dn (cB h (fun h => ?_) (fun h => ?_)))))
 ·refine sW (pT rfl (st (v := .dat (.st _ _)) ?_))
  refine pB rfl (dn (AWp.ret ?_))
  subst h
  exact ⟨_, rfl, rfl⟩
 refine sN (pB rfl (pB rfl (dn (cB h (fun h => ?_) (fun h => ?_)))))
 ·refine sW (pT rfl (st (v := .dat (.st _ _)) ?_))
  refine pB rfl (dn (AWp.ret ?_))
  subst h
  exact ⟨_, rfl, rfl⟩
 refine sN (pB rfl (pB rfl (dn (cB h (fun h => ?_) (fun h => ?_)))))
 ·refine sW (pT rfl (st (v := .dat (.st _ _)) ?_))
  refine pB rfl (dn (AWp.ret ?_))
  subst h
  exact ⟨_, rfl, rfl⟩
 refine sN (pB rfl (pB rfl (dn (cB h (fun h => ?_) (fun h => ?_)))))
 ·refine sW (pT rfl (st (v := .dat (.st _ _)) ?_))
  refine pB rfl (dn (AWp.ret ?_))
  subst h
  exact ⟨_, rfl, rfl⟩
 refine AWp.seq (AWp.seq (rN (pB rfl (pB rfl (dn ?_)))))
 obtain ⟨J22, h, hk23⟩ := h
 refine AWp.cutK (I := fun p : Bool => mkSt [(2, .pt 2 [] 0), (5, .dat (.v (.int .i64 x1))), (62, .dat (.v (.bool p)))] [(2, .box 102 5 (.dat (Gref13Spec.enc Gref13Spec.zero)))]) (Inv := fun p : Bool => J22 p) ?_ (fun p hp => ?_)
 ·refine cB h (fun h => ?_) (fun h => ?_)
  ·refine AWp.skip ?_
   exact ⟨(x1 == (5 : Int)), h, sl⟩
  refine rN (pB rfl (pB rfl (dn ?_)))
  exact ⟨(x1 == (20 : Int)), h, sl⟩
 replace h := hk23 p hp
 revert h; clear hp; generalize p = x16; intro h
 refine cB h (fun h => ?_) (fun h => ?_)
 ·refine sW (pT rfl (st (v := .dat (.st _ _)) ?_))
  refine pB rfl (dn (AWp.ret ?_))
  subst h
  exact ⟨_, rfl, rfl⟩
 refine sN (pB rfl (pB rfl (dn (cB h (fun h => ?_) (fun h => ?_)))))
 ·refine sW (pT rfl (st (v := .dat (.st _ _)) ?_))
  refine pB rfl (dn (AWp.ret ?_))
  subst h
  exact ⟨_, rfl, rfl⟩
 refine sN (pB rfl (pB rfl (dn (cB h (fun h => ?_) (fun h => ?_)))))
 ·refine sW (pT rfl (st (v := .dat (.st _ _)) ?_))
  refine pB rfl (dn (AWp.ret ?_))
  subst h
  exact ⟨_, rfl, rfl⟩
 refine sN (pB rfl (pB rfl (dn (cB h (fun h => ?_) (fun h => ?_)))))
 ·refine sW (pT rfl (st (v := .dat (.st _ _)) ?_))
  refine pB rfl (dn (AWp.ret ?_))
  subst h
  exact ⟨_, rfl, rfl⟩
 refine sN (pB rfl (pB rfl (dn (cB h (fun h => ?_) (fun h => ?_)))))
 ·refine sW (pT rfl (st (v := .dat (.st _ _)) ?_))
  refine pB rfl (dn (AWp.ret ?_))
  subst h
  exact ⟨_, rfl, rfl⟩
 refine AWp.seq (AWp.seq (rN (pB rfl (pB rfl (dn ?_)))))
 obtain ⟨J20, h, hk21⟩ := h
 refine AWp.cutK (I := fun p : Bool => mkSt [(2, .pt 2 [] 0), (5, .dat (.v (.int .i64 x1))), (78, .dat (.v (.bool p)))] [(2, .box 102 5 (.dat (Gref13Spec.enc Gref13Spec.zero)))]) (Inv := fun p : Bool => J20 p) ?_ (fun p hp => ?_)
 ·refine cB h (fun h => ?_) (fun h => ?_)
  ·refine AWp.skip ?_
   exact ⟨(x1 == (22 : Int)), h, sl⟩
  refine rN (pB rfl (pB rfl (dn ?_)))
  exact ⟨(x1 == (23 : Int)), h, sl⟩
 replace h := hk21 p hp
 revert h; clear hp; generalize p = x18; intro h
 refine cB h (fun h => ?_) (fun h => ?_)
 ·refine sW (pT rfl (st (v := .dat (.st _ _)) ?_))
  refine pB rfl (dn (AWp.ret ?_))
  subst h
  exact ⟨_, rfl, rfl⟩
 refine sN (pB rfl (pB rfl (dn (cB h (fun h => ?_) (fun h => ?_)))))
 ·refine sW (pT rfl (st (v := .dat (.st _ _)) ?_))
  refine pB rfl (dn (AWp.ret ?_))
  subst h
  exact ⟨_, rfl, rfl⟩
 refine AWp.skip (AWp.seq (rW (pT rfl (st (v := .dat (.st _ _)) ?_))))
 refine pB rfl (dn (AWp.ret ?_))
 subst h
 exact ⟨_, rfl, rfl⟩
def W_ref13_name (s1 : ByteArray) (must2 : Bool) (Q : Bool -> Prop) : Prop :=
 Br must2 (
 Call (Ev_ref12_Name s1) fun x5 =>
 Q x5) (
 Q (s1.toList == (ByteArray.mk #[]).toList))
theorem walk_ref13_name {s1 : ByteArray} {must2 : Bool} {r : Bool} (h : W_ref13_name s1 must2 (fun r' => r' = r)) : Ev_ref13_name s1 must2 r := by
 unfold W_ref13_name at h
 refine intr (L := [(0, .dat (.v (.string s1))), (1, .dat (.v (.bool must2)))]) Tryz.func103 Tryz.ntmps103 ?_
 refine sN (pB rfl (dn (AWp.seq (AWp.seq (rN (pB rfl (dn (cB h (fun h => ?_) (fun h => ?_)))))))))
 ·refine sN (pG rfl (kC h rfl ⟨.inl rfl, trivial⟩ rfl fun x5 h => ?_))
  refine pB rfl (dn (AWp.ret ?_))
  subst h
  exact ⟨_, rfl, rfl⟩
 refine AWp.skip (AWp.seq (rN (pG rfl (pB rfl (pB rfl (dn (AWp.ret ?_)))))))
 subst h
 exact ⟨_, rfl, rfl⟩
def W_ref13_has (s1 : ByteArray) (c2 : Int) (Q : Bool -> Prop) : Prop :=
 Loop1 (0 : Int) (fun (i32 : Int) next33 =>
 Br (decide (i32 < ((s1.size : Nat) : Int))) (
 AtS s1 i32 fun x38 =>
 Br (x38 == c2) (Q true) (
 Let (IntKind.i64.wrap (i32 + (1 : Int))) fun x40 =>
 next33 x40)) (
 Q false))
theorem walk_ref13_has {s1 : ByteArray} {c2 : Int} {r : Bool} (h : W_ref13_has s1 c2 (fun r' => r' = r)) : Ev_ref13_has s1 c2 r := by
 unfold W_ref13_has at h
 refine intr (L := [(0, .dat (.v (.string s1))), (1, .dat (.v (.int .u8 c2)))]) Tryz.func104 Tryz.ntmps104 ?_
 refine sN (pB rfl (dn (AWp.seq (AWp.seq (rN (pI rfl (dn (AWp.block ?_))))))))
 obtain ⟨I41, x42, hz43, hr44⟩ := h
 refine AWp.loop (I := fun p : Int => mkSt [(0, .dat (.v (.string s1))), (1, .dat (.v (.int .u8 c2))), (5, .dat (.v (.int .i64 p)))] []) (Inv := fun p => I41 p) (μ := fun p => x42 p) (x0 := (0 : Int)) hz43 sl (fun p hp => ?_)
 have h := hr44 p hp
 revert h; clear hp; generalize p = i32; intro h
 refine AWp.seq (AWp.seq (rN (pI rfl (pG rfl (pI rfl (pB rfl (dn (cB h (fun h => ?_) (fun h => ?_)))))))))
 ·refine AWp.skip (AWp.seq (AWp.block (AWp.seq (rN (pG rfl (pI rfl ?_))))))
  obtain ⟨hi37, x38, hx39, h⟩ := AtS.get h
  refine AOps.sidxE tabOk rfl rfl rfl rfl rfl rfl rfl hi37 hx39 ?_
  refine pI rfl (pB rfl (dn (cB h (fun h => ?_) (fun h => ?_))))
  ·refine sN (pB rfl (dn (AWp.ret ?_)))
   subst h
   exact ⟨_, rfl, rfl⟩
  refine AWp.skip (rN (pI rfl ?_))
  obtain ⟨x40, ex40, h⟩ := h.get
  refine ai ex40 rfl (pI rfl (dn ?_))
  exact ⟨x40, h.1, h.2, sl⟩
 refine AWp.exit ?_
 refine sN (pB rfl (dn (AWp.ret ?_)))
 subst h
 exact ⟨_, rfl, rfl⟩
def W_ref13_kids (x1 : List GTree) (x2 : ByteArray) (Q : Bool -> Prop) : Prop :=
 Loop2 (0 : Int) (0 : Int) (fun (x857 : Int) (x858 : Int) next859 =>
 Br (decide (x858 < ((x2.size : Nat) : Int))) (
 AtS x2 x858 fun x1001 =>
 Join1 (fun j1017 =>
 Let (IntKind.i64.wrap (x858 + (1 : Int))) fun x1018 =>
 Br (decide (x1018 < ((x2.size : Nat) : Int))) (
 Let (IntKind.i64.wrap (x858 + (1 : Int))) fun x1019 =>
 AtS x2 x1019 fun x1021 =>
 Br (x1021 == (42 : Int)) (j1017 true) (
 Let (IntKind.i64.wrap (x858 + (1 : Int))) fun x1023 =>
 AtS x2 x1023 fun x1025 =>
 Br (x1025 == (63 : Int)) (j1017 true) (
 Let (IntKind.i64.wrap (x858 + (1 : Int))) fun x1027 =>
 AtS x2 x1027 fun x1029 =>
 j1017 (x1029 == (43 : Int))))) (
 j1017 false)
 ) (fun (x1016 : Bool) =>
 Join3 (fun j1045 =>
 Br x1016 (
 Let (IntKind.i64.wrap (x858 + (1 : Int))) fun x1046 =>
 AtS x2 x1046 fun x1048 =>
 Join1 (fun j1051 =>
 Br (x1048 != (43 : Int)) (j1051 (0 : Int)) (
 j1051 (1 : Int))
 ) (fun (x1050 : Int) =>
 AtS x2 x1046 fun x1053 =>
 Br (x1053 != (63 : Int)) (j1045 x1046 x1050 (1000000 : Int)) (
 j1045 x1046 x1050 (1 : Int)))) (
 j1045 x858 (1 : Int) (1 : Int))
 ) (fun (x1042 : Int) (x1043 : Int) (x1044 : Int) =>
 Join2 (fun j1096 =>
 Loop2 x857 (0 : Int) (fun (x1113 : Int) (x1114 : Int) next1115 =>
 Br (decide (x1114 < x1044)) (
 Br (decide (x1113 < ((x1.length : Nat) : Int))) (
 At x1 x1113 fun x1124 =>
 Call (Ev_ref13_fits x1124 x1001) fun x1126 =>
 Br x1126 (
 Let (IntKind.i64.wrap (x1113 + (1 : Int))) fun x1128 =>
 Let (IntKind.i64.wrap (x1114 + (1 : Int))) fun x1129 =>
 next1115 x1128 x1129) (
 j1096 x1113 x1114)) (
 j1096 x1113 x1114)) (
 j1096 x1113 x1114))
 ) (fun (x1094 : Int) (x1095 : Int) =>
 Br (decide (x1095 < x1043)) (Q false) (
 Let (IntKind.i64.wrap (x1042 + (1 : Int))) fun x1134 =>
 next859 x1094 x1134))))) (
 Q (x857 == ((x1.length : Nat) : Int))))
theorem walk_ref13_kids {x1 : List GTree} {x2 : ByteArray} {r : Bool} (h : W_ref13_kids x1 x2 (fun r' => r' = r)) : Ev_ref13_kids x1 x2 r := by
 unfold W_ref13_kids at h
 refine intr (L := [(0, .dat (.sl 26 9 (List.map GTree.enc x1))), (1, .dat (.v (.string x2)))]) Tryz.func105 Tryz.ntmps105 ?_
 refine sN (pB rfl (dn (AWp.seq (rN (pI rfl (dn (AWp.seq (AWp.seq (rN (pI rfl (dn (AWp.block ?_))))))))))))
 obtain ⟨I1142, x1143, hz1144, hr1145⟩ := h
 refine AWp.loop (I := fun p : Int × Int => mkSt [(0, .dat (.sl 26 9 (List.map GTree.enc x1))), (1, .dat (.v (.string x2))), (5, .dat (.v (.int .i64 p.1))), (6, .dat (.v (.int .i64 p.2)))] []) (Inv := fun p => I1142 p.1 p.2) (μ := fun p => x1143 p.1 p.2) (x0 := ⟨(0 : Int), (0 : Int)⟩) hz1144 sl (fun p hp => ?_)
 obtain ⟨x857, x858⟩ := p
 have h := hr1145 x857 x858 hp
 refine AWp.seq (AWp.seq (rN (pI rfl (pG rfl (pI rfl (pB rfl (dn (cB h (fun h => ?_) (fun h => ?_)))))))))
 ·refine AWp.skip (AWp.seq (AWp.block (AWp.seq (rN (pG rfl (pI rfl ?_))))))
  obtain ⟨hi1000, x1001, hx1002, h⟩ := AtS.get h
  refine AOps.sidxE tabOk rfl rfl rfl rfl rfl rfl rfl hi1000 hx1002 ?_
  refine pI rfl (dn (AWp.seq (rN (pI rfl (dn (AWp.seq (rN (pI rfl (dn (AWp.seq (AWp.seq ?_)))))))))))
  obtain ⟨J1139, h, hk1140⟩ := h
  refine AWp.cutK (I := fun p : Bool => mkSt [(0, .dat (.sl 26 9 (List.map GTree.enc x1))), (1, .dat (.v (.string x2))), (5, .dat (.v (.int .i64 x857))), (6, .dat (.v (.int .i64 x858))), (7, .dat (.v (.int .u8 x1001))), (8, .dat (.v (.int .i64 (1 : Int)))), (9, .dat (.v (.int .i64 (1 : Int)))), (45, .dat (.v (.bool p)))] []) (Inv := fun p : Bool => J1139 p) ?_ (fun p hp => ?_)
  ·refine rN (pI rfl ?_)
   obtain ⟨x1018, ex1018, h⟩ := h.get
   refine ai ex1018 rfl (pG rfl (pI rfl (pB rfl (pB rfl (sB 25 h (fun h => ?_) (fun h => ?_))))))
   ·refine pG rfl (pI rfl ?_)
    obtain ⟨x1019, ex1019, h⟩ := h.get
    refine ai ex1019 rfl ?_
    obtain ⟨hi1020, x1021, hx1022, h⟩ := AtS.get h
    refine AOps.sidxE tabOk rfl rfl rfl rfl rfl rfl rfl hi1020 hx1022 ?_
    refine pB rfl (pB rfl (sB 31 h (fun h => ?_) (fun h => ?_)))
    ·refine fo 5 rfl (pB rfl (pB rfl (fo 5 rfl (pB rfl (pB rfl (dn ?_))))))
     exact ⟨true, h, sl⟩
    refine pG rfl (pI rfl ?_)
    obtain ⟨x1023, ex1023, h⟩ := h.get
    refine ai ex1023 rfl ?_
    obtain ⟨hi1024, x1025, hx1026, h⟩ := AtS.get h
    refine AOps.sidxE tabOk rfl rfl rfl rfl rfl rfl rfl hi1024 hx1026 ?_
    refine pB rfl (pB rfl (pB rfl (sB 38 h (fun h => ?_) (fun h => ?_))))
    ·refine fo 5 rfl (pB rfl (pB rfl (dn ?_)))
     exact ⟨true, h, sl⟩
    refine pG rfl (pI rfl ?_)
    obtain ⟨x1027, ex1027, h⟩ := h.get
    refine ai ex1027 rfl ?_
    obtain ⟨hi1028, x1029, hx1030, h⟩ := AtS.get h
    refine AOps.sidxE tabOk rfl rfl rfl rfl rfl rfl rfl hi1028 hx1030 ?_
    refine pB rfl (pB rfl (pB rfl (dn ?_)))
    exact ⟨(x1029 == (43 : Int)), h, sl⟩
   refine fo 19 rfl (pB rfl (dn ?_))
   exact ⟨false, h, sl⟩
  replace h := hk1140 p hp
  revert h; clear hp; generalize p = x1016; intro h
  obtain ⟨J1137, h, hk1138⟩ := h
  refine AWp.cutK (I := fun p : Int × Int × Int => mkSt [(0, .dat (.sl 26 9 (List.map GTree.enc x1))), (1, .dat (.v (.string x2))), (5, .dat (.v (.int .i64 x857))), (6, .dat (.v (.int .i64 p.1))), (7, .dat (.v (.int .u8 x1001))), (8, .dat (.v (.int .i64 p.2.1))), (9, .dat (.v (.int .i64 p.2.2)))] []) (Inv := fun p : Int × Int × Int => J1137 p.1 p.2.1 p.2.2) ?_ (fun p hp => ?_)
  ·refine cB h (fun h => ?_) (fun h => ?_)
   ·refine sN (pI rfl ?_)
    obtain ⟨x1046, ex1046, h⟩ := h.get
    refine ai ex1046 rfl (pI rfl (dn (AWp.seq (AWp.seq (rN (pG rfl (pI rfl ?_)))))))
    obtain ⟨hi1047, x1048, hx1049, h⟩ := AtS.get h
    refine AOps.sidxE tabOk rfl rfl rfl rfl rfl rfl rfl hi1047 hx1049 ?_
    refine pB rfl (dn ?_)
    obtain ⟨J1055, h, hk1056⟩ := h
    refine AWp.cutK (I := fun p : Int => mkSt [(0, .dat (.sl 26 9 (List.map GTree.enc x1))), (1, .dat (.v (.string x2))), (5, .dat (.v (.int .i64 x857))), (6, .dat (.v (.int .i64 x1046))), (7, .dat (.v (.int .u8 x1001))), (8, .dat (.v (.int .i64 p))), (9, .dat (.v (.int .i64 (1 : Int))))] []) (Inv := fun p : Int => J1055 p) ?_ (fun p hp => ?_)
    ·refine cB h (fun h => ?_) (fun h => ?_)
     ·refine rN (pI rfl (dn ?_))
      exact ⟨(0 : Int), h, sl⟩
     refine AWp.skip ?_
     exact ⟨(1 : Int), h, sl⟩
    replace h := hk1056 p hp
    revert h; clear hp; generalize p = x1050; intro h
    refine sN (pG rfl (pI rfl ?_))
    obtain ⟨hi1052, x1053, hx1054, h⟩ := AtS.get h
    refine AOps.sidxE tabOk rfl rfl rfl rfl rfl rfl rfl hi1052 hx1054 ?_
    refine pB rfl (dn (cB h (fun h => ?_) (fun h => ?_)))
    ·refine rN (pI rfl (dn ?_))
     exact ⟨⟨x1046, x1050, (1000000 : Int)⟩, h, sl⟩
    refine AWp.skip ?_
    exact ⟨⟨x1046, x1050, (1 : Int)⟩, h, sl⟩
   refine AWp.skip ?_
   exact ⟨⟨x858, (1 : Int), (1 : Int)⟩, h, sl⟩
  obtain ⟨x1042, x1043, x1044⟩ := p
  replace h := hk1138 x1042 x1043 x1044 hp
  refine sN (pI rfl (dn (AWp.seq ?_)))
  obtain ⟨J1135, h, hk1136⟩ := h
  refine AWp.cutK (I := fun p : Int × Int => mkSt [(0, .dat (.sl 26 9 (List.map GTree.enc x1))), (1, .dat (.v (.string x2))), (5, .dat (.v (.int .i64 p.1))), (6, .dat (.v (.int .i64 x1042))), (8, .dat (.v (.int .i64 x1043))), (10, .dat (.v (.int .i64 p.2)))] []) (Inv := fun p : Int × Int => J1135 p.1 p.2) ?_ (fun p hp => ?_)
  ·refine AWp.block ?_
   obtain ⟨I1130, x1131, hz1132, hr1133⟩ := h
   refine AWp.loop (I := fun p : Int × Int => mkSt [(0, .dat (.sl 26 9 (List.map GTree.enc x1))), (1, .dat (.v (.string x2))), (5, .dat (.v (.int .i64 p.1))), (6, .dat (.v (.int .i64 x1042))), (7, .dat (.v (.int .u8 x1001))), (8, .dat (.v (.int .i64 x1043))), (9, .dat (.v (.int .i64 x1044))), (10, .dat (.v (.int .i64 p.2)))] []) (Inv := fun p => I1130 p.1 p.2) (μ := fun p => x1131 p.1 p.2) (x0 := ⟨x857, (0 : Int)⟩) hz1132 sl (fun p hp => ?_)
   obtain ⟨x1113, x1114⟩ := p
   have h := hr1133 x1113 x1114 hp
   refine AWp.seq (AWp.seq (rN (pI rfl (pI rfl (pB rfl (pB rfl (sB 59 h (fun h => ?_) (fun h => ?_))))))))
   ·refine pI rfl (pS rfl (al (((x1.length : Nat) : Int)) rfl (pB rfl (pB rfl (pB rfl (sB 65 h (fun h => ?_) (fun h => ?_)))))))
    ·refine pS rfl (pI rfl (kI h GTree.get rfl rfl rfl rfl rfl rfl rfl fun x1124 h => ?_))
     refine pT rfl (pI rfl (kC h rfl ⟨.inl rfl, .inl rfl, trivial⟩ rfl fun x1126 h => ?_))
     refine pB rfl (dn (cB h (fun h => ?_) (fun h => ?_)))
     ·refine AWp.skip (AWp.block (AWp.seq (rN (pI rfl ?_))))
      obtain ⟨x1128, ex1128, h⟩ := h.get
      refine ai ex1128 rfl (pI rfl (dn (rN (pI rfl ?_))))
      obtain ⟨x1129, ex1129, h⟩ := h.get
      refine ai ex1129 rfl (pI rfl (dn ?_))
      exact ⟨⟨x1128, x1129⟩, h.1, h.2, sl⟩
     refine AWp.exit ?_
     exact ⟨⟨x1113, x1114⟩, h, sl⟩
    refine fo 6 rfl (pB rfl (dn ?_))
    refine AWp.condF rfl ?_
    refine AWp.exit ?_
    exact ⟨⟨x1113, x1114⟩, h, sl⟩
   refine fo 4 rfl (pB rfl (pB rfl (fo 6 rfl (pB rfl (dn ?_)))))
   refine AWp.condF rfl ?_
   refine AWp.exit ?_
   exact ⟨⟨x1113, x1114⟩, h, sl⟩
  obtain ⟨x1094, x1095⟩ := p
  replace h := hk1136 x1094 x1095 hp
  refine sN (pI rfl (pI rfl (pB rfl (dn (cB h (fun h => ?_) (fun h => ?_))))))
  ·refine sN (pB rfl (dn (AWp.ret ?_)))
   subst h
   exact ⟨_, rfl, rfl⟩
  refine AWp.skip (rN (pI rfl ?_))
  obtain ⟨x1134, ex1134, h⟩ := h.get
  refine ai ex1134 rfl (pI rfl (dn ?_))
  exact ⟨⟨x1094, x1134⟩, h.1, h.2, sl⟩
 refine AWp.exit ?_
 refine sN (pI rfl (pS rfl (al (((x1.length : Nat) : Int)) rfl (pB rfl (pB rfl (dn (AWp.ret ?_)))))))
 subst h
 exact ⟨_, rfl, rfl⟩
def W_ref13_Decimal (a1 : GRat) (Q : Bool -> Prop) : Prop :=
 Call (Ev_ref11_Right a1) fun x5 =>
 Br x5 (
 Br (decide (a1.N >= (0 : Int))) (
 Nz a1.D <|
 Let (Int.tmod (1000000000000000000 : Int) a1.D) fun x7 =>
 Q (x7 == (0 : Int))) (
 Q false)) (
 Q false)
theorem walk_ref13_Decimal {a1 : GRat} {r : Bool} (h : W_ref13_Decimal a1 (fun r' => r' = r)) : Ev_ref13_Decimal a1 r := by
 unfold W_ref13_Decimal at h
 refine intr (L := [(0, .dat (GRat.enc a1))]) Tryz.func106 Tryz.ntmps106 ?_
 refine sN (bx (v := .dat (.st _ _)) ?_)
 refine pB rfl (dn (AWp.seq (rN (pT rfl (kC h rfl ⟨.inl rfl, trivial⟩ rfl fun x5 h => ?_)))))
 refine pB rfl (sB 5 h (fun h => ?_) (fun h => ?_))
 ·refine pP rfl (pI rfl (pB rfl (pB rfl (pB rfl (sB 10 h (fun h => ?_) (fun h => ?_))))))
  ·refine pP rfl (pI rfl ?_)
   obtain ⟨hq, h⟩ := h
   obtain ⟨x7, ex7, h⟩ := h.get
   refine AOps.q rfl rfl rfl rfl rfl (rbin_rem hq) ex7 ?_
   refine pB rfl (pB rfl (pB rfl (dn (AWp.ret ?_))))
   subst h
   exact ⟨_, rfl, rfl⟩
  refine fo 4 rfl (pB rfl (pB rfl (dn (AWp.ret ?_))))
  subst h
  exact ⟨_, rfl, rfl⟩
 refine fo 3 rfl (pB rfl (pB rfl (fo 4 rfl (pB rfl (pB rfl (dn (AWp.ret ?_)))))))
 subst h
 exact ⟨_, rfl, rfl⟩
def W_ref13_isIndex (x1 : GTree) (Q : Bool -> Prop) : Prop :=
 Br (x1.Kind == (1 : Int)) (
 Br (x1.Num.D == (1 : Int)) (Q (decide (x1.Num.N <= (1000000 : Int)))) (
 Q false)) (
 Join1 (fun j3 =>
 Br (x1.Kind == (8 : Int)) (j3 true) (
 j3 (x1.Kind == (9 : Int)))
 ) (fun (x2 : Bool) =>
 Br x2 (
 Br (((x1.Kids.length : Nat) : Int) == (2 : Int)) (
 At x1.Kids (0 : Int) fun x57 =>
 Br (x57.Kind == (2 : Int)) (
 At x1.Kids (0 : Int) fun x60 =>
 Call (Ev_ref13_isIndex x60) fun x62 =>
 Br x62 (
 At x1.Kids (1 : Int) fun x65 =>
 Br (x65.Kind == (1 : Int)) (
 At x1.Kids (1 : Int) fun x68 =>
 Call (Ev_ref13_isIndex x68) fun x70 =>
 Q x70) (
 Q false)) (
 Q false)) (
 Q false)) (
 Q false)) (
 Br (x1.Kind == (2 : Int)) (
 Br (((x1.Kids.length : Nat) : Int) == (1 : Int)) (
 At x1.Kids (0 : Int) fun x79 =>
 Q (((x79.Kids.length : Nat) : Int) == (0 : Int))) (
 Q false)) (
 Q false))))
theorem walk_ref13_isIndex {x1 : GTree} {r : Bool} (h : W_ref13_isIndex x1 (fun r' => r' = r)) : Ev_ref13_isIndex x1 r := by
 unfold W_ref13_isIndex at h
 refine intr (L := [(0, .dat (GTree.out x1))]) Tryz.func108 Tryz.ntmps108 ?_
 refine sN (bx (v := .dat (.st _ _)) ?_)
 refine pB rfl (dn (AWp.seq (AWp.seq (rN (pP rfl (pI rfl (pB rfl (dn (cB h (fun h => ?_) (fun h => ?_))))))))))
 ·refine sN (pP rfl (pP rfl (pI rfl (pB rfl (pB rfl (sB 10 h (fun h => ?_) (fun h => ?_)))))))
  ·refine pP rfl (pP rfl (pI rfl (pB rfl (pB rfl (pB rfl (dn (AWp.ret ?_)))))))
   subst h
   exact ⟨_, rfl, rfl⟩
  refine fo 4 rfl (pB rfl (pB rfl (dn (AWp.ret ?_))))
  subst h
  exact ⟨_, rfl, rfl⟩
 refine AWp.skip (AWp.seq (AWp.seq ?_))
 obtain ⟨J82, h, hk83⟩ := h
 refine AWp.cutK (I := fun p : Bool => mkSt [(1, .pt 1 [] 0), (23, .dat (.v (.bool p)))] [(1, .box 26 9 (.dat (GTree.out x1)))]) (Inv := fun p : Bool => J82 p) ?_ (fun p hp => ?_)
 ·refine rN (pP rfl (pI rfl (pB rfl (pB rfl (sB 19 h (fun h => ?_) (fun h => ?_))))))
  ·refine fo 3 rfl (pB rfl (dn ?_))
   exact ⟨true, h, sl⟩
  refine pP rfl (pI rfl (pB rfl (pB rfl (dn ?_))))
  exact ⟨(x1.Kind == (9 : Int)), h, sl⟩
 replace h := hk83 p hp
 revert h; clear hp; generalize p = x2; intro h
 refine cB h (fun h => ?_) (fun h => ?_)
 ·refine sN (pP rfl (pS rfl (al (((x1.Kids.length : Nat) : Int)) rfl (pB rfl (pB rfl (sB 28 h (fun h => ?_) (fun h => ?_)))))))
  ·refine pP rfl (pS rfl (kI h GTree.get rfl rfl rfl rfl rfl rfl rfl fun x57 h => ?_))
   refine pX rfl (pI rfl (pB rfl (pB rfl (pB rfl (sB 36 h (fun h => ?_) (fun h => ?_))))))
   ·refine pP rfl (pS rfl (kI h GTree.get rfl rfl rfl rfl rfl rfl rfl fun x60 h => ?_))
    refine pT rfl (kC h rfl ⟨.inl rfl, trivial⟩ rfl fun x62 h => ?_)
    refine pB rfl (pB rfl (sB 43 h (fun h => ?_) (fun h => ?_)))
    ·refine pP rfl (pS rfl (kI h GTree.get rfl rfl rfl rfl rfl rfl rfl fun x65 h => ?_))
     refine pX rfl (pI rfl (pB rfl (pB rfl (pB rfl (sB 51 h (fun h => ?_) (fun h => ?_))))))
     ·refine pP rfl (pS rfl (kI h GTree.get rfl rfl rfl rfl rfl rfl rfl fun x68 h => ?_))
      refine pT rfl (kC h rfl ⟨.inl rfl, trivial⟩ rfl fun x70 h => ?_)
      refine pB rfl (pB rfl (dn (AWp.ret ?_)))
      subst h
      exact ⟨_, rfl, rfl⟩
     refine fo 5 rfl (pB rfl (pB rfl (dn (AWp.ret ?_))))
     subst h
     exact ⟨_, rfl, rfl⟩
    refine fo 6 rfl (pB rfl (pB rfl (fo 5 rfl (pB rfl (pB rfl (dn (AWp.ret ?_)))))))
    subst h
    exact ⟨_, rfl, rfl⟩
   refine fo 5 rfl (pB rfl (pB rfl (fo 6 rfl (pB rfl (pB rfl (fo 5 rfl (pB rfl (pB rfl (dn (AWp.ret ?_))))))))))
   subst h
   exact ⟨_, rfl, rfl⟩
  refine fo 6 rfl (pB rfl (pB rfl (fo 5 rfl (pB rfl (pB rfl (fo 6 rfl (pB rfl (pB rfl (fo 5 rfl (pB rfl (pB rfl (dn (AWp.ret ?_)))))))))))))
  subst h
  exact ⟨_, rfl, rfl⟩
 refine AWp.skip (AWp.seq (rN (pP rfl (pI rfl (pB rfl (pB rfl (sB 61 h (fun h => ?_) (fun h => ?_))))))))
 ·refine pP rfl (pS rfl (al (((x1.Kids.length : Nat) : Int)) rfl (pB rfl (pB rfl (pB rfl (sB 67 h (fun h => ?_) (fun h => ?_)))))))
  ·refine pP rfl (pS rfl (kI h GTree.get rfl rfl rfl rfl rfl rfl rfl fun x79 h => ?_))
   refine pX rfl (pS rfl (al (((x79.Kids.length : Nat) : Int)) rfl (pB rfl (pB rfl (pB rfl (dn (AWp.ret ?_)))))))
   subst h
   exact ⟨_, rfl, rfl⟩
  refine fo 7 rfl (pB rfl (pB rfl (dn (AWp.ret ?_))))
  subst h
  exact ⟨_, rfl, rfl⟩
 refine fo 4 rfl (pB rfl (pB rfl (fo 7 rfl (pB rfl (pB rfl (dn (AWp.ret ?_)))))))
 subst h
 exact ⟨_, rfl, rfl⟩
def W_ref12_Name (s1 : ByteArray) (Q : Bool -> Prop) : Prop :=
 Br (s1.toList == (ByteArray.mk #[]).toList) (Q false) (
 Br (decide (((s1.size : Nat) : Int) > (24 : Int))) (Q false) (
 AtS s1 (0 : Int) fun x10 =>
 Call (Ev_ref12_Letter x10) fun x12 =>
 Br (!x12) (Q false) (
 Call (Ev_ref12_Word s1) fun x14 =>
 Br x14 (Q false) (
 Loop1 (0 : Int) (fun (i192 : Int) next193 =>
 Br (decide (i192 < ((s1.size : Nat) : Int))) (
 Join0 (fun j220 =>
 AtS s1 i192 fun x235 =>
 Call (Ev_ref12_Letter x235) fun x237 =>
 Br (!x237) (
 AtS s1 i192 fun x240 =>
 Call (Ev_ref12_Digit x240) fun x242 =>
 Br (!x242) (
 AtS s1 i192 fun x245 =>
 Br (x245 != (95 : Int)) (Q false) (
 j220)) (
 j220)) (
 j220)
 ) (
 Let (IntKind.i64.wrap (i192 + (1 : Int))) fun x247 =>
 next193 x247)) (
 Q true))))))
theorem walk_ref12_Name {s1 : ByteArray} {r : Bool} (h : W_ref12_Name s1 (fun r' => r' = r)) : Ev_ref12_Name s1 r := by
 unfold W_ref12_Name at h
 refine intr (L := [(0, .dat (.v (.string s1)))]) Tryz.func139 Tryz.ntmps139 ?_
 refine sN (pB rfl (dn (AWp.seq (AWp.seq (rN (pG rfl (pB rfl (pB rfl (sB 6 h (fun h => ?_) (fun h => ?_))))))))))
 ·refine fo 3 rfl (pB rfl (pB rfl (fo 4 rfl (pB rfl (pB rfl (ff rfl (ff rfl (pB rfl (dn ?_)))))))))
  refine AWp.condT rfl ?_
  refine sN (pB rfl (dn (AWp.ret ?_)))
  subst h
  exact ⟨_, rfl, rfl⟩
 refine pG rfl (pI rfl (pB rfl (pB rfl (pB rfl (sB 11 h (fun h => ?_) (fun h => ?_))))))
 ·refine fo 4 rfl (pB rfl (pB rfl (ff rfl (ff rfl (pB rfl (dn ?_))))))
  refine AWp.condT rfl ?_
  refine sN (pB rfl (dn (AWp.ret ?_)))
  subst h
  exact ⟨_, rfl, rfl⟩
 refine pG rfl ?_
 obtain ⟨hi9, x10, hx11, h⟩ := AtS.get h
 refine AOps.sidxE tabOk rfl rfl rfl rfl rfl rfl rfl hi9 hx11 ?_
 refine kC h rfl ⟨.inl rfl, trivial⟩ rfl fun x12 h => pB rfl ?_
 refine pB rfl (pB rfl (sB 17 h (fun h => ?_) (fun h => ?_)))
 ·refine ff rfl (ff rfl (pB rfl (dn ?_)))
  refine AWp.condT rfl ?_
  refine sN (pB rfl (dn (AWp.ret ?_)))
  subst h
  exact ⟨_, rfl, rfl⟩
 refine pG rfl (kC h rfl ⟨.inl rfl, trivial⟩ rfl fun x14 h => ?_)
 refine pB rfl (dn (cB h (fun h => ?_) (fun h => ?_)))
 ·refine sN (pB rfl (dn (AWp.ret ?_)))
  subst h
  exact ⟨_, rfl, rfl⟩
 refine AWp.skip (AWp.seq (AWp.seq (rN (pI rfl (dn (AWp.block ?_))))))
 obtain ⟨I250, x251, hz252, hr253⟩ := h
 refine AWp.loop (I := fun p : Int => mkSt [(0, .dat (.v (.string s1))), (3, .dat (.v (.int .i64 p)))] []) (Inv := fun p => I250 p) (μ := fun p => x251 p) (x0 := (0 : Int)) hz252 sl (fun p hp => ?_)
 have h := hr253 p hp
 revert h; clear hp; generalize p = i192; intro h
 refine AWp.seq (AWp.seq (rN (pI rfl (pG rfl (pI rfl (pB rfl (dn (cB h (fun h => ?_) (fun h => ?_)))))))))
 ·refine AWp.skip (AWp.seq ?_)
  obtain ⟨J248, h, hk249⟩ := h
  refine AWp.cutK (I := fun p : Unit => mkSt [(0, .dat (.v (.string s1))), (3, .dat (.v (.int .i64 i192)))] []) (Inv := fun p : Unit => J248) ?_ (fun p hp => ?_)
  ·refine AWp.block (AWp.seq (rN (pG rfl (pI rfl ?_))))
   obtain ⟨hi234, x235, hx236, h⟩ := AtS.get h
   refine AOps.sidxE tabOk rfl rfl rfl rfl rfl rfl rfl hi234 hx236 ?_
   refine kC h rfl ⟨.inl rfl, trivial⟩ rfl fun x237 h => pB rfl ?_
   refine pB rfl (sB 32 h (fun h => ?_) (fun h => ?_))
   ·refine pG rfl (pI rfl ?_)
    obtain ⟨hi239, x240, hx241, h⟩ := AtS.get h
    refine AOps.sidxE tabOk rfl rfl rfl rfl rfl rfl rfl hi239 hx241 ?_
    refine kC h rfl ⟨.inl rfl, trivial⟩ rfl fun x242 h => pB rfl ?_
    refine pB rfl (pB rfl (sB 39 h (fun h => ?_) (fun h => ?_)))
    ·refine pG rfl (pI rfl ?_)
     obtain ⟨hi244, x245, hx246, h⟩ := AtS.get h
     refine AOps.sidxE tabOk rfl rfl rfl rfl rfl rfl rfl hi244 hx246 ?_
     refine pB rfl (pB rfl (dn (cB h (fun h => ?_) (fun h => ?_))))
     ·refine sN (pB rfl (dn (AWp.ret ?_)))
      subst h
      exact ⟨_, rfl, rfl⟩
     refine AWp.skip ?_
     exact ⟨(), h, sl⟩
    refine fo 4 rfl (pB rfl (dn ?_))
    refine AWp.condF rfl ?_
    refine AWp.skip ?_
    exact ⟨(), h, sl⟩
   refine fo 5 rfl (pB rfl (pB rfl (fo 4 rfl (pB rfl (dn ?_)))))
   refine AWp.condF rfl ?_
   refine AWp.skip ?_
   exact ⟨(), h, sl⟩
  replace h := hk249 hp
  refine rN (pI rfl ?_)
  obtain ⟨x247, ex247, h⟩ := h.get
  refine ai ex247 rfl (pI rfl (dn ?_))
  exact ⟨x247, h.1, h.2, sl⟩
 refine AWp.exit ?_
 refine sN (pB rfl (dn (AWp.ret ?_)))
 subst h
 exact ⟨_, rfl, rfl⟩
def W_ref13_fits (t1 : GTree) (c2 : Int) (Q : Bool -> Prop) : Prop :=
 Call (Ev_ref13_letter t1) fun x3 =>
 Br (c2 == (69 : Int)) (
 Br (x3 == (101 : Int)) (Q true) (
 Br (x3 == (102 : Int)) (Q true) (
 Q (x3 == (118 : Int))))) (
 Br (c2 == (83 : Int)) (
 Br (x3 == (102 : Int)) (Q true) (
 Q (x3 == (118 : Int)))) (
 Br (c2 == (73 : Int)) (
 Br (x3 == (105 : Int)) (Q true) (
 Q (x3 == (114 : Int)))) (
 Q (x3 == c2))))
theorem walk_ref13_fits {t1 : GTree} {c2 : Int} {r : Bool} (h : W_ref13_fits t1 c2 (fun r' => r' = r)) : Ev_ref13_fits t1 c2 r := by
 unfold W_ref13_fits at h
 refine intr (L := [(0, .dat (GTree.out t1)), (1, .dat (.v (.int .u8 c2)))]) Tryz.func140 Tryz.ntmps140 ?_
 refine sN (bx (v := .dat (.st _ _)) ?_)
 refine pB rfl (dn (AWp.seq (rN (pT rfl (kC h rfl ⟨.inl rfl, trivial⟩ rfl fun x3 h => ?_)))))
 refine pI rfl (dn (AWp.seq (AWp.seq (rN (pI rfl (dn (AWp.block (AWp.seq (rN (pB rfl (pB rfl (dn (cB h (fun h => ?_) (fun h => ?_))))))))))))))
 ·refine sN (pI rfl (pB rfl (pB rfl (sB 13 h (fun h => ?_) (fun h => ?_)))))
  ·refine ff rfl (ff rfl (pB rfl (pB rfl (ff rfl (ff rfl (pB rfl (pB rfl (dn (AWp.ret ?_)))))))))
   subst h
   exact ⟨_, rfl, rfl⟩
  refine pI rfl (pB rfl (pB rfl (pB rfl (sB 17 h (fun h => ?_) (fun h => ?_)))))
  ·refine ff rfl (ff rfl (pB rfl (pB rfl (dn (AWp.ret ?_)))))
   subst h
   exact ⟨_, rfl, rfl⟩
  refine pI rfl (pB rfl (pB rfl (pB rfl (dn (AWp.ret ?_)))))
  subst h
  exact ⟨_, rfl, rfl⟩
 refine sN (pB rfl (pB rfl (dn (cB h (fun h => ?_) (fun h => ?_)))))
 ·refine sN (pI rfl (pB rfl (pB rfl (sB 25 h (fun h => ?_) (fun h => ?_)))))
  ·refine ff rfl (ff rfl (pB rfl (pB rfl (dn (AWp.ret ?_)))))
   subst h
   exact ⟨_, rfl, rfl⟩
  refine pI rfl (pB rfl (pB rfl (pB rfl (dn (AWp.ret ?_)))))
  subst h
  exact ⟨_, rfl, rfl⟩
 refine sN (pB rfl (pB rfl (dn (cB h (fun h => ?_) (fun h => ?_)))))
 ·refine sN (pI rfl (pB rfl (pB rfl (sB 33 h (fun h => ?_) (fun h => ?_)))))
  ·refine ff rfl (ff rfl (pB rfl (pB rfl (dn (AWp.ret ?_)))))
   subst h
   exact ⟨_, rfl, rfl⟩
  refine pI rfl (pB rfl (pB rfl (pB rfl (dn (AWp.ret ?_)))))
  subst h
  exact ⟨_, rfl, rfl⟩
 refine AWp.skip (AWp.seq (rN (pI rfl (pI rfl (pB rfl (pB rfl (dn (AWp.ret ?_))))))))
 subst h
 exact ⟨_, rfl, rfl⟩
def W_ref13_letter (t1 : GTree) (Q : Int -> Prop) : Prop :=
 Br (t1.Kind == (3 : Int)) (Q (120 : Int)) (
 Br (t1.Kind == (2 : Int)) (Q (102 : Int)) (
 Br (t1.Kind == (4 : Int)) (Q (118 : Int)) (
 Join1 (fun j3 =>
 Br (decide (t1.Kind >= (1 : Int))) (j3 (decide (t1.Kind <= (12 : Int)))) (
 j3 false)
 ) (fun (x2 : Bool) =>
 Br x2 (Q (101 : Int)) (
 Join1 (fun j5 =>
 Br (decide (t1.Kind >= (20 : Int))) (j5 (decide (t1.Kind <= (24 : Int)))) (
 j5 false)
 ) (fun (x4 : Bool) =>
 Br x4 (Q (100 : Int)) (
 Br (t1.Kind == (31 : Int)) (Q (117 : Int)) (
 Br (t1.Kind == (32 : Int)) (Q (117 : Int)) (
 Join1 (fun j7 =>
 Br (decide (t1.Kind >= (33 : Int))) (
 Br (decide (t1.Kind <= (35 : Int))) (j7 true) (
 j7 (t1.Kind == (37 : Int)))) (
 j7 (t1.Kind == (37 : Int)))
 ) (fun (x6 : Bool) =>
 Br x6 (Q (105 : Int)) (
 Br (t1.Kind == (36 : Int)) (Q (109 : Int)) (
 Br (decide (t1.Kind >= (38 : Int))) (
 Br (decide (t1.Kind <= (40 : Int))) (Q (114 : Int)) (
 Br (t1.Kind == (41 : Int)) (Q (116 : Int)) (
 Q (45 : Int)))) (
 Br (t1.Kind == (41 : Int)) (Q (116 : Int)) (
 Q (45 : Int)))))))))))))))
theorem walk_ref13_letter {t1 : GTree} {r : Int} (h : W_ref13_letter t1 (fun r' => r' = r)) : Ev_ref13_letter t1 r := by
 unfold W_ref13_letter at h
 refine intr (L := [(0, .dat (GTree.out t1))]) Tryz.func181 Tryz.ntmps181 ?_
 refine sN (bx (v := .dat (.st _ _)) ?_)
 refine pI rfl (dn (AWp.seq (rN (pP rfl (pI rfl (pI rfl (dn (AWp.seq (AWp.seq (rN (pI rfl (pB rfl (dn (cB h (fun h => ?_) (fun h => ?_)))))))))))))))
 ·refine sN (pI rfl (dn (AWp.ret ?_)))
  subst h
  exact ⟨_, rfl, rfl⟩
 refine AWp.skip (AWp.seq (AWp.seq (rN (pI rfl (pB rfl (dn (cB h (fun h => ?_) (fun h => ?_))))))))
 ·refine sN (pI rfl (dn (AWp.ret ?_)))
  subst h
  exact ⟨_, rfl, rfl⟩
 refine AWp.skip (AWp.seq (AWp.seq (rN (pI rfl (pB rfl (dn (cB h (fun h => ?_) (fun h => ?_))))))))
 ·refine sN (pI rfl (dn (AWp.ret ?_)))
  subst h
  exact ⟨_, rfl, rfl⟩
 refine AWp.skip (AWp.seq (AWp.seq ?_))
 obtain ⟨J12, h, hk13⟩ := h
 refine AWp.cutK (I := fun p : Bool => mkSt [(3, .dat (.v (.int .i64 t1.Kind))), (17, .dat (.v (.bool p)))] []) (Inv := fun p : Bool => J12 p) ?_ (fun p hp => ?_)
 ·refine rN (pI rfl (pB rfl (pB rfl (sB 14 h (fun h => ?_) (fun h => ?_)))))
  ·refine pI rfl (pB rfl (pB rfl (dn ?_)))
   exact ⟨(decide (t1.Kind <= (12 : Int))), h, sl⟩
  refine ff rfl (ff rfl (pB rfl (dn ?_)))
  exact ⟨false, h, sl⟩
 replace h := hk13 p hp
 revert h; clear hp; generalize p = x2; intro h
 refine cB h (fun h => ?_) (fun h => ?_)
 ·refine sN (pI rfl (dn (AWp.ret ?_)))
  subst h
  exact ⟨_, rfl, rfl⟩
 refine AWp.skip (AWp.seq (AWp.seq ?_))
 obtain ⟨J10, h, hk11⟩ := h
 refine AWp.cutK (I := fun p : Bool => mkSt [(3, .dat (.v (.int .i64 t1.Kind))), (23, .dat (.v (.bool p)))] []) (Inv := fun p : Bool => J10 p) ?_ (fun p hp => ?_)
 ·refine rN (pI rfl (pB rfl (pB rfl (sB 20 h (fun h => ?_) (fun h => ?_)))))
  ·refine pI rfl (pB rfl (pB rfl (dn ?_)))
   exact ⟨(decide (t1.Kind <= (24 : Int))), h, sl⟩
  refine ff rfl (ff rfl (pB rfl (dn ?_)))
  exact ⟨false, h, sl⟩
 replace h := hk11 p hp
 revert h; clear hp; generalize p = x4; intro h
 refine cB h (fun h => ?_) (fun h => ?_)
 ·refine sN (pI rfl (dn (AWp.ret ?_)))
  subst h
  exact ⟨_, rfl, rfl⟩
 refine AWp.skip (AWp.seq (AWp.seq (rN (pI rfl (pB rfl (pB rfl (sB 26 h (fun h => ?_) (fun h => ?_))))))))
 ·refine ff rfl (ff rfl (pB rfl (dn ?_)))
  refine AWp.condT rfl ?_
  refine sN (pI rfl (dn (AWp.ret ?_)))
  subst h
  exact ⟨_, rfl, rfl⟩
 refine pI rfl (pB rfl (pB rfl (dn (cB h (fun h => ?_) (fun h => ?_)))))
 ·refine sN (pI rfl (dn (AWp.ret ?_)))
  subst h
  exact ⟨_, rfl, rfl⟩
 refine AWp.skip (AWp.seq (AWp.seq ?_))
 obtain ⟨J8, h, hk9⟩ := h
 refine AWp.cutK (I := fun p : Bool => mkSt [(3, .dat (.v (.int .i64 t1.Kind))), (39, .dat (.v (.bool p)))] []) (Inv := fun p : Bool => J8 p) ?_ (fun p hp => ?_)
 ·refine rN (pI rfl (pB rfl (pB rfl (sB 32 h (fun h => ?_) (fun h => ?_)))))
  ·refine pI rfl (pB rfl (pB rfl (pB rfl (sB 36 h (fun h => ?_) (fun h => ?_)))))
   ·refine ff rfl (ff rfl (pB rfl (dn ?_)))
    exact ⟨true, h, sl⟩
   refine pI rfl (pB rfl (pB rfl (dn ?_)))
   exact ⟨(t1.Kind == (37 : Int)), h, sl⟩
  refine ff rfl (ff rfl (pB rfl (pB rfl (pI rfl (pB rfl (pB rfl (dn ?_)))))))
  exact ⟨(t1.Kind == (37 : Int)), h, sl⟩
 replace h := hk9 p hp
 revert h; clear hp; generalize p = x6; intro h
 refine cB h (fun h => ?_) (fun h => ?_)
 ·refine sN (pI rfl (dn (AWp.ret ?_)))
  subst h
  exact ⟨_, rfl, rfl⟩
 refine AWp.skip (AWp.seq (AWp.seq (rN (pI rfl (pB rfl (dn (cB h (fun h => ?_) (fun h => ?_))))))))
 ·refine sN (pI rfl (dn (AWp.ret ?_)))
  subst h
  exact ⟨_, rfl, rfl⟩
 refine AWp.skip (AWp.seq (AWp.seq (rN (pI rfl (pB rfl (pB rfl (sB 44 h (fun h => ?_) (fun h => ?_))))))))
 ·refine pI rfl (pB rfl (pB rfl (dn (cB h (fun h => ?_) (fun h => ?_)))))
  ·refine sN (pI rfl (dn (AWp.ret ?_)))
   subst h
   exact ⟨_, rfl, rfl⟩
  refine AWp.skip (AWp.seq (AWp.seq (rN (pI rfl (pB rfl (dn (cB h (fun h => ?_) (fun h => ?_))))))))
  ·refine sN (pI rfl (dn (AWp.ret ?_)))
   subst h
   exact ⟨_, rfl, rfl⟩
  refine AWp.skip (AWp.seq (rN (pI rfl (dn (AWp.ret ?_)))))
  subst h
  exact ⟨_, rfl, rfl⟩
 refine ff rfl (ff rfl (pB rfl (dn ?_)))
 refine AWp.condF rfl ?_
 refine AWp.skip (AWp.seq (AWp.seq (rN (pI rfl (pB rfl (dn (cB h (fun h => ?_) (fun h => ?_))))))))
 ·refine sN (pI rfl (dn (AWp.ret ?_)))
  subst h
  exact ⟨_, rfl, rfl⟩
 refine AWp.skip (AWp.seq (rN (pI rfl (dn (AWp.ret ?_)))))
 subst h
 exact ⟨_, rfl, rfl⟩
def W_ref12_Word (s1 : ByteArray) (Q : Bool -> Prop) : Prop :=
 Loop1 (0 : Int) (fun (i31 : Int) next32 =>
 Br (decide (i31 < ((s1.size : Nat) : Int))) (
 AtS s1 i31 fun x37 =>
 Br (x37 == (32 : Int)) (Q false) (
 Let (IntKind.i64.wrap (i31 + (1 : Int))) fun x39 =>
 next32 x39)) (
 Cat (ByteArray.mk #[32]) s1 fun x40 =>
 Cat x40 (ByteArray.mk #[32]) fun x41 =>
 Loop1 (0 : Int) (fun (i89 : Int) next90 =>
 Let (IntKind.i64.wrap (i89 + ((x41.size : Nat) : Int))) fun x91 =>
 Br (decide (x91 <= (105 : Int))) (
 Join0 (fun j96 =>
 Br (!(s1.toList == (ByteArray.mk #[]).toList)) (
 Let (IntKind.i64.wrap (i89 + ((x41.size : Nat) : Int))) fun x99 =>
 SlS (ByteArray.mk #[32, 97, 116, 97, 110, 32, 99, 111, 110, 110, 101, 99, 116, 32, 99, 111, 110, 110, 101, 99, 116, 111, 114, 32, 99, 111, 115, 32, 100, 101, 114, 32, 100, 111, 32, 101, 110, 100, 32, 101, 120, 112, 32, 102, 108, 111, 119, 32, 102, 111, 114, 32, 105, 110, 32, 108, 111, 103, 32, 109, 111, 100, 101, 108, 32, 112, 97, 114, 97, 109, 32, 112, 97, 114, 116, 32, 115, 105, 110, 32, 115, 113, 114, 116, 32, 115, 116, 97, 114, 116, 32, 116, 105, 109, 101, 32, 117, 110, 105, 116, 32, 118, 97, 114, 32]) i89 x99 fun x100 =>
 Br (x100.toList == x41.toList) (Q true) (
 j96)) (
 j96)
 ) (
 Let (IntKind.i64.wrap (i89 + (1 : Int))) fun x101 =>
 next90 x101)) (
 Q false))))
theorem walk_ref12_Word {s1 : ByteArray} {r : Bool} (h : W_ref12_Word s1 (fun r' => r' = r)) : Ev_ref12_Word s1 r := by
 unfold W_ref12_Word at h
 refine intr (L := [(0, .dat (.v (.string s1)))]) Tryz.func39 Tryz.ntmps39 ?_
 refine sN (pB rfl (dn (AWp.seq (AWp.seq (rN (pI rfl (dn (AWp.block ?_))))))))
 obtain ⟨I108, x109, hz110, hr111⟩ := h
 refine AWp.loop (I := fun p : Int => mkSt [(0, .dat (.v (.string s1))), (3, .dat (.v (.int .i64 p)))] []) (Inv := fun p => I108 p) (μ := fun p => x109 p) (x0 := (0 : Int)) hz110 sl (fun p hp => ?_)
 have h := hr111 p hp
 revert h; clear hp; generalize p = i31; intro h
 refine AWp.seq (AWp.seq (rN (pI rfl (pG rfl (pI rfl (pB rfl (dn (cB h (fun h => ?_) (fun h => ?_)))))))))
 ·refine AWp.skip (AWp.seq (AWp.block (AWp.seq (rN (pG rfl (pI rfl ?_))))))
  obtain ⟨hi36, x37, hx38, h⟩ := AtS.get h
  refine AOps.sidxE tabOk rfl rfl rfl rfl rfl rfl rfl hi36 hx38 ?_
  refine pB rfl (dn (cB h (fun h => ?_) (fun h => ?_)))
  ·refine sN (pB rfl (dn (AWp.ret ?_)))
   subst h
   exact ⟨_, rfl, rfl⟩
  refine AWp.skip (rN (pI rfl ?_))
  obtain ⟨x39, ex39, h⟩ := h.get
  refine ai ex39 rfl (pI rfl (dn ?_))
  exact ⟨x39, h.1, h.2, sl⟩
 refine AWp.exit ?_
 refine sN (pG rfl (kc h rfl rfl rfl rfl fun x40 h => ?_))
 refine kc h rfl rfl rfl rfl fun x41 h => pG rfl ?_
 refine dn (AWp.seq (AWp.seq (rN (pI rfl (dn (AWp.block ?_))))))
 obtain ⟨I104, x105, hz106, hr107⟩ := h
 refine AWp.loop (I := fun p : Int => mkSt [(0, .dat (.v (.string s1))), (4, .dat (.v (.string x41))), (5, .dat (.v (.int .i64 p)))] []) (Inv := fun p => I104 p) (μ := fun p => x105 p) (x0 := (0 : Int)) hz106 sl (fun p hp => ?_)
 have h := hr107 p hp
 revert h; clear hp; generalize p = i89; intro h
 refine AWp.seq (AWp.seq (rN (pI rfl (pG rfl (pI rfl ?_)))))
 obtain ⟨x91, ex91, h⟩ := h.get
 refine ai ex91 rfl (pB rfl (dn (cB h (fun h => ?_) (fun h => ?_))))
 ·refine AWp.skip (AWp.seq ?_)
  obtain ⟨J102, h, hk103⟩ := h
  refine AWp.cutK (I := fun p : Unit => mkSt [(0, .dat (.v (.string s1))), (4, .dat (.v (.string x41))), (5, .dat (.v (.int .i64 i89)))] []) (Inv := fun p : Unit => J102) ?_ (fun p hp => ?_)
  ·refine AWp.block (AWp.seq (rN (pG rfl (pB rfl (pB rfl (sB 28 h (fun h => ?_) (fun h => ?_)))))))
   ·refine pI rfl (pI rfl (pG rfl (pI rfl ?_)))
    obtain ⟨x99, ex99, h⟩ := h.get
    refine ai ex99 rfl ?_
    obtain ⟨h1, h2, h3, x100, ex100, h⟩ := h.get
    refine AOps.sls tabOk rfl rfl rfl rfl rfl rfl rfl rfl h1 h2 h3 ex100 ?_
    refine pG rfl (pB rfl (pB rfl (dn (cB h (fun h => ?_) (fun h => ?_)))))
    ·refine sN (pB rfl (dn (AWp.ret ?_)))
     subst h
     exact ⟨_, rfl, rfl⟩
    refine AWp.skip ?_
    exact ⟨(), h, sl⟩
   refine fo 8 rfl (pB rfl (dn ?_))
   refine AWp.condF rfl ?_
   refine AWp.skip ?_
   exact ⟨(), h, sl⟩
  replace h := hk103 hp
  refine rN (pI rfl ?_)
  obtain ⟨x101, ex101, h⟩ := h.get
  refine ai ex101 rfl (pI rfl (dn ?_))
  exact ⟨x101, h.1, h.2, sl⟩
 refine AWp.exit ?_
 refine sN (pB rfl (dn (AWp.ret ?_)))
 subst h
 exact ⟨_, rfl, rfl⟩
def W_ref12_Letter (c1 : Int) (Q : Bool -> Prop) : Prop :=
 Br (decide (c1 >= (97 : Int))) (
 Br (decide (c1 <= (122 : Int))) (Q true) (
 Br (decide (c1 >= (65 : Int))) (Q (decide (c1 <= (90 : Int)))) (
 Q false))) (
 Br (decide (c1 >= (65 : Int))) (Q (decide (c1 <= (90 : Int)))) (
 Q false))
theorem walk_ref12_Letter {c1 : Int} {r : Bool} (h : W_ref12_Letter c1 (fun r' => r' = r)) : Ev_ref12_Letter c1 r := by
 unfold W_ref12_Letter at h
 refine intr (L := [(0, .dat (.v (.int .u8 c1)))]) Tryz.func37 Tryz.ntmps37 ?_
 refine sN (pB rfl (dn (AWp.seq (rN (pI rfl (pB rfl (pB rfl (sB 5 h (fun h => ?_) (fun h => ?_)))))))))
 ·refine pI rfl (pB rfl (pB rfl (pB rfl (sB 9 h (fun h => ?_) (fun h => ?_)))))
  ·refine fo 6 rfl (pB rfl (pB rfl (dn (AWp.ret ?_))))
   subst h
   exact ⟨_, rfl, rfl⟩
  refine pI rfl (pB rfl (pB rfl (sB 12 h (fun h => ?_) (fun h => ?_))))
  ·refine pI rfl (pB rfl (pB rfl (pB rfl (pB rfl (dn (AWp.ret ?_))))))
   subst h
   exact ⟨_, rfl, rfl⟩
  refine ff rfl (ff rfl (pB rfl (pB rfl (pB rfl (dn (AWp.ret ?_))))))
  subst h
  exact ⟨_, rfl, rfl⟩
 refine ff rfl (ff rfl (pB rfl (pB rfl (pI rfl (pB rfl (pB rfl (sB 12 h (fun h => ?_) (fun h => ?_))))))))
 ·refine pI rfl (pB rfl (pB rfl (pB rfl (pB rfl (dn (AWp.ret ?_))))))
  subst h
  exact ⟨_, rfl, rfl⟩
 refine ff rfl (ff rfl (pB rfl (pB rfl (pB rfl (dn (AWp.ret ?_))))))
 subst h
 exact ⟨_, rfl, rfl⟩
def W_ref12_Digit (c1 : Int) (Q : Bool -> Prop) : Prop :=
 Br (decide (c1 >= (48 : Int))) (Q (decide (c1 <= (57 : Int)))) (
 Q false)
theorem walk_ref12_Digit {c1 : Int} {r : Bool} (h : W_ref12_Digit c1 (fun r' => r' = r)) : Ev_ref12_Digit c1 r := by
 unfold W_ref12_Digit at h
 refine intr (L := [(0, .dat (.v (.int .u8 c1)))]) Tryz.func38 Tryz.ntmps38 ?_
 refine sN (pB rfl (dn (AWp.seq (rN (pI rfl (pB rfl (pB rfl (sB 5 h (fun h => ?_) (fun h => ?_)))))))))
 ·refine pI rfl (pB rfl (pB rfl (pB rfl (dn (AWp.ret ?_)))))
  subst h
  exact ⟨_, rfl, rfl⟩
 refine ff rfl (ff rfl (pB rfl (pB rfl (dn (AWp.ret ?_)))))
 subst h
 exact ⟨_, rfl, rfl⟩
end Go.Sim.YtomeghkmdcfolaaGreatDoor
