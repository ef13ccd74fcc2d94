/- What is proved: functions of the program compute what plain statements tell. -/
import Derived.Test.YtffglpibobogcaaGreatDoorZUNWE

namespace Go.Sim.YtffglpibobogcaaGreatDoor
open Go.RowKit Go.Proofs Go.Proofs.Tryz
set_option maxRecDepth 100000
def W_law14_UnitNames (file1 : GTree) (Q : Bool → Prop) : Prop :=
 Call (Ev_unit_Units file1) fun x2 =>
 Call (Ev_ref14_Units file1) fun x4 =>
 Br (x2.2.2 == x4.2.2) (
  Call (Ev_law14_same x2.1 x4.1) fun x10 =>
  Br x10 (
   Call (Ev_ref14_Like x2.2.1 x4.2.1) fun x12 =>
   Q x12) (
   Q false)) (
  Q false)
theorem walk_law14_UnitNames {file1 : GTree} {r : Bool} (h : W_law14_UnitNames file1 (fun r' => r' = r)) : Ev_law14_UnitNames file1 r := by
  unfold W_law14_UnitNames at h
  refine intr (L := [(0, .dat (GTree.out file1))]) Tryz.func3 Tryz.ntmps3 ?_
  refine sN (bx (v := .dat (.st _ _)) ?_)
  refine pB rfl (dn (AWp.seq (rN (pT rfl ?_))))
  obtain ⟨x2, hc3, h⟩ := h
  refine ca hc3 rfl ⟨.inl rfl, trivial⟩ rfl (pU rfl (pS rfl (pS rfl (pI rfl (pS rfl (pS rfl (pI rfl (dn (AWp.seq (rN (pT rfl ?_)))))))))))
  obtain ⟨x4, hc5, h⟩ := h
  refine ca hc5 rfl ⟨.inl rfl, trivial⟩ rfl (pU rfl (pS rfl (pS rfl (pI rfl (pS rfl (pS rfl (pI rfl (dn (AWp.seq (rN (pI rfl (pI rfl (pB rfl (pB rfl (sB 24 h (fun h => ?_) (fun h => ?_))))))))))))))))
  · refine pS rfl (pS rfl ?_)
    obtain ⟨x10, hc11, h⟩ := h
    refine ca hc11 rfl ⟨.inl rfl, .inl rfl, trivial⟩ rfl (pB rfl (pB rfl (sB 29 h (fun h => ?_) (fun h => ?_))))
    · refine pS rfl (pS rfl ?_)
      obtain ⟨x12, hc13, h⟩ := h
      refine ca hc13 rfl ⟨.inl rfl, .inl rfl, trivial⟩ rfl (pB rfl (pB rfl (dn (AWp.ret ?_))))
      subst h
      exact ⟨_, rfl, rfl⟩
    refine ff rfl (ff rfl (ff rfl (pB rfl (pB rfl (dn (AWp.ret ?_))))))
    subst h
    exact ⟨_, rfl, rfl⟩
  refine ff rfl (ff rfl (ff rfl (pB rfl (pB rfl (ff rfl (ff rfl (ff rfl (pB rfl (pB rfl (dn (AWp.ret ?_)))))))))))
  subst h
  exact ⟨_, rfl, rfl⟩
def W_law14_same (a1 : List ByteArray) (b2 : List ByteArray) (Q : Bool → Prop) : Prop :=
 Br (((a1.length : Nat) : Int) != ((b2.length : Nat) : Int)) (Q false) (
  Loop1 (0 : Int) (fun (x53 : Int) next54 =>
   Br (decide (x53 < ((a1.length : Nat) : Int))) (
    At a1 x53 fun x62 =>
    At b2 x53 fun x65 =>
    Br (!(x62.toList == x65.toList)) (Q false) (
     Let (IntKind.i64.wrap (x53 + (1 : Int))) fun x67 =>
     next54 x67)) (
    Q true)))
theorem walk_law14_same {a1 : List ByteArray} {b2 : List ByteArray} {r : Bool} (h : W_law14_same a1 b2 (fun r' => r' = r)) : Ev_law14_same a1 b2 r := by
  unfold W_law14_same at h
  refine intr (L := [(0, .dat (.sl 9 1 (List.map eStr a1))), (1, .dat (.sl 9 1 (List.map eStr b2)))]) Tryz.func9 Tryz.ntmps9 ?_
  refine sN (pB rfl (dn (AWp.seq (AWp.seq (rN (pS rfl (al (((a1.length : Nat) : Int)) rfl (pS rfl (al (((b2.length : Nat) : Int)) rfl (pB rfl (dn (cB h (fun h => ?_) (fun h => ?_)))))))))))))
  · refine sN (pB rfl (dn (AWp.ret ?_)))
    subst h
    exact ⟨_, rfl, rfl⟩
  refine AWp.skip ?_
  refine AWp.seq (AWp.seq (rN (pS rfl (al (((a1.length : Nat) : Int)) rfl (pI rfl (dn (AWp.block ?_)))))))
  obtain ⟨I68, x69, hz70, hr71⟩ := h
  refine AWp.loop (I := fun p : Int => mkSt [(0, .dat (.sl 9 1 (List.map eStr a1))), (1, .dat (.sl 9 1 (List.map eStr b2))), (12, .dat (.v (.int .i64 ((a1.length : Nat) : Int)))), (13, .dat (.v (.int .i64 p)))] []) (Inv := fun p => I68 p) (μ := fun p => x69 p) (x0 := (0 : Int)) hz70 sl (fun p hp => ?_)
  have h := hr71 p hp
  revert h; clear hp; generalize p = x53; intro h
  refine sN (pW rfl (dn (AWp.seq (cB h (fun h => ?_) (fun h => ?_)))))
  · refine AWp.skip ?_
    refine AWp.seq (AWp.block (AWp.seq (rN (pI rfl (pI rfl (dn (AWp.seq (rD (pS rfl (pI rfl ?_))))))))))
    obtain ⟨hi61, x62, hx63, h⟩ := h
    refine AOps.idx tabOk (z := .v (.string x62)) rfl rfl rfl rfl rfl rfl rfl rfl hi61 (map_get hx63) ?_
    refine pG rfl (pS rfl (pI rfl ?_))
    obtain ⟨hi64, x65, hx66, h⟩ := h
    refine AOps.idx tabOk (z := .v (.string x65)) rfl rfl rfl rfl rfl rfl rfl rfl hi64 (map_get hx66) ?_
    refine pG rfl (pB rfl (dn (cB h (fun h => ?_) (fun h => ?_))))
    · refine sN (pB rfl (dn (AWp.ret ?_)))
      subst h
      exact ⟨_, rfl, rfl⟩
    refine AWp.skip ?_
    refine rN ?_
    obtain ⟨x67, ex67, h⟩ := h.get
    refine ai ex67 rfl (pI rfl (dn ?_))
    exact ⟨x67, h.1, h.2, sl⟩
  refine AWp.exit ?_
  refine sN (pB rfl (dn (AWp.ret ?_)))
  subst h
  exact ⟨_, rfl, rfl⟩
def W_unit_Units (x1 : GTree) (Q : (List ByteArray) × (List GDim) × Int → Prop) : Prop :=
 Call (Ev_parse_Right x1) fun x2 =>
 Br (x2 != (0 : Int)) (Q (([] : List ByteArray), ([] : List GDim), (133 : Int))) (
  Loop4 ([] : List ByteArray) ([] : List GDim) (0 : Int) (0 : Int) (fun (x262 : List ByteArray) (x263 : List GDim) (x264 : Int) (x265 : Int) next266 =>
   Br (decide (x265 < ((x1.Kids.length : Nat) : Int))) (
    At x1.Kids x265 fun x307 =>
    Br (x307.Kind != (31 : Int)) (
     Let (IntKind.i64.wrap (x265 + (1 : Int))) fun x309 =>
     next266 x262 x263 x264 x309) (
     Call (Ev_slices_Contains_string x262 x307.Name) fun x310 =>
     Br x310 (Q (([] : List ByteArray), ([] : List GDim), (151 : Int))) (
      Call (Ev_unit_Plain) fun x312 =>
      Join3 (fun j329 =>
       Br (decide (((x307.Kids.length : Nat) : Int) > (0 : Int))) (
        At x307.Kids (0 : Int) fun x332 =>
        Call (Ev_unit_Of x332 x262 x263) fun x334 =>
        j329 x264 x334.1 x334.2) (
        Br (x264 == (7 : Int)) (j329 x264 x312 (2 : Int)) (
         Call (Ev_unit_whole (1 : Int)) fun x336 =>
         At (Vector.toList x312.E) x264 fun x339 =>
         Let (IntKind.i64.wrap (x264 + (1 : Int))) fun x341 =>
         j329 x341 (GDim.mk (Vector.setIfInBounds x312.E (Int.toNat x264) x336)) (0 : Int)))
      ) (fun (x326 : Int) (x327 : GDim) (x328 : Int) =>
       Br (x328 != (0 : Int)) (Q (([] : List ByteArray), ([] : List GDim), x328)) (
        App 16 x262 ([x307.Name]) fun x342 =>
        App 112 x263 ([x327]) fun x343 =>
        Let (IntKind.i64.wrap (x265 + (1 : Int))) fun x344 =>
        next266 x342 x343 x326 x344))))) (
    Q (x262, x263, (0 : Int)))))
theorem walk_unit_Units {x1 : GTree} {r : (List ByteArray) × (List GDim) × Int} (h : W_unit_Units x1 (fun r' => r' = r)) : Ev_unit_Units x1 r := by
  unfold W_unit_Units at h
  refine intr (L := [(0, .dat (GTree.out x1))]) Tryz.func7 Tryz.ntmps7 ?_
  refine sN (bx (v := .dat (.st _ _)) ?_)
  refine pS rfl (pS rfl (pI rfl (dn (AWp.seq (AWp.seq (rN (pT rfl ?_)))))))
  obtain ⟨x2, hc3, h⟩ := h
  refine ca hc3 rfl ⟨.inl rfl, trivial⟩ rfl (pB rfl (dn (cB h (fun h => ?_) (fun h => ?_))))
  · refine sN (pS rfl (pS rfl (pI rfl (dn (AWp.ret ?_)))))
    subst h
    exact ⟨_, rfl, rfl⟩
  refine AWp.skip ?_
  refine sN ?_
  refine AOps.nilown tabOk rfl rfl rfl rfl rfl rfl ?_
  refine dn (sN ?_)
  refine AOps.nilown tabOk rfl rfl rfl rfl rfl rfl ?_
  refine dn (sN (pI rfl (dn (AWp.seq (AWp.seq (rN (pP rfl (pS rfl (al (((x1.Kids.length : Nat) : Int)) rfl (pI rfl (dn (AWp.block ?_))))))))))))
  obtain ⟨I347, x348, hz349, hr350⟩ := h
  refine AWp.loop (I := fun p : (List ByteArray) × (List GDim) × Int × Int => mkSt [(5, .oref 1005), (6, .oref 1006), (7, .dat (.v (.int .i64 p.2.2.1))), (16, .dat (.sl 26 9 (List.map GTree.enc x1.Kids))), (17, .dat (.v (.int .i64 ((x1.Kids.length : Nat) : Int)))), (18, .dat (.v (.int .i64 p.2.2.2)))] [(1005, .row 9 1 (List.map eStr p.1)), (1006, .row 47 14 (List.map GDim.enc p.2.1))]) (Inv := fun p => I347 p.1 p.2.1 p.2.2.1 p.2.2.2) (μ := fun p => x348 p.1 p.2.1 p.2.2.1 p.2.2.2) (x0 := ⟨([] : List ByteArray), ([] : List GDim), (0 : Int), (0 : Int)⟩) hz349 (slf (fun i => (if Nat.beq i 1006 then 6 else (if Nat.beq i 1005 then 5 else i)))) (fun p hp => ?_)
  obtain ⟨x262, x263, x264, x265⟩ := p
  have h := hr350 x262 x263 x264 x265 hp
  refine sN (pW rfl (dn (AWp.seq (cB h (fun h => ?_) (fun h => ?_)))))
  · refine AWp.skip ?_
    refine AWp.seq (AWp.block (AWp.seq (rW ?_)))
    obtain ⟨hi306, x307, hx308, h⟩ := h
    refine AOps.idx tabOk (z := GTree.out x307) rfl rfl rfl rfl rfl rfl rfl rfl hi306 (GTree.get hx308) ?_
    refine pT rfl (al0 ?_)
    refine st (v := .dat (.st _ _)) ?_
    refine dn (AWp.seq (AWp.seq (rN (pP rfl (pI rfl (pB rfl (dn (cB h (fun h => ?_) (fun h => ?_)))))))))
    · refine AWp.exit ?_
      refine rN ?_
      obtain ⟨x309, ex309, h⟩ := h.get
      refine ai ex309 rfl (pI rfl (dn ?_))
      exact ⟨⟨x262, x263, x264, x309⟩, h.1, h.2, sl⟩
    refine AWp.skip ?_
    refine AWp.seq (AWp.seq (rN (pO rfl (pP rfl (pG rfl ?_)))))
    obtain ⟨x310, hc311, h⟩ := h
    refine ca (AFn.fresh rfl hc311) rfl ⟨.inr (.inr ⟨rfl, _, _, _, _, rfl, rfl, rfl⟩), .inl rfl, trivial⟩ rfl (dn (cB h (fun h => ?_) (fun h => ?_)))
    · refine sN (pS rfl (pS rfl (pI rfl (dn (AWp.ret ?_)))))
      subst h
      exact ⟨_, rfl, rfl⟩
    refine AWp.skip ?_
    refine sW ?_
    obtain ⟨x312, hc313, h⟩ := h
    refine ca hc313 rfl trivial rfl (al0 ?_)
    refine st (v := .dat (.st _ _)) ?_
    refine dn (sN (pI rfl (dn (AWp.seq ?_))))
    obtain ⟨J345, h, hk346⟩ := h
    refine AWp.cutK (I := fun p : Int × GDim × Int => mkSt [(5, .oref 1005), (6, .oref 1006), (7, .dat (.v (.int .i64 p.1))), (9, .pt 9 [] 0), (10, .pt 10 [] 0), (11, .dat (.v (.int .i64 p.2.2))), (16, .dat (.sl 26 9 (List.map GTree.enc x1.Kids))), (17, .dat (.v (.int .i64 ((x1.Kids.length : Nat) : Int)))), (18, .dat (.v (.int .i64 x265)))] [(9, .box 26 9 (.dat (GTree.out x307))), (10, .box 47 14 (.dat (GDim.enc p.2.1))), (1005, .row 9 1 (List.map eStr x262)), (1006, .row 47 14 (List.map GDim.enc x263))]) (Inv := fun p : Int × GDim × Int => J345 p.1 p.2.1 p.2.2) ?_ (fun p hp => ?_)
    · refine AWp.block (AWp.seq (rN (pP rfl (pS rfl (al (((x307.Kids.length : Nat) : Int)) rfl (pB rfl (pB rfl (dn (cB h (fun h => ?_) (fun h => ?_))))))))))
      · refine rW (pP rfl (pS rfl ?_))
        obtain ⟨hi331, x332, hx333, h⟩ := h
        refine AOps.idx tabOk (z := GTree.out x332) rfl rfl rfl rfl rfl rfl rfl rfl hi331 (GTree.get hx333) ?_
        refine pT rfl (pO rfl (pO rfl ?_))
        obtain ⟨x334, hc335, h⟩ := h
        refine ca (AFn.fresh (by simp [bare, bareL, bareL_map, GDim.enc, GRat.enc]) hc335) rfl ⟨.inl rfl, .inr (.inr ⟨rfl, _, _, _, _, rfl, rfl, rfl⟩), .inr (.inr ⟨rfl, _, _, _, _, rfl, rfl, rfl⟩), trivial⟩ rfl (pU rfl (pT rfl (pI rfl (st (v := .dat (.st _ _)) ?_))))
        refine pI rfl (dn ?_)
        exact ⟨⟨x264, x334.1, x334.2⟩, h, sl⟩
      refine sN (pI rfl (pB rfl (pB rfl (dn (cB h (fun h => ?_) (fun h => ?_))))))
      · refine rN (pI rfl (dn ?_))
        exact ⟨⟨x264, x312, (2 : Int)⟩, h, sl⟩
      refine sW (pI rfl ?_)
      obtain ⟨x336, hc337, h⟩ := h
      refine ca hc337 rfl ⟨.inl rfl, trivial⟩ rfl (pP rfl ?_)
      obtain ⟨hi338, x339, hx340, h⟩ := h
      refine AOps.aidx tabOk rfl rfl rfl rfl rfl rfl rfl rfl hi338 (vec_lt hi338 hx340) rfl ?_
      refine AOps.store tabOk (v := .dat (.st _ _)) rfl rfl rfl rfl rfl rfl rfl (locA_ix [.fld 0] [] rfl (map_get hx340) rfl) rfl rfl rfl rfl (putA_ix [.fld 0] [] (o := 0) rfl (map_get hx340) rfl (vmap_set1 (e := GRat.enc) (x := x336)) rfl) ?_
      refine dn (rN (pI rfl ?_))
      obtain ⟨x341, ex341, h⟩ := h.get
      refine ai ex341 rfl (pI rfl (dn ?_))
      exact ⟨⟨x341, (GDim.mk (Vector.setIfInBounds x312.E (Int.toNat x264) x336)), (0 : Int)⟩, h, sl⟩
    obtain ⟨x326, x327, x328⟩ := p
    replace h := hk346 x326 x327 x328 hp
    refine AWp.seq (AWp.seq (rN (pI rfl (pB rfl (dn (cB h (fun h => ?_) (fun h => ?_)))))))
    · refine sN (pI rfl (pS rfl (pS rfl (pI rfl (dn (AWp.ret ?_))))))
      subst h
      exact ⟨_, rfl, rfl⟩
    refine AWp.skip ?_
    refine rE [(5, [61, 1005]), (6, [65, 1006]), (9, [9]), (10, [10]), (57, [61, 1005]), (58, [9]), (60, [60]), (61, [61]), (62, [65, 1006]), (64, [64]), (65, [65])] ?_
    refine pO rfl (pP rfl (pG rfl ?_))
    refine AOps.lit tabOk (ys := [.v (.string x307.Name)]) rfl rfl rfl rfl rfl rfl ?_
    obtain ⟨h1, h2, x342, ex342, h⟩ := h.get
    refine AOps.append tabOk rfl rfl rfl rfl rfl rfl rfl rfl rfl rfl rfl (.inl ⟨_, rfl⟩) (app1 h1) (app2 h2) (app3 ex342) ?_
    refine pO rfl (pT rfl ?_)
    refine AOps.lit tabOk (ys := [GDim.enc x327]) rfl rfl rfl rfl rfl rfl ?_
    obtain ⟨h1, h2, x343, ex343, h⟩ := h.get
    refine AOps.append tabOk rfl rfl rfl rfl rfl rfl rfl rfl rfl rfl rfl (.inl ⟨_, rfl⟩) (app1 h1) (app2 h2) (app3 ex343) ?_
    refine pO rfl (pO rfl (dn (rN ?_)))
    obtain ⟨x344, ex344, h⟩ := h.get
    refine ai ex344 rfl (pI rfl (dn ?_))
    exact ⟨⟨x342, x343, x326, x344⟩, h.1, h.2, (slf (fun i => (if Nat.beq i 1006 then 65 else (if Nat.beq i 1005 then 61 else i))))⟩
  refine AWp.exit ?_
  refine sN (pO rfl (pO rfl (pO rfl (pO rfl (pI rfl (dn (AWp.ret ?_)))))))
  subst h
  exact ⟨_, rfl, rfl⟩
def W_ref14_Units (x1 : GTree) (Q : (List ByteArray) × (List GDim) × Int → Prop) : Prop :=
 Call (Ev_ref13_Right x1) fun x2 =>
 Br (x2 != (0 : Int)) (Q (([] : List ByteArray), ([] : List GDim), (133 : Int))) (
  Loop4 ([] : List ByteArray) ([] : List GDim) (0 : Int) (0 : Int) (fun (x532 : List ByteArray) (x533 : List GDim) (x534 : Int) (x535 : Int) next536 =>
   Br (decide (x535 < ((x1.Kids.length : Nat) : Int))) (
    At x1.Kids x535 fun x622 =>
    Br (x622.Kind != (31 : Int)) (
     Let (IntKind.i64.wrap (x535 + (1 : Int))) fun x624 =>
     next536 x532 x533 x534 x624) (
     Loop1 (0 : Int) (fun (x661 : Int) next662 =>
      Br (decide (x661 < ((x532.length : Nat) : Int))) (
       At x532 x661 fun x667 =>
       Br (x667.toList == x622.Name.toList) (Q (([] : List ByteArray), ([] : List GDim), (151 : Int))) (
        Let (IntKind.i64.wrap (x661 + (1 : Int))) fun x669 =>
        next662 x669)) (
       Call (Ev_ref14_Plain) fun x670 =>
       Join2 (fun j686 =>
        Br (((x622.Kids.length : Nat) : Int) == (0 : Int)) (
         Br (x534 == (7 : Int)) (Q (([] : List ByteArray), ([] : List GDim), (2 : Int))) (
          Call (Ev_ref14_Whole (1 : Int)) fun x687 =>
          At (Vector.toList x670.E) x534 fun x690 =>
          Let (IntKind.i64.wrap (x534 + (1 : Int))) fun x692 =>
          j686 x692 (GDim.mk (Vector.setIfInBounds x670.E (Int.toNat x534) x687)))) (
         At x622.Kids (0 : Int) fun x694 =>
         Call (Ev_ref14_Of x694 x532 x533) fun x696 =>
         Br (x696.2 != (0 : Int)) (Q (([] : List ByteArray), ([] : List GDim), x696.2)) (
          j686 x534 x696.1))
       ) (fun (x684 : Int) (x685 : GDim) =>
        App 16 x532 ([x622.Name]) fun x698 =>
        App 112 x533 ([x685]) fun x699 =>
        Let (IntKind.i64.wrap (x535 + (1 : Int))) fun x700 =>
        next536 x698 x699 x684 x700))))) (
    Q (x532, x533, (0 : Int)))))
theorem walk_ref14_Units {x1 : GTree} {r : (List ByteArray) × (List GDim) × Int} (h : W_ref14_Units x1 (fun r' => r' = r)) : Ev_ref14_Units x1 r := by
  unfold W_ref14_Units at h
  refine intr (L := [(0, .dat (GTree.out x1))]) Tryz.func8 Tryz.ntmps8 ?_
  refine sN (bx (v := .dat (.st _ _)) ?_)
  refine pS rfl (pS rfl (pI rfl (dn (AWp.seq (AWp.seq (rN (pT rfl ?_)))))))
  obtain ⟨x2, hc3, h⟩ := h
  refine ca hc3 rfl ⟨.inl rfl, trivial⟩ rfl (pB rfl (dn (cB h (fun h => ?_) (fun h => ?_))))
  · refine sN (pS rfl (pS rfl (pI rfl (dn (AWp.ret ?_)))))
    subst h
    exact ⟨_, rfl, rfl⟩
  refine AWp.skip ?_
  refine sN ?_
  refine AOps.litown tabOk (ys := []) rfl rfl rfl rfl rfl rfl rfl rfl ?_
  refine pO rfl (dn (AWp.seq (rN ?_)))
  refine AOps.litown tabOk (ys := []) rfl rfl rfl rfl rfl rfl rfl rfl ?_
  refine pO rfl (dn (AWp.seq (rN (pI rfl (dn (AWp.seq (AWp.seq (rN (pP rfl (pS rfl (al (((x1.Kids.length : Nat) : Int)) rfl (pI rfl (dn (AWp.block ?_))))))))))))))
  obtain ⟨I707, x708, hz709, hr710⟩ := h
  refine AWp.loop (I := fun p : (List ByteArray) × (List GDim) × Int × Int => mkSt [(5, .oref 1005), (6, .oref 1006), (7, .dat (.v (.int .i64 p.2.2.1))), (21, .dat (.sl 26 9 (List.map GTree.enc x1.Kids))), (22, .dat (.v (.int .i64 ((x1.Kids.length : Nat) : Int)))), (23, .dat (.v (.int .i64 p.2.2.2)))] [(1005, .row 9 1 (List.map eStr p.1)), (1006, .row 47 14 (List.map GDim.enc p.2.1))]) (Inv := fun p => I707 p.1 p.2.1 p.2.2.1 p.2.2.2) (μ := fun p => x708 p.1 p.2.1 p.2.2.1 p.2.2.2) (x0 := ⟨([] : List ByteArray), ([] : List GDim), (0 : Int), (0 : Int)⟩) hz709 (slf (fun i => (if Nat.beq i 1006 then 19 else (if Nat.beq i 1005 then 18 else i)))) (fun p hp => ?_)
  obtain ⟨x532, x533, x534, x535⟩ := p
  have h := hr710 x532 x533 x534 x535 hp
  refine sN (pW rfl (dn (AWp.seq (cB h (fun h => ?_) (fun h => ?_)))))
  · refine AWp.skip ?_
    refine AWp.seq (AWp.block (AWp.seq (rW ?_)))
    obtain ⟨hi621, x622, hx623, h⟩ := h
    refine AOps.idx tabOk (z := GTree.out x622) rfl rfl rfl rfl rfl rfl rfl rfl hi621 (GTree.get hx623) ?_
    refine pT rfl (al0 ?_)
    refine st (v := .dat (.st _ _)) ?_
    refine dn (AWp.seq (AWp.seq (rN (pP rfl (pI rfl (pB rfl (dn (cB h (fun h => ?_) (fun h => ?_)))))))))
    · refine AWp.exit ?_
      refine rN ?_
      obtain ⟨x624, ex624, h⟩ := h.get
      refine ai ex624 rfl (pI rfl (dn ?_))
      exact ⟨⟨x532, x533, x534, x624⟩, h.1, h.2, sl⟩
    refine AWp.skip ?_
    refine AWp.seq (AWp.seq (rN (pO rfl (al (((x532.length : Nat) : Int)) rfl (pI rfl (dn (AWp.block ?_)))))))
    obtain ⟨I703, x704, hz705, hr706⟩ := h
    refine AWp.loop (I := fun p : Int => mkSt [(5, .oref 1005), (6, .oref 1006), (7, .dat (.v (.int .i64 x534))), (9, .pt 9 [] 0), (21, .dat (.sl 26 9 (List.map GTree.enc x1.Kids))), (22, .dat (.v (.int .i64 ((x1.Kids.length : Nat) : Int)))), (23, .dat (.v (.int .i64 x535))), (30, .oref 1005), (31, .dat (.v (.int .i64 ((x532.length : Nat) : Int)))), (32, .dat (.v (.int .i64 p)))] [(9, .box 26 9 (.dat (GTree.out x622))), (1005, .row 9 1 (List.map eStr x532)), (1006, .row 47 14 (List.map GDim.enc x533))]) (Inv := fun p => I703 p) (μ := fun p => x704 p) (x0 := (0 : Int)) hz705 sl (fun p hp => ?_)
    have h := hr706 p hp
    revert h; clear hp; generalize p = x661; intro h
    refine sN (pW rfl (dn (AWp.seq (cB h (fun h => ?_) (fun h => ?_)))))
    · refine AWp.skip ?_
      refine AWp.seq (AWp.block (AWp.seq (rN ?_)))
      obtain ⟨hi666, x667, hx668, h⟩ := h
      refine AOps.idxown tabOk rfl rfl rfl rfl rfl rfl rfl rfl hi666 (map_lt hi666 hx668) rfl ?_
      refine AOps.loadrow tabOk rfl rfl rfl rfl rfl rfl rfl (map_get hx668) rfl ?_
      refine pG rfl (dn (AWp.seq (rN (pG rfl (pP rfl (pG rfl (pB rfl (dn (cB h (fun h => ?_) (fun h => ?_))))))))))
      · refine sN (pS rfl (pS rfl (pI rfl (dn (AWp.ret ?_)))))
        subst h
        exact ⟨_, rfl, rfl⟩
      refine AWp.skip ?_
      refine rN ?_
      obtain ⟨x669, ex669, h⟩ := h.get
      refine ai ex669 rfl (pI rfl (dn ?_))
      exact ⟨x669, h.1, h.2, sl⟩
    refine AWp.exit ?_
    refine sW ?_
    obtain ⟨x670, hc671, h⟩ := h
    refine ca hc671 rfl trivial rfl (al0 ?_)
    refine st (v := .dat (.st _ _)) ?_
    refine dn (AWp.seq (AWp.seq (rN (pP rfl (pS rfl (al (((x622.Kids.length : Nat) : Int)) rfl (pB rfl (dn ?_))))))))
    obtain ⟨J701, h, hk702⟩ := h
    refine AWp.cutK (I := fun p : Int × GDim => mkSt [(5, .oref 1005), (6, .oref 1006), (7, .dat (.v (.int .i64 p.1))), (9, .pt 9 [] 0), (12, .pt 12 [] 0), (21, .dat (.sl 26 9 (List.map GTree.enc x1.Kids))), (22, .dat (.v (.int .i64 ((x1.Kids.length : Nat) : Int)))), (23, .dat (.v (.int .i64 x535)))] [(9, .box 26 9 (.dat (GTree.out x622))), (12, .box 47 14 (.dat (GDim.enc p.2))), (1005, .row 9 1 (List.map eStr x532)), (1006, .row 47 14 (List.map GDim.enc x533))]) (Inv := fun p : Int × GDim => J701 p.1 p.2) ?_ (fun p hp => ?_)
    · refine cB h (fun h => ?_) (fun h => ?_)
      · refine AWp.seq (AWp.seq (rN (pI rfl (pB rfl (dn (cB h (fun h => ?_) (fun h => ?_)))))))
        · refine sN (pS rfl (pS rfl (pI rfl (dn (AWp.ret ?_)))))
          subst h
          exact ⟨_, rfl, rfl⟩
        refine AWp.skip ?_
        refine sW (pI rfl ?_)
        obtain ⟨x687, hc688, h⟩ := h
        refine ca hc688 rfl ⟨.inl rfl, trivial⟩ rfl (pP rfl ?_)
        obtain ⟨hi689, x690, hx691, h⟩ := h
        refine AOps.aidx tabOk rfl rfl rfl rfl rfl rfl rfl rfl hi689 (vec_lt hi689 hx691) rfl ?_
        refine AOps.store tabOk (v := .dat (.st _ _)) rfl rfl rfl rfl rfl rfl rfl (locA_ix [.fld 0] [] rfl (map_get hx691) rfl) rfl rfl rfl rfl (putA_ix [.fld 0] [] (o := 0) rfl (map_get hx691) rfl (vmap_set1 (e := GRat.enc) (x := x687)) rfl) ?_
        refine dn (rN (pI rfl ?_))
        obtain ⟨x692, ex692, h⟩ := h.get
        refine ai ex692 rfl (pI rfl (dn ?_))
        exact ⟨⟨x692, (GDim.mk (Vector.setIfInBounds x670.E (Int.toNat x534) x687))⟩, h, sl⟩
      refine sW (pP rfl (pS rfl ?_))
      obtain ⟨hi693, x694, hx695, h⟩ := h
      refine AOps.idx tabOk (z := GTree.out x694) rfl rfl rfl rfl rfl rfl rfl rfl hi693 (GTree.get hx695) ?_
      refine pT rfl (pO rfl (pO rfl ?_))
      obtain ⟨x696, hc697, h⟩ := h
      refine ca (AFn.fresh (by simp [bare, bareL, bareL_map, GDim.enc, GRat.enc]) hc697) rfl ⟨.inl rfl, .inr (.inr ⟨rfl, _, _, _, _, rfl, rfl, rfl⟩), .inr (.inr ⟨rfl, _, _, _, _, rfl, rfl, rfl⟩), trivial⟩ rfl (pU rfl (pT rfl (pI rfl (al0 ?_))))
      refine st (v := .dat (.st _ _)) ?_
      refine pI rfl (dn (AWp.seq (AWp.seq (rN (pI rfl (pB rfl (dn (cB h (fun h => ?_) (fun h => ?_)))))))))
      · refine sN (pI rfl (pS rfl (pS rfl (pI rfl (dn (AWp.ret ?_))))))
        subst h
        exact ⟨_, rfl, rfl⟩
      refine AWp.skip ?_
      refine rW (pT rfl (st (v := .dat (.st _ _)) ?_))
      refine dn ?_
      exact ⟨⟨x534, x696.1⟩, h, sl⟩
    obtain ⟨x684, x685⟩ := p
    replace h := hk702 x684 x685 hp
    refine sW (pO rfl (pP rfl (pG rfl ?_)))
    refine AOps.lit tabOk (ys := [.v (.string x622.Name)]) rfl rfl rfl rfl rfl rfl ?_
    obtain ⟨h1, h2, x698, ex698, h⟩ := h.get
    refine AOps.append tabOk rfl rfl rfl rfl rfl rfl rfl rfl rfl rfl rfl (.inl ⟨_, rfl⟩) (app1 h1) (app2 h2) (app3 ex698) ?_
    refine pO rfl (dn (rW (pO rfl (pT rfl ?_))))
    refine AOps.lit tabOk (ys := [GDim.enc x685]) rfl rfl rfl rfl rfl rfl ?_
    obtain ⟨h1, h2, x699, ex699, h⟩ := h.get
    refine AOps.append tabOk rfl rfl rfl rfl rfl rfl rfl rfl rfl rfl rfl (.inl ⟨_, rfl⟩) (app1 h1) (app2 h2) (app3 ex699) ?_
    refine pO rfl (dn (rN ?_))
    obtain ⟨x700, ex700, h⟩ := h.get
    refine ai ex700 rfl (pI rfl (dn ?_))
    exact ⟨⟨x698, x699, x684, x700⟩, h.1, h.2, (slf (fun i => (if Nat.beq i 1006 then 76 else (if Nat.beq i 1005 then 72 else i))))⟩
  refine AWp.exit ?_
  refine sN (pO rfl (pO rfl (pO rfl (pO rfl (pI rfl (dn (AWp.ret ?_)))))))
  subst h
  exact ⟨_, rfl, rfl⟩
def W_ref14_Like (a1 : List GDim) (b2 : List GDim) (Q : Bool → Prop) : Prop :=
 Br (((a1.length : Nat) : Int) != ((b2.length : Nat) : Int)) (Q false) (
  Loop1 (0 : Int) (fun (x53 : Int) next54 =>
   Br (decide (x53 < ((a1.length : Nat) : Int))) (
    At a1 x53 fun x62 =>
    At b2 x53 fun x65 =>
    Br (!(GDim.beq x62 x65)) (Q false) (
     Let (IntKind.i64.wrap (x53 + (1 : Int))) fun x67 =>
     next54 x67)) (
    Q true)))
theorem walk_ref14_Like {a1 : List GDim} {b2 : List GDim} {r : Bool} (h : W_ref14_Like a1 b2 (fun r' => r' = r)) : Ev_ref14_Like a1 b2 r := by
  unfold W_ref14_Like at h
  refine intr (L := [(0, .dat (.sl 47 14 (List.map GDim.enc a1))), (1, .dat (.sl 47 14 (List.map GDim.enc b2)))]) Tryz.func10 Tryz.ntmps10 ?_
  refine sN (pB rfl (dn (AWp.seq (AWp.seq (rN (pS rfl (al (((a1.length : Nat) : Int)) rfl (pS rfl (al (((b2.length : Nat) : Int)) rfl (pB rfl (dn (cB h (fun h => ?_) (fun h => ?_)))))))))))))
  · refine sN (pB rfl (dn (AWp.ret ?_)))
    subst h
    exact ⟨_, rfl, rfl⟩
  refine AWp.skip ?_
  refine AWp.seq (AWp.seq (rN (pS rfl (al (((a1.length : Nat) : Int)) rfl (pI rfl (dn (AWp.block ?_)))))))
  obtain ⟨I68, x69, hz70, hr71⟩ := h
  refine AWp.loop (I := fun p : Int => mkSt [(0, .dat (.sl 47 14 (List.map GDim.enc a1))), (1, .dat (.sl 47 14 (List.map GDim.enc b2))), (12, .dat (.v (.int .i64 ((a1.length : Nat) : Int)))), (13, .dat (.v (.int .i64 p)))] []) (Inv := fun p => I68 p) (μ := fun p => x69 p) (x0 := (0 : Int)) hz70 sl (fun p hp => ?_)
  have h := hr71 p hp
  revert h; clear hp; generalize p = x53; intro h
  refine sN (pW rfl (dn (AWp.seq (cB h (fun h => ?_) (fun h => ?_)))))
  · refine AWp.skip ?_
    refine AWp.seq (AWp.block (AWp.seq (rN (pI rfl (pI rfl (dn (AWp.seq (rD (pS rfl (pI rfl ?_))))))))))
    obtain ⟨hi61, x62, hx63, h⟩ := h
    refine AOps.idx tabOk (z := GDim.enc x62) rfl rfl rfl rfl rfl rfl rfl rfl hi61 (map_get hx63) ?_
    refine pT rfl (pS rfl (pI rfl ?_))
    obtain ⟨hi64, x65, hx66, h⟩ := h
    refine AOps.idx tabOk (z := GDim.enc x65) rfl rfl rfl rfl rfl rfl rfl rfl hi64 (map_get hx66) ?_
    refine pT rfl ?_
    refine AOps.nes rfl rfl rfl rfl rfl rfl rfl (by decide +kernel) (GDim.eqok47 _ x62 x65) ?_
    refine dn (cB h (fun h => ?_) (fun h => ?_))
    · refine sN (pB rfl (dn (AWp.ret ?_)))
      subst h
      exact ⟨_, rfl, rfl⟩
    refine AWp.skip ?_
    refine rN ?_
    obtain ⟨x67, ex67, h⟩ := h.get
    refine ai ex67 rfl (pI rfl (dn ?_))
    exact ⟨x67, h.1, h.2, sl⟩
  refine AWp.exit ?_
  refine sN (pB rfl (dn (AWp.ret ?_)))
  subst h
  exact ⟨_, rfl, rfl⟩
def W_slices_Contains_string (s1 : List ByteArray) (v2 : ByteArray) (Q : Bool → Prop) : Prop :=
 Call (Ev_slices_Index_string s1 v2) fun x3 =>
 Q (decide (x3 ≥ (0 : Int)))
theorem walk_slices_Contains_string {s1 : List ByteArray} {v2 : ByteArray} {r : Bool} (h : W_slices_Contains_string s1 v2 (fun r' => r' = r)) : Ev_slices_Contains_string s1 v2 r := by
  unfold W_slices_Contains_string at h
  refine intr (L := [(0, .dat (.sl 9 1 (List.map eStr s1))), (1, .dat (.v (.string v2)))]) Tryz.func18 Tryz.ntmps18 ?_
  refine sN (pB rfl (dn (AWp.seq (rN (pS rfl (pG rfl ?_))))))
  obtain ⟨x3, hc4, h⟩ := h
  refine ca hc4 rfl ⟨.inl rfl, .inl rfl, trivial⟩ rfl (pB rfl (pB rfl (dn (AWp.ret ?_))))
  subst h
  exact ⟨_, rfl, rfl⟩
end Go.Sim.YtffglpibobogcaaGreatDoor
