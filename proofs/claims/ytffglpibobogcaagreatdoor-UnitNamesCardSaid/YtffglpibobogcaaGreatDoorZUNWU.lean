/- What is proved: functions of the program compute what plain statements tell. -/
import Derived.Test.YtffglpibobogcaaGreatDoorZUNWE

namespace Go.Sim.YtffglpibobogcaaGreatDoor
open Go.RowKit Go.Proofs Go.Proofs.Tryz
set_option maxRecDepth 100000
def W_unit_Right (d1 : GDim) (Q : Bool → Prop) : Prop :=
 Loop1 (0 : Int) (fun (x43 : Int) next44 =>
  Br (decide (x43 < (7 : Int))) (
   At (Vector.toList d1.E) x43 fun x51 =>
   Call (Ev_rat_Right x51) fun x53 =>
   Br (!x53) (Q false) (
    Let (IntKind.i64.wrap (x43 + (1 : Int))) fun x55 =>
    next44 x55)) (
   Q true))
theorem walk_unit_Right {d1 : GDim} {r : Bool} (h : W_unit_Right d1 (fun r' => r' = r)) : Ev_unit_Right d1 r := by
  unfold W_unit_Right at h
  refine intr (L := [(0, .dat (GDim.enc d1))]) Tryz.func45 Tryz.ntmps45 ?_
  refine sN (bx (v := .dat (.st _ _)) ?_)
  refine pB rfl (dn (AWp.seq (AWp.seq (rN (pP rfl ?_)))))
  refine AOps.loadix tabOk rfl rfl rfl rfl rfl rfl rfl (aggMatch_arr rfl rfl) rfl ?_
  refine pI rfl (dn (AWp.block ?_))
  obtain ⟨I56, x57, hz58, hr59⟩ := h
  refine AWp.loop (I := fun p : Int => mkSt [(6, .dat (.ar 2 (List.map GRat.enc (Vector.toList d1.E)))), (7, .dat (.v (.int .i64 p)))] []) (Inv := fun p => I56 p) (μ := fun p => x57 p) (x0 := (0 : Int)) hz58 sl (fun p hp => ?_)
  have h := hr59 p hp
  revert h; clear hp; generalize p = x43; intro h
  refine sN (pW rfl (dn (AWp.seq (cB h (fun h => ?_) (fun h => ?_)))))
  · refine AWp.skip ?_
    refine AWp.seq (AWp.block (AWp.seq (rW ?_)))
    obtain ⟨hi50, x51, hx52, h⟩ := h
    refine AOps.idxv tabOk (z := GRat.enc x51) rfl rfl rfl rfl rfl rfl rfl rfl rfl rfl hi50 (vec_lt hi50 hx52) (map_get hx52) ?_
    refine al0 ?_
    refine st (v := .dat (.st _ _)) ?_
    refine dn (sN (pT rfl ?_))
    obtain ⟨x53, hc54, h⟩ := h
    refine ca hc54 rfl ⟨.inl rfl, trivial⟩ rfl (pB rfl (dn (cB h (fun h => ?_) (fun h => ?_))))
    · refine sN (pB rfl (dn (AWp.ret ?_)))
      subst h
      exact ⟨_, rfl, rfl⟩
    refine AWp.skip ?_
    refine rN ?_
    obtain ⟨x55, ex55, h⟩ := h.get
    refine ai ex55 rfl (pI rfl (dn ?_))
    exact ⟨x55, h.1, h.2, sl⟩
  refine AWp.exit ?_
  refine sN (pB rfl (dn (AWp.ret ?_)))
  subst h
  exact ⟨_, rfl, rfl⟩
def W_unit_Plain (Q : GDim → Prop) : Prop :=
 Loop2 GDim.zero (0 : Int) (fun (d35 : GDim) (x36 : Int) next37 =>
  Br (decide (x36 < (7 : Int))) (
   At (Vector.toList d35.E) x36 fun x42 =>
   Let (IntKind.i64.wrap (x36 + (1 : Int))) fun x44 =>
   next37 (GDim.mk (Vector.setIfInBounds d35.E (Int.toNat x36) ({ x42 with D := (1 : Int) }))) x44) (
   Q d35))
theorem walk_unit_Plain {r : GDim} (h : W_unit_Plain (fun r' => r' = r)) : Ev_unit_Plain r := by
  unfold W_unit_Plain at h
  refine intr (L := []) Tryz.func19 Tryz.ntmps19 ?_
  refine sN (al0 ?_)
  refine dn (sN (al0 ?_))
  refine dn (AWp.seq (AWp.seq (rN (pI rfl (dn (AWp.block ?_))))))
  obtain ⟨I45, x46, hz47, hr48⟩ := h
  refine AWp.loop (I := fun p : GDim × Int => mkSt [(0, .pt 0 [] 0), (1, .pt 1 [] 0), (3, .dat (.v (.int .i64 p.2)))] [(0, .box 47 14 (.dat (GDim.enc GDim.zero))), (1, .box 47 14 (.dat (GDim.enc p.1)))]) (Inv := fun p => I45 p.1 p.2) (μ := fun p => x46 p.1 p.2) (x0 := ⟨GDim.zero, (0 : Int)⟩) hz47 sl (fun p hp => ?_)
  obtain ⟨d35, x36⟩ := p
  have h := hr48 d35 x36 hp
  refine sN (pW rfl (dn (AWp.seq (cB h (fun h => ?_) (fun h => ?_)))))
  · refine AWp.skip ?_
    refine AWp.seq (AWp.block (AWp.seq (rN (pI rfl (pI rfl (dn (rW (pI rfl (pP rfl ?_)))))))))
    obtain ⟨hi41, x42, hx43, h⟩ := h
    refine AOps.aidx tabOk rfl rfl rfl rfl rfl rfl rfl rfl hi41 (vec_lt hi41 hx43) rfl ?_
    refine pP rfl ?_
    refine AOps.store tabOk (v := .dat (.v (.int _ _))) rfl rfl rfl rfl rfl rfl rfl (locA_ix [.fld 0] [.fld 1] rfl (map_get hx43) rfl) rfl rfl rfl rfl (putA_ix [.fld 0] [.fld 1] (o := 0) rfl (map_get hx43) rfl (vmap_set1 (e := GRat.enc) (x := ({ x42 with D := (1 : Int) }))) rfl) ?_
    refine dn (rN ?_)
    obtain ⟨x44, ex44, h⟩ := h.get
    refine ai ex44 rfl (pI rfl (dn ?_))
    exact ⟨⟨(GDim.mk (Vector.setIfInBounds d35.E (Int.toNat x36) ({ x42 with D := (1 : Int) }))), x44⟩, h.1, h.2, sl⟩
  refine AWp.exit ?_
  refine sW (pT rfl (st (v := .dat (.st _ _)) ?_))
  subst h; exact dn (AWp.ret ⟨_, rfl, rfl⟩)
def W_unit_Times (a1 : GDim) (b2 : GDim) (p3 : GRat) (Q : GDim × Int → Prop) : Prop :=
 Call (Ev_unit_Right a1) fun x10 =>
 Br (!x10) (Q (GDim.zero, (1 : Int))) (
  Call (Ev_unit_Right b2) fun x12 =>
  Br (!x12) (Q (GDim.zero, (1 : Int))) (
   Call (Ev_rat_Right p3) fun x14 =>
   Br (!x14) (Q (GDim.zero, (1 : Int))) (
    Loop2 GDim.zero (0 : Int) (fun (out116 : GDim) (x117 : Int) next118 =>
     Br (decide (x117 < (7 : Int))) (
      At (Vector.toList b2.E) x117 fun x133 =>
      Call (Ev_rat_Mul x133 p3) fun x135 =>
      Br (x135.2 != (0 : Int)) (Q (GDim.zero, x135.2)) (
       At (Vector.toList a1.E) x117 fun x138 =>
       Call (Ev_rat_Add x138 x135.1) fun x140 =>
       At (Vector.toList out116.E) x117 fun x143 =>
       Br (x140.2 != (0 : Int)) (Q (GDim.zero, x140.2)) (
        Let (IntKind.i64.wrap (x117 + (1 : Int))) fun x145 =>
        next118 (GDim.mk (Vector.setIfInBounds out116.E (Int.toNat x117) x140.1)) x145))) (
      Q (out116, (0 : Int)))))))
theorem walk_unit_Times {a1 : GDim} {b2 : GDim} {p3 : GRat} {r : GDim × Int} (h : W_unit_Times a1 b2 p3 (fun r' => r' = r)) : Ev_unit_Times a1 b2 p3 r := by
  unfold W_unit_Times at h
  refine intr (L := [(0, .dat (GDim.enc a1)), (1, .dat (GDim.enc b2)), (2, .dat (GRat.enc p3))]) Tryz.func68 Tryz.ntmps68 ?_
  refine sN (bx (v := .dat (.st _ _)) ?_)
  refine bx (v := .dat (.st _ _)) ?_
  refine bx (v := .dat (.st _ _)) ?_
  refine al0 ?_
  refine pI rfl (dn (AWp.seq (AWp.seq (rN (pT rfl ?_)))))
  obtain ⟨x10, hc11, h⟩ := h
  refine ca hc11 rfl ⟨.inl rfl, trivial⟩ rfl (pB rfl (pB rfl (sB 15 h (fun h => ?_) (fun h => ?_))))
  · refine ff rfl (ff rfl (ff rfl (pB rfl (pB rfl (ff rfl (ff rfl (ff rfl (pB rfl (dn ?_)))))))))
    refine AWp.condT rfl ?_
    refine sW (pT rfl (st (v := .dat (.st _ _)) ?_))
    refine pI rfl (dn (AWp.ret ?_))
    subst h
    exact ⟨_, rfl, rfl⟩
  refine pT rfl ?_
  obtain ⟨x12, hc13, h⟩ := h
  refine ca hc13 rfl ⟨.inl rfl, trivial⟩ rfl (pB rfl (pB rfl (pB rfl (sB 20 h (fun h => ?_) (fun h => ?_)))))
  · refine ff rfl (ff rfl (ff rfl (pB rfl (dn ?_))))
    refine AWp.condT rfl ?_
    refine sW (pT rfl (st (v := .dat (.st _ _)) ?_))
    refine pI rfl (dn (AWp.ret ?_))
    subst h
    exact ⟨_, rfl, rfl⟩
  refine pT rfl ?_
  obtain ⟨x14, hc15, h⟩ := h
  refine ca hc15 rfl ⟨.inl rfl, trivial⟩ rfl (pB rfl (pB rfl (dn (cB h (fun h => ?_) (fun h => ?_)))))
  · refine sW (pT rfl (st (v := .dat (.st _ _)) ?_))
    refine pI rfl (dn (AWp.ret ?_))
    subst h
    exact ⟨_, rfl, rfl⟩
  refine AWp.skip ?_
  refine sN (al0 ?_)
  refine dn (AWp.seq (AWp.seq (rN (pI rfl (dn (AWp.block ?_))))))
  obtain ⟨I146, x147, hz148, hr149⟩ := h
  refine AWp.loop (I := fun p : GDim × Int => mkSt [(3, .pt 3 [] 0), (4, .pt 4 [] 0), (5, .pt 5 [] 0), (6, .pt 6 [] 0), (8, .pt 8 [] 0), (26, .dat (.v (.int .i64 p.2)))] [(3, .box 47 14 (.dat (GDim.enc a1))), (4, .box 47 14 (.dat (GDim.enc b2))), (5, .box 23 2 (.dat (GRat.enc p3))), (6, .box 47 14 (.dat (GDim.enc GDim.zero))), (8, .box 47 14 (.dat (GDim.enc p.1)))]) (Inv := fun p => I146 p.1 p.2) (μ := fun p => x147 p.1 p.2) (x0 := ⟨GDim.zero, (0 : Int)⟩) hz148 sl (fun p hp => ?_)
  obtain ⟨out116, x117⟩ := p
  have h := hr149 out116 x117 hp
  refine sN (pW rfl (dn (AWp.seq (cB h (fun h => ?_) (fun h => ?_)))))
  · refine AWp.skip ?_
    refine AWp.seq (AWp.block (AWp.seq (rN (pI rfl (pI rfl (dn (AWp.seq (rE [(4, [4]), (5, [5]), (9, []), (10, [10]), (30, []), (31, [4])] ?_))))))))
    refine pI rfl (pP rfl ?_)
    obtain ⟨hi132, x133, hx134, h⟩ := h
    refine AOps.aidx tabOk rfl rfl rfl rfl rfl rfl rfl rfl hi132 (vec_lt hi132 hx134) rfl ?_
    refine AOps.loadix tabOk rfl rfl rfl rfl rfl rfl rfl rfl (locA_ix [.fld 0] [] rfl (map_get hx134) rfl) ?_
    refine pT rfl ?_
    obtain ⟨x135, hc136, h⟩ := h
    refine ca hc136 rfl ⟨.inl rfl, .inl rfl, trivial⟩ rfl (pU rfl (pT rfl (pI rfl (al0 ?_))))
    refine st (v := .dat (.st _ _)) ?_
    refine pI rfl (dn (AWp.seq (AWp.seq (rN (pI rfl (pB rfl (dn (cB h (fun h => ?_) (fun h => ?_)))))))))
    · refine sW (pT rfl (pI rfl (st (v := .dat (.st _ _)) ?_)))
      refine pI rfl (dn (AWp.ret ?_))
      subst h
      exact ⟨_, rfl, rfl⟩
    refine AWp.skip ?_
    refine AWp.seq (rE [(3, [3]), (8, [8]), (9, []), (10, [10]), (43, []), (44, []), (45, [3]), (52, [8])] ?_)
    refine pI rfl (pI rfl (pP rfl ?_))
    obtain ⟨hi137, x138, hx139, h⟩ := h
    refine AOps.aidx tabOk rfl rfl rfl rfl rfl rfl rfl rfl hi137 (vec_lt hi137 hx139) rfl ?_
    refine AOps.loadix tabOk rfl rfl rfl rfl rfl rfl rfl rfl (locA_ix [.fld 0] [] rfl (map_get hx139) rfl) ?_
    refine pT rfl ?_
    obtain ⟨x140, hc141, h⟩ := h
    refine ca hc141 rfl ⟨.inl rfl, .inl rfl, trivial⟩ rfl (pU rfl (pT rfl (pI rfl (pP rfl ?_))))
    obtain ⟨hi142, x143, hx144, h⟩ := h
    refine AOps.aidx tabOk rfl rfl rfl rfl rfl rfl rfl rfl hi142 (vec_lt hi142 hx144) rfl ?_
    refine AOps.store tabOk (v := .dat (.st _ _)) rfl rfl rfl rfl rfl rfl rfl (locA_ix [.fld 0] [] rfl (map_get hx144) rfl) rfl rfl rfl rfl (putA_ix [.fld 0] [] (o := 0) rfl (map_get hx144) rfl (vmap_set1 (e := GRat.enc) (x := x140.1)) rfl) ?_
    refine pI rfl (dn (AWp.seq (rN (pI rfl (pB rfl (dn (cB h (fun h => ?_) (fun h => ?_))))))))
    · refine sW (pT rfl (pI rfl (st (v := .dat (.st _ _)) ?_)))
      refine pI rfl (dn (AWp.ret ?_))
      subst h
      exact ⟨_, rfl, rfl⟩
    refine AWp.skip ?_
    refine rN ?_
    obtain ⟨x145, ex145, h⟩ := h.get
    refine ai ex145 rfl (pI rfl (dn ?_))
    exact ⟨⟨(GDim.mk (Vector.setIfInBounds out116.E (Int.toNat x117) x140.1)), x145⟩, h.1, h.2, sl⟩
  refine AWp.exit ?_
  refine sW (pT rfl (st (v := .dat (.st _ _)) ?_))
  refine pI rfl (dn (AWp.ret ?_))
  subst h
  exact ⟨_, rfl, rfl⟩
def W_ref14_Right (d1 : GDim) (Q : Bool → Prop) : Prop :=
 Loop1 (0 : Int) (fun (i45 : Int) next46 =>
  Br (decide (i45 < (7 : Int))) (
   At (Vector.toList d1.E) i45 fun x53 =>
   Call (Ev_ref11_Right x53) fun x55 =>
   Br (!x55) (Q false) (
    Let (IntKind.i64.wrap (i45 + (1 : Int))) fun x57 =>
    next46 x57)) (
   Q true))
theorem walk_ref14_Right {d1 : GDim} {r : Bool} (h : W_ref14_Right d1 (fun r' => r' = r)) : Ev_ref14_Right d1 r := by
  unfold W_ref14_Right at h
  refine intr (L := [(0, .dat (GDim.enc d1))]) Tryz.func49 Tryz.ntmps49 ?_
  refine sN (bx (v := .dat (.st _ _)) ?_)
  refine pB rfl (dn (AWp.seq (AWp.seq (rN (pI rfl (dn (AWp.block ?_)))))))
  obtain ⟨I58, x59, hz60, hr61⟩ := h
  refine AWp.loop (I := fun p : Int => mkSt [(1, .pt 1 [] 0), (3, .dat (.v (.int .i64 p)))] [(1, .box 47 14 (.dat (GDim.enc d1)))]) (Inv := fun p => I58 p) (μ := fun p => x59 p) (x0 := (0 : Int)) hz60 sl (fun p hp => ?_)
  have h := hr61 p hp
  revert h; clear hp; generalize p = i45; intro h
  refine AWp.seq (AWp.seq (rN (pI rfl (pB rfl (dn (cB h (fun h => ?_) (fun h => ?_)))))))
  · refine AWp.skip ?_
    refine AWp.seq (AWp.block (AWp.seq (rN (pI rfl (pP rfl ?_)))))
    obtain ⟨hi52, x53, hx54, h⟩ := h
    refine AOps.aidx tabOk rfl rfl rfl rfl rfl rfl rfl rfl hi52 (vec_lt hi52 hx54) rfl ?_
    refine AOps.loadix tabOk rfl rfl rfl rfl rfl rfl rfl rfl (locA_ix [.fld 0] [] rfl (map_get hx54) rfl) ?_
    obtain ⟨x55, hc56, h⟩ := h
    refine ca hc56 rfl ⟨.inl rfl, trivial⟩ rfl (pB rfl (dn (cB h (fun h => ?_) (fun h => ?_))))
    · refine sN (pB rfl (dn (AWp.ret ?_)))
      subst h
      exact ⟨_, rfl, rfl⟩
    refine AWp.skip ?_
    refine rN (pI rfl ?_)
    obtain ⟨x57, ex57, h⟩ := h.get
    refine ai ex57 rfl (pI rfl (dn ?_))
    exact ⟨x57, h.1, h.2, sl⟩
  refine AWp.exit ?_
  refine sN (pB rfl (dn (AWp.ret ?_)))
  subst h
  exact ⟨_, rfl, rfl⟩
def W_ref14_Plain (Q : GDim → Prop) : Prop :=
 Loop2 GDim.zero (0 : Int) (fun (d47 : GDim) (i48 : Int) next49 =>
  Br (decide (i48 < (7 : Int))) (
   Call (Ev_ref14_Whole (0 : Int)) fun x55 =>
   At (Vector.toList d47.E) i48 fun x58 =>
   Let (IntKind.i64.wrap (i48 + (1 : Int))) fun x60 =>
   next49 (GDim.mk (Vector.setIfInBounds d47.E (Int.toNat i48) x55)) x60) (
   Q d47))
theorem walk_ref14_Plain {r : GDim} (h : W_ref14_Plain (fun r' => r' = r)) : Ev_ref14_Plain r := by
  unfold W_ref14_Plain at h
  refine intr (L := []) Tryz.func23 Tryz.ntmps23 ?_
  refine sN (al0 ?_)
  refine dn (sW (pT rfl (al0 ?_)))
  refine st (v := .dat (.st _ _)) ?_
  refine dn (AWp.seq (AWp.seq (rN (pI rfl (dn (AWp.block ?_))))))
  obtain ⟨I61, x62, hz63, hr64⟩ := h
  refine AWp.loop (I := fun p : GDim × Int => mkSt [(0, .pt 0 [] 0), (1, .pt 1 [] 0), (2, .dat (.v (.int .i64 p.2)))] [(0, .box 47 14 (.dat (GDim.enc GDim.zero))), (1, .box 47 14 (.dat (GDim.enc p.1)))]) (Inv := fun p => I61 p.1 p.2) (μ := fun p => x62 p.1 p.2) (x0 := ⟨GDim.zero, (0 : Int)⟩) hz63 sl (fun p hp => ?_)
  obtain ⟨d47, i48⟩ := p
  have h := hr64 d47 i48 hp
  refine AWp.seq (AWp.seq (rN (pI rfl (pB rfl (dn (cB h (fun h => ?_) (fun h => ?_)))))))
  · refine AWp.skip ?_
    refine AWp.seq (AWp.block (rW (pI rfl ?_)))
    obtain ⟨x55, hc56, h⟩ := h
    refine ca hc56 rfl ⟨.inl rfl, trivial⟩ rfl (pP rfl ?_)
    obtain ⟨hi57, x58, hx59, h⟩ := h
    refine AOps.aidx tabOk rfl rfl rfl rfl rfl rfl rfl rfl hi57 (vec_lt hi57 hx59) rfl ?_
    refine AOps.store tabOk (v := .dat (.st _ _)) rfl rfl rfl rfl rfl rfl rfl (locA_ix [.fld 0] [] rfl (map_get hx59) rfl) rfl rfl rfl rfl (putA_ix [.fld 0] [] (o := 0) rfl (map_get hx59) rfl (vmap_set1 (e := GRat.enc) (x := x55)) rfl) ?_
    refine dn (rN (pI rfl ?_))
    obtain ⟨x60, ex60, h⟩ := h.get
    refine ai ex60 rfl (pI rfl (dn ?_))
    exact ⟨⟨(GDim.mk (Vector.setIfInBounds d47.E (Int.toNat i48) x55)), x60⟩, h.1, h.2, sl⟩
  refine AWp.exit ?_
  refine sW (pT rfl (st (v := .dat (.st _ _)) ?_))
  subst h; exact dn (AWp.ret ⟨_, rfl, rfl⟩)
def W_ref14_Times (a1 : GDim) (b2 : GDim) (p3 : GRat) (Q : GDim × Int → Prop) : Prop :=
 Call (Ev_ref14_Right a1) fun x10 =>
 Br (!x10) (Q (GDim.zero, (1 : Int))) (
  Call (Ev_ref14_Right b2) fun x12 =>
  Br (!x12) (Q (GDim.zero, (1 : Int))) (
   Call (Ev_ref11_Right p3) fun x14 =>
   Br (!x14) (Q (GDim.zero, (1 : Int))) (
    Loop2 GDim.zero (0 : Int) (fun (out116 : GDim) (i117 : Int) next118 =>
     Br (decide (i117 < (7 : Int))) (
      At (Vector.toList b2.E) i117 fun x133 =>
      Call (Ev_ref11_Mul x133 p3) fun x135 =>
      Br (x135.2 != (0 : Int)) (Q (GDim.zero, x135.2)) (
       At (Vector.toList a1.E) i117 fun x138 =>
       Call (Ev_ref11_Add x138 x135.1) fun x140 =>
       Br (x140.2 != (0 : Int)) (Q (GDim.zero, x140.2)) (
        At (Vector.toList out116.E) i117 fun x143 =>
        Let (IntKind.i64.wrap (i117 + (1 : Int))) fun x145 =>
        next118 (GDim.mk (Vector.setIfInBounds out116.E (Int.toNat i117) x140.1)) x145))) (
      Q (out116, (0 : Int)))))))
theorem walk_ref14_Times {a1 : GDim} {b2 : GDim} {p3 : GRat} {r : GDim × Int} (h : W_ref14_Times a1 b2 p3 (fun r' => r' = r)) : Ev_ref14_Times a1 b2 p3 r := by
  unfold W_ref14_Times at h
  refine intr (L := [(0, .dat (GDim.enc a1)), (1, .dat (GDim.enc b2)), (2, .dat (GRat.enc p3))]) Tryz.func71 Tryz.ntmps71 ?_
  refine sN (bx (v := .dat (.st _ _)) ?_)
  refine bx (v := .dat (.st _ _)) ?_
  refine bx (v := .dat (.st _ _)) ?_
  refine al0 ?_
  refine pI rfl (dn (AWp.seq (AWp.seq (rN (pT rfl ?_)))))
  obtain ⟨x10, hc11, h⟩ := h
  refine ca hc11 rfl ⟨.inl rfl, trivial⟩ rfl (pB rfl (pB rfl (sB 17 h (fun h => ?_) (fun h => ?_))))
  · refine ff rfl (ff rfl (ff rfl (pB rfl (pB rfl (ff rfl (ff rfl (ff rfl (pB rfl (dn ?_)))))))))
    refine AWp.condT rfl ?_
    refine sW (pT rfl (st (v := .dat (.st _ _)) ?_))
    refine pI rfl (dn (AWp.ret ?_))
    subst h
    exact ⟨_, rfl, rfl⟩
  refine pT rfl ?_
  obtain ⟨x12, hc13, h⟩ := h
  refine ca hc13 rfl ⟨.inl rfl, trivial⟩ rfl (pB rfl (pB rfl (pB rfl (sB 22 h (fun h => ?_) (fun h => ?_)))))
  · refine ff rfl (ff rfl (ff rfl (pB rfl (dn ?_))))
    refine AWp.condT rfl ?_
    refine sW (pT rfl (st (v := .dat (.st _ _)) ?_))
    refine pI rfl (dn (AWp.ret ?_))
    subst h
    exact ⟨_, rfl, rfl⟩
  refine pT rfl ?_
  obtain ⟨x14, hc15, h⟩ := h
  refine ca hc15 rfl ⟨.inl rfl, trivial⟩ rfl (pB rfl (pB rfl (dn (cB h (fun h => ?_) (fun h => ?_)))))
  · refine sW (pT rfl (st (v := .dat (.st _ _)) ?_))
    refine pI rfl (dn (AWp.ret ?_))
    subst h
    exact ⟨_, rfl, rfl⟩
  refine AWp.skip ?_
  refine sW (pT rfl (al0 ?_))
  refine st (v := .dat (.st _ _)) ?_
  refine dn (AWp.seq (AWp.seq (rN (pI rfl (dn (AWp.block ?_))))))
  obtain ⟨I146, x147, hz148, hr149⟩ := h
  refine AWp.loop (I := fun p : GDim × Int => mkSt [(3, .pt 3 [] 0), (4, .pt 4 [] 0), (5, .pt 5 [] 0), (6, .pt 6 [] 0), (8, .pt 8 [] 0), (9, .dat (.v (.int .i64 p.2)))] [(3, .box 47 14 (.dat (GDim.enc a1))), (4, .box 47 14 (.dat (GDim.enc b2))), (5, .box 23 2 (.dat (GRat.enc p3))), (6, .box 47 14 (.dat (GDim.enc GDim.zero))), (8, .box 47 14 (.dat (GDim.enc p.1)))]) (Inv := fun p => I146 p.1 p.2) (μ := fun p => x147 p.1 p.2) (x0 := ⟨GDim.zero, (0 : Int)⟩) hz148 sl (fun p hp => ?_)
  obtain ⟨out116, i117⟩ := p
  have h := hr149 out116 i117 hp
  refine AWp.seq (AWp.seq (rN (pI rfl (pB rfl (dn (cB h (fun h => ?_) (fun h => ?_)))))))
  · refine AWp.skip ?_
    refine AWp.seq (AWp.block (AWp.seq (rE [(4, [4]), (5, [5]), (9, []), (10, [10]), (34, []), (35, [4])] ?_)))
    refine pI rfl (pP rfl ?_)
    obtain ⟨hi132, x133, hx134, h⟩ := h
    refine AOps.aidx tabOk rfl rfl rfl rfl rfl rfl rfl rfl hi132 (vec_lt hi132 hx134) rfl ?_
    refine AOps.loadix tabOk rfl rfl rfl rfl rfl rfl rfl rfl (locA_ix [.fld 0] [] rfl (map_get hx134) rfl) ?_
    refine pT rfl ?_
    obtain ⟨x135, hc136, h⟩ := h
    refine ca hc136 rfl ⟨.inl rfl, .inl rfl, trivial⟩ rfl (pU rfl (pT rfl (pI rfl (al0 ?_))))
    refine st (v := .dat (.st _ _)) ?_
    refine pI rfl (dn (AWp.seq (AWp.seq (rN (pI rfl (pB rfl (dn (cB h (fun h => ?_) (fun h => ?_)))))))))
    · refine sW (pT rfl (pI rfl (st (v := .dat (.st _ _)) ?_)))
      refine pI rfl (dn (AWp.ret ?_))
      subst h
      exact ⟨_, rfl, rfl⟩
    refine AWp.skip ?_
    refine AWp.seq (rE [(3, [3]), (9, []), (10, [10]), (12, [12]), (47, []), (48, [3])] ?_)
    refine pI rfl (pP rfl ?_)
    obtain ⟨hi137, x138, hx139, h⟩ := h
    refine AOps.aidx tabOk rfl rfl rfl rfl rfl rfl rfl rfl hi137 (vec_lt hi137 hx139) rfl ?_
    refine AOps.loadix tabOk rfl rfl rfl rfl rfl rfl rfl rfl (locA_ix [.fld 0] [] rfl (map_get hx139) rfl) ?_
    refine pT rfl ?_
    obtain ⟨x140, hc141, h⟩ := h
    refine ca hc141 rfl ⟨.inl rfl, .inl rfl, trivial⟩ rfl (pU rfl (pT rfl (pI rfl (al0 ?_))))
    refine st (v := .dat (.st _ _)) ?_
    refine pI rfl (dn (AWp.seq (AWp.seq (rN (pI rfl (pB rfl (dn (cB h (fun h => ?_) (fun h => ?_)))))))))
    · refine sW (pT rfl (pI rfl (st (v := .dat (.st _ _)) ?_)))
      refine pI rfl (dn (AWp.ret ?_))
      subst h
      exact ⟨_, rfl, rfl⟩
    refine AWp.skip ?_
    refine rW (pI rfl (pT rfl (pP rfl ?_)))
    obtain ⟨hi142, x143, hx144, h⟩ := h
    refine AOps.aidx tabOk rfl rfl rfl rfl rfl rfl rfl rfl hi142 (vec_lt hi142 hx144) rfl ?_
    refine AOps.store tabOk (v := .dat (.st _ _)) rfl rfl rfl rfl rfl rfl rfl (locA_ix [.fld 0] [] rfl (map_get hx144) rfl) rfl rfl rfl rfl (putA_ix [.fld 0] [] (o := 0) rfl (map_get hx144) rfl (vmap_set1 (e := GRat.enc) (x := x140.1)) rfl) ?_
    refine dn (rN (pI rfl ?_))
    obtain ⟨x145, ex145, h⟩ := h.get
    refine ai ex145 rfl (pI rfl (dn ?_))
    exact ⟨⟨(GDim.mk (Vector.setIfInBounds out116.E (Int.toNat i117) x140.1)), x145⟩, h.1, h.2, sl⟩
  refine AWp.exit ?_
  refine sW (pT rfl (st (v := .dat (.st _ _)) ?_))
  refine pI rfl (dn (AWp.ret ?_))
  subst h
  exact ⟨_, rfl, rfl⟩
def W_ref14_Whole (n1 : Int) (Q : GRat → Prop) : Prop :=
 Q (GRat.mk n1 (1 : Int))
theorem walk_ref14_Whole {n1 : Int} {r : GRat} (h : W_ref14_Whole n1 (fun r' => r' = r)) : Ev_ref14_Whole n1 r := by
  unfold W_ref14_Whole at h
  refine intr (L := [(0, .dat (.v (.int .i64 n1)))]) Tryz.func24 Tryz.ntmps24 ?_
  refine sN (al0 ?_)
  refine dn (sW (pI rfl (pT rfl (st (v := .dat (.st _ _)) ?_))))
  subst h; exact dn (AWp.ret ⟨_, rfl, rfl⟩)
def W_unit_whole (n1 : Int) (Q : GRat → Prop) : Prop :=
 Q (GRat.mk n1 (1 : Int))
theorem walk_unit_whole {n1 : Int} {r : GRat} (h : W_unit_whole n1 (fun r' => r' = r)) : Ev_unit_whole n1 r := by
  unfold W_unit_whole at h
  refine intr (L := [(0, .dat (.v (.int .i64 n1)))]) Tryz.func21 Tryz.ntmps21 ?_
  refine sN (al0 ?_)
  refine dn (sW (pI rfl (pT rfl (st (v := .dat (.st _ _)) ?_))))
  subst h; exact dn (AWp.ret ⟨_, rfl, rfl⟩)
end Go.Sim.YtffglpibobogcaaGreatDoor
