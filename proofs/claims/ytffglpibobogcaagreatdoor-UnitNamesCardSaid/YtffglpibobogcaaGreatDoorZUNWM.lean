/- What is proved: functions of the program compute what plain statements tell. -/
import Derived.Test.YtffglpibobogcaaGreatDoorZUNWE

namespace Go.Sim.YtffglpibobogcaaGreatDoor
open Go.RowKit Go.Proofs Go.Proofs.Tryz
set_option maxRecDepth 100000
def W_unit_Of (t1 : GTree) (names2 : List ByteArray) (dims3 : List GDim) (Q : GDim × Int → Prop) : Prop :=
 Br (((dims3.length : Nat) : Int) != ((names2.length : Nat) : Int)) (Q (GDim.zero, (1 : Int))) (
  Call (Ev_slices_ContainsFunc_api_Dim dims3 Fn_unit_Of_1) fun x10 =>
  Br x10 (Q (GDim.zero, (1 : Int))) (
   Call (Ev_unit_of t1 names2 dims3) fun x12 =>
   Q (x12.1, x12.2)))
theorem walk_unit_Of {t1 : GTree} {names2 : List ByteArray} {dims3 : List GDim} {r : GDim × Int} (h : W_unit_Of t1 names2 dims3 (fun r' => r' = r)) : Ev_unit_Of t1 names2 dims3 r := by
  unfold W_unit_Of at h
  refine intr (L := [(0, .dat (GTree.out t1)), (1, .dat (.sl 9 1 (List.map eStr names2))), (2, .dat (.sl 47 14 (List.map GDim.enc dims3)))]) Tryz.func20 Tryz.ntmps20 ?_
  refine sN (bx (v := .dat (.st _ _)) ?_)
  refine al0 ?_
  refine pI rfl (dn (AWp.seq (AWp.seq (rN (pS rfl (al (((dims3.length : Nat) : Int)) rfl (pS rfl (al (((names2.length : Nat) : Int)) rfl (pB rfl (pB rfl (sB 13 h (fun h => ?_) (fun h => ?_))))))))))))
  · refine ff rfl (ff rfl (pB rfl (dn ?_)))
    refine AWp.condT rfl ?_
    refine sW (pT rfl (st (v := .dat (.st _ _)) ?_))
    refine pI rfl (dn (AWp.ret ?_))
    subst h
    exact ⟨_, rfl, rfl⟩
  refine pS rfl ?_
  obtain ⟨x10, hc11, h⟩ := h
  refine ca hc11 rfl ⟨.inl rfl, .inl rfl, trivial⟩ rfl (pB rfl (dn (cB h (fun h => ?_) (fun h => ?_))))
  · refine sW (pT rfl (st (v := .dat (.st _ _)) ?_))
    refine pI rfl (dn (AWp.ret ?_))
    subst h
    exact ⟨_, rfl, rfl⟩
  refine AWp.skip ?_
  refine sW (pT rfl (pS rfl (pS rfl ?_)))
  obtain ⟨x12, hc13, h⟩ := h
  refine ca hc13 rfl ⟨.inl rfl, .inl rfl, .inl rfl, trivial⟩ rfl (pT rfl (pI rfl (st (v := .dat (.st _ _)) ?_)))
  refine pI rfl (dn (AWp.ret ?_))
  subst h
  exact ⟨_, rfl, rfl⟩
def W_unit_of (x1 : GTree) (x2 : List ByteArray) (x3 : List GDim) (Q : GDim × Int → Prop) : Prop :=
 Let (mput ([] : List (Int × Int)) (20 : Int) (0 : Int)) fun m4 =>
 Let (mput m4 (21 : Int) (0 : Int)) fun m5 =>
 Let (mput m5 (22 : Int) (2 : Int)) fun m6 =>
 Let (mput m6 (23 : Int) (2 : Int)) fun m7 =>
 Let (mput m7 (24 : Int) (1 : Int)) fun m8 =>
 Br (!(mget m8 x1.Kind).isSome) (Q (GDim.zero, (133 : Int))) (
  Br (((x1.Kids.length : Nat) : Int) != ((mget m8 x1.Kind).getD (0 : Int))) (Q (GDim.zero, (133 : Int))) (
   Br (((mget m8 x1.Kind).getD (0 : Int)) == (0 : Int)) (
    Br (x1.Kind == (20 : Int)) (
     Call (Ev_unit_Plain) fun x22 =>
     Q (x22, (0 : Int))) (
     Call (Ev_slices_Index_string x2 x1.Name) fun x24 =>
     Br (decide (x24 < (0 : Int))) (Q (GDim.zero, (150 : Int))) (
      At x3 x24 fun x27 =>
      Q (x27, (0 : Int))))) (
    At x1.Kids (0 : Int) fun x30 =>
    Call (Ev_unit_of x30 x2 x3) fun x32 =>
    Br (x32.2 != (0 : Int)) (Q (GDim.zero, x32.2)) (
     Br (((mget m8 x1.Kind).getD (0 : Int)) == (1 : Int)) (
      Call (Ev_unit_Plain) fun x38 =>
      Call (Ev_unit_Times x38 x32.1 x1.Num) fun x40 =>
      Q (x40.1, x40.2)) (
      At x1.Kids (1 : Int) fun x43 =>
      Call (Ev_unit_of x43 x2 x3) fun x45 =>
      Br (x45.2 != (0 : Int)) (Q (GDim.zero, x45.2)) (
       Br (x1.Kind == (22 : Int)) (
        Call (Ev_unit_whole (1 : Int)) fun x51 =>
        Call (Ev_unit_Times x32.1 x45.1 x51) fun x53 =>
        Q (x53.1, x53.2)) (
        Call (Ev_unit_whole (-1 : Int)) fun x55 =>
        Call (Ev_unit_Times x32.1 x45.1 x55) fun x57 =>
        Q (x57.1, x57.2))))))))
theorem walk_unit_of {x1 : GTree} {x2 : List ByteArray} {x3 : List GDim} {r : GDim × Int} (h : W_unit_of x1 x2 x3 (fun r' => r' = r)) : Ev_unit_of x1 x2 x3 r := by
  unfold W_unit_of at h
  refine intr (L := [(0, .dat (GTree.out x1)), (1, .dat (.sl 9 1 (List.map eStr x2))), (2, .dat (.sl 47 14 (List.map GDim.enc x3)))]) Tryz.func46 Tryz.ntmps46 ?_
  refine sN (bx (v := .dat (.st _ _)) ?_)
  refine al0 ?_
  refine pI rfl (dn (AWp.seq (rW ?_)))
  refine AOps.mkmap rfl rfl rfl rfl ?_
  obtain ⟨m4, em4, h⟩ := h.get
  refine AOps.insert tabOk (ek := (fun n : Int => Value.int .i64 n)) (ex := (eInt .i64)) (keyInt .i64) ⟨3, Tryz.underlying83, Tryz.underlying3⟩ (.inl rfl) rfl rfl rfl rfl rfl rfl rfl (fun _ h => by cases h) em4 ?_
  obtain ⟨m5, em5, h⟩ := h.get
  refine AOps.insert tabOk (ek := (fun n : Int => Value.int .i64 n)) (ex := (eInt .i64)) (keyInt .i64) ⟨3, Tryz.underlying83, Tryz.underlying3⟩ (.inl rfl) rfl rfl rfl rfl rfl rfl rfl (fun _ h => by cases h) em5 ?_
  obtain ⟨m6, em6, h⟩ := h.get
  refine AOps.insert tabOk (ek := (fun n : Int => Value.int .i64 n)) (ex := (eInt .i64)) (keyInt .i64) ⟨3, Tryz.underlying83, Tryz.underlying3⟩ (.inl rfl) rfl rfl rfl rfl rfl rfl rfl (fun _ h => by cases h) em6 ?_
  obtain ⟨m7, em7, h⟩ := h.get
  refine AOps.insert tabOk (ek := (fun n : Int => Value.int .i64 n)) (ex := (eInt .i64)) (keyInt .i64) ⟨3, Tryz.underlying83, Tryz.underlying3⟩ (.inl rfl) rfl rfl rfl rfl rfl rfl rfl (fun _ h => by cases h) em7 ?_
  obtain ⟨m8, em8, h⟩ := h.get
  refine AOps.insert tabOk (ek := (fun n : Int => Value.int .i64 n)) (ex := (eInt .i64)) (keyInt .i64) ⟨3, Tryz.underlying83, Tryz.underlying3⟩ (.inl rfl) rfl rfl rfl rfl rfl rfl rfl (fun _ h => by cases h) em8 ?_
  refine pO rfl (pO rfl (dn (AWp.seq (rN (pO rfl (pP rfl (pI rfl ?_)))))))
  refine AOps.lookup2 tabOk (ek := (fun n : Int => Value.int .i64 n)) (ex := (eInt .i64)) (z := (0 : Int)) (m := m8) (k := x1.Kind) (keyInt .i64) ⟨3, Tryz.underlying83, Tryz.underlying3⟩ rfl rfl rfl rfl rfl rfl rfl rfl ?_
  refine pU rfl (pI rfl (pB rfl (pI rfl (pB rfl (dn (AWp.seq (AWp.seq (rN (pB rfl (pB rfl (pB rfl (sB 26 h (fun h => ?_) (fun h => ?_)))))))))))))
  · refine ff rfl (ff rfl (ff rfl (ff rfl (ff rfl (pB rfl (dn ?_))))))
    refine AWp.condT rfl ?_
    refine sW (pT rfl (st (v := .dat (.st _ _)) ?_))
    refine pI rfl (dn (AWp.ret ?_))
    subst h
    exact ⟨_, rfl, rfl⟩
  refine pP rfl (pS rfl (al (((x1.Kids.length : Nat) : Int)) rfl (pI rfl (pB rfl (pB rfl (dn (cB h (fun h => ?_) (fun h => ?_))))))))
  · refine sW (pT rfl (st (v := .dat (.st _ _)) ?_))
    refine pI rfl (dn (AWp.ret ?_))
    subst h
    exact ⟨_, rfl, rfl⟩
  refine AWp.skip ?_
  refine AWp.seq (AWp.seq (rN (pI rfl (pB rfl (dn (cB h (fun h => ?_) (fun h => ?_)))))))
  · refine AWp.seq (AWp.seq (rN (pP rfl (pI rfl (pB rfl (dn (cB h (fun h => ?_) (fun h => ?_))))))))
    · refine sW ?_
      obtain ⟨x22, hc23, h⟩ := h
      refine ca hc23 rfl trivial rfl (st (v := .dat (.st _ _)) ?_)
      refine pI rfl (dn (AWp.ret ?_))
      subst h
      exact ⟨_, rfl, rfl⟩
    refine AWp.skip ?_
    refine sN (pS rfl (pP rfl (pG rfl ?_)))
    obtain ⟨x24, hc25, h⟩ := h
    refine ca hc25 rfl ⟨.inl rfl, .inl rfl, trivial⟩ rfl (pI rfl (dn (AWp.seq (AWp.seq (rN (pI rfl (pB rfl (dn (cB h (fun h => ?_) (fun h => ?_))))))))))
    · refine sW (pT rfl (st (v := .dat (.st _ _)) ?_))
      refine pI rfl (dn (AWp.ret ?_))
      subst h
      exact ⟨_, rfl, rfl⟩
    refine AWp.skip ?_
    refine sW (pS rfl (pI rfl ?_))
    obtain ⟨hi26, x27, hx28, h⟩ := h
    refine AOps.idx tabOk (z := GDim.enc x27) rfl rfl rfl rfl rfl rfl rfl rfl hi26 (map_get hx28) ?_
    refine pT rfl (st (v := .dat (.st _ _)) ?_)
    refine pI rfl (dn (AWp.ret ?_))
    subst h
    exact ⟨_, rfl, rfl⟩
  refine AWp.skip ?_
  refine sW (pP rfl (pS rfl ?_))
  obtain ⟨hi29, x30, hx31, h⟩ := h
  refine AOps.idx tabOk (z := GTree.out x30) rfl rfl rfl rfl rfl rfl rfl rfl hi29 (GTree.get hx31) ?_
  refine pT rfl (pS rfl (pS rfl ?_))
  obtain ⟨x32, hc33, h⟩ := h
  refine ca hc33 rfl ⟨.inl rfl, .inl rfl, .inl rfl, trivial⟩ rfl (pU rfl (pT rfl (pI rfl (al0 ?_))))
  refine st (v := .dat (.st _ _)) ?_
  refine pI rfl (dn (AWp.seq (AWp.seq (rN (pI rfl (pB rfl (dn (cB h (fun h => ?_) (fun h => ?_)))))))))
  · refine sW (pT rfl (pI rfl (st (v := .dat (.st _ _)) ?_)))
    refine pI rfl (dn (AWp.ret ?_))
    subst h
    exact ⟨_, rfl, rfl⟩
  refine AWp.skip ?_
  refine AWp.seq (AWp.seq (rN (pI rfl (pB rfl (dn (cB h (fun h => ?_) (fun h => ?_)))))))
  · refine AWp.seq (rE [(3, [3]), (6, [6]), (12, [12]), (69, [3])] ?_)
    obtain ⟨x38, hc39, h⟩ := h
    refine ca hc39 rfl trivial rfl (pT rfl (pP rfl (pT rfl ?_)))
    obtain ⟨x40, hc41, h⟩ := h
    refine ca hc41 rfl ⟨.inl rfl, .inl rfl, .inl rfl, trivial⟩ rfl (pT rfl (pI rfl (st (v := .dat (.st _ _)) ?_)))
    refine pI rfl (dn (AWp.ret ?_))
    subst h
    exact ⟨_, rfl, rfl⟩
  refine AWp.skip ?_
  refine sW (pP rfl (pS rfl ?_))
  obtain ⟨hi42, x43, hx44, h⟩ := h
  refine AOps.idx tabOk (z := GTree.out x43) rfl rfl rfl rfl rfl rfl rfl rfl hi42 (GTree.get hx44) ?_
  refine pT rfl (pS rfl (pS rfl ?_))
  obtain ⟨x45, hc46, h⟩ := h
  refine ca hc46 rfl ⟨.inl rfl, .inl rfl, .inl rfl, trivial⟩ rfl (pU rfl (pT rfl (pI rfl (al0 ?_))))
  refine st (v := .dat (.st _ _)) ?_
  refine pI rfl (dn (AWp.seq (AWp.seq (rN (pI rfl (pB rfl (dn (cB h (fun h => ?_) (fun h => ?_)))))))))
  · refine sW (pT rfl (pI rfl (st (v := .dat (.st _ _)) ?_)))
    refine pI rfl (dn (AWp.ret ?_))
    subst h
    exact ⟨_, rfl, rfl⟩
  refine AWp.skip ?_
  refine AWp.seq (AWp.seq (rN (pP rfl (pI rfl (pB rfl (dn (cB h (fun h => ?_) (fun h => ?_))))))))
  · refine AWp.seq (rE [(6, [6]), (12, [12]), (14, [14])] ?_)
    refine pT rfl (pT rfl ?_)
    obtain ⟨x51, hc52, h⟩ := h
    refine ca hc52 rfl ⟨.inl rfl, trivial⟩ rfl ?_
    obtain ⟨x53, hc54, h⟩ := h
    refine ca hc54 rfl ⟨.inl rfl, .inl rfl, .inl rfl, trivial⟩ rfl (pT rfl (pI rfl (st (v := .dat (.st _ _)) ?_)))
    refine pI rfl (dn (AWp.ret ?_))
    subst h
    exact ⟨_, rfl, rfl⟩
  refine AWp.skip ?_
  refine AWp.seq (rE [(6, [6]), (12, [12]), (14, [14])] ?_)
  refine pT rfl (pT rfl ?_)
  obtain ⟨x55, hc56, h⟩ := h
  refine ca hc56 rfl ⟨.inl rfl, trivial⟩ rfl ?_
  obtain ⟨x57, hc58, h⟩ := h
  refine ca hc58 rfl ⟨.inl rfl, .inl rfl, .inl rfl, trivial⟩ rfl (pT rfl (pI rfl (st (v := .dat (.st _ _)) ?_)))
  refine pI rfl (dn (AWp.ret ?_))
  subst h
  exact ⟨_, rfl, rfl⟩
def W_unit_Of_1 (d1 : GDim) (Q : Bool → Prop) : Prop :=
 Call (Ev_unit_Right d1) fun x2 =>
 Q (!x2)
theorem walk_unit_Of_1 {d1 : GDim} {r : Bool} (h : W_unit_Of_1 d1 (fun r' => r' = r)) : Ev_unit_Of_1 d1 r := by
  unfold W_unit_Of_1 at h
  refine intr (L := [(0, .dat (GDim.enc d1))]) Tryz.func44 Tryz.ntmps44 ?_
  refine sN (bx (v := .dat (.st _ _)) ?_)
  refine pB rfl (dn (AWp.seq (rN (pT rfl ?_))))
  obtain ⟨x2, hc3, h⟩ := h
  refine ca hc3 rfl ⟨.inl rfl, trivial⟩ rfl (pB rfl (pB rfl (dn (AWp.ret ?_))))
  subst h
  exact ⟨_, rfl, rfl⟩
def W_ref14_Of (t1 : GTree) (names2 : List ByteArray) (dims3 : List GDim) (Q : GDim × Int → Prop) : Prop :=
 Br (((names2.length : Nat) : Int) != ((dims3.length : Nat) : Int)) (Q (GDim.zero, (1 : Int))) (
  Loop1 (0 : Int) (fun (x52 : Int) next53 =>
   Br (decide (x52 < ((dims3.length : Nat) : Int))) (
    At dims3 x52 fun x60 =>
    Call (Ev_ref14_Right x60) fun x62 =>
    Br (!x62) (Q (GDim.zero, (1 : Int))) (
     Let (IntKind.i64.wrap (x52 + (1 : Int))) fun x64 =>
     next53 x64)) (
    Call (Ev_ref14_dim t1 names2 dims3) fun x65 =>
    Q (x65.1, x65.2))))
theorem walk_ref14_Of {t1 : GTree} {names2 : List ByteArray} {dims3 : List GDim} {r : GDim × Int} (h : W_ref14_Of t1 names2 dims3 (fun r' => r' = r)) : Ev_ref14_Of t1 names2 dims3 r := by
  unfold W_ref14_Of at h
  refine intr (L := [(0, .dat (GTree.out t1)), (1, .dat (.sl 9 1 (List.map eStr names2))), (2, .dat (.sl 47 14 (List.map GDim.enc dims3)))]) Tryz.func25 Tryz.ntmps25 ?_
  refine sN (bx (v := .dat (.st _ _)) ?_)
  refine al0 ?_
  refine pI rfl (dn (AWp.seq (AWp.seq (rN (pS rfl (al (((names2.length : Nat) : Int)) rfl (pS rfl (al (((dims3.length : Nat) : Int)) rfl (pB rfl (dn (cB h (fun h => ?_) (fun h => ?_))))))))))))
  · refine sW (pT rfl (st (v := .dat (.st _ _)) ?_))
    refine pI rfl (dn (AWp.ret ?_))
    subst h
    exact ⟨_, rfl, rfl⟩
  refine AWp.skip ?_
  refine AWp.seq (AWp.seq (rN (pS rfl (al (((dims3.length : Nat) : Int)) rfl (pI rfl (dn (AWp.block ?_)))))))
  obtain ⟨I67, x68, hz69, hr70⟩ := h
  refine AWp.loop (I := fun p : Int => mkSt [(1, .dat (.sl 9 1 (List.map eStr names2))), (2, .dat (.sl 47 14 (List.map GDim.enc dims3))), (3, .pt 3 [] 0), (6, .pt 6 [] 0), (16, .dat (.sl 47 14 (List.map GDim.enc dims3))), (17, .dat (.v (.int .i64 ((dims3.length : Nat) : Int)))), (18, .dat (.v (.int .i64 p)))] [(3, .box 26 9 (.dat (GTree.out t1))), (6, .box 47 14 (.dat (GDim.enc GDim.zero)))]) (Inv := fun p => I67 p) (μ := fun p => x68 p) (x0 := (0 : Int)) hz69 sl (fun p hp => ?_)
  have h := hr70 p hp
  revert h; clear hp; generalize p = x52; intro h
  refine sN (pW rfl (dn (AWp.seq (cB h (fun h => ?_) (fun h => ?_)))))
  · refine AWp.skip ?_
    refine AWp.seq (AWp.block (AWp.seq (rW ?_)))
    obtain ⟨hi59, x60, hx61, h⟩ := h
    refine AOps.idx tabOk (z := GDim.enc x60) rfl rfl rfl rfl rfl rfl rfl rfl hi59 (map_get hx61) ?_
    refine pT rfl (al0 ?_)
    refine st (v := .dat (.st _ _)) ?_
    refine dn (sN (pT rfl ?_))
    obtain ⟨x62, hc63, h⟩ := h
    refine ca hc63 rfl ⟨.inl rfl, trivial⟩ rfl (pB rfl (dn (cB h (fun h => ?_) (fun h => ?_))))
    · refine sW (pT rfl (st (v := .dat (.st _ _)) ?_))
      refine pI rfl (dn (AWp.ret ?_))
      subst h
      exact ⟨_, rfl, rfl⟩
    refine AWp.skip ?_
    refine rN ?_
    obtain ⟨x64, ex64, h⟩ := h.get
    refine ai ex64 rfl (pI rfl (dn ?_))
    exact ⟨x64, h.1, h.2, sl⟩
  refine AWp.exit ?_
  refine sW (pT rfl (pS rfl (pS rfl ?_)))
  obtain ⟨x65, hc66, h⟩ := h
  refine ca hc66 rfl ⟨.inl rfl, .inl rfl, .inl rfl, trivial⟩ rfl (pT rfl (pI rfl (st (v := .dat (.st _ _)) ?_)))
  refine pI rfl (dn (AWp.ret ?_))
  subst h
  exact ⟨_, rfl, rfl⟩
def W_ref14_dim (x1 : GTree) (x2 : List ByteArray) (x3 : List GDim) (Q : GDim × Int → Prop) : Prop :=
 Join1 (fun j13 =>
  Join1 (fun j15 =>
   Br (x1.Kind == (20 : Int)) (j15 (x1.Kind == (20 : Int))) (
    j15 (x1.Kind == (21 : Int)))
  ) (fun (x14 : Bool) =>
   Br x14 (j13 (0 : Int)) (
    Join1 (fun j17 =>
     Br (x1.Kind == (22 : Int)) (j17 (x1.Kind == (22 : Int))) (
      j17 (x1.Kind == (23 : Int)))
    ) (fun (x16 : Bool) =>
     Br x16 (j13 (2 : Int)) (
      Br (x1.Kind == (24 : Int)) (j13 (1 : Int)) (
       j13 (-1 : Int))))))
 ) (fun (x12 : Int) =>
  Br (((x1.Kids.length : Nat) : Int) != x12) (Q (GDim.zero, (133 : Int))) (
   Br (x1.Kind == (20 : Int)) (
    Call (Ev_ref14_Plain) fun x25 =>
    Q (x25, (0 : Int))) (
    Br (x1.Kind == (21 : Int)) (
     Loop1 (0 : Int) (fun (x150 : Int) next151 =>
      Br (decide (x150 < ((x2.length : Nat) : Int))) (
       At x2 x150 fun x159 =>
       Br (x159.toList == x1.Name.toList) (
        At x3 x150 fun x162 =>
        Q (x162, (0 : Int))) (
        Let (IntKind.i64.wrap (x150 + (1 : Int))) fun x164 =>
        next151 x164)) (
       Q (GDim.zero, (150 : Int))))) (
     At x1.Kids (0 : Int) fun x170 =>
     Call (Ev_ref14_dim x170 x2 x3) fun x172 =>
     Br (x172.2 != (0 : Int)) (Q (GDim.zero, x172.2)) (
      Br (x1.Kind == (24 : Int)) (
       Call (Ev_ref14_Plain) fun x178 =>
       Call (Ev_ref14_Times x178 x172.1 x1.Num) fun x180 =>
       Q (x180.1, x180.2)) (
       At x1.Kids (1 : Int) fun x183 =>
       Call (Ev_ref14_dim x183 x2 x3) fun x185 =>
       Br (x185.2 != (0 : Int)) (Q (GDim.zero, x185.2)) (
        Br (x1.Kind == (23 : Int)) (
         Call (Ev_ref14_Whole (-1 : Int)) fun x191 =>
         Call (Ev_ref14_Times x172.1 x185.1 x191) fun x193 =>
         Q (x193.1, x193.2)) (
         Call (Ev_ref14_Whole (1 : Int)) fun x195 =>
         Call (Ev_ref14_Times x172.1 x185.1 x195) fun x197 =>
         Q (x197.1, x197.2)))))))))
theorem walk_ref14_dim {x1 : GTree} {x2 : List ByteArray} {x3 : List GDim} {r : GDim × Int} (h : W_ref14_dim x1 x2 x3 (fun r' => r' = r)) : Ev_ref14_dim x1 x2 x3 r := by
  unfold W_ref14_dim at h
  refine intr (L := [(0, .dat (GTree.out x1)), (1, .dat (.sl 9 1 (List.map eStr x2))), (2, .dat (.sl 47 14 (List.map GDim.enc x3)))]) Tryz.func50 Tryz.ntmps50 ?_
  refine sN (bx (v := .dat (.st _ _)) ?_)
  refine al0 ?_
  refine pI rfl (dn (AWp.seq (rN (pI rfl (dn (AWp.seq (AWp.seq (rN (pP rfl (pI rfl (dn ?_)))))))))))
  obtain ⟨J199, h, hk200⟩ := h
  refine AWp.cutK (I := fun p : Int => mkSt [(1, .dat (.sl 9 1 (List.map eStr x2))), (2, .dat (.sl 47 14 (List.map GDim.enc x3))), (3, .pt 3 [] 0), (6, .pt 6 [] 0), (8, .dat (.v (.int .i64 p)))] [(3, .box 26 9 (.dat (GTree.out x1))), (6, .box 47 14 (.dat (GDim.enc GDim.zero)))]) (Inv := fun p : Int => J199 p) ?_ (fun p hp => ?_)
  · refine AWp.block (AWp.seq (AWp.seq (rN (pB rfl (pB rfl (dn ?_))))))
    obtain ⟨J20, h, hk21⟩ := h
    refine AWp.cutK (I := fun p : Bool => mkSt [(1, .dat (.sl 9 1 (List.map eStr x2))), (2, .dat (.sl 47 14 (List.map GDim.enc x3))), (3, .pt 3 [] 0), (6, .pt 6 [] 0), (8, .dat (.v (.int .i64 (-1 : Int)))), (16, .dat (.v (.int .i64 x1.Kind))), (17, .dat (.v (.bool p)))] [(3, .box 26 9 (.dat (GTree.out x1))), (6, .box 47 14 (.dat (GDim.enc GDim.zero)))]) (Inv := fun p : Bool => J20 p) ?_ (fun p hp => ?_)
    · refine cB h (fun h => ?_) (fun h => ?_)
      · refine AWp.skip ?_
        exact ⟨(x1.Kind == (20 : Int)), h, sl⟩
      refine rN (pB rfl (pB rfl (dn ?_)))
      exact ⟨(x1.Kind == (21 : Int)), h, sl⟩
    replace h := hk21 p hp
    revert h; clear hp; generalize p = x14; intro h
    refine cB h (fun h => ?_) (fun h => ?_)
    · refine rN (pI rfl (dn ?_))
      exact ⟨(0 : Int), h, sl⟩
    refine AWp.seq (AWp.seq (rN (pB rfl (pB rfl (dn ?_)))))
    obtain ⟨J18, h, hk19⟩ := h
    refine AWp.cutK (I := fun p : Bool => mkSt [(1, .dat (.sl 9 1 (List.map eStr x2))), (2, .dat (.sl 47 14 (List.map GDim.enc x3))), (3, .pt 3 [] 0), (6, .pt 6 [] 0), (8, .dat (.v (.int .i64 (-1 : Int)))), (16, .dat (.v (.int .i64 x1.Kind))), (20, .dat (.v (.bool p)))] [(3, .box 26 9 (.dat (GTree.out x1))), (6, .box 47 14 (.dat (GDim.enc GDim.zero)))]) (Inv := fun p : Bool => J18 p) ?_ (fun p hp => ?_)
    · refine cB h (fun h => ?_) (fun h => ?_)
      · refine AWp.skip ?_
        exact ⟨(x1.Kind == (22 : Int)), h, sl⟩
      refine rN (pB rfl (pB rfl (dn ?_)))
      exact ⟨(x1.Kind == (23 : Int)), h, sl⟩
    replace h := hk19 p hp
    revert h; clear hp; generalize p = x16; intro h
    refine cB h (fun h => ?_) (fun h => ?_)
    · refine rN (pI rfl (dn ?_))
      exact ⟨(2 : Int), h, sl⟩
    refine sN (pB rfl (pB rfl (dn (cB h (fun h => ?_) (fun h => ?_)))))
    · refine rN (pI rfl (dn ?_))
      exact ⟨(1 : Int), h, sl⟩
    refine AWp.skip ?_
    exact ⟨(-1 : Int), h, sl⟩
  replace h := hk200 p hp
  revert h; clear hp; generalize p = x12; intro h
  refine AWp.seq (AWp.seq (rN (pP rfl (pS rfl (al (((x1.Kids.length : Nat) : Int)) rfl (pI rfl (pB rfl (dn (cB h (fun h => ?_) (fun h => ?_))))))))))
  · refine sW (pT rfl (st (v := .dat (.st _ _)) ?_))
    refine pI rfl (dn (AWp.ret ?_))
    subst h
    exact ⟨_, rfl, rfl⟩
  refine AWp.skip ?_
  refine AWp.seq (AWp.seq (rN (pP rfl (pI rfl (pB rfl (dn (cB h (fun h => ?_) (fun h => ?_))))))))
  · refine sW ?_
    obtain ⟨x25, hc26, h⟩ := h
    refine ca hc26 rfl trivial rfl (st (v := .dat (.st _ _)) ?_)
    refine pI rfl (dn (AWp.ret ?_))
    subst h
    exact ⟨_, rfl, rfl⟩
  refine AWp.skip ?_
  refine AWp.seq (AWp.seq (rN (pP rfl (pI rfl (pB rfl (dn (cB h (fun h => ?_) (fun h => ?_))))))))
  · refine AWp.seq (AWp.seq (rN (pS rfl (al (((x2.length : Nat) : Int)) rfl (pI rfl (dn (AWp.block ?_)))))))
    obtain ⟨I165, x166, hz167, hr168⟩ := h
    refine AWp.loop (I := fun p : Int => mkSt [(2, .dat (.sl 47 14 (List.map GDim.enc x3))), (3, .pt 3 [] 0), (6, .pt 6 [] 0), (38, .dat (.sl 9 1 (List.map eStr x2))), (39, .dat (.v (.int .i64 ((x2.length : Nat) : Int)))), (40, .dat (.v (.int .i64 p)))] [(3, .box 26 9 (.dat (GTree.out x1))), (6, .box 47 14 (.dat (GDim.enc GDim.zero)))]) (Inv := fun p => I165 p) (μ := fun p => x166 p) (x0 := (0 : Int)) hz167 sl (fun p hp => ?_)
    have h := hr168 p hp
    revert h; clear hp; generalize p = x150; intro h
    refine sN (pW rfl (dn (AWp.seq (cB h (fun h => ?_) (fun h => ?_)))))
    · refine AWp.skip ?_
      refine AWp.seq (AWp.block (AWp.seq (rN (pI rfl ?_))))
      obtain ⟨hi158, x159, hx160, h⟩ := h
      refine AOps.idx tabOk (z := .v (.string x159)) rfl rfl rfl rfl rfl rfl rfl rfl hi158 (map_get hx160) ?_
      refine pG rfl (pI rfl (pG rfl (dn (AWp.seq (rN (pG rfl (pP rfl (pG rfl (pB rfl (dn (cB h (fun h => ?_) (fun h => ?_))))))))))))
      · refine sW (pS rfl (pI rfl ?_))
        obtain ⟨hi161, x162, hx163, h⟩ := h
        refine AOps.idx tabOk (z := GDim.enc x162) rfl rfl rfl rfl rfl rfl rfl rfl hi161 (map_get hx163) ?_
        refine pT rfl (st (v := .dat (.st _ _)) ?_)
        refine pI rfl (dn (AWp.ret ?_))
        subst h
        exact ⟨_, rfl, rfl⟩
      refine AWp.skip ?_
      refine rN ?_
      obtain ⟨x164, ex164, h⟩ := h.get
      refine ai ex164 rfl (pI rfl (dn ?_))
      exact ⟨x164, h.1, h.2, sl⟩
    refine AWp.exit ?_
    refine sW (pT rfl (st (v := .dat (.st _ _)) ?_))
    refine pI rfl (dn (AWp.ret ?_))
    subst h
    exact ⟨_, rfl, rfl⟩
  refine AWp.skip ?_
  refine sW (pP rfl (pS rfl ?_))
  obtain ⟨hi169, x170, hx171, h⟩ := h
  refine AOps.idx tabOk (z := GTree.out x170) rfl rfl rfl rfl rfl rfl rfl rfl hi169 (GTree.get hx171) ?_
  refine pT rfl (pS rfl (pS rfl ?_))
  obtain ⟨x172, hc173, h⟩ := h
  refine ca hc173 rfl ⟨.inl rfl, .inl rfl, .inl rfl, trivial⟩ rfl (pU rfl (pT rfl (pI rfl (al0 ?_))))
  refine st (v := .dat (.st _ _)) ?_
  refine pI rfl (dn (AWp.seq (AWp.seq (rN (pI rfl (pB rfl (dn (cB h (fun h => ?_) (fun h => ?_)))))))))
  · refine sW (pT rfl (pI rfl (st (v := .dat (.st _ _)) ?_)))
    refine pI rfl (dn (AWp.ret ?_))
    subst h
    exact ⟨_, rfl, rfl⟩
  refine AWp.skip ?_
  refine AWp.seq (AWp.seq (rN (pP rfl (pI rfl (pB rfl (dn (cB h (fun h => ?_) (fun h => ?_))))))))
  · refine AWp.seq (rE [(3, [3]), (6, [6]), (11, [11]), (74, [3])] ?_)
    obtain ⟨x178, hc179, h⟩ := h
    refine ca hc179 rfl trivial rfl (pT rfl (pP rfl (pT rfl ?_)))
    obtain ⟨x180, hc181, h⟩ := h
    refine ca hc181 rfl ⟨.inl rfl, .inl rfl, .inl rfl, trivial⟩ rfl (pT rfl (pI rfl (st (v := .dat (.st _ _)) ?_)))
    refine pI rfl (dn (AWp.ret ?_))
    subst h
    exact ⟨_, rfl, rfl⟩
  refine AWp.skip ?_
  refine sW (pP rfl (pS rfl ?_))
  obtain ⟨hi182, x183, hx184, h⟩ := h
  refine AOps.idx tabOk (z := GTree.out x183) rfl rfl rfl rfl rfl rfl rfl rfl hi182 (GTree.get hx184) ?_
  refine pT rfl (pS rfl (pS rfl ?_))
  obtain ⟨x185, hc186, h⟩ := h
  refine ca hc186 rfl ⟨.inl rfl, .inl rfl, .inl rfl, trivial⟩ rfl (pU rfl (pT rfl (pI rfl (al0 ?_))))
  refine st (v := .dat (.st _ _)) ?_
  refine pI rfl (dn (AWp.seq (AWp.seq (rN (pI rfl (pB rfl (dn (cB h (fun h => ?_) (fun h => ?_)))))))))
  · refine sW (pT rfl (pI rfl (st (v := .dat (.st _ _)) ?_)))
    refine pI rfl (dn (AWp.ret ?_))
    subst h
    exact ⟨_, rfl, rfl⟩
  refine AWp.skip ?_
  refine AWp.seq (AWp.seq (rN (pP rfl (pI rfl (pB rfl (dn (cB h (fun h => ?_) (fun h => ?_))))))))
  · refine AWp.seq (rE [(6, [6]), (11, [11]), (13, [13])] ?_)
    refine pT rfl (pT rfl ?_)
    obtain ⟨x191, hc192, h⟩ := h
    refine ca hc192 rfl ⟨.inl rfl, trivial⟩ rfl ?_
    obtain ⟨x193, hc194, h⟩ := h
    refine ca hc194 rfl ⟨.inl rfl, .inl rfl, .inl rfl, trivial⟩ rfl (pT rfl (pI rfl (st (v := .dat (.st _ _)) ?_)))
    refine pI rfl (dn (AWp.ret ?_))
    subst h
    exact ⟨_, rfl, rfl⟩
  refine AWp.skip ?_
  refine AWp.seq (rE [(6, [6]), (11, [11]), (13, [13])] ?_)
  refine pT rfl (pT rfl ?_)
  obtain ⟨x195, hc196, h⟩ := h
  refine ca hc196 rfl ⟨.inl rfl, trivial⟩ rfl ?_
  obtain ⟨x197, hc198, h⟩ := h
  refine ca hc198 rfl ⟨.inl rfl, .inl rfl, .inl rfl, trivial⟩ rfl (pT rfl (pI rfl (st (v := .dat (.st _ _)) ?_)))
  refine pI rfl (dn (AWp.ret ?_))
  subst h
  exact ⟨_, rfl, rfl⟩
def W_slices_Index_string (s1 : List ByteArray) (v2 : ByteArray) (Q : Int → Prop) : Prop :=
 Loop1 (0 : Int) (fun (x33 : Int) next34 =>
  Br (decide (x33 < ((s1.length : Nat) : Int))) (
   At s1 x33 fun x39 =>
   Br (v2.toList == x39.toList) (Q x33) (
    Let (IntKind.i64.wrap (x33 + (1 : Int))) fun x41 =>
    next34 x41)) (
   Q (-1 : Int)))
theorem walk_slices_Index_string {s1 : List ByteArray} {v2 : ByteArray} {r : Int} (h : W_slices_Index_string s1 v2 (fun r' => r' = r)) : Ev_slices_Index_string s1 v2 r := by
  unfold W_slices_Index_string at h
  refine intr (L := [(0, .dat (.sl 9 1 (List.map eStr s1))), (1, .dat (.v (.string v2)))]) Tryz.func42 Tryz.ntmps42 ?_
  refine sN (pI rfl (dn (AWp.seq (AWp.seq (rN (pS rfl (al (((s1.length : Nat) : Int)) rfl (pI rfl (dn (AWp.block ?_))))))))))
  obtain ⟨I42, x43, hz44, hr45⟩ := h
  refine AWp.loop (I := fun p : Int => mkSt [(0, .dat (.sl 9 1 (List.map eStr s1))), (1, .dat (.v (.string v2))), (7, .dat (.v (.int .i64 ((s1.length : Nat) : Int)))), (8, .dat (.v (.int .i64 p)))] []) (Inv := fun p => I42 p) (μ := fun p => x43 p) (x0 := (0 : Int)) hz44 sl (fun p hp => ?_)
  have h := hr45 p hp
  revert h; clear hp; generalize p = x33; intro h
  refine sN (pW rfl (dn (AWp.seq (cB h (fun h => ?_) (fun h => ?_)))))
  · refine AWp.skip ?_
    refine AWp.seq (AWp.block (AWp.seq (rN (pI rfl (pI rfl (dn (AWp.seq (rN (pG rfl (pS rfl (pI rfl ?_)))))))))))
    obtain ⟨hi38, x39, hx40, h⟩ := h
    refine AOps.idx tabOk (z := .v (.string x39)) rfl rfl rfl rfl rfl rfl rfl rfl hi38 (map_get hx40) ?_
    refine pG rfl (pB rfl (dn (cB h (fun h => ?_) (fun h => ?_))))
    · refine sN (pI rfl (pI rfl (dn (AWp.ret ?_))))
      subst h
      exact ⟨_, rfl, rfl⟩
    refine AWp.skip ?_
    refine rN ?_
    obtain ⟨x41, ex41, h⟩ := h.get
    refine ai ex41 rfl (pI rfl (dn ?_))
    exact ⟨x41, h.1, h.2, sl⟩
  refine AWp.exit ?_
  refine sN (pI rfl (dn (AWp.ret ?_)))
  subst h
  exact ⟨_, rfl, rfl⟩
def W_slices_IndexFunc_api_Dim (s1 : List GDim) (f2 : DV) (Q : Int → Prop) : Prop :=
 Loop1 (0 : Int) (fun (x45 : Int) next46 =>
  Br (decide (x45 < ((s1.length : Nat) : Int))) (
   At s1 x45 fun x53 =>
   Call (fun x55 : Bool => FVal prog f2 [GDim.enc x53] (.v (.bool x55))) fun x55 =>
   Br x55 (Q x45) (
    Let (IntKind.i64.wrap (x45 + (1 : Int))) fun x57 =>
    next46 x57)) (
   Q (-1 : Int)))
theorem walk_slices_IndexFunc_api_Dim {s1 : List GDim} {f2 : DV} {r : Int} (h : W_slices_IndexFunc_api_Dim s1 f2 (fun r' => r' = r)) : Ev_slices_IndexFunc_api_Dim s1 f2 r := by
  unfold W_slices_IndexFunc_api_Dim at h
  refine intr (L := [(0, .dat (.sl 47 14 (List.map GDim.enc s1))), (1, .dat (f2))]) Tryz.func66 Tryz.ntmps66 ?_
  refine sN (pI rfl (dn (AWp.seq (AWp.seq (rN (pS rfl (al (((s1.length : Nat) : Int)) rfl (pI rfl (dn (AWp.block ?_))))))))))
  obtain ⟨I58, x59, hz60, hr61⟩ := h
  refine AWp.loop (I := fun p : Int => mkSt [(0, .dat (.sl 47 14 (List.map GDim.enc s1))), (1, .dat (f2)), (7, .dat (.v (.int .i64 ((s1.length : Nat) : Int)))), (8, .dat (.v (.int .i64 p)))] []) (Inv := fun p => I58 p) (μ := fun p => x59 p) (x0 := (0 : Int)) hz60 sl (fun p hp => ?_)
  have h := hr61 p hp
  revert h; clear hp; generalize p = x45; intro h
  refine sN (pW rfl (dn (AWp.seq (cB h (fun h => ?_) (fun h => ?_)))))
  · refine AWp.skip ?_
    refine AWp.seq (AWp.block (AWp.seq (rN (pI rfl (pI rfl (dn (AWp.seq (rN ?_))))))))
    refine AOps.mv rfl rfl (.inl rfl) rfl ?_
    refine pS rfl (pI rfl ?_)
    obtain ⟨hi52, x53, hx54, h⟩ := h
    refine AOps.idx tabOk (z := GDim.enc x53) rfl rfl rfl rfl rfl rfl rfl rfl hi52 (map_get hx54) ?_
    refine pT rfl ?_
    obtain ⟨x55, hc56, h⟩ := h
    refine AOps.callv hc56 rfl rfl rfl rfl ⟨.inl rfl, trivial⟩ ?_
    refine dn (cB h (fun h => ?_) (fun h => ?_))
    · refine sN (pI rfl (pI rfl (dn (AWp.ret ?_))))
      subst h
      exact ⟨_, rfl, rfl⟩
    refine AWp.skip ?_
    refine rN ?_
    obtain ⟨x57, ex57, h⟩ := h.get
    refine ai ex57 rfl (pI rfl (dn ?_))
    exact ⟨x57, h.1, h.2, sl⟩
  refine AWp.exit ?_
  refine sN (pI rfl (dn (AWp.ret ?_)))
  subst h
  exact ⟨_, rfl, rfl⟩
def W_slices_ContainsFunc_api_Dim (s1 : List GDim) (f2 : DV) (Q : Bool → Prop) : Prop :=
 Call (Ev_slices_IndexFunc_api_Dim s1 f2) fun x3 =>
 Q (decide (x3 ≥ (0 : Int)))
theorem walk_slices_ContainsFunc_api_Dim {s1 : List GDim} {f2 : DV} {r : Bool} (h : W_slices_ContainsFunc_api_Dim s1 f2 (fun r' => r' = r)) : Ev_slices_ContainsFunc_api_Dim s1 f2 r := by
  unfold W_slices_ContainsFunc_api_Dim at h
  refine intr (L := [(0, .dat (.sl 47 14 (List.map GDim.enc s1))), (1, .dat (f2))]) Tryz.func43 Tryz.ntmps43 ?_
  refine sN (pB rfl (dn (AWp.seq (rN (pS rfl ?_)))))
  refine AOps.mv rfl rfl (.inl rfl) rfl ?_
  obtain ⟨x3, hc4, h⟩ := h
  refine ca hc4 rfl ⟨.inl rfl, .inl rfl, trivial⟩ rfl (pB rfl (pB rfl (dn (AWp.ret ?_))))
  subst h
  exact ⟨_, rfl, rfl⟩
end Go.Sim.YtffglpibobogcaaGreatDoor
