/- What is proved: functions of the program compute what plain statements tell. -/
import Derived.Test.YtifjflhnfjhijaaGreatDoorZPSWE

namespace Go.Sim.YtifjflhnfjhijaaGreatDoor
open Go.RowKit Go.Proofs Go.Proofs.Tryz
set_option maxRecDepth 100000
def q6f (p1 : Gparseparser) (Q : GToken -> Prop) : Prop :=
 At p1.l_ p1.i_ fun x3 =>
 Q x3
theorem qBu {p1 : Gparseparser} {r : GToken} (h : q6f p1 (fun r' => r' = r)) : q0c p1 r := by
 unfold q6f at h
 refine AFnB.intro' (L := []) q01 Tryz.func19 rfl rfl Tryz.ntmps19 rfl rfl rfl (fun b => ?_)
 refine sN (al0 ?_)
 refine dn (AWp.seq (rE [(0, [1000000]), (2, [2]), (3, [1000000]), (4, [1000000]), (5, [1000000]), (7, [1000000]), (8, [1000000]), (9, [1000000])] (pP rfl (pP rfl (pP rfl (pS rfl (pP rfl (pP rfl (pP rfl (pI rfl (kI h q1g rfl rfl rfl rfl rfl rfl rfl fun x3 h => ?_)))))))))))
 refine pT rfl (st (v := .dat (.st _ _)) ?_)
 subst h; exact dn (AWp.ret ⟨_, rfl, rfl, rfl⟩)
def q32 (p1 : Gparseparser) (s2 : ByteArray) (Q : Bool × Gparseparser -> Prop) : Prop :=
 Call (q0a p1 s2) fun x3 =>
 Br x3 (
 Let (IntKind.i64.wrap (p1.i_ + (1 : Int))) fun x6 =>
 Q (true, ({ p1 with i_ := x6 }))) (
 Q (false, p1))
theorem q6w {p1 : Gparseparser} {s2 : ByteArray} {r : Bool × Gparseparser} (h : q32 p1 s2 (fun r' => r' = r)) : q02 p1 s2 r := by
 unfold q32 at h
 refine AFnB.intro' (L := [(1, .dat (.v (.string s2)))]) q01 Tryz.func20 rfl rfl Tryz.ntmps20 rfl rfl rfl (fun b => ?_)
 refine sN (pB rfl (dn (AWp.seq (AWp.seq (rN (pP rfl (pG rfl (kR h rfl ⟨.inl rfl, trivial⟩ fun x3 h => ?_))))))))
 refine dn (cB h (fun h => ?_) (fun h => ?_))
 ·refine sW (pP rfl (pP rfl (pP rfl (pI rfl ?_))))
  obtain ⟨x6, ex6, h⟩ := h.get
  refine ai ex6 rfl (pP rfl (pP rfl (st (v := .dat (.v (.int _ _))) ?_)))
  refine dn (sN (pB rfl (dn (AWp.ret ?_))))
  subst h
  exact ⟨_, rfl, rfl, rfl⟩
 refine AWp.skip (AWp.seq (rN (pB rfl (dn (AWp.ret ?_)))))
 subst h
 exact ⟨_, rfl, rfl, rfl⟩
def q5d (p1 : Gparseparser) (Q : Except Gparsestop (ByteArray × Gparseparser) -> Prop) : Prop :=
 Call (q0c p1) fun x2 =>
 q16 (fun j6 =>
 Br (x2.Kind != (1 : Int)) (
 CallX (q14 p1) (fun e => Q (.error e)) fun x7 =>
 j6 x7) (
 j6 p1)
 ) (fun (p5 : Gparseparser) =>
 Let (IntKind.i64.wrap (p5.i_ + (1 : Int))) fun x8 =>
 Q (.ok (x2.S, ({ p5 with i_ := x8 }))))
theorem qBd {p1 : Gparseparser} {r : Except Gparsestop (ByteArray × Gparseparser)} (h : q5d p1 (fun r' => r' = r)) : q0d p1 r := by
 unfold q5d at h
 refine AFnB.intro' (L := []) q01 Tryz.func21 rfl rfl Tryz.ntmps21 rfl rfl rfl (fun b => ?_)
 refine sN (pG rfl (dn (AWp.seq (rW (pP rfl (kR h rfl trivial fun x2 h => ?_))))))
 refine al0 ?_
 refine st (v := .dat (.st _ _)) ?_
 refine dn (AWp.seq (AWp.seq (rN (pP rfl (pI rfl (pB rfl (dn ?_)))))))
 obtain ⟨J9, h, hk10⟩ := h
 refine AWp.cutK (I := fun p : Gparseparser => mkSt [(0, .pt 1000000 [] 0), (3, .pt 3 [] 0)] [(3, .box 52 5 (.dat (GToken.enc x2))), (1000000, .box 39 3 (.dat (Gparseparser.enc p)))]) (Inv := fun p : Gparseparser => J9 p) ?_ (fun p hp => ?_)
 ·refine cB h (fun h => ?_) (fun h => ?_)
  ·refine AWp.bots ?_
   refine AWp.regionN (fun o => q00 [25] o) rfl ?_
   refine pP rfl (kXf h rfl trivial rfl fun x7 h => ?_)
   refine dn (.inl ?_)
   exact ⟨x7, h, sl⟩
  refine AWp.skip ?_
  exact ⟨p1, h, sl⟩
 replace h := hk10 p hp
 revert h; clear hp; generalize p = p5; intro h
 refine sW (pP rfl (pP rfl (pP rfl (pI rfl ?_))))
 obtain ⟨x8, ex8, h⟩ := h.get
 refine ai ex8 rfl (pP rfl (pP rfl (st (v := .dat (.v (.int _ _))) ?_)))
 refine dn (sN (pP rfl (pG rfl (pG rfl (dn (AWp.ret ?_))))))
 subst h
 exact ⟨_, rfl, rfl, rfl⟩
def q6g (p1 : Gparseparser) (Q : Except Gparsestop (GTree × Gparseparser) -> Prop) : Prop :=
 CallX (q1u p1 55 (ByteArray.mk #[42]) (22 : Int) (ByteArray.mk #[47]) (23 : Int)) (fun e => Q (.error e)) fun x2 =>
 Q (.ok (x2.1, x2.2))
theorem qBv {p1 : Gparseparser} {r : Except Gparsestop (GTree × Gparseparser)} (h : q6g p1 (fun r' => r' = r)) : q1i p1 r := by
 unfold q6g at h
 refine AFnB.intro' (L := []) q01 Tryz.func22 rfl rfl Tryz.ntmps22 rfl rfl rfl (fun b => ?_)
 refine sN (al0 ?_)
 refine dn (AWp.seq ?_)
 refine AWp.bots ?_
 refine AWp.regionN (fun o => q00 [54] o) rfl ?_
 refine pP rfl (pP rfl ?_)
 refine AOps.bound rfl rfl rfl rfl ?_
 refine kXm h (fun e h => ⟨mkSt [] [], by cases h; rfl⟩) (fun σ h => .inr h) rfl rfl rfl rfl rfl rfl ⟨.inl rfl, .inl rfl, .inl rfl, .inl rfl, trivial⟩ rfl fun x2 h => ?_
 refine st (v := .dat (.st _ _)) ?_
 refine dn (.inl ?_)
 subst h; exact AWp.ret ⟨_, rfl, rfl, rfl⟩
def q5e (p1 : Gparseparser) (l2 : List ByteArray) (Q : Except Gparsestop (Gparseparser) -> Prop) : Prop :=
 Loop2 p1 (0 : Int) (fun (p20 : Gparseparser) (x21 : Int) next22 =>
 Br (decide (x21 < ((l2.length : Nat) : Int))) (
 At l2 x21 fun x30 =>
 Call (q02 p20 x30) fun x32 =>
 Br (!x32.1) (
 CallX (q14 x32.2) (fun e => Q (.error e)) fun x34 =>
 Let (IntKind.i64.wrap (x21 + (1 : Int))) fun x35 =>
 next22 x34 x35) (
 Let (IntKind.i64.wrap (x21 + (1 : Int))) fun x36 =>
 next22 x32.2 x36)) (
 Q (.ok p20)))
theorem qBe {p1 : Gparseparser} {l2 : List ByteArray} {r : Except Gparsestop (Gparseparser)} (h : q5e p1 l2 (fun r' => r' = r)) : q04 p1 l2 r := by
 unfold q5e at h
 refine AFnB.intro' (L := [(1, .dat (.sl 9 1 (List.map eStr l2)))]) q01 Tryz.func23 rfl rfl Tryz.ntmps23 rfl rfl rfl (fun b => ?_)
 refine sN (pS rfl (al (((l2.length : Nat) : Int)) rfl (pI rfl (dn (AWp.block ?_)))))
 obtain ⟨I37, x38, hz39, hr40⟩ := h
 refine AWp.loop (I := fun p : Gparseparser × Int => mkSt [(0, .pt 1000000 [] 0), (6, .dat (.sl 9 1 (List.map eStr l2))), (7, .dat (.v (.int .i64 ((l2.length : Nat) : Int)))), (8, .dat (.v (.int .i64 p.2)))] [(1000000, .box 39 3 (.dat (Gparseparser.enc p.1)))]) (Inv := fun p => I37 p.1 p.2) (μ := fun p => x38 p.1 p.2) (x0 := ⟨p1, (0 : Int)⟩) hz39 sl (fun p hp => ?_)
 obtain ⟨p20, x21⟩ := p
 have h := hr40 p20 x21 hp
 refine sN (pW rfl (dn (AWp.seq (cB h (fun h => ?_) (fun h => ?_)))))
 ·refine AWp.skip (AWp.seq (AWp.block (AWp.seq (rN (kI h (q1g (e := eStr)) rfl rfl rfl rfl rfl rfl rfl fun x30 h => ?_)))))
  refine pG rfl (pG rfl (dn (AWp.seq ?_)))
  refine AWp.regionN (fun o => q00 [20] o) rfl ?_
  refine pP rfl (pG rfl (kB h rfl ⟨.inl rfl, trivial⟩ fun x32 h => ?_))
  refine pB rfl (dn (cB h (fun h => ?_) (fun h => ?_)))
  ·refine AWp.bots ?_
   refine AWp.regionN (fun o => q00 [25] o) rfl ?_
   refine pP rfl (kXf h rfl trivial rfl fun x34 h => ?_)
   refine dn (.inl ?_)
   refine rN ?_
   obtain ⟨x35, ex35, h⟩ := h.get
   refine ai ex35 rfl (pI rfl (dn ?_))
   exact ⟨⟨x34, x35⟩, h.1, h.2, sl⟩
  refine AWp.skip (rN ?_)
  obtain ⟨x36, ex36, h⟩ := h.get
  refine ai ex36 rfl (pI rfl (dn ?_))
  exact ⟨⟨x32.2, x36⟩, h.1, h.2, sl⟩
 refine AWp.exit ?_
 subst h
 exact ⟨_, rfl, rfl, rfl⟩
def q5f (p1 : Gparseparser) (Q : Except Gparsestop (Gparseparser) -> Prop) : Prop :=
 Call (q0c p1) fun x2 =>
 Br (x2.Kind == (0 : Int)) (
 Call (q0c p1) fun x6 =>
 Q (.error (Gparsestop.mk (131 : Int) x6.At))) (
 Call (q0c p1) fun x8 =>
 Q (.error (Gparsestop.mk (130 : Int) x8.At)))
theorem qBf {p1 : Gparseparser} {r : Except Gparsestop (Gparseparser)} (h : q5f p1 (fun r' => r' = r)) : q14 p1 r := by
 unfold q5f at h
 refine AFnB.intro' (L := []) q01 Tryz.func25 rfl rfl Tryz.ntmps25 rfl rfl rfl (fun b => ?_)
 refine AWp.seq (AWp.seq (rN (pP rfl (kR h rfl trivial fun x2 h => ?_))))
 refine pI rfl (pB rfl (dn (cB h (fun h => ?_) (fun h => ?_))))
 ·refine AWp.regionP _ (fun o => writes o) rfl rfl ?_
  refine pP rfl (kR h rfl trivial fun x6 h => ?_)
  refine pI rfl (pT rfl ?_)
  refine AOps.mkif2 rfl rfl rfl rfl rfl ?_
  refine dn ?_
  exact ⟨rfl, _, _, _, rfl, rfl, ⟨mkSt [] [], by cases h; rfl⟩⟩
 refine AWp.skip ?_
 refine AWp.regionP _ (fun o => writes o) rfl rfl ?_
 refine pP rfl (kR h rfl trivial fun x8 h => ?_)
 refine pI rfl (pT rfl ?_)
 refine AOps.mkif2 rfl rfl rfl rfl rfl ?_
 refine dn ?_
 exact ⟨rfl, _, _, _, rfl, rfl, ⟨mkSt [] [], by cases h; rfl⟩⟩
def q79 (p1 : Gparseparser) (s2 : ByteArray) (Q : Bool -> Prop) : Prop :=
 Call (q0c p1) fun x3 =>
 Br (x3.Kind == (2 : Int)) (Q (x3.S.toList == s2.toList)) (
 Br (x3.Kind == (4 : Int)) (Q (x3.S.toList == s2.toList)) (
 Q false))
theorem qDa {p1 : Gparseparser} {s2 : ByteArray} {r : Bool} (h : q79 p1 s2 (fun r' => r' = r)) : q0a p1 s2 r := by
 unfold q79 at h
 refine AFnB.intro' (L := [(1, .dat (.v (.string s2)))]) q01 Tryz.func53 rfl rfl Tryz.ntmps53 rfl rfl rfl (fun b => ?_)
 refine sN (pB rfl (dn (AWp.seq (rW (pP rfl (kR h rfl trivial fun x3 h => ?_))))))
 refine al0 ?_
 refine st (v := .dat (.st _ _)) ?_
 refine dn (sN (pP rfl (pI rfl (pB rfl (pB rfl (sB 11 h (fun h => ?_) (fun h => ?_)))))))
 ·refine fo 3 rfl (pB rfl (pB rfl (pP rfl (pG rfl (pG rfl (pB rfl (pB rfl (pB rfl (dn (AWp.ret ?_))))))))))
  subst h
  exact ⟨_, rfl, rfl, rfl⟩
 refine pP rfl (pI rfl (pB rfl (pB rfl (pB rfl (sB 16 h (fun h => ?_) (fun h => ?_))))))
 ·refine pP rfl (pG rfl (pG rfl (pB rfl (pB rfl (pB rfl (dn (AWp.ret ?_)))))))
  subst h
  exact ⟨_, rfl, rfl, rfl⟩
 refine fo 4 rfl (pB rfl (pB rfl (dn (AWp.ret ?_))))
 subst h
 exact ⟨_, rfl, rfl, rfl⟩
def q7a (x1 : Gparseparser) (Q : Except Gparsestop (GTree × Gparseparser) -> Prop) : Prop :=
 q3r (fun j13 =>
 Call (q0a x1 (ByteArray.mk #[40])) fun x14 =>
 Br x14 (
 CallX (q0e x1 (ByteArray.mk #[40])) (fun e => Q (.error e)) fun x16 =>
 CallX (q1i x16) (fun e => Q (.error e)) fun x17 =>
 CallX (q0h x17.2 ([(ByteArray.mk #[41])])) (fun e => Q (.error e)) fun x18 =>
 j13 x18 x17.1) (
 Call (q0c x1) fun x19 =>
 Br (x19.Kind == (3 : Int)) (
 CallX (q0w x1 q89) (fun e => Q (.error e)) fun x21 =>
 j13 x21.2 ({ GTree.zero with Kind := (20 : Int) })) (
 CallX (q0d x1) (fun e => Q (.error e)) fun x22 =>
 j13 x22.2 ({ GTree.zero with Kind := (21 : Int), Name := x22.1 })))
 ) (fun (x11 : Gparseparser) (x12 : GTree) =>
 Call (q02 x11 (ByteArray.mk #[94])) fun x23 =>
 Br (!x23.1) (Q (.ok (x12, x23.2))) (
 Call (q0a x23.2 (ByteArray.mk #[40])) fun x25 =>
 Br (!x25) (
 CallX (q1m x23.2) (fun e => Q (.error e)) fun x28 =>
 Q (.ok (({ GTree.zero with Kind := (24 : Int), Num := (GRat.mk x28.1 (1 : Int)), Kids := [x12] }), x28.2))) (
 CallX (q0e x23.2 (ByteArray.mk #[40])) (fun e => Q (.error e)) fun x29 =>
 CallX (q1m x29) (fun e => Q (.error e)) fun x30 =>
 CallX (q04 x30.2 ([(ByteArray.mk #[47])])) (fun e => Q (.error e)) fun x31 =>
 CallX (q0w x31 q8a) (fun e => Q (.error e)) fun x32 =>
 CallX (q0h x32.2 ([(ByteArray.mk #[41])])) (fun e => Q (.error e)) fun x33 =>
 Call (q77 x30.1 x32.1.N) fun x34 =>
 Q (.ok (({ GTree.zero with Kind := (24 : Int), Num := x34.1, Kids := [x12] }), x33)))))
theorem qDb {x1 : Gparseparser} {r : Except Gparsestop (GTree × Gparseparser)} (h : q7a x1 (fun r' => r' = r)) : q62 x1 r := by
 unfold q7a at h
 refine AFnB.intro' (L := []) q01 Tryz.func55 rfl rfl Tryz.ntmps55 rfl rfl rfl (fun b => ?_)
 refine sN (al0 ?_)
 refine dn (sN (al0 ?_))
 refine dn (AWp.seq ?_)
 obtain ⟨J36, h, hk37⟩ := h
 refine AWp.cutK (I := fun p : Gparseparser × GTree => mkSt [(0, .pt 1000000 [] 0), (2, .pt 2 [] 0), (3, .pt 3 [] 0)] [(2, .box 26 9 (.dat (GTree.out GTree.zero))), (3, .box 26 9 (.dat (GTree.out p.2))), (1000000, .box 39 3 (.dat (Gparseparser.enc p.1)))]) (Inv := fun p : Gparseparser × GTree => J36 p.1 p.2) ?_ (fun p hp => ?_)
 ·refine AWp.block (AWp.seq (rN (pP rfl (kR h rfl ⟨.inl rfl, trivial⟩ fun x14 h => ?_))))
  refine pB rfl (dn (cB h (fun h => ?_) (fun h => ?_)))
  ·refine AWp.seq ?_
   refine AWp.bots ?_
   refine AWp.regionN (fun o => q00 [80] o) rfl ?_
   refine pP rfl (kXf h rfl ⟨.inl rfl, trivial⟩ rfl fun x16 h => ?_)
   refine dn (.inl ?_)
   refine AWp.seq ?_
   refine AWp.bots ?_
   refine AWp.regionN (fun o => q00 [22] o) rfl ?_
   refine pP rfl (kXf h rfl trivial rfl fun x17 h => ?_)
   refine st (v := .dat (.st _ _)) ?_
   refine dn (.inl ?_)
   refine AWp.bots ?_
   refine AWp.regionN (fun o => q00 [81] o) rfl ?_
   refine pP rfl ?_
   refine AOps.lit q01 (ys := [.v (.string (ByteArray.mk #[41]))]) rfl rfl rfl rfl rfl rfl ?_
   refine kXf h rfl ⟨.inl rfl, trivial⟩ rfl fun x18 h => dn (.inl ?_)
   exact ⟨⟨x18, x17.1⟩, h, sl⟩
  refine sN (pP rfl (kR h rfl trivial fun x19 h => ?_))
  refine pI rfl (pB rfl (pB rfl (dn (cB h (fun h => ?_) (fun h => ?_)))))
  ·refine AWp.seq ?_
   refine AWp.bots ?_
   refine AWp.regionN (fun o => q00 [82] o) rfl ?_
   refine pP rfl (kXf h rfl ⟨.inl rfl, trivial⟩ rfl fun x21 h => ?_)
   refine dn (.inl ?_)
   refine rW (pT rfl (st (v := .dat (.st _ _)) ?_))
   refine dn ?_
   exact ⟨⟨x21.2, ({ GTree.zero with Kind := (20 : Int) })⟩, h, sl⟩
  refine AWp.bots ?_
  refine AWp.regionN (fun o => q00 [21] o) rfl ?_
  refine pP rfl (kXf h rfl trivial rfl fun x22 h => ?_)
  refine pT rfl (st (v := .dat (.st _ _)) ?_)
  refine dn (.inl ?_)
  exact ⟨⟨x22.2, ({ GTree.zero with Kind := (21 : Int), Name := x22.1 })⟩, h, sl⟩
 obtain ⟨x11, x12⟩ := p
 replace h := hk37 x11 x12 hp
 refine AWp.seq (AWp.seq ?_)
 refine AWp.regionN (fun o => q00 [20] o) rfl ?_
 refine pP rfl (kB h rfl ⟨.inl rfl, trivial⟩ fun x23 h => ?_)
 refine pB rfl (dn (cB h (fun h => ?_) (fun h => ?_)))
 ·refine sW (pT rfl (st (v := .dat (.st _ _)) ?_))
  subst h; exact dn (AWp.ret ⟨_, rfl, rfl, rfl⟩)
 refine AWp.skip (AWp.seq (AWp.seq (rN (pP rfl (kR h rfl ⟨.inl rfl, trivial⟩ fun x25 h => ?_)))))
 refine pB rfl (dn (cB h (fun h => ?_) (fun h => ?_)))
 ·refine AWp.seq ?_
  refine AWp.bots ?_
  refine rF (fun o => q00 [84] o) [(0, [1000000]), (2, [2]), (3, [3]), (36, [1000000])] (pP rfl (kXf h rfl trivial rfl fun x28 h => ?_))
  refine pT rfl (pT rfl ?_)
  refine AOps.lit q01 (ys := [GTree.out x12]) rfl rfl rfl rfl rfl rfl ?_
  rw [show [GTree.out x12] = List.map GTree.enc [x12] by simp [GTree.enc_out]]
  refine pT rfl (st (v := .dat (.st _ _)) ?_)
  refine dn (.inl ?_)
  subst h; exact AWp.ret ⟨_, rfl, rfl, rfl⟩
 refine AWp.skip (AWp.seq ?_)
 refine AWp.bots ?_
 refine AWp.regionN (fun o => q00 [80] o) rfl ?_
 refine pP rfl (kXf h rfl ⟨.inl rfl, trivial⟩ rfl fun x29 h => ?_)
 refine dn (.inl ?_)
 refine AWp.seq ?_
 refine AWp.bots ?_
 refine AWp.regionN (fun o => q00 [84] o) rfl ?_
 refine pP rfl (kXf h rfl trivial rfl fun x30 h => ?_)
 refine pI rfl (dn (.inl ?_))
 refine AWp.seq ?_
 refine AWp.bots ?_
 refine AWp.regionN (fun o => q00 [23] o) rfl ?_
 refine pP rfl ?_
 refine AOps.lit q01 (ys := [.v (.string (ByteArray.mk #[47]))]) rfl rfl rfl rfl rfl rfl ?_
 refine kXf h rfl ⟨.inl rfl, trivial⟩ rfl fun x31 h => dn (.inl ?_)
 refine AWp.seq ?_
 refine AWp.bots ?_
 refine AWp.regionN (fun o => q00 [82] o) rfl ?_
 refine pP rfl (kXf h rfl ⟨.inl rfl, trivial⟩ rfl fun x32 h => ?_)
 refine al0 ?_
 refine st (v := .dat (.st _ _)) ?_
 refine dn (.inl ?_)
 refine AWp.seq ?_
 refine AWp.bots ?_
 refine AWp.regionN (fun o => q00 [81] o) rfl ?_
 refine pP rfl ?_
 refine AOps.lit q01 (ys := [.v (.string (ByteArray.mk #[41]))]) rfl rfl rfl rfl rfl rfl ?_
 refine kXf h rfl ⟨.inl rfl, trivial⟩ rfl fun x33 h => dn (.inl ?_)
 refine sW (pI rfl (pP rfl (pI rfl (kC h rfl ⟨.inl rfl, .inl rfl, trivial⟩ rfl fun x34 h => ?_))))
 refine pU rfl (pT rfl (pI rfl (al0 ?_)))
 refine st (v := .dat (.st _ _)) ?_
 refine pI rfl (dn (AWp.seq (rW (pT rfl (pT rfl ?_)))))
 refine AOps.lit q01 (ys := [GTree.out x12]) rfl rfl rfl rfl rfl rfl ?_
 rw [show [GTree.out x12] = List.map GTree.enc [x12] by simp [GTree.enc_out]]
 refine pT rfl (st (v := .dat (.st _ _)) ?_)
 subst h; exact dn (AWp.ret ⟨_, rfl, rfl, rfl⟩)
def q5g (p1 : Gparseparser) (Q : Except Gparsestop (GTree × Gparseparser) -> Prop) : Prop :=
 q3r (fun j35 =>
 Call (q02 p1 (ByteArray.mk #[112, 97, 114, 97, 109])) fun x36 =>
 Br x36.1 (
 CallX (q0d x36.2) (fun e => Q (.error e)) fun x38 =>
 CallX (q2l x38.2) (fun e => Q (.error e)) fun x39 =>
 CallX (q04 x39.2 ([(ByteArray.mk #[61])])) (fun e => Q (.error e)) fun x40 =>
 CallX (q0g x40) (fun e => Q (.error e)) fun x41 =>
 j35 x41.2 ({ GTree.zero with Kind := (33 : Int), Name := x38.1, Kids := [x39.1, x41.1] })) (
 q16 (fun j47 =>
 Call (q0a x36.2 (ByteArray.mk #[118, 97, 114])) fun x48 =>
 Br x48 (j47 true) (
 Call (q0a x36.2 (ByteArray.mk #[102, 108, 111, 119])) fun x50 =>
 j47 x50)
 ) (fun (x46 : Bool) =>
 Br x46 (
 Call (q0a x36.2 (ByteArray.mk #[102, 108, 111, 119])) fun x52 =>
 Let (IntKind.i64.wrap (x36.2.i_ + (1 : Int))) fun x54 =>
 CallX (q0d ({ x36.2 with i_ := x54 })) (fun e => Q (.error e)) fun x55 =>
 CallX (q27 x55.2) (fun e => Q (.error e)) fun x56 =>
 CallX (q2l x56.2) (fun e => Q (.error e)) fun x57 =>
 j35 x57.2 ({ GTree.zero with Kind := (34 : Int), Name := x55.1, N := x56.1, Flag := x52, Kids := [x57.1] })) (
 Call (q02 x36.2 (ByteArray.mk #[112, 97, 114, 116])) fun x58 =>
 Br x58.1 (
 CallX (q4n x58.2) (fun e => Q (.error e)) fun x60 =>
 j35 x60.2 x60.1) (
 Call (q02 x58.2 (ByteArray.mk #[115, 116, 97, 114, 116])) fun x61 =>
 Br x61.1 (
 CallX (q44 x61.2) (fun e => Q (.error e)) fun x63 =>
 j35 x63.2 x63.1) (
 CallX (q2m x61.2) (fun e => Q (.error e)) fun x64 =>
 Q (.ok (x64.1, x64.2)))))))
 ) (fun (p33 : Gparseparser) (t34 : GTree) =>
 CallX (q04 p33 ([(ByteArray.mk #[59])])) (fun e => Q (.error e)) fun x67 =>
 Q (.ok (t34, x67)))
theorem qBg {p1 : Gparseparser} {r : Except Gparsestop (GTree × Gparseparser)} (h : q5g p1 (fun r' => r' = r)) : q4k p1 r := by
 unfold q5g at h
 refine AFnB.intro' (L := []) q01 Tryz.func56 rfl rfl Tryz.ntmps56 rfl rfl rfl (fun b => ?_)
 refine sN (al0 ?_)
 refine dn (sN (al0 ?_))
 refine dn (AWp.seq ?_)
 obtain ⟨J68, h, hk69⟩ := h
 refine AWp.cutK (I := fun p : Gparseparser × GTree => mkSt [(0, .pt 1000000 [] 0), (2, .pt 2 [] 0), (3, .pt 3 [] 0)] [(2, .box 26 9 (.dat (GTree.out GTree.zero))), (3, .box 26 9 (.dat (GTree.out p.2))), (1000000, .box 39 3 (.dat (Gparseparser.enc p.1)))]) (Inv := fun p : Gparseparser × GTree => J68 p.1 p.2) ?_ (fun p hp => ?_)
 ·refine AWp.block (AWp.seq ?_)
  refine AWp.regionN (fun o => q00 [20] o) rfl ?_
  refine pP rfl (kB h rfl ⟨.inl rfl, trivial⟩ fun x36 h => ?_)
  refine pB rfl (dn (cB h (fun h => ?_) (fun h => ?_)))
  ·refine AWp.seq ?_
   refine AWp.bots ?_
   refine AWp.regionN (fun o => q00 [21] o) rfl ?_
   refine pP rfl (kXf h rfl trivial rfl fun x38 h => ?_)
   refine pT rfl (st (v := .dat (.st _ _)) ?_)
   refine dn (.inl ?_)
   refine AWp.seq ?_
   refine AWp.bots ?_
   refine AWp.regionN (fun o => q00 [87] o) rfl ?_
   refine pP rfl (kXf h rfl trivial rfl fun x39 h => ?_)
   refine al0 ?_
   refine st (v := .dat (.st _ _)) ?_
   refine dn (.inl ?_)
   refine AWp.seq ?_
   refine AWp.bots ?_
   refine AWp.regionN (fun o => q00 [23] o) rfl ?_
   refine pP rfl ?_
   refine AOps.lit q01 (ys := [.v (.string (ByteArray.mk #[61]))]) rfl rfl rfl rfl rfl rfl ?_
   refine kXf h rfl ⟨.inl rfl, trivial⟩ rfl fun x40 h => dn (.inl ?_)
   refine AWp.bots ?_
   refine rF (fun o => q00 [88] o) [(0, [1000000]), (3, [3]), (4, [4]), (19, [1000000]), (21, [21]), (22, [3])] (pT rfl (pP rfl (kXf h rfl trivial rfl fun x41 h => ?_)))
   refine AOps.lit q01 (ys := [GTree.out x39.1, GTree.out x41.1]) rfl rfl rfl rfl rfl rfl ?_
   rw [show [GTree.out x39.1, GTree.out x41.1] = List.map GTree.enc [x39.1, x41.1] by simp [GTree.enc_out]]
   refine pP rfl (st (v := .dat (.sl _ _ _)) ?_)
   refine dn (.inl ?_)
   exact ⟨⟨x41.2, ({ GTree.zero with Kind := (33 : Int), Name := x38.1, Kids := [x39.1, x41.1] })⟩, h, sl⟩
  refine AWp.seq ?_
  obtain ⟨J65, h, hk66⟩ := h
  refine AWp.cutK (I := fun p : Bool => mkSt [(0, .pt 1000000 [] 0), (2, .pt 2 [] 0), (3, .pt 3 [] 0), (23, .dat (.v (.bool p)))] [(2, .box 26 9 (.dat (GTree.out GTree.zero))), (3, .box 26 9 (.dat (GTree.out GTree.zero))), (1000000, .box 39 3 (.dat (Gparseparser.enc x36.2)))]) (Inv := fun p : Bool => J65 p) ?_ (fun p hp => ?_)
  ·refine rN (pP rfl (kR h rfl ⟨.inl rfl, trivial⟩ fun x48 h => ?_))
   refine pB rfl (sB 26 h (fun h => ?_) (fun h => ?_))
   ·refine ff rfl (ff rfl (pB rfl (pB rfl (dn ?_))))
    exact ⟨true, h, sl⟩
   refine pP rfl (kR h rfl ⟨.inl rfl, trivial⟩ fun x50 h => ?_)
   refine pB rfl (pB rfl (dn ?_))
   exact ⟨x50, h, sl⟩
  replace h := hk66 p hp
  revert h; clear hp; generalize p = x46; intro h
  refine cB h (fun h => ?_) (fun h => ?_)
  ·refine sW (pP rfl (kR h rfl ⟨.inl rfl, trivial⟩ fun x52 h => ?_))
   refine pT rfl (st (v := .dat (.st _ _)) ?_)
   refine dn (sW (pP rfl (pP rfl (pP rfl (pI rfl ?_)))))
   obtain ⟨x54, ex54, h⟩ := h.get
   refine ai ex54 rfl (pP rfl (pP rfl (st (v := .dat (.v (.int _ _))) ?_)))
   refine dn (AWp.seq ?_)
   refine AWp.bots ?_
   refine AWp.regionN (fun o => q00 [21] o) rfl ?_
   refine pP rfl (kXf h rfl trivial rfl fun x55 h => ?_)
   refine pP rfl (st (v := .dat (.v (.string _))) ?_)
   refine dn (.inl ?_)
   refine AWp.seq ?_
   refine AWp.bots ?_
   refine AWp.regionN (fun o => q00 [89] o) rfl ?_
   refine pP rfl (kXf h rfl trivial rfl fun x56 h => ?_)
   refine pP rfl (st (v := .dat (.v (.int _ _))) ?_)
   refine dn (.inl ?_)
   refine AWp.bots ?_
   refine AWp.regionN (fun o => q00 [87] o) rfl ?_
   refine pP rfl (kXf h rfl trivial rfl fun x57 h => ?_)
   refine AOps.lit q01 (ys := [GTree.out x57.1]) rfl rfl rfl rfl rfl rfl ?_
   rw [show [GTree.out x57.1] = List.map GTree.enc [x57.1] by simp [GTree.enc_out]]
   refine pP rfl (st (v := .dat (.sl _ _ _)) ?_)
   refine dn (.inl ?_)
   exact ⟨⟨x57.2, ({ GTree.zero with Kind := (34 : Int), Name := x55.1, N := x56.1, Flag := x52, Kids := [x57.1] })⟩, h, sl⟩
  refine AWp.seq ?_
  refine AWp.regionN (fun o => q00 [20] o) rfl ?_
  refine pP rfl (kB h rfl ⟨.inl rfl, trivial⟩ fun x58 h => ?_)
  refine pB rfl (dn (cB h (fun h => ?_) (fun h => ?_)))
  ·refine AWp.bots ?_
   refine AWp.regionN (fun o => q00 [90] o) rfl ?_
   refine pP rfl (kXf h rfl trivial rfl fun x60 h => ?_)
   refine st (v := .dat (.st _ _)) ?_
   refine dn (.inl ?_)
   exact ⟨⟨x60.2, x60.1⟩, h, sl⟩
  refine AWp.seq ?_
  refine AWp.regionN (fun o => q00 [20] o) rfl ?_
  refine pP rfl (kB h rfl ⟨.inl rfl, trivial⟩ fun x61 h => ?_)
  refine pB rfl (dn (cB h (fun h => ?_) (fun h => ?_)))
  ·refine AWp.bots ?_
   refine AWp.regionN (fun o => q00 [91] o) rfl ?_
   refine pP rfl (kXf h rfl trivial rfl fun x63 h => ?_)
   refine st (v := .dat (.st _ _)) ?_
   refine dn (.inl ?_)
   exact ⟨⟨x63.2, x63.1⟩, h, sl⟩
  refine AWp.seq ?_
  refine AWp.bots ?_
  refine AWp.regionN (fun o => q00 [92] o) rfl ?_
  refine pP rfl (kXf h rfl trivial rfl fun x64 h => ?_)
  refine st (v := .dat (.st _ _)) ?_
  refine dn (.inl ?_)
  subst h; exact AWp.ret ⟨_, rfl, rfl, rfl⟩
 obtain ⟨p33, t34⟩ := p
 replace h := hk69 p33 t34 hp
 refine AWp.seq ?_
 refine AWp.bots ?_
 refine AWp.regionN (fun o => q00 [23] o) rfl ?_
 refine pP rfl ?_
 refine AOps.lit q01 (ys := [.v (.string (ByteArray.mk #[59]))]) rfl rfl rfl rfl rfl rfl ?_
 refine kXf h rfl ⟨.inl rfl, trivial⟩ rfl fun x67 h => dn (.inl ?_)
 refine sW (pT rfl (st (v := .dat (.st _ _)) ?_))
 subst h; exact dn (AWp.ret ⟨_, rfl, rfl, rfl⟩)
def q4p (p1 : Gparseparser) (s2 : ByteArray) (Q : Except Gparsestop (Gparseparser) -> Prop) : Prop :=
 q16 (fun j6 =>
 Call (q0a p1 s2) fun x7 =>
 Br x7 (j6 (decide (p1.open_ >= (60 : Int)))) (
 j6 false)
 ) (fun (x5 : Bool) =>
 Br x5 (
 Call (q0c p1) fun x11 =>
 Q (.error (Gparsestop.mk (132 : Int) x11.At))) (
 CallX (q04 p1 ([s2])) (fun e => Q (.error e)) fun x13 =>
 Let (IntKind.i64.wrap (x13.open_ + (1 : Int))) fun x14 =>
 Q (.ok ({ x13 with open_ := x14 }))))
theorem qAm {p1 : Gparseparser} {s2 : ByteArray} {r : Except Gparsestop (Gparseparser)} (h : q4p p1 s2 (fun r' => r' = r)) : q0e p1 s2 r := by
 unfold q4p at h
 refine AFnB.intro' (L := [(1, .dat (.v (.string s2)))]) q01 Tryz.func80 rfl rfl Tryz.ntmps80 rfl rfl rfl (fun b => ?_)
 refine AWp.seq (AWp.seq ?_)
 obtain ⟨J15, h, hk16⟩ := h
 refine AWp.cutK (I := fun p : Bool => mkSt [(0, .pt 1000000 [] 0), (1, .dat (.v (.string s2))), (13, .dat (.v (.bool p)))] [(1000000, .box 39 3 (.dat (Gparseparser.enc p1)))]) (Inv := fun p : Bool => J15 p) ?_ (fun p hp => ?_)
 ·refine rN (pP rfl (pG rfl (kR h rfl ⟨.inl rfl, trivial⟩ fun x7 h => ?_)))
  refine pB rfl (sB 7 h (fun h => ?_) (fun h => ?_))
  ·refine pP rfl (pP rfl (pP rfl (pI rfl (pB rfl (pB rfl (dn ?_))))))
   exact ⟨(decide (p1.open_ >= (60 : Int))), h, sl⟩
  refine fo 5 rfl (pB rfl (dn ?_))
  exact ⟨false, h, sl⟩
 replace h := hk16 p hp
 revert h; clear hp; generalize p = x5; intro h
 refine cB h (fun h => ?_) (fun h => ?_)
 ·refine AWp.regionP _ (fun o => writes o) rfl rfl ?_
  refine pP rfl (kR h rfl trivial fun x11 h => ?_)
  refine pI rfl (pT rfl ?_)
  refine AOps.mkif2 rfl rfl rfl rfl rfl ?_
  refine dn ?_
  exact ⟨rfl, _, _, _, rfl, rfl, ⟨mkSt [] [], by cases h; rfl⟩⟩
 refine AWp.skip (AWp.seq ?_)
 refine AWp.bots ?_
 refine AWp.regionN (fun o => q00 [23] o) rfl ?_
 refine pP rfl (pG rfl ?_)
 refine AOps.lit q01 (ys := [.v (.string s2)]) rfl rfl rfl rfl rfl rfl ?_
 refine kXf h rfl ⟨.inl rfl, trivial⟩ rfl fun x13 h => dn (.inl ?_)
 refine rW (pP rfl (pP rfl (pP rfl (pI rfl ?_))))
 obtain ⟨x14, ex14, h⟩ := h.get
 refine ai ex14 rfl (pP rfl (pP rfl (st (v := .dat (.v (.int _ _))) ?_)))
 refine dn ?_
 subst h
 exact ⟨_, rfl, rfl, rfl⟩
def q4q (p1 : Gparseparser) (l2 : List ByteArray) (Q : Except Gparsestop (Gparseparser) -> Prop) : Prop :=
 CallX (q04 p1 l2) (fun e => Q (.error e)) fun x3 =>
 Let (IntKind.i64.wrap (x3.open_ - (1 : Int))) fun x4 =>
 Q (.ok ({ x3 with open_ := x4 }))
theorem qAn {p1 : Gparseparser} {l2 : List ByteArray} {r : Except Gparsestop (Gparseparser)} (h : q4q p1 l2 (fun r' => r' = r)) : q0h p1 l2 r := by
 unfold q4q at h
 refine AFnB.intro' (L := [(1, .dat (.sl 9 1 (List.map eStr l2)))]) q01 Tryz.func81 rfl rfl Tryz.ntmps81 rfl rfl rfl (fun b => ?_)
 refine AWp.seq ?_
 refine AWp.bots ?_
 refine AWp.regionN (fun o => q00 [23] o) rfl ?_
 refine pP rfl (pS rfl (kXf h rfl ⟨.inl rfl, trivial⟩ rfl fun x3 h => ?_))
 refine dn (.inl ?_)
 refine rW (pP rfl (pP rfl (pP rfl (pI rfl ?_))))
 obtain ⟨x4, ex4, h⟩ := h.get
 refine ai ex4 rfl (pP rfl (pP rfl (st (v := .dat (.v (.int _ _))) ?_)))
 refine dn ?_
 subst h
 exact ⟨_, rfl, rfl, rfl⟩
def q47 (p1 : Gparseparser) (so2 : DV) (Q : Except Gparsestop (GRat × Gparseparser) -> Prop) : Prop :=
 Call (q0c p1) fun x3 =>
 q16 (fun j7 =>
 Br (x3.Kind != (3 : Int)) (
 CallX (q14 p1) (fun e => Q (.error e)) fun x8 =>
 j7 x8) (
 j7 p1)
 ) (fun (p6 : Gparseparser) =>
 Call (fun x9 : Bool => FVal prog so2 [GRat.enc x3.Num] (.v (.bool x9))) fun x9 =>
 Br (!x9) (Q (.error (Gparsestop.mk (110 : Int) x3.At))) (
 Let (IntKind.i64.wrap (p6.i_ + (1 : Int))) fun x11 =>
 Q (.ok (x3.Num, ({ p6 with i_ := x11 })))))
theorem q9z {p1 : Gparseparser} {so2 : DV} {r : Except Gparsestop (GRat × Gparseparser)} (h : q47 p1 so2 (fun r' => r' = r)) : q0w p1 so2 r := by
 unfold q47 at h
 refine AFnB.intro' (L := [(1, .dat (so2))]) q01 Tryz.func82 rfl rfl Tryz.ntmps82 rfl rfl rfl (fun b => ?_)
 refine sN (al0 ?_)
 refine dn (sW (pP rfl (kR h rfl trivial fun x3 h => ?_)))
 refine al0 ?_
 refine st (v := .dat (.st _ _)) ?_
 refine dn (AWp.seq (AWp.seq (rN (pP rfl (pI rfl (pB rfl (dn ?_)))))))
 obtain ⟨J12, h, hk13⟩ := h
 refine AWp.cutK (I := fun p : Gparseparser => mkSt [(0, .pt 1000000 [] 0), (1, .dat (so2)), (4, .pt 4 [] 0), (5, .pt 5 [] 0)] [(4, .box 23 2 (.dat (GRat.enc GRat.zero))), (5, .box 52 5 (.dat (GToken.enc x3))), (1000000, .box 39 3 (.dat (Gparseparser.enc p)))]) (Inv := fun p : Gparseparser => J12 p) ?_ (fun p hp => ?_)
 ·refine cB h (fun h => ?_) (fun h => ?_)
  ·refine AWp.bots ?_
   refine AWp.regionN (fun o => q00 [25] o) rfl ?_
   refine pP rfl (kXf h rfl trivial rfl fun x8 h => ?_)
   refine dn (.inl ?_)
   exact ⟨x8, h, sl⟩
  refine AWp.skip ?_
  exact ⟨p1, h, sl⟩
 replace h := hk13 p hp
 revert h; clear hp; generalize p = p6; intro h
 refine AWp.seq (AWp.seq (rN ?_))
 refine AOps.mv rfl rfl (.inl rfl) rfl ?_
 refine pP rfl (pT rfl ?_)
 obtain ⟨x9, hc10, h⟩ := h
 refine AOps.callv hc10 rfl rfl rfl rfl ⟨.inl rfl, trivial⟩ ?_
 refine pB rfl (dn (cB h (fun h => ?_) (fun h => ?_)))
 ·refine AWp.regionP _ (fun o => writes o) rfl rfl ?_
  refine pP rfl (pI rfl (pT rfl ?_))
  refine AOps.mkif2 rfl rfl rfl rfl rfl ?_
  refine dn ?_
  exact ⟨rfl, _, _, _, rfl, rfl, ⟨mkSt [] [], by cases h; rfl⟩⟩
 refine AWp.skip (AWp.seq (rW (pP rfl (pP rfl (pP rfl (pI rfl ?_))))))
 obtain ⟨x11, ex11, h⟩ := h.get
 refine ai ex11 rfl (pP rfl (pP rfl (st (v := .dat (.v (.int _ _))) ?_)))
 refine dn (sW (pP rfl (pT rfl (st (v := .dat (.st _ _)) ?_))))
 subst h; exact dn (AWp.ret ⟨_, rfl, rfl, rfl⟩)
def q8v (a1 : GRat) (Q : Bool -> Prop) : Prop :=
 Q (GRat.beq a1 (GRat.mk (1 : Int) (1 : Int)))
theorem qBh {a1 : GRat} {r : Bool} (h : q8v a1 (fun r' => r' = r)) : q4l a1 r := by
 unfold q8v at h
 refine intr (L := [(0, .dat (GRat.enc a1))]) Tryz.func83 Tryz.ntmps83 ?_
 refine sN (bx (v := .dat (.st _ _)) ?_)
 refine pB rfl (dn (AWp.seq (rN (pT rfl (pT rfl ?_)))))
 refine AOps.eqs rfl rfl rfl rfl rfl rfl rfl (by decide +kernel) (GRat.eqok23 _ a1 (GRat.mk (1 : Int) (1 : Int))) ?_
 refine pB rfl (dn (AWp.ret ?_))
 subst h
 exact ⟨_, rfl, rfl⟩
def q4r (p1 : Gparseparser) (Q : Except Gparsestop (Int × Gparseparser) -> Prop) : Prop :=
 Call (q02 p1 (ByteArray.mk #[45])) fun x2 =>
 CallX (q0w x2.2 q6e) (fun e => Q (.error e)) fun x4 =>
 Br x2.1 (
 Let (IntKind.i64.wrap (0 - x4.1.N)) fun x6 =>
 Q (.ok (x6, x4.2))) (
 Q (.ok (x4.1.N, x4.2)))
theorem qAo {p1 : Gparseparser} {r : Except Gparsestop (Int × Gparseparser)} (h : q4r p1 (fun r' => r' = r)) : q1m p1 r := by
 unfold q4r at h
 refine AFnB.intro' (L := []) q01 Tryz.func84 rfl rfl Tryz.ntmps84 rfl rfl rfl (fun b => ?_)
 refine sN (pI rfl (dn (AWp.seq ?_)))
 refine AWp.regionN (fun o => q00 [20] o) rfl ?_
 refine pP rfl (kB h rfl ⟨.inl rfl, trivial⟩ fun x2 h => ?_)
 refine pB rfl (dn (AWp.seq ?_))
 refine AWp.bots ?_
 refine AWp.regionN (fun o => q00 [82] o) rfl ?_
 refine pP rfl (kXf h rfl ⟨.inl rfl, trivial⟩ rfl fun x4 h => ?_)
 refine pI rfl (pI rfl (dn (.inl ?_)))
 refine AWp.seq (AWp.seq (rN (pB rfl (dn (cB h (fun h => ?_) (fun h => ?_))))))
 ·refine sN (pI rfl ?_)
  obtain ⟨x6, ex6, h⟩ := h.get
  refine ai ex6 rfl (pI rfl (dn (AWp.ret ?_)))
  subst h
  exact ⟨_, rfl, rfl, rfl⟩
 refine AWp.skip (AWp.seq (rN (pI rfl (pI rfl (dn (AWp.ret ?_))))))
 subst h
 exact ⟨_, rfl, rfl, rfl⟩
def q5h (a1 : GRat) (Q : Bool -> Prop) : Prop :=
 Br (a1.D == (1 : Int)) (
 Br (decide (a1.N >= (1 : Int))) (Q (decide (a1.N <= (64 : Int)))) (
 Q false)) (
 Q false)
theorem qBi {a1 : GRat} {r : Bool} (h : q5h a1 (fun r' => r' = r)) : q4m a1 r := by
 unfold q5h at h
 refine intr (L := [(0, .dat (GRat.enc a1))]) Tryz.func85 Tryz.ntmps85 ?_
 refine sN (bx (v := .dat (.st _ _)) ?_)
 refine pB rfl (dn (AWp.seq (rN (pP rfl (pI rfl (pB rfl (pB rfl (sB 6 h (fun h => ?_) (fun h => ?_)))))))))
 ·refine pP rfl (pI rfl (pB rfl (pB rfl (pB rfl (sB 11 h (fun h => ?_) (fun h => ?_))))))
  ·refine pP rfl (pI rfl (pB rfl (pB rfl (pB rfl (dn (AWp.ret ?_))))))
   subst h
   exact ⟨_, rfl, rfl⟩
  refine fo 3 rfl (pB rfl (pB rfl (dn (AWp.ret ?_))))
  subst h
  exact ⟨_, rfl, rfl⟩
 refine fo 3 rfl (pB rfl (pB rfl (fo 3 rfl (pB rfl (pB rfl (dn (AWp.ret ?_)))))))
 subst h
 exact ⟨_, rfl, rfl⟩
def q5i (p1 : Gparseparser) (Q : Except Gparsestop (GTree × Gparseparser) -> Prop) : Prop :=
 Call (q02 p1 (ByteArray.mk #[58])) fun x2 =>
 Br x2.1 (
 CallX (q1i x2.2) (fun e => Q (.error e)) fun x5 =>
 Q (.ok (({ GTree.zero with Kind := (41 : Int), Kids := [x5.1] }), x5.2))) (
 Q (.ok (({ GTree.zero with Kind := (41 : Int) }), x2.2)))
theorem qBj {p1 : Gparseparser} {r : Except Gparsestop (GTree × Gparseparser)} (h : q5i p1 (fun r' => r' = r)) : q2l p1 r := by
 unfold q5i at h
 refine AFnB.intro' (L := []) q01 Tryz.func87 rfl rfl Tryz.ntmps87 rfl rfl rfl (fun b => ?_)
 refine sN (al0 ?_)
 refine dn (sW (pT rfl (al0 ?_)))
 refine st (v := .dat (.st _ _)) ?_
 refine dn (AWp.seq (AWp.seq ?_))
 refine AWp.regionN (fun o => q00 [20] o) rfl ?_
 refine pP rfl (kB h rfl ⟨.inl rfl, trivial⟩ fun x2 h => ?_)
 refine dn (cB h (fun h => ?_) (fun h => ?_))
 ·refine AWp.bots ?_
  refine AWp.regionN (fun o => q00 [22] o) rfl ?_
  refine pP rfl (kXf h rfl trivial rfl fun x5 h => ?_)
  refine AOps.lit q01 (ys := [GTree.out x5.1]) rfl rfl rfl rfl rfl rfl ?_
  rw [show [GTree.out x5.1] = List.map GTree.enc [x5.1] by simp [GTree.enc_out]]
  refine pP rfl (st (v := .dat (.sl _ _ _)) ?_)
  refine dn (.inl ?_)
  refine sW (pT rfl (st (v := .dat (.st _ _)) ?_))
  subst h; exact dn (AWp.ret ⟨_, rfl, rfl, rfl⟩)
 refine AWp.skip (AWp.seq (rW (pT rfl (st (v := .dat (.st _ _)) ?_))))
 subst h; exact dn (AWp.ret ⟨_, rfl, rfl, rfl⟩)
def q5j (p1 : Gparseparser) (Q : Except Gparsestop (GTree × Gparseparser) -> Prop) : Prop :=
 CallX (q1u p1 116 (ByteArray.mk #[43]) (8 : Int) (ByteArray.mk #[45]) (9 : Int)) (fun e => Q (.error e)) fun x2 =>
 Q (.ok (x2.1, x2.2))
theorem qBk {p1 : Gparseparser} {r : Except Gparsestop (GTree × Gparseparser)} (h : q5j p1 (fun r' => r' = r)) : q0g p1 r := by
 unfold q5j at h
 refine AFnB.intro' (L := []) q01 Tryz.func88 rfl rfl Tryz.ntmps88 rfl rfl rfl (fun b => ?_)
 refine sN (al0 ?_)
 refine dn (AWp.seq ?_)
 refine AWp.bots ?_
 refine AWp.regionN (fun o => q00 [54] o) rfl ?_
 refine pP rfl (pP rfl ?_)
 refine AOps.bound rfl rfl rfl rfl ?_
 refine kXm h (fun e h => ⟨mkSt [] [], by cases h; rfl⟩) (fun σ h => .inr h) rfl rfl rfl rfl rfl rfl ⟨.inl rfl, .inl rfl, .inl rfl, .inl rfl, trivial⟩ rfl fun x2 h => ?_
 refine st (v := .dat (.st _ _)) ?_
 refine dn (.inl ?_)
 subst h; exact AWp.ret ⟨_, rfl, rfl, rfl⟩
def q4s (p1 : Gparseparser) (Q : Except Gparsestop (Int × Gparseparser) -> Prop) : Prop :=
 Call (q02 p1 (ByteArray.mk #[91])) fun x2 =>
 Br (!x2.1) (Q (.ok ((0 : Int), x2.2))) (
 CallX (q11 x2.2) (fun e => Q (.error e)) fun x4 =>
 CallX (q04 x4.2 ([(ByteArray.mk #[93])])) (fun e => Q (.error e)) fun x5 =>
 Q (.ok (x4.1, x5)))
theorem qAp {p1 : Gparseparser} {r : Except Gparsestop (Int × Gparseparser)} (h : q4s p1 (fun r' => r' = r)) : q27 p1 r := by
 unfold q4s at h
 refine AFnB.intro' (L := []) q01 Tryz.func89 rfl rfl Tryz.ntmps89 rfl rfl rfl (fun b => ?_)
 refine sN (pI rfl (dn (AWp.seq (AWp.seq ?_))))
 refine AWp.regionN (fun o => q00 [20] o) rfl ?_
 refine pP rfl (kB h rfl ⟨.inl rfl, trivial⟩ fun x2 h => ?_)
 refine pB rfl (dn (cB h (fun h => ?_) (fun h => ?_)))
 ·refine sN (pI rfl (dn (AWp.ret ?_)))
  subst h
  exact ⟨_, rfl, rfl, rfl⟩
 refine AWp.skip (AWp.seq ?_)
 refine AWp.bots ?_
 refine AWp.regionN (fun o => q00 [117] o) rfl ?_
 refine pP rfl (kXf h rfl trivial rfl fun x4 h => ?_)
 refine pI rfl (dn (.inl ?_))
 refine AWp.seq ?_
 refine AWp.bots ?_
 refine AWp.regionN (fun o => q00 [23] o) rfl ?_
 refine pP rfl ?_
 refine AOps.lit q01 (ys := [.v (.string (ByteArray.mk #[93]))]) rfl rfl rfl rfl rfl rfl ?_
 refine kXf h rfl ⟨.inl rfl, trivial⟩ rfl fun x5 h => dn (.inl ?_)
 refine sN (pI rfl (pI rfl (dn (AWp.ret ?_))))
 subst h
 exact ⟨_, rfl, rfl, rfl⟩
def q4t (p1 : Gparseparser) (Q : Except Gparsestop (GTree × Gparseparser) -> Prop) : Prop :=
 Call (q0a p1 (ByteArray.mk #[100, 101, 114])) fun x2 =>
 q3r (fun j8 =>
 Br x2 (
 CallX (q30 p1) (fun e => Q (.error e)) fun x9 =>
 j8 x9.2 x9.1) (
 CallX (q18 p1) (fun e => Q (.error e)) fun x10 =>
 j8 x10.2 x10.1)
 ) (fun (p6 : Gparseparser) (of7 : GTree) =>
 Call (q02 p6 (ByteArray.mk #[61])) fun x11 =>
 Br x11.1 (
 CallX (q0g x11.2) (fun e => Q (.error e)) fun x14 =>
 Q (.ok (({ GTree.zero with Kind := (37 : Int), Kids := [of7, x14.1, x14.1] }), x14.2))) (
 CallX (q04 x11.2 ([(ByteArray.mk #[105, 110]), (ByteArray.mk #[91])])) (fun e => Q (.error e)) fun x15 =>
 CallX (q0g x15) (fun e => Q (.error e)) fun x16 =>
 CallX (q04 x16.2 ([(ByteArray.mk #[44])])) (fun e => Q (.error e)) fun x17 =>
 CallX (q0g x17) (fun e => Q (.error e)) fun x18 =>
 CallX (q04 x18.2 ([(ByteArray.mk #[93])])) (fun e => Q (.error e)) fun x19 =>
 Q (.ok (({ GTree.zero with Kind := (37 : Int), Kids := [of7, x16.1, x18.1] }), x19))))
theorem qAq {p1 : Gparseparser} {r : Except Gparsestop (GTree × Gparseparser)} (h : q4t p1 (fun r' => r' = r)) : q44 p1 r := by
 unfold q4t at h
 refine AFnB.intro' (L := []) q01 Tryz.func91 rfl rfl Tryz.ntmps91 rfl rfl rfl (fun b => ?_)
 refine sN (al0 ?_)
 refine dn (sN (al0 ?_))
 refine dn (AWp.seq (AWp.seq (rN (pP rfl (kR h rfl ⟨.inl rfl, trivial⟩ fun x2 h => ?_)))))
 refine dn ?_
 obtain ⟨J20, h, hk21⟩ := h
 refine AWp.cutK (I := fun p : Gparseparser × GTree => mkSt [(0, .pt 1000000 [] 0), (2, .pt 2 [] 0), (3, .pt 3 [] 0)] [(2, .box 26 9 (.dat (GTree.out GTree.zero))), (3, .box 26 9 (.dat (GTree.out p.2))), (1000000, .box 39 3 (.dat (Gparseparser.enc p.1)))]) (Inv := fun p : Gparseparser × GTree => J20 p.1 p.2) ?_ (fun p hp => ?_)
 ·refine cB h (fun h => ?_) (fun h => ?_)
  ·refine AWp.bots ?_
   refine AWp.regionN (fun o => q00 [118] o) rfl ?_
   refine pP rfl (kXf h rfl trivial rfl fun x9 h => ?_)
   refine st (v := .dat (.st _ _)) ?_
   refine dn (.inl ?_)
   exact ⟨⟨x9.2, x9.1⟩, h, sl⟩
  refine AWp.bots ?_
  refine AWp.regionN (fun o => q00 [119] o) rfl ?_
  refine pP rfl (kXf h rfl trivial rfl fun x10 h => ?_)
  refine st (v := .dat (.st _ _)) ?_
  refine dn (.inl ?_)
  exact ⟨⟨x10.2, x10.1⟩, h, sl⟩
 obtain ⟨p6, of7⟩ := p
 replace h := hk21 p6 of7 hp
 refine AWp.seq (AWp.seq ?_)
 refine AWp.regionN (fun o => q00 [20] o) rfl ?_
 refine pP rfl (kB h rfl ⟨.inl rfl, trivial⟩ fun x11 h => ?_)
 refine dn (cB h (fun h => ?_) (fun h => ?_))
 ·refine AWp.seq ?_
  refine AWp.bots ?_
  refine AWp.regionN (fun o => q00 [88] o) rfl ?_
  refine pP rfl (kXf h rfl trivial rfl fun x14 h => ?_)
  refine al0 ?_
  refine st (v := .dat (.st _ _)) ?_
  refine dn (.inl ?_)
  refine sW (pT rfl (pT rfl (pT rfl ?_)))
  refine AOps.lit q01 (ys := [GTree.out of7, GTree.out x14.1, GTree.out x14.1]) rfl rfl rfl rfl rfl rfl ?_
  rw [show [GTree.out of7, GTree.out x14.1, GTree.out x14.1] = List.map GTree.enc [of7, x14.1, x14.1] by simp [GTree.enc_out]]
  refine pT rfl (st (v := .dat (.st _ _)) ?_)
  subst h; exact dn (AWp.ret ⟨_, rfl, rfl, rfl⟩)
 refine AWp.skip (AWp.seq ?_)
 refine AWp.bots ?_
 refine AWp.regionN (fun o => q00 [23] o) rfl ?_
 refine pP rfl ?_
 refine AOps.lit q01 (ys := [.v (.string (ByteArray.mk #[105, 110])), .v (.string (ByteArray.mk #[91]))]) rfl rfl rfl rfl rfl rfl ?_
 refine kXf h rfl ⟨.inl rfl, trivial⟩ rfl fun x15 h => dn (.inl ?_)
 refine AWp.seq ?_
 refine AWp.bots ?_
 refine AWp.regionN (fun o => q00 [88] o) rfl ?_
 refine pP rfl (kXf h rfl trivial rfl fun x16 h => ?_)
 refine al0 ?_
 refine st (v := .dat (.st _ _)) ?_
 refine dn (.inl ?_)
 refine AWp.seq ?_
 refine AWp.bots ?_
 refine AWp.regionN (fun o => q00 [23] o) rfl ?_
 refine pP rfl ?_
 refine AOps.lit q01 (ys := [.v (.string (ByteArray.mk #[44]))]) rfl rfl rfl rfl rfl rfl ?_
 refine kXf h rfl ⟨.inl rfl, trivial⟩ rfl fun x17 h => dn (.inl ?_)
 refine AWp.seq ?_
 refine AWp.bots ?_
 refine AWp.regionN (fun o => q00 [88] o) rfl ?_
 refine pP rfl (kXf h rfl trivial rfl fun x18 h => ?_)
 refine al0 ?_
 refine st (v := .dat (.st _ _)) ?_
 refine dn (.inl ?_)
 refine AWp.seq ?_
 refine AWp.bots ?_
 refine AWp.regionN (fun o => q00 [23] o) rfl ?_
 refine pP rfl ?_
 refine AOps.lit q01 (ys := [.v (.string (ByteArray.mk #[93]))]) rfl rfl rfl rfl rfl rfl ?_
 refine kXf h rfl ⟨.inl rfl, trivial⟩ rfl fun x19 h => dn (.inl ?_)
 refine sW (pT rfl (pT rfl (pT rfl ?_)))
 refine AOps.lit q01 (ys := [GTree.out of7, GTree.out x16.1, GTree.out x18.1]) rfl rfl rfl rfl rfl rfl ?_
 rw [show [GTree.out of7, GTree.out x16.1, GTree.out x18.1] = List.map GTree.enc [of7, x16.1, x18.1] by simp [GTree.enc_out]]
 refine pT rfl (st (v := .dat (.st _ _)) ?_)
 subst h; exact dn (AWp.ret ⟨_, rfl, rfl, rfl⟩)
def q3l (a1 : GRat) (Q : Bool -> Prop) : Prop :=
 Br (a1.D == (1 : Int)) (Q (decide (a1.N <= (64 : Int)))) (
 Q false)
theorem q9n {a1 : GRat} {r : Bool} (h : q3l a1 (fun r' => r' = r)) : q2z a1 r := by
 unfold q3l at h
 refine intr (L := [(0, .dat (GRat.enc a1))]) Tryz.func113 Tryz.ntmps113 ?_
 refine sN (bx (v := .dat (.st _ _)) ?_)
 refine pB rfl (dn (AWp.seq (rN (pP rfl (pI rfl (pB rfl (pB rfl (sB 6 h (fun h => ?_) (fun h => ?_)))))))))
 ·refine pP rfl (pI rfl (pB rfl (pB rfl (pB rfl (dn (AWp.ret ?_))))))
  subst h
  exact ⟨_, rfl, rfl⟩
 refine fo 3 rfl (pB rfl (pB rfl (dn (AWp.ret ?_))))
 subst h
 exact ⟨_, rfl, rfl⟩
def q6h (p1 : Gparseparser) (Q : Except Gparsestop (GTree × Gparseparser) -> Prop) : Prop :=
 CallX (q1u p1 146 (ByteArray.mk #[42]) (10 : Int) (ByteArray.mk #[47]) (11 : Int)) (fun e => Q (.error e)) fun x2 =>
 Q (.ok (x2.1, x2.2))
theorem qBw {p1 : Gparseparser} {r : Except Gparsestop (GTree × Gparseparser)} (h : q6h p1 (fun r' => r' = r)) : q8t p1 r := by
 unfold q6h at h
 refine AFnB.intro' (L := []) q01 Tryz.func116 rfl rfl Tryz.ntmps116 rfl rfl rfl (fun b => ?_)
 refine sN (al0 ?_)
 refine dn (AWp.seq ?_)
 refine AWp.bots ?_
 refine AWp.regionN (fun o => q00 [54] o) rfl ?_
 refine pP rfl (pP rfl ?_)
 refine AOps.bound rfl rfl rfl rfl ?_
 refine kXm h (fun e h => ⟨mkSt [] [], by cases h; rfl⟩) (fun σ h => .inr h) rfl rfl rfl rfl rfl rfl ⟨.inl rfl, .inl rfl, .inl rfl, .inl rfl, trivial⟩ rfl fun x2 h => ?_
 refine st (v := .dat (.st _ _)) ?_
 refine dn (.inl ?_)
 subst h; exact AWp.ret ⟨_, rfl, rfl, rfl⟩
def q6i (p1 : Gparseparser) (Q : Except Gparsestop (Int × Gparseparser) -> Prop) : Prop :=
 CallX (q0w p1 q7s) (fun e => Q (.error e)) fun x2 =>
 Q (.ok (x2.1.N, x2.2))
theorem qBx {p1 : Gparseparser} {r : Except Gparsestop (Int × Gparseparser)} (h : q6i p1 (fun r' => r' = r)) : q11 p1 r := by
 unfold q6i at h
 refine AFnB.intro' (L := []) q01 Tryz.func117 rfl rfl Tryz.ntmps117 rfl rfl rfl (fun b => ?_)
 refine sN (pI rfl (dn (AWp.seq ?_)))
 refine AWp.bots ?_
 refine AWp.regionN (fun o => q00 [82] o) rfl ?_
 refine pP rfl (kXf h rfl ⟨.inl rfl, trivial⟩ rfl fun x2 h => ?_)
 refine pI rfl (pI rfl (dn (.inl ?_)))
 subst h; exact AWp.ret ⟨_, rfl, rfl, rfl⟩
def q6j (p1 : Gparseparser) (Q : Except Gparsestop (GTree × Gparseparser) -> Prop) : Prop :=
 CallX (q04 p1 ([(ByteArray.mk #[100, 101, 114])])) (fun e => Q (.error e)) fun x2 =>
 CallX (q0e x2 (ByteArray.mk #[40])) (fun e => Q (.error e)) fun x3 =>
 CallX (q18 x3) (fun e => Q (.error e)) fun x4 =>
 CallX (q0h x4.2 ([(ByteArray.mk #[41])])) (fun e => Q (.error e)) fun x5 =>
 Q (.ok (({ GTree.zero with Kind := (4 : Int), Kids := [x4.1] }), x5))
theorem qBy {p1 : Gparseparser} {r : Except Gparsestop (GTree × Gparseparser)} (h : q6j p1 (fun r' => r' = r)) : q30 p1 r := by
 unfold q6j at h
 refine AFnB.intro' (L := []) q01 Tryz.func118 rfl rfl Tryz.ntmps118 rfl rfl rfl (fun b => ?_)
 refine sN (al0 ?_)
 refine dn (AWp.seq ?_)
 refine AWp.bots ?_
 refine AWp.regionN (fun o => q00 [23] o) rfl ?_
 refine pP rfl ?_
 refine AOps.lit q01 (ys := [.v (.string (ByteArray.mk #[100, 101, 114]))]) rfl rfl rfl rfl rfl rfl ?_
 refine kXf h rfl ⟨.inl rfl, trivial⟩ rfl fun x2 h => dn (.inl ?_)
 refine AWp.seq ?_
 refine AWp.bots ?_
 refine AWp.regionN (fun o => q00 [80] o) rfl ?_
 refine pP rfl (kXf h rfl ⟨.inl rfl, trivial⟩ rfl fun x3 h => ?_)
 refine dn (.inl ?_)
 refine AWp.seq ?_
 refine AWp.bots ?_
 refine AWp.regionN (fun o => q00 [119] o) rfl ?_
 refine pP rfl (kXf h rfl trivial rfl fun x4 h => ?_)
 refine AOps.lit q01 (ys := [GTree.out x4.1]) rfl rfl rfl rfl rfl rfl ?_
 rw [show [GTree.out x4.1] = List.map GTree.enc [x4.1] by simp [GTree.enc_out]]
 refine pT rfl (al0 ?_)
 refine st (v := .dat (.st _ _)) ?_
 refine dn (.inl ?_)
 refine AWp.seq ?_
 refine AWp.bots ?_
 refine AWp.regionN (fun o => q00 [81] o) rfl ?_
 refine pP rfl ?_
 refine AOps.lit q01 (ys := [.v (.string (ByteArray.mk #[41]))]) rfl rfl rfl rfl rfl rfl ?_
 refine kXf h rfl ⟨.inl rfl, trivial⟩ rfl fun x5 h => dn (.inl ?_)
 refine sW (pT rfl (st (v := .dat (.st _ _)) ?_))
 subst h; exact dn (AWp.ret ⟨_, rfl, rfl, rfl⟩)
def q6k (p1 : Gparseparser) (Q : Except Gparsestop (GTree × Gparseparser) -> Prop) : Prop :=
 Call (q0a p1 (ByteArray.mk #[45])) fun x2 =>
 Br x2 (
 CallX (q0e p1 (ByteArray.mk #[45])) (fun e => Q (.error e)) fun x7 =>
 CallX (q1j x7) (fun e => Q (.error e)) fun x8 =>
 Let (IntKind.i64.wrap (x8.2.open_ - (1 : Int))) fun x9 =>
 Q (.ok (({ GTree.zero with Kind := (7 : Int), Kids := [x8.1] }), ({ x8.2 with open_ := x9 })))) (
 CallX (q46 p1) (fun e => Q (.error e)) fun x10 =>
 Call (q02 x10.2 (ByteArray.mk #[94])) fun x11 =>
 Br x11.1 (
 CallX (q1m x11.2) (fun e => Q (.error e)) fun x14 =>
 Q (.ok (({ GTree.zero with Kind := (12 : Int), N := x14.1, Kids := [x10.1] }), x14.2))) (
 Q (.ok (x10.1, x11.2))))
theorem qBz {p1 : Gparseparser} {r : Except Gparsestop (GTree × Gparseparser)} (h : q6k p1 (fun r' => r' = r)) : q1j p1 r := by
 unfold q6k at h
 refine AFnB.intro' (L := []) q01 Tryz.func146 rfl rfl Tryz.ntmps146 rfl rfl rfl (fun b => ?_)
 refine sN (al0 ?_)
 refine dn (AWp.seq (AWp.seq (rN (pP rfl (kR h rfl ⟨.inl rfl, trivial⟩ fun x2 h => ?_)))))
 refine dn (cB h (fun h => ?_) (fun h => ?_))
 ·refine AWp.seq ?_
  refine AWp.bots ?_
  refine AWp.regionN (fun o => q00 [80] o) rfl ?_
  refine pP rfl (kXf h rfl ⟨.inl rfl, trivial⟩ rfl fun x7 h => ?_)
  refine dn (.inl ?_)
  refine AWp.seq ?_
  refine AWp.bots ?_
  refine AWp.regionN (fun o => q00 [146] o) rfl ?_
  refine pP rfl (kXf h rfl trivial rfl fun x8 h => ?_)
  refine AOps.lit q01 (ys := [GTree.out x8.1]) rfl rfl rfl rfl rfl rfl ?_
  rw [show [GTree.out x8.1] = List.map GTree.enc [x8.1] by simp [GTree.enc_out]]
  refine pT rfl (al0 ?_)
  refine st (v := .dat (.st _ _)) ?_
  refine dn (.inl ?_)
  refine sW (pP rfl (pP rfl (pP rfl (pI rfl ?_))))
  obtain ⟨x9, ex9, h⟩ := h.get
  refine ai ex9 rfl (pP rfl (pP rfl (st (v := .dat (.v (.int _ _))) ?_)))
  refine dn (sW (pT rfl (st (v := .dat (.st _ _)) ?_)))
  subst h; exact dn (AWp.ret ⟨_, rfl, rfl, rfl⟩)
 refine AWp.skip (AWp.seq ?_)
 refine AWp.bots ?_
 refine AWp.regionN (fun o => q00 [160] o) rfl ?_
 refine pP rfl (kXf h rfl trivial rfl fun x10 h => ?_)
 refine al0 ?_
 refine st (v := .dat (.st _ _)) ?_
 refine dn (.inl ?_)
 refine AWp.seq (AWp.seq ?_)
 refine AWp.regionN (fun o => q00 [20] o) rfl ?_
 refine pP rfl (kB h rfl ⟨.inl rfl, trivial⟩ fun x11 h => ?_)
 refine dn (cB h (fun h => ?_) (fun h => ?_))
 ·refine AWp.bots ?_
  refine rF (fun o => q00 [84] o) [(0, [1000000]), (4, [4]), (25, [1000000])] (pP rfl (kXf h rfl trivial rfl fun x14 h => ?_))
  refine pT rfl ?_
  refine AOps.lit q01 (ys := [GTree.out x10.1]) rfl rfl rfl rfl rfl rfl ?_
  rw [show [GTree.out x10.1] = List.map GTree.enc [x10.1] by simp [GTree.enc_out]]
  refine pT rfl (st (v := .dat (.st _ _)) ?_)
  refine dn (.inl ?_)
  refine sW (pT rfl (st (v := .dat (.st _ _)) ?_))
  subst h; exact dn (AWp.ret ⟨_, rfl, rfl, rfl⟩)
 refine AWp.skip (AWp.seq (rW (pT rfl (st (v := .dat (.st _ _)) ?_))))
 subst h; exact dn (AWp.ret ⟨_, rfl, rfl, rfl⟩)
def q4u (a1 : GRat) (Q : Bool -> Prop) : Prop :=
 Br (a1.D == (1 : Int)) (Q (decide (a1.N <= (1000000 : Int)))) (
 Q false)
theorem qAr {a1 : GRat} {r : Bool} (h : q4u a1 (fun r' => r' = r)) : q45 a1 r := by
 unfold q4u at h
 refine intr (L := [(0, .dat (GRat.enc a1))]) Tryz.func147 Tryz.ntmps147 ?_
 refine sN (bx (v := .dat (.st _ _)) ?_)
 refine pB rfl (dn (AWp.seq (rN (pP rfl (pI rfl (pB rfl (pB rfl (sB 6 h (fun h => ?_) (fun h => ?_)))))))))
 ·refine pP rfl (pI rfl (pB rfl (pB rfl (pB rfl (dn (AWp.ret ?_))))))
  subst h
  exact ⟨_, rfl, rfl⟩
 refine fo 3 rfl (pB rfl (pB rfl (dn (AWp.ret ?_))))
 subst h
 exact ⟨_, rfl, rfl⟩
def q7b (p1 : Gparseparser) (Q : Except Gparsestop (GTree × Gparseparser) -> Prop) : Prop :=
 CallX (q0d p1) (fun e => Q (.error e)) fun x2 =>
 Call (q02 x2.2 (ByteArray.mk #[91])) fun x3 =>
 Br (!x3.1) (Q (.ok (({ GTree.zero with Kind := (3 : Int), Name := x2.1 }), x3.2))) (
 Call (q0c x3.2) fun x5 =>
 q3r (fun j38 =>
 Br (x5.Kind == (3 : Int)) (
 CallX (q11 x3.2) (fun e => Q (.error e)) fun x39 =>
 Call (q53 x39.1) fun x40 =>
 j38 x39.2 ({ GTree.zero with Kind := (3 : Int), Name := x2.1, Kids := [x40] })) (
 CallX (q0d x3.2) (fun e => Q (.error e)) fun x42 =>
 q3r (fun j55 =>
 Call (q02 x42.2 (ByteArray.mk #[43])) fun x56 =>
 Br x56.1 (
 CallX (q11 x56.2) (fun e => Q (.error e)) fun x58 =>
 Call (q53 x58.1) fun x59 =>
 j55 x58.2 ({ GTree.zero with Kind := (8 : Int), Kids := [({ GTree.zero with Kind := (2 : Int), Kids := [({ GTree.zero with Kind := (3 : Int), Name := x42.1 })] }), x59] })) (
 Call (q02 x56.2 (ByteArray.mk #[45])) fun x61 =>
 Br x61.1 (
 CallX (q11 x61.2) (fun e => Q (.error e)) fun x63 =>
 Call (q53 x63.1) fun x64 =>
 j55 x63.2 ({ GTree.zero with Kind := (9 : Int), Kids := [({ GTree.zero with Kind := (2 : Int), Kids := [({ GTree.zero with Kind := (3 : Int), Name := x42.1 })] }), x64] })) (
 j55 x61.2 ({ GTree.zero with Kind := (2 : Int), Kids := [({ GTree.zero with Kind := (3 : Int), Name := x42.1 })] })))
 ) (fun (p53 : Gparseparser) (i54 : GTree) =>
 j38 p53 ({ GTree.zero with Kind := (3 : Int), Name := x2.1, Kids := [i54] })))
 ) (fun (p36 : Gparseparser) (t37 : GTree) =>
 CallX (q04 p36 ([(ByteArray.mk #[93])])) (fun e => Q (.error e)) fun x68 =>
 Q (.ok (t37, x68))))
theorem qDc {p1 : Gparseparser} {r : Except Gparsestop (GTree × Gparseparser)} (h : q7b p1 (fun r' => r' = r)) : q3q p1 r := by
 unfold q7b at h
 refine AFnB.intro' (L := []) q01 Tryz.func148 rfl rfl Tryz.ntmps148 rfl rfl rfl (fun b => ?_)
 refine sN (al0 ?_)
 refine dn (AWp.seq ?_)
 refine AWp.bots ?_
 refine AWp.regionN (fun o => q00 [21] o) rfl ?_
 refine pP rfl (kXf h rfl trivial rfl fun x2 h => ?_)
 refine pT rfl (al0 ?_)
 refine st (v := .dat (.st _ _)) ?_
 refine dn (.inl ?_)
 refine AWp.seq (AWp.seq ?_)
 refine AWp.regionN (fun o => q00 [20] o) rfl ?_
 refine pP rfl (kB h rfl ⟨.inl rfl, trivial⟩ fun x3 h => ?_)
 refine pB rfl (dn (cB h (fun h => ?_) (fun h => ?_)))
 ·refine sW (pT rfl (st (v := .dat (.st _ _)) ?_))
  subst h; exact dn (AWp.ret ⟨_, rfl, rfl, rfl⟩)
 refine AWp.skip (AWp.seq (AWp.seq (rN (pP rfl (kR h rfl trivial fun x5 h => ?_)))))
 refine pI rfl (pB rfl (dn ?_))
 obtain ⟨J69, h, hk70⟩ := h
 refine AWp.cutK (I := fun p : Gparseparser × GTree => mkSt [(0, .pt 1000000 [] 0), (2, .pt 2 [] 0), (3, .pt 3 [] 0)] [(2, .box 26 9 (.dat (GTree.out GTree.zero))), (3, .box 26 9 (.dat (GTree.out p.2))), (1000000, .box 39 3 (.dat (Gparseparser.enc p.1)))]) (Inv := fun p : Gparseparser × GTree => J69 p.1 p.2) ?_ (fun p hp => ?_)
 ·refine cB h (fun h => ?_) (fun h => ?_)
  ·refine AWp.bots ?_
   refine AWp.regionN (fun o => q00 [117] o) rfl ?_
   refine pP rfl (kXf h rfl trivial rfl fun x39 h => ?_)
   refine kC h rfl ⟨.inl rfl, trivial⟩ rfl fun x40 h => ?_
   refine AOps.lit q01 (ys := [GTree.out x40]) rfl rfl rfl rfl rfl rfl ?_
   rw [show [GTree.out x40] = List.map GTree.enc [x40] by simp [GTree.enc_out]]
   refine pP rfl (st (v := .dat (.sl _ _ _)) ?_)
   refine dn (.inl ?_)
   exact ⟨⟨x39.2, ({ GTree.zero with Kind := (3 : Int), Name := x2.1, Kids := [x40] })⟩, h, sl⟩
  refine AWp.seq ?_
  refine AWp.bots ?_
  refine AWp.regionN (fun o => q00 [21] o) rfl ?_
  refine pP rfl (kXf h rfl trivial rfl fun x42 h => ?_)
  refine pT rfl ?_
  refine AOps.lit q01 (ys := [GTree.out ({ GTree.zero with Kind := (3 : Int), Name := x42.1 })]) rfl rfl rfl rfl rfl rfl ?_
  rw [show [GTree.out ({ GTree.zero with Kind := (3 : Int), Name := x42.1 })] = List.map GTree.enc [({ GTree.zero with Kind := (3 : Int), Name := x42.1 })] by simp [GTree.enc_out]]
  refine pT rfl (al0 ?_)
  refine st (v := .dat (.st _ _)) ?_
  refine dn (.inl ?_)
  refine AWp.seq ?_
  obtain ⟨J66, h, hk67⟩ := h
  refine AWp.cutK (I := fun p : Gparseparser × GTree => mkSt [(0, .pt 1000000 [] 0), (2, .pt 2 [] 0), (3, .pt 3 [] 0), (4, .pt 4 [] 0)] [(2, .box 26 9 (.dat (GTree.out GTree.zero))), (3, .box 26 9 (.dat (GTree.out ({ GTree.zero with Kind := (3 : Int), Name := x2.1 })))), (4, .box 26 9 (.dat (GTree.out p.2))), (1000000, .box 39 3 (.dat (Gparseparser.enc p.1)))]) (Inv := fun p : Gparseparser × GTree => J66 p.1 p.2) ?_ (fun p hp => ?_)
  ·refine AWp.block (AWp.seq ?_)
   refine AWp.regionN (fun o => q00 [20] o) rfl ?_
   refine pP rfl (kB h rfl ⟨.inl rfl, trivial⟩ fun x56 h => ?_)
   refine pB rfl (dn (cB h (fun h => ?_) (fun h => ?_)))
   ·refine AWp.bots ?_
    refine rF (fun o => q00 [117] o) [(0, [1000000]), (4, [4]), (30, [1000000])] (pT rfl (pP rfl (kXf h rfl trivial rfl fun x58 h => ?_)))
    refine kC h rfl ⟨.inl rfl, trivial⟩ rfl fun x59 h => ?_
    refine AOps.lit q01 (ys := [GTree.out ({ GTree.zero with Kind := (2 : Int), Kids := [({ GTree.zero with Kind := (3 : Int), Name := x42.1 })] }), GTree.out x59]) rfl rfl rfl rfl rfl rfl ?_
    rw [show [GTree.out ({ GTree.zero with Kind := (2 : Int), Kids := [({ GTree.zero with Kind := (3 : Int), Name := x42.1 })] }), GTree.out x59] = List.map GTree.enc [({ GTree.zero with Kind := (2 : Int), Kids := [({ GTree.zero with Kind := (3 : Int), Name := x42.1 })] }), x59] by simp [GTree.enc_out]]
    refine pT rfl (st (v := .dat (.st _ _)) ?_)
    refine dn (.inl ?_)
    exact ⟨⟨x58.2, ({ GTree.zero with Kind := (8 : Int), Kids := [({ GTree.zero with Kind := (2 : Int), Kids := [({ GTree.zero with Kind := (3 : Int), Name := x42.1 })] }), x59] })⟩, h, sl⟩
   refine AWp.seq ?_
   refine AWp.regionN (fun o => q00 [20] o) rfl ?_
   refine pP rfl (kB h rfl ⟨.inl rfl, trivial⟩ fun x61 h => ?_)
   refine pB rfl (dn (cB h (fun h => ?_) (fun h => ?_)))
   ·refine AWp.bots ?_
    refine rF (fun o => q00 [117] o) [(0, [1000000]), (4, [4]), (39, [1000000])] (pT rfl (pP rfl (kXf h rfl trivial rfl fun x63 h => ?_)))
    refine kC h rfl ⟨.inl rfl, trivial⟩ rfl fun x64 h => ?_
    refine AOps.lit q01 (ys := [GTree.out ({ GTree.zero with Kind := (2 : Int), Kids := [({ GTree.zero with Kind := (3 : Int), Name := x42.1 })] }), GTree.out x64]) rfl rfl rfl rfl rfl rfl ?_
    rw [show [GTree.out ({ GTree.zero with Kind := (2 : Int), Kids := [({ GTree.zero with Kind := (3 : Int), Name := x42.1 })] }), GTree.out x64] = List.map GTree.enc [({ GTree.zero with Kind := (2 : Int), Kids := [({ GTree.zero with Kind := (3 : Int), Name := x42.1 })] }), x64] by simp [GTree.enc_out]]
    refine pT rfl (st (v := .dat (.st _ _)) ?_)
    refine dn (.inl ?_)
    exact ⟨⟨x63.2, ({ GTree.zero with Kind := (9 : Int), Kids := [({ GTree.zero with Kind := (2 : Int), Kids := [({ GTree.zero with Kind := (3 : Int), Name := x42.1 })] }), x64] })⟩, h, sl⟩
   refine AWp.skip ?_
   exact ⟨⟨x61.2, ({ GTree.zero with Kind := (2 : Int), Kids := [({ GTree.zero with Kind := (3 : Int), Name := x42.1 })] })⟩, h, sl⟩
  obtain ⟨p53, i54⟩ := p
  replace h := hk67 p53 i54 hp
  refine rW (pT rfl ?_)
  refine AOps.lit q01 (ys := [GTree.out i54]) rfl rfl rfl rfl rfl rfl ?_
  rw [show [GTree.out i54] = List.map GTree.enc [i54] by simp [GTree.enc_out]]
  refine pP rfl (st (v := .dat (.sl _ _ _)) ?_)
  refine dn ?_
  exact ⟨⟨p53, ({ GTree.zero with Kind := (3 : Int), Name := x2.1, Kids := [i54] })⟩, h, sl⟩
 obtain ⟨p36, t37⟩ := p
 replace h := hk70 p36 t37 hp
 refine AWp.seq ?_
 refine AWp.bots ?_
 refine AWp.regionN (fun o => q00 [23] o) rfl ?_
 refine pP rfl ?_
 refine AOps.lit q01 (ys := [.v (.string (ByteArray.mk #[93]))]) rfl rfl rfl rfl rfl rfl ?_
 refine kXf h rfl ⟨.inl rfl, trivial⟩ rfl fun x68 h => dn (.inl ?_)
 refine sW (pT rfl (st (v := .dat (.st _ _)) ?_))
 subst h; exact dn (AWp.ret ⟨_, rfl, rfl, rfl⟩)
def q4v (x1 : Gparseparser) (Q : Except Gparsestop (GTree × Gparseparser) -> Prop) : Prop :=
 Call (q0c x1) fun x33 =>
 Br (x33.Kind == (3 : Int)) (
 CallX (q0w x1 qB7) (fun e => Q (.error e)) fun x35 =>
 Q (.ok (({ GTree.zero with Kind := (1 : Int), Num := x35.1 }), x35.2))) (
 Call (q02 x1 (ByteArray.mk #[116, 105, 109, 101])) fun x36 =>
 Br x36.1 (Q (.ok (({ GTree.zero with Kind := (5 : Int) }), x36.2))) (
 Call (q0a x36.2 (ByteArray.mk #[100, 101, 114])) fun x38 =>
 Br x38 (
 CallX (q30 x36.2) (fun e => Q (.error e)) fun x40 =>
 Q (.ok (x40.1, x40.2))) (
 Call (q0a x36.2 (ByteArray.mk #[40])) fun x41 =>
 Br x41 (
 CallX (q0e x36.2 (ByteArray.mk #[40])) (fun e => Q (.error e)) fun x43 =>
 CallX (q0g x43) (fun e => Q (.error e)) fun x44 =>
 CallX (q0h x44.2 ([(ByteArray.mk #[41])])) (fun e => Q (.error e)) fun x45 =>
 Q (.ok (x44.1, x45))) (
 Call (q0c x36.2) fun x46 =>
 Br (x46.Kind == (2 : Int)) (
 Call (q65) fun x48 =>
 Call (q0c x36.2) fun x50 =>
 Call (q3k x48 x50.S) fun x52 =>
 q16 (fun j56 =>
 Br (decide (x52 < (0 : Int))) (
 CallX (q14 x36.2) (fun e => Q (.error e)) fun x57 =>
 j56 x57) (
 j56 x36.2)
 ) (fun (x55 : Gparseparser) =>
 Let (IntKind.i64.wrap (x55.i_ + (1 : Int))) fun x58 =>
 CallX (q0e ({ x55 with i_ := x58 }) (ByteArray.mk #[40])) (fun e => Q (.error e)) fun x59 =>
 CallX (q0g x59) (fun e => Q (.error e)) fun x60 =>
 CallX (q0h x60.2 ([(ByteArray.mk #[41])])) (fun e => Q (.error e)) fun x61 =>
 Q (.ok (({ GTree.zero with Kind := (6 : Int), N := x52, Kids := [x60.1] }), x61)))) (
 CallX (q18 x36.2) (fun e => Q (.error e)) fun x64 =>
 Q (.ok (x64.1, x64.2)))))))
theorem qAs {x1 : Gparseparser} {r : Except Gparsestop (GTree × Gparseparser)} (h : q4v x1 (fun r' => r' = r)) : q46 x1 r := by
 unfold q4v at h
 refine AFnB.intro' (L := []) q01 Tryz.func160 rfl rfl Tryz.ntmps160 rfl rfl rfl (fun b => ?_)
 refine sN (al0 ?_)
 refine dn (AWp.seq (AWp.block (AWp.seq (rN (pP rfl (kR h rfl trivial fun x33 h => ?_))))))
 refine pI rfl (pB rfl (pB rfl (dn (cB h (fun h => ?_) (fun h => ?_)))))
 ·refine AWp.seq ?_
  refine AWp.bots ?_
  refine AWp.regionN (fun o => q00 [82] o) rfl ?_
  refine pP rfl (kXf h rfl ⟨.inl rfl, trivial⟩ rfl fun x35 h => ?_)
  refine pT rfl (st (v := .dat (.st _ _)) ?_)
  refine dn (.inl ?_)
  subst h; exact AWp.ret ⟨_, rfl, rfl, rfl⟩
 refine AWp.seq ?_
 refine AWp.regionN (fun o => q00 [20] o) rfl ?_
 refine pP rfl (kB h rfl ⟨.inl rfl, trivial⟩ fun x36 h => ?_)
 refine pB rfl (dn (cB h (fun h => ?_) (fun h => ?_)))
 ·refine sW (pT rfl (st (v := .dat (.st _ _)) ?_))
  subst h; exact dn (AWp.ret ⟨_, rfl, rfl, rfl⟩)
 refine sN (pP rfl (kR h rfl ⟨.inl rfl, trivial⟩ fun x38 h => ?_))
 refine pB rfl (dn (cB h (fun h => ?_) (fun h => ?_)))
 ·refine AWp.seq ?_
  refine AWp.bots ?_
  refine AWp.regionN (fun o => q00 [118] o) rfl ?_
  refine pP rfl (kXf h rfl trivial rfl fun x40 h => ?_)
  refine st (v := .dat (.st _ _)) ?_
  refine dn (.inl ?_)
  subst h; exact AWp.ret ⟨_, rfl, rfl, rfl⟩
 refine sN (pP rfl (kR h rfl ⟨.inl rfl, trivial⟩ fun x41 h => ?_))
 refine pB rfl (dn (cB h (fun h => ?_) (fun h => ?_)))
 ·refine AWp.seq ?_
  refine AWp.bots ?_
  refine AWp.regionN (fun o => q00 [80] o) rfl ?_
  refine pP rfl (kXf h rfl ⟨.inl rfl, trivial⟩ rfl fun x43 h => ?_)
  refine dn (.inl ?_)
  refine AWp.seq ?_
  refine AWp.bots ?_
  refine AWp.regionN (fun o => q00 [88] o) rfl ?_
  refine pP rfl (kXf h rfl trivial rfl fun x44 h => ?_)
  refine al0 ?_
  refine st (v := .dat (.st _ _)) ?_
  refine dn (.inl ?_)
  refine AWp.seq ?_
  refine AWp.bots ?_
  refine AWp.regionN (fun o => q00 [81] o) rfl ?_
  refine pP rfl ?_
  refine AOps.lit q01 (ys := [.v (.string (ByteArray.mk #[41]))]) rfl rfl rfl rfl rfl rfl ?_
  refine kXf h rfl ⟨.inl rfl, trivial⟩ rfl fun x45 h => dn (.inl ?_)
  refine sW (pT rfl (st (v := .dat (.st _ _)) ?_))
  subst h; exact dn (AWp.ret ⟨_, rfl, rfl, rfl⟩)
 refine sN (pP rfl (kR h rfl trivial fun x46 h => ?_))
 refine pI rfl (pB rfl (pB rfl (dn (cB h (fun h => ?_) (fun h => ?_)))))
 ·refine sN (kC h rfl trivial rfl fun x48 h => ?_)
  refine pP rfl (kR h rfl trivial fun x50 h => ?_)
  refine pG rfl (kC h rfl ⟨.inl rfl, .inl rfl, trivial⟩ rfl fun x52 h => ?_)
  refine pI rfl (dn (AWp.seq (AWp.seq (rN (pI rfl (pB rfl (dn ?_)))))))
  obtain ⟨J62, h, hk63⟩ := h
  refine AWp.cutK (I := fun p : Gparseparser => mkSt [(0, .pt 1000000 [] 0), (2, .pt 2 [] 0), (4, .dat (.v (.int .i64 x52)))] [(2, .box 26 9 (.dat (GTree.out GTree.zero))), (1000000, .box 39 3 (.dat (Gparseparser.enc p)))]) (Inv := fun p : Gparseparser => J62 p) ?_ (fun p hp => ?_)
  ·refine cB h (fun h => ?_) (fun h => ?_)
   ·refine AWp.bots ?_
    refine AWp.regionN (fun o => q00 [25] o) rfl ?_
    refine pP rfl (kXf h rfl trivial rfl fun x57 h => ?_)
    refine dn (.inl ?_)
    exact ⟨x57, h, sl⟩
   refine AWp.skip ?_
   exact ⟨x36.2, h, sl⟩
  replace h := hk63 p hp
  revert h; clear hp; generalize p = x55; intro h
  refine sW (pP rfl (pP rfl (pP rfl (pI rfl ?_))))
  obtain ⟨x58, ex58, h⟩ := h.get
  refine ai ex58 rfl (pP rfl (pP rfl (st (v := .dat (.v (.int _ _))) ?_)))
  refine dn (AWp.seq ?_)
  refine AWp.bots ?_
  refine AWp.regionN (fun o => q00 [80] o) rfl ?_
  refine pP rfl (kXf h rfl ⟨.inl rfl, trivial⟩ rfl fun x59 h => ?_)
  refine dn (.inl ?_)
  refine AWp.seq ?_
  refine AWp.bots ?_
  refine AWp.regionN (fun o => q00 [88] o) rfl ?_
  refine pI rfl (pP rfl (kXf h rfl trivial rfl fun x60 h => ?_))
  refine AOps.lit q01 (ys := [GTree.out x60.1]) rfl rfl rfl rfl rfl rfl ?_
  rw [show [GTree.out x60.1] = List.map GTree.enc [x60.1] by simp [GTree.enc_out]]
  refine pT rfl (al0 ?_)
  refine st (v := .dat (.st _ _)) ?_
  refine dn (.inl ?_)
  refine AWp.seq ?_
  refine AWp.bots ?_
  refine AWp.regionN (fun o => q00 [81] o) rfl ?_
  refine pP rfl ?_
  refine AOps.lit q01 (ys := [.v (.string (ByteArray.mk #[41]))]) rfl rfl rfl rfl rfl rfl ?_
  refine kXf h rfl ⟨.inl rfl, trivial⟩ rfl fun x61 h => dn (.inl ?_)
  refine sW (pT rfl (st (v := .dat (.st _ _)) ?_))
  subst h; exact dn (AWp.ret ⟨_, rfl, rfl, rfl⟩)
 refine AWp.skip (AWp.seq ?_)
 refine AWp.bots ?_
 refine AWp.regionN (fun o => q00 [119] o) rfl ?_
 refine pP rfl (kXf h rfl trivial rfl fun x64 h => ?_)
 refine st (v := .dat (.st _ _)) ?_
 refine dn (.inl ?_)
 subst h; exact AWp.ret ⟨_, rfl, rfl, rfl⟩
def qEo (n1 : Int) (Q : GTree -> Prop) : Prop :=
 Q ({ GTree.zero with Kind := (1 : Int), Num := (GRat.mk n1 (1 : Int)) })
theorem qGr {n1 : Int} {r : GTree} (h : qEo n1 (fun r' => r' = r)) : q53 n1 r := by
 unfold qEo at h
 refine intr (L := [(0, .dat (.v (.int .i64 n1)))]) Tryz.func161 Tryz.ntmps161 ?_
 refine sN (al0 ?_)
 refine dn (sW (pI rfl (pT rfl (pT rfl (st (v := .dat (.st _ _)) ?_)))))
 subst h; exact dn (AWp.ret ⟨_, rfl, rfl⟩)
end Go.Sim.YtifjflhnfjhijaaGreatDoor
