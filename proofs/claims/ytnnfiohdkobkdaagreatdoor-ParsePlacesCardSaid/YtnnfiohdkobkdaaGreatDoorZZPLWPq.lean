/- What is proved: functions of the program compute what plain statements tell. -/
import Derived.Test.YtnnfiohdkobkdaaGreatDoorZZPLWE

namespace Go.Sim.YtnnfiohdkobkdaaGreatDoor
open Go.RowKit Go.Proofs Go.Proofs.Tryz
set_option maxRecDepth 100000
def W_parse_parser_now (p1 : Gparseparser) (Q : GToken → Prop) : Prop :=
 At p1.l_ p1.i_ fun x3 =>
 Q x3
theorem walk_parse_parser_now {p1 : Gparseparser} {r : GToken} (h : W_parse_parser_now p1 (fun r' => r' = r)) : Ev_parse_parser_now p1 r := by
  unfold W_parse_parser_now at h
  refine AFnB.intro' (L := []) tabOk Tryz.func41 rfl rfl Tryz.ntmps41 rfl rfl rfl (fun b => ?_)
  refine sN (al0 ?_)
  refine dn (AWp.seq (rE [(2, [2])] (pP rfl (pP rfl (pP rfl (pS rfl (pP rfl (pP rfl (pP rfl (pI rfl (kI h map_get rfl rfl rfl rfl rfl rfl rfl fun x3 h => ?_)))))))))))
  refine pT rfl (st (v := .dat (.st _ _)) ?_)
  subst h; exact dn (AWp.ret ⟨_, rfl, rfl, rfl⟩)
def W_parse_parser_take (p1 : Gparseparser) (s2 : ByteArray) (Q : Bool × Gparseparser → Prop) : Prop :=
 Call (Ev_parse_parser_is p1 s2) fun x3 =>
 Br x3 (
  Let (IntKind.i64.wrap (p1.i_ + (1 : Int))) fun x6 =>
  Q (true, ({ p1 with i_ := x6 }))) (
  Q (false, p1))
theorem walk_parse_parser_take {p1 : Gparseparser} {s2 : ByteArray} {r : Bool × Gparseparser} (h : W_parse_parser_take p1 s2 (fun r' => r' = r)) : Ev_parse_parser_take p1 s2 r := by
  unfold W_parse_parser_take at h
  refine AFnB.intro' (L := [(1, .dat (.v (.string s2)))]) tabOk Tryz.func42 rfl rfl Tryz.ntmps42 rfl rfl rfl (fun b => ?_)
  refine sN (pB rfl (dn (AWp.seq (AWp.seq (rN (pP rfl (pG rfl ?_)))))))
  obtain ⟨x3, hc4, h⟩ := h
  refine AOps.callR hc4 rfl rfl rfl rfl rfl ⟨.inl rfl, trivial⟩ ?_
  refine dn (cB h (fun h => ?_) (fun h => ?_))
  · refine sW (pP rfl (pP rfl (pP rfl (pI rfl ?_))))
    obtain ⟨x6, ex6, h⟩ := h.get
    refine ai ex6 rfl (pP rfl (pP rfl (st (v := .dat (.v (.int _ _))) ?_)))
    refine dn (sN (pB rfl (dn (AWp.ret ?_))))
    subst h
    exact ⟨_, rfl, rfl, rfl⟩
  refine AWp.skip (AWp.seq (rN (pB rfl (dn (AWp.ret ?_)))))
  subst h
  exact ⟨_, rfl, rfl, rfl⟩
def W_parse_parser_name (p1 : Gparseparser) (Q : Except Gparsestop (ByteArray × Gparseparser) → Prop) : Prop :=
 Call (Ev_parse_parser_now p1) fun x2 =>
 Join1 (fun j6 =>
  Br (x2.Kind != (1 : Int)) (
   CallX (Ev_parse_parser_fail p1) (fun e => Q (.error e)) fun x7 =>
   j6 x7) (
   j6 p1)
 ) (fun (p5 : Gparseparser) =>
  Let (IntKind.i64.wrap (p5.i_ + (1 : Int))) fun x8 =>
  Q (.ok (x2.S, ({ p5 with i_ := x8 }))))
theorem walk_parse_parser_name {p1 : Gparseparser} {r : Except Gparsestop (ByteArray × Gparseparser)} (h : W_parse_parser_name p1 (fun r' => r' = r)) : Ev_parse_parser_name p1 r := by
  unfold W_parse_parser_name at h
  refine AFnB.intro' (L := []) tabOk Tryz.func43 rfl rfl Tryz.ntmps43 rfl rfl rfl (fun b => ?_)
  refine sN (pG rfl (dn (AWp.seq (rW (pP rfl ?_)))))
  obtain ⟨x2, hc3, h⟩ := h
  refine AOps.callR hc3 rfl rfl rfl rfl rfl trivial ?_
  refine al0 ?_
  refine st (v := .dat (.st _ _)) ?_
  refine dn (AWp.seq (AWp.seq (rN (pP rfl (pI rfl (pB rfl (dn ?_)))))))
  obtain ⟨J9, h, hk10⟩ := h
  refine AWp.cutK (I := fun p : Gparseparser => mkSt [(0, .pt 1000000 [] 0), (3, .pt 3 [] 0)] [(3, .box 40 5 (.dat (GToken.enc x2))), (1000000, .box 51 3 (.dat (Gparseparser.enc p)))]) (Inv := fun p : Gparseparser => J9 p) ?_ (fun p hp => ?_)
  · refine cB h (fun h => ?_) (fun h => ?_)
    · refine AWp.bots ?_
      refine AWp.regionN (fun o => writesB [47] o) rfl ?_
      refine pP rfl ?_
      refine kXf h (fun e h => ⟨mkSt [] [], by cases h; rfl⟩) (fun σ h => .inr h) rfl rfl rfl rfl rfl trivial rfl fun x7 h => ?_
      refine dn (.inl ?_)
      exact ⟨x7, h, sl⟩
    refine AWp.skip ?_
    exact ⟨p1, h, sl⟩
  replace h := hk10 p hp
  revert h; clear hp; generalize p = p5; intro h
  refine sW (pP rfl (pP rfl (pP rfl (pI rfl ?_))))
  obtain ⟨x8, ex8, h⟩ := h.get
  refine ai ex8 rfl (pP rfl (pP rfl (st (v := .dat (.v (.int _ _))) ?_)))
  refine dn (sN (pP rfl (pG rfl (pG rfl (dn (AWp.ret ?_))))))
  subst h
  exact ⟨_, rfl, rfl, rfl⟩
def W_parse_parser_dim (p1 : Gparseparser) (Q : Except Gparsestop (GTree × Gparseparser) → Prop) : Prop :=
 CallX (Ev_parse_parser_row p1 114 (ByteArray.mk #[42]) (22 : Int) (ByteArray.mk #[47]) (23 : Int)) (fun e => Q (.error e)) fun x2 =>
 Q (.ok (x2.1, x2.2))
theorem walk_parse_parser_dim {p1 : Gparseparser} {r : Except Gparsestop (GTree × Gparseparser)} (h : W_parse_parser_dim p1 (fun r' => r' = r)) : Ev_parse_parser_dim p1 r := by
  unfold W_parse_parser_dim at h
  refine AFnB.intro' (L := []) tabOk Tryz.func44 rfl rfl Tryz.ntmps44 rfl rfl rfl (fun b => ?_)
  refine sN (al0 ?_)
  refine dn (AWp.seq ?_)
  refine AWp.bots ?_
  refine AWp.regionN (fun o => writesB [113] o) rfl ?_
  refine pP rfl (pP rfl ?_)
  refine AOps.bound rfl rfl rfl rfl ?_
  refine kXm h (fun e h => ⟨mkSt [] [], by cases h; rfl⟩) (fun σ h => .inr h) rfl rfl rfl rfl rfl rfl ⟨.inl rfl, .inl rfl, .inl rfl, .inl rfl, trivial⟩ rfl fun x2 h => ?_
  refine st (v := .dat (.st _ _)) ?_
  refine dn (.inl ?_)
  subst h; exact AWp.ret ⟨_, rfl, rfl, rfl⟩
def W_parse_parser_must (p1 : Gparseparser) (l2 : List ByteArray) (Q : Except Gparsestop (Gparseparser) → Prop) : Prop :=
 Loop2 p1 (0 : Int) (fun (p20 : Gparseparser) (x21 : Int) next22 =>
  Br (decide (x21 < ((l2.length : Nat) : Int))) (
   At l2 x21 fun x30 =>
   Call (Ev_parse_parser_take p20 x30) fun x32 =>
   Br (!x32.1) (
    CallX (Ev_parse_parser_fail x32.2) (fun e => Q (.error e)) fun x34 =>
    Let (IntKind.i64.wrap (x21 + (1 : Int))) fun x35 =>
    next22 x34 x35) (
    Let (IntKind.i64.wrap (x21 + (1 : Int))) fun x36 =>
    next22 x32.2 x36)) (
   Q (.ok p20)))
theorem walk_parse_parser_must {p1 : Gparseparser} {l2 : List ByteArray} {r : Except Gparsestop (Gparseparser)} (h : W_parse_parser_must p1 l2 (fun r' => r' = r)) : Ev_parse_parser_must p1 l2 r := by
  unfold W_parse_parser_must at h
  refine AFnB.intro' (L := [(1, .dat (.sl 9 1 (List.map eStr l2)))]) tabOk Tryz.func45 rfl rfl Tryz.ntmps45 rfl rfl rfl (fun b => ?_)
  refine sN (pS rfl (al (((l2.length : Nat) : Int)) rfl (pI rfl (dn (AWp.block ?_)))))
  obtain ⟨I37, x38, hz39, hr40⟩ := h
  refine AWp.loop (I := fun p : Gparseparser × Int => mkSt [(0, .pt 1000000 [] 0), (6, .dat (.sl 9 1 (List.map eStr l2))), (7, .dat (.v (.int .i64 ((l2.length : Nat) : Int)))), (8, .dat (.v (.int .i64 p.2)))] [(1000000, .box 51 3 (.dat (Gparseparser.enc p.1)))]) (Inv := fun p => I37 p.1 p.2) (μ := fun p => x38 p.1 p.2) (x0 := ⟨p1, (0 : Int)⟩) hz39 sl (fun p hp => ?_)
  obtain ⟨p20, x21⟩ := p
  have h := hr40 p20 x21 hp
  refine sN (pW rfl (dn (AWp.seq (cB h (fun h => ?_) (fun h => ?_)))))
  · refine AWp.skip (AWp.seq (AWp.block (AWp.seq (rN (kI h (map_get (e := eStr)) rfl rfl rfl rfl rfl rfl rfl fun x30 h => ?_)))))
    refine pG rfl (pG rfl (dn (AWp.seq ?_)))
    refine AWp.regionN (fun o => writesB [42] o) rfl ?_
    refine pP rfl (pG rfl ?_)
    obtain ⟨x32, hc33, h⟩ := h
    refine AOps.callB hc33 rfl rfl rfl rfl rfl rfl ⟨.inl rfl, trivial⟩ ?_
    refine pB rfl (dn (cB h (fun h => ?_) (fun h => ?_)))
    · refine AWp.bots ?_
      refine AWp.regionN (fun o => writesB [47] o) rfl ?_
      refine pP rfl ?_
      refine kXf h (fun e h => ⟨mkSt [] [], by cases h; rfl⟩) (fun σ h => .inr h) rfl rfl rfl rfl rfl trivial rfl fun x34 h => ?_
      refine dn (.inl ?_)
      refine rN ?_
      obtain ⟨x35, ex35, h⟩ := h.get
      refine ai ex35 rfl (pI rfl (dn ?_))
      exact ⟨⟨x34, x35⟩, h.1, h.2, sl⟩
    refine AWp.skip (rN ?_)
    obtain ⟨x36, ex36, h⟩ := h.get
    refine ai ex36 rfl (pI rfl (dn ?_))
    exact ⟨⟨x32.2, x36⟩, h.1, h.2, sl⟩
  refine AWp.exit ?_
  subst h
  exact ⟨_, rfl, rfl, rfl⟩
def W_parse_parser_fail (p1 : Gparseparser) (Q : Except Gparsestop (Gparseparser) → Prop) : Prop :=
 Call (Ev_parse_parser_now p1) fun x2 =>
 Br (x2.Kind == (0 : Int)) (
  Call (Ev_parse_parser_now p1) fun x6 =>
  Q (.error (Gparsestop.mk (131 : Int) x6.At))) (
  Call (Ev_parse_parser_now p1) fun x8 =>
  Q (.error (Gparsestop.mk (130 : Int) x8.At)))
theorem walk_parse_parser_fail {p1 : Gparseparser} {r : Except Gparsestop (Gparseparser)} (h : W_parse_parser_fail p1 (fun r' => r' = r)) : Ev_parse_parser_fail p1 r := by
  unfold W_parse_parser_fail at h
  refine AFnB.intro' (L := []) tabOk Tryz.func47 rfl rfl Tryz.ntmps47 rfl rfl rfl (fun b => ?_)
  refine AWp.seq (AWp.seq (rN (pP rfl ?_)))
  obtain ⟨x2, hc3, h⟩ := h
  refine AOps.callR hc3 rfl rfl rfl rfl rfl trivial ?_
  refine pI rfl (pB rfl (dn (cB h (fun h => ?_) (fun h => ?_))))
  · refine AWp.regionP _ (fun o => writes o) rfl rfl ?_
    refine pP rfl ?_
    obtain ⟨x6, hc7, h⟩ := h
    refine AOps.callR hc7 rfl rfl rfl rfl rfl trivial ?_
    refine pI rfl (pT rfl ?_)
    refine AOps.mkif2 rfl rfl rfl rfl rfl ?_
    refine dn ?_
    exact ⟨rfl, _, _, _, rfl, rfl, ⟨mkSt [] [], by cases h; rfl⟩⟩
  refine AWp.skip ?_
  refine AWp.regionP _ (fun o => writes o) rfl rfl ?_
  refine pP rfl ?_
  obtain ⟨x8, hc9, h⟩ := h
  refine AOps.callR hc9 rfl rfl rfl rfl rfl trivial ?_
  refine pI rfl (pT rfl ?_)
  refine AOps.mkif2 rfl rfl rfl rfl rfl ?_
  refine dn ?_
  exact ⟨rfl, _, _, _, rfl, rfl, ⟨mkSt [] [], by cases h; rfl⟩⟩
def W_parse_parser_is (p1 : Gparseparser) (s2 : ByteArray) (Q : Bool → Prop) : Prop :=
 Call (Ev_parse_parser_now p1) fun x3 =>
 Br (x3.Kind == (2 : Int)) (Q (x3.S.toList == s2.toList)) (
  Br (x3.Kind == (4 : Int)) (Q (x3.S.toList == s2.toList)) (
   Q false))
theorem walk_parse_parser_is {p1 : Gparseparser} {s2 : ByteArray} {r : Bool} (h : W_parse_parser_is p1 s2 (fun r' => r' = r)) : Ev_parse_parser_is p1 s2 r := by
  unfold W_parse_parser_is at h
  refine AFnB.intro' (L := [(1, .dat (.v (.string s2)))]) tabOk Tryz.func112 rfl rfl Tryz.ntmps112 rfl rfl rfl (fun b => ?_)
  refine sN (pB rfl (dn (AWp.seq (rW (pP rfl ?_)))))
  obtain ⟨x3, hc4, h⟩ := h
  refine AOps.callR hc4 rfl rfl rfl rfl rfl trivial ?_
  refine al0 ?_
  refine st (v := .dat (.st _ _)) ?_
  refine dn (sN (pP rfl (pI rfl (pB rfl (pB rfl (sB 11 h (fun h => ?_) (fun h => ?_)))))))
  · refine fo 3 rfl (pB rfl (pB rfl (pP rfl (pG rfl (pG rfl (pB rfl (pB rfl (pB rfl (dn (AWp.ret ?_))))))))))
    subst h
    exact ⟨_, rfl, rfl, rfl⟩
  refine pP rfl (pI rfl (pB rfl (pB rfl (pB rfl (sB 16 h (fun h => ?_) (fun h => ?_))))))
  · refine pP rfl (pG rfl (pG rfl (pB rfl (pB rfl (pB rfl (dn (AWp.ret ?_)))))))
    subst h
    exact ⟨_, rfl, rfl, rfl⟩
  refine fo 4 rfl (pB rfl (pB rfl (dn (AWp.ret ?_))))
  subst h
  exact ⟨_, rfl, rfl, rfl⟩
def W_parse_parser_up (x1 : Gparseparser) (Q : Except Gparsestop (GTree × Gparseparser) → Prop) : Prop :=
 Join2 (fun j13 =>
  Call (Ev_parse_parser_is x1 (ByteArray.mk #[40])) fun x14 =>
  Br x14 (
   CallX (Ev_parse_parser_enter x1 (ByteArray.mk #[40])) (fun e => Q (.error e)) fun x16 =>
   CallX (Ev_parse_parser_dim x16) (fun e => Q (.error e)) fun x17 =>
   CallX (Ev_parse_parser_leave x17.2 ([(ByteArray.mk #[41])])) (fun e => Q (.error e)) fun x18 =>
   j13 x18 x17.1) (
   Call (Ev_parse_parser_now x1) fun x19 =>
   Br (x19.Kind == (3 : Int)) (
    CallX (Ev_parse_parser_number x1 Fn_parse_parser_up_1) (fun e => Q (.error e)) fun x21 =>
    j13 x21.2 ({ GTree.zero with Kind := (20 : Int) })) (
    CallX (Ev_parse_parser_name x1) (fun e => Q (.error e)) fun x22 =>
    j13 x22.2 ({ GTree.zero with Kind := (21 : Int), Name := x22.1 })))
 ) (fun (x11 : Gparseparser) (x12 : GTree) =>
  Call (Ev_parse_parser_take x11 (ByteArray.mk #[94])) fun x23 =>
  Br (!x23.1) (Q (.ok (x12, x23.2))) (
   Call (Ev_parse_parser_is x23.2 (ByteArray.mk #[40])) fun x25 =>
   Br (!x25) (
    CallX (Ev_parse_parser_power x23.2) (fun e => Q (.error e)) fun x28 =>
    Q (.ok (({ GTree.zero with Kind := (24 : Int), Num := (GRat.mk x28.1 (1 : Int)), Kids := [x12] }), x28.2))) (
    CallX (Ev_parse_parser_enter x23.2 (ByteArray.mk #[40])) (fun e => Q (.error e)) fun x29 =>
    CallX (Ev_parse_parser_power x29) (fun e => Q (.error e)) fun x30 =>
    CallX (Ev_parse_parser_must x30.2 ([(ByteArray.mk #[47])])) (fun e => Q (.error e)) fun x31 =>
    CallX (Ev_parse_parser_number x31 Fn_parse_parser_up_2) (fun e => Q (.error e)) fun x32 =>
    CallX (Ev_parse_parser_leave x32.2 ([(ByteArray.mk #[41])])) (fun e => Q (.error e)) fun x33 =>
    Call (Ev_rat_Make x30.1 x32.1.N) fun x34 =>
    Q (.ok (({ GTree.zero with Kind := (24 : Int), Num := x34.1, Kids := [x12] }), x33)))))
theorem walk_parse_parser_up {x1 : Gparseparser} {r : Except Gparsestop (GTree × Gparseparser)} (h : W_parse_parser_up x1 (fun r' => r' = r)) : Ev_parse_parser_up x1 r := by
  unfold W_parse_parser_up at h
  refine AFnB.intro' (L := []) tabOk Tryz.func114 rfl rfl Tryz.ntmps114 rfl rfl rfl (fun b => ?_)
  refine sN (al0 ?_)
  refine dn (sN (al0 ?_))
  refine dn (AWp.seq ?_)
  obtain ⟨J36, h, hk37⟩ := h
  refine AWp.cutK (I := fun p : Gparseparser × GTree => mkSt [(0, .pt 1000000 [] 0), (2, .pt 2 [] 0), (3, .pt 3 [] 0)] [(2, .box 26 9 (.dat (GTree.out GTree.zero))), (3, .box 26 9 (.dat (GTree.out p.2))), (1000000, .box 51 3 (.dat (Gparseparser.enc p.1)))]) (Inv := fun p : Gparseparser × GTree => J36 p.1 p.2) ?_ (fun p hp => ?_)
  · refine AWp.block (AWp.seq (rN (pP rfl ?_)))
    obtain ⟨x14, hc15, h⟩ := h
    refine AOps.callR hc15 rfl rfl rfl rfl rfl ⟨.inl rfl, trivial⟩ ?_
    refine pB rfl (dn (cB h (fun h => ?_) (fun h => ?_)))
    · refine AWp.seq ?_
      refine AWp.bots ?_
      refine AWp.regionN (fun o => writesB [158] o) rfl ?_
      refine pP rfl ?_
      refine kXf h (fun e h => ⟨mkSt [] [], by cases h; rfl⟩) (fun σ h => .inr h) rfl rfl rfl rfl rfl ⟨.inl rfl, trivial⟩ rfl fun x16 h => ?_
      refine dn (.inl ?_)
      refine AWp.seq ?_
      refine AWp.bots ?_
      refine AWp.regionN (fun o => writesB [44] o) rfl ?_
      refine pP rfl ?_
      refine kXf h (fun e h => ⟨mkSt [] [], by cases h; rfl⟩) (fun σ h => .inr h) rfl rfl rfl rfl rfl trivial rfl fun x17 h => ?_
      refine st (v := .dat (.st _ _)) ?_
      refine dn (.inl ?_)
      refine AWp.bots ?_
      refine AWp.regionN (fun o => writesB [159] o) rfl ?_
      refine pP rfl ?_
      refine AOps.lit tabOk (ys := [.v (.string (ByteArray.mk #[41]))]) rfl rfl rfl rfl rfl rfl ?_
      refine kXf h (fun e h => ⟨mkSt [] [], by cases h; rfl⟩) (fun σ h => .inr h) rfl rfl rfl rfl rfl ⟨.inl rfl, trivial⟩ rfl fun x18 h => ?_
      refine dn (.inl ?_)
      exact ⟨⟨x18, x17.1⟩, h, sl⟩
    refine sN (pP rfl ?_)
    obtain ⟨x19, hc20, h⟩ := h
    refine AOps.callR hc20 rfl rfl rfl rfl rfl trivial ?_
    refine pI rfl (pB rfl (pB rfl (dn (cB h (fun h => ?_) (fun h => ?_)))))
    · refine AWp.seq ?_
      refine AWp.bots ?_
      refine AWp.regionN (fun o => writesB [160] o) rfl ?_
      refine pP rfl ?_
      refine kXf h (fun e h => ⟨mkSt [] [], by cases h; rfl⟩) (fun σ h => .inr h) rfl rfl rfl rfl rfl ⟨.inl rfl, trivial⟩ rfl fun x21 h => ?_
      refine dn (.inl ?_)
      refine rW (pT rfl (st (v := .dat (.st _ _)) ?_))
      refine dn ?_
      exact ⟨⟨x21.2, ({ GTree.zero with Kind := (20 : Int) })⟩, h, sl⟩
    refine AWp.bots ?_
    refine AWp.regionN (fun o => writesB [43] o) rfl ?_
    refine pP rfl ?_
    refine kXf h (fun e h => ⟨mkSt [] [], by cases h; rfl⟩) (fun σ h => .inr h) rfl rfl rfl rfl rfl trivial rfl fun x22 h => ?_
    refine pT rfl (st (v := .dat (.st _ _)) ?_)
    refine dn (.inl ?_)
    exact ⟨⟨x22.2, ({ GTree.zero with Kind := (21 : Int), Name := x22.1 })⟩, h, sl⟩
  obtain ⟨x11, x12⟩ := p
  replace h := hk37 x11 x12 hp
  refine AWp.seq (AWp.seq ?_)
  refine AWp.regionN (fun o => writesB [42] o) rfl ?_
  refine pP rfl ?_
  obtain ⟨x23, hc24, h⟩ := h
  refine AOps.callB hc24 rfl rfl rfl rfl rfl rfl ⟨.inl rfl, trivial⟩ ?_
  refine pB rfl (dn (cB h (fun h => ?_) (fun h => ?_)))
  · refine sW (pT rfl (st (v := .dat (.st _ _)) ?_))
    subst h; exact dn (AWp.ret ⟨_, rfl, rfl, rfl⟩)
  refine AWp.skip (AWp.seq (AWp.seq (rN (pP rfl ?_))))
  obtain ⟨x25, hc26, h⟩ := h
  refine AOps.callR hc26 rfl rfl rfl rfl rfl ⟨.inl rfl, trivial⟩ ?_
  refine pB rfl (dn (cB h (fun h => ?_) (fun h => ?_)))
  · refine AWp.seq ?_
    refine AWp.bots ?_
    refine rF (fun o => writesB [162] o) [(0, [1000000]), (2, [2]), (3, [3]), (36, [1000000])] (pP rfl ?_)
    refine kXf h (fun e h => ⟨mkSt [] [], by cases h; rfl⟩) (fun σ h => .inr h) rfl rfl rfl rfl rfl trivial rfl fun x28 h => ?_
    refine pT rfl (pT rfl ?_)
    refine AOps.lit tabOk (ys := [GTree.out x12]) rfl rfl rfl rfl rfl rfl ?_
    rw [show [GTree.out x12] = List.map GTree.enc [x12] by simp [GTree.enc_out]]
    refine pT rfl (st (v := .dat (.st _ _)) ?_)
    refine dn (.inl ?_)
    subst h; exact AWp.ret ⟨_, rfl, rfl, rfl⟩
  refine AWp.skip (AWp.seq ?_)
  refine AWp.bots ?_
  refine AWp.regionN (fun o => writesB [158] o) rfl ?_
  refine pP rfl ?_
  refine kXf h (fun e h => ⟨mkSt [] [], by cases h; rfl⟩) (fun σ h => .inr h) rfl rfl rfl rfl rfl ⟨.inl rfl, trivial⟩ rfl fun x29 h => ?_
  refine dn (.inl ?_)
  refine AWp.seq ?_
  refine AWp.bots ?_
  refine AWp.regionN (fun o => writesB [162] o) rfl ?_
  refine pP rfl ?_
  refine kXf h (fun e h => ⟨mkSt [] [], by cases h; rfl⟩) (fun σ h => .inr h) rfl rfl rfl rfl rfl trivial rfl fun x30 h => ?_
  refine pI rfl (dn (.inl ?_))
  refine AWp.seq ?_
  refine AWp.bots ?_
  refine AWp.regionN (fun o => writesB [45] o) rfl ?_
  refine pP rfl ?_
  refine AOps.lit tabOk (ys := [.v (.string (ByteArray.mk #[47]))]) rfl rfl rfl rfl rfl rfl ?_
  refine kXf h (fun e h => ⟨mkSt [] [], by cases h; rfl⟩) (fun σ h => .inr h) rfl rfl rfl rfl rfl ⟨.inl rfl, trivial⟩ rfl fun x31 h => ?_
  refine dn (.inl ?_)
  refine AWp.seq ?_
  refine AWp.bots ?_
  refine AWp.regionN (fun o => writesB [160] o) rfl ?_
  refine pP rfl ?_
  refine kXf h (fun e h => ⟨mkSt [] [], by cases h; rfl⟩) (fun σ h => .inr h) rfl rfl rfl rfl rfl ⟨.inl rfl, trivial⟩ rfl fun x32 h => ?_
  refine al0 ?_
  refine st (v := .dat (.st _ _)) ?_
  refine dn (.inl ?_)
  refine AWp.seq ?_
  refine AWp.bots ?_
  refine AWp.regionN (fun o => writesB [159] o) rfl ?_
  refine pP rfl ?_
  refine AOps.lit tabOk (ys := [.v (.string (ByteArray.mk #[41]))]) rfl rfl rfl rfl rfl rfl ?_
  refine kXf h (fun e h => ⟨mkSt [] [], by cases h; rfl⟩) (fun σ h => .inr h) rfl rfl rfl rfl rfl ⟨.inl rfl, trivial⟩ rfl fun x33 h => ?_
  refine dn (.inl ?_)
  refine sW (pI rfl (pP rfl (pI rfl (kC h rfl ⟨.inl rfl, .inl rfl, trivial⟩ rfl fun x34 h => ?_))))
  refine pU rfl (pT rfl (pI rfl (al0 ?_)))
  refine st (v := .dat (.st _ _)) ?_
  refine pI rfl (dn (AWp.seq (rW (pT rfl (pT rfl ?_)))))
  refine AOps.lit tabOk (ys := [GTree.out x12]) rfl rfl rfl rfl rfl rfl ?_
  rw [show [GTree.out x12] = List.map GTree.enc [x12] by simp [GTree.enc_out]]
  refine pT rfl (st (v := .dat (.st _ _)) ?_)
  subst h; exact dn (AWp.ret ⟨_, rfl, rfl, rfl⟩)
def W_parse_parser_item (p1 : Gparseparser) (Q : Except Gparsestop (GTree × Gparseparser) → Prop) : Prop :=
 Join2 (fun j35 =>
  Call (Ev_parse_parser_take p1 (ByteArray.mk #[112, 97, 114, 97, 109])) fun x36 =>
  Br x36.1 (
   CallX (Ev_parse_parser_name x36.2) (fun e => Q (.error e)) fun x38 =>
   CallX (Ev_parse_parser_kind x38.2) (fun e => Q (.error e)) fun x39 =>
   CallX (Ev_parse_parser_must x39.2 ([(ByteArray.mk #[61])])) (fun e => Q (.error e)) fun x40 =>
   CallX (Ev_parse_parser_expr x40) (fun e => Q (.error e)) fun x41 =>
   j35 x41.2 ({ GTree.zero with Kind := (33 : Int), Name := x38.1, Kids := [x39.1, x41.1] })) (
   Join1 (fun j47 =>
    Call (Ev_parse_parser_is x36.2 (ByteArray.mk #[118, 97, 114])) fun x48 =>
    Br x48 (j47 true) (
     Call (Ev_parse_parser_is x36.2 (ByteArray.mk #[102, 108, 111, 119])) fun x50 =>
     j47 x50)
   ) (fun (x46 : Bool) =>
    Br x46 (
     Call (Ev_parse_parser_is x36.2 (ByteArray.mk #[102, 108, 111, 119])) fun x52 =>
     Let (IntKind.i64.wrap (x36.2.i_ + (1 : Int))) fun x54 =>
     CallX (Ev_parse_parser_name ({ x36.2 with i_ := x54 })) (fun e => Q (.error e)) fun x55 =>
     CallX (Ev_parse_parser_array x55.2) (fun e => Q (.error e)) fun x56 =>
     CallX (Ev_parse_parser_kind x56.2) (fun e => Q (.error e)) fun x57 =>
     j35 x57.2 ({ GTree.zero with Kind := (34 : Int), Name := x55.1, N := x56.1, Flag := x52, Kids := [x57.1] })) (
     Call (Ev_parse_parser_take x36.2 (ByteArray.mk #[112, 97, 114, 116])) fun x58 =>
     Br x58.1 (
      CallX (Ev_parse_parser_part x58.2) (fun e => Q (.error e)) fun x60 =>
      j35 x60.2 x60.1) (
      Call (Ev_parse_parser_take x58.2 (ByteArray.mk #[115, 116, 97, 114, 116])) fun x61 =>
      Br x61.1 (
       CallX (Ev_parse_parser_start x61.2) (fun e => Q (.error e)) fun x63 =>
       j35 x63.2 x63.1) (
       CallX (Ev_parse_parser_rule x61.2) (fun e => Q (.error e)) fun x64 =>
       Q (.ok (x64.1, x64.2)))))))
 ) (fun (p33 : Gparseparser) (t34 : GTree) =>
  CallX (Ev_parse_parser_must p33 ([(ByteArray.mk #[59])])) (fun e => Q (.error e)) fun x67 =>
  Q (.ok (t34, x67)))
theorem walk_parse_parser_item {p1 : Gparseparser} {r : Except Gparsestop (GTree × Gparseparser)} (h : W_parse_parser_item p1 (fun r' => r' = r)) : Ev_parse_parser_item p1 r := by
  unfold W_parse_parser_item at h
  refine AFnB.intro' (L := []) tabOk Tryz.func115 rfl rfl Tryz.ntmps115 rfl rfl rfl (fun b => ?_)
  refine sN (al0 ?_)
  refine dn (sN (al0 ?_))
  refine dn (AWp.seq ?_)
  obtain ⟨J68, h, hk69⟩ := h
  refine AWp.cutK (I := fun p : Gparseparser × GTree => mkSt [(0, .pt 1000000 [] 0), (2, .pt 2 [] 0), (3, .pt 3 [] 0)] [(2, .box 26 9 (.dat (GTree.out GTree.zero))), (3, .box 26 9 (.dat (GTree.out p.2))), (1000000, .box 51 3 (.dat (Gparseparser.enc p.1)))]) (Inv := fun p : Gparseparser × GTree => J68 p.1 p.2) ?_ (fun p hp => ?_)
  · refine AWp.block (AWp.seq ?_)
    refine AWp.regionN (fun o => writesB [42] o) rfl ?_
    refine pP rfl ?_
    obtain ⟨x36, hc37, h⟩ := h
    refine AOps.callB hc37 rfl rfl rfl rfl rfl rfl ⟨.inl rfl, trivial⟩ ?_
    refine pB rfl (dn (cB h (fun h => ?_) (fun h => ?_)))
    · refine AWp.seq ?_
      refine AWp.bots ?_
      refine AWp.regionN (fun o => writesB [43] o) rfl ?_
      refine pP rfl ?_
      refine kXf h (fun e h => ⟨mkSt [] [], by cases h; rfl⟩) (fun σ h => .inr h) rfl rfl rfl rfl rfl trivial rfl fun x38 h => ?_
      refine pT rfl (st (v := .dat (.st _ _)) ?_)
      refine dn (.inl ?_)
      refine AWp.seq ?_
      refine AWp.bots ?_
      refine AWp.regionN (fun o => writesB [165] o) rfl ?_
      refine pP rfl ?_
      refine kXf h (fun e h => ⟨mkSt [] [], by cases h; rfl⟩) (fun σ h => .inr h) rfl rfl rfl rfl rfl trivial rfl fun x39 h => ?_
      refine al0 ?_
      refine st (v := .dat (.st _ _)) ?_
      refine dn (.inl ?_)
      refine AWp.seq ?_
      refine AWp.bots ?_
      refine AWp.regionN (fun o => writesB [45] o) rfl ?_
      refine pP rfl ?_
      refine AOps.lit tabOk (ys := [.v (.string (ByteArray.mk #[61]))]) rfl rfl rfl rfl rfl rfl ?_
      refine kXf h (fun e h => ⟨mkSt [] [], by cases h; rfl⟩) (fun σ h => .inr h) rfl rfl rfl rfl rfl ⟨.inl rfl, trivial⟩ rfl fun x40 h => ?_
      refine dn (.inl ?_)
      refine AWp.bots ?_
      refine rF (fun o => writesB [166] o) [(0, [1000000]), (3, [3]), (4, [4]), (19, [1000000]), (21, [21]), (22, [3])] (pT rfl (pP rfl ?_))
      refine kXf h (fun e h => ⟨mkSt [] [], by cases h; rfl⟩) (fun σ h => .inr h) rfl rfl rfl rfl rfl trivial rfl fun x41 h => ?_
      refine AOps.lit tabOk (ys := [GTree.out x39.1, GTree.out x41.1]) rfl rfl rfl rfl rfl rfl ?_
      rw [show [GTree.out x39.1, GTree.out x41.1] = List.map GTree.enc [x39.1, x41.1] by simp [GTree.enc_out]]
      refine pP rfl (st (v := .dat (.sl _ _ _)) ?_)
      refine dn (.inl ?_)
      exact ⟨⟨x41.2, ({ GTree.zero with Kind := (33 : Int), Name := x38.1, Kids := [x39.1, x41.1] })⟩, h, sl⟩
    refine AWp.seq ?_
    obtain ⟨J65, h, hk66⟩ := h
    refine AWp.cutK (I := fun p : Bool => mkSt [(0, .pt 1000000 [] 0), (2, .pt 2 [] 0), (3, .pt 3 [] 0), (23, .dat (.v (.bool p)))] [(2, .box 26 9 (.dat (GTree.out GTree.zero))), (3, .box 26 9 (.dat (GTree.out GTree.zero))), (1000000, .box 51 3 (.dat (Gparseparser.enc x36.2)))]) (Inv := fun p : Bool => J65 p) ?_ (fun p hp => ?_)
    · refine rN (pP rfl ?_)
      obtain ⟨x48, hc49, h⟩ := h
      refine AOps.callR hc49 rfl rfl rfl rfl rfl ⟨.inl rfl, trivial⟩ ?_
      refine pB rfl (sB 26 h (fun h => ?_) (fun h => ?_))
      · refine ff rfl (ff rfl (pB rfl (pB rfl (dn ?_))))
        exact ⟨true, h, sl⟩
      refine pP rfl ?_
      obtain ⟨x50, hc51, h⟩ := h
      refine AOps.callR hc51 rfl rfl rfl rfl rfl ⟨.inl rfl, trivial⟩ ?_
      refine pB rfl (pB rfl (dn ?_))
      exact ⟨x50, h, sl⟩
    replace h := hk66 p hp
    revert h; clear hp; generalize p = x46; intro h
    refine cB h (fun h => ?_) (fun h => ?_)
    · refine sW (pP rfl ?_)
      obtain ⟨x52, hc53, h⟩ := h
      refine AOps.callR hc53 rfl rfl rfl rfl rfl ⟨.inl rfl, trivial⟩ ?_
      refine pT rfl (st (v := .dat (.st _ _)) ?_)
      refine dn (sW (pP rfl (pP rfl (pP rfl (pI rfl ?_)))))
      obtain ⟨x54, ex54, h⟩ := h.get
      refine ai ex54 rfl (pP rfl (pP rfl (st (v := .dat (.v (.int _ _))) ?_)))
      refine dn (AWp.seq ?_)
      refine AWp.bots ?_
      refine AWp.regionN (fun o => writesB [43] o) rfl ?_
      refine pP rfl ?_
      refine kXf h (fun e h => ⟨mkSt [] [], by cases h; rfl⟩) (fun σ h => .inr h) rfl rfl rfl rfl rfl trivial rfl fun x55 h => ?_
      refine pP rfl (st (v := .dat (.v (.string _))) ?_)
      refine dn (.inl ?_)
      refine AWp.seq ?_
      refine AWp.bots ?_
      refine AWp.regionN (fun o => writesB [167] o) rfl ?_
      refine pP rfl ?_
      refine kXf h (fun e h => ⟨mkSt [] [], by cases h; rfl⟩) (fun σ h => .inr h) rfl rfl rfl rfl rfl trivial rfl fun x56 h => ?_
      refine pP rfl (st (v := .dat (.v (.int _ _))) ?_)
      refine dn (.inl ?_)
      refine AWp.bots ?_
      refine AWp.regionN (fun o => writesB [165] o) rfl ?_
      refine pP rfl ?_
      refine kXf h (fun e h => ⟨mkSt [] [], by cases h; rfl⟩) (fun σ h => .inr h) rfl rfl rfl rfl rfl trivial rfl fun x57 h => ?_
      refine AOps.lit tabOk (ys := [GTree.out x57.1]) rfl rfl rfl rfl rfl rfl ?_
      rw [show [GTree.out x57.1] = List.map GTree.enc [x57.1] by simp [GTree.enc_out]]
      refine pP rfl (st (v := .dat (.sl _ _ _)) ?_)
      refine dn (.inl ?_)
      exact ⟨⟨x57.2, ({ GTree.zero with Kind := (34 : Int), Name := x55.1, N := x56.1, Flag := x52, Kids := [x57.1] })⟩, h, sl⟩
    refine AWp.seq ?_
    refine AWp.regionN (fun o => writesB [42] o) rfl ?_
    refine pP rfl ?_
    obtain ⟨x58, hc59, h⟩ := h
    refine AOps.callB hc59 rfl rfl rfl rfl rfl rfl ⟨.inl rfl, trivial⟩ ?_
    refine pB rfl (dn (cB h (fun h => ?_) (fun h => ?_)))
    · refine AWp.bots ?_
      refine AWp.regionN (fun o => writesB [168] o) rfl ?_
      refine pP rfl ?_
      refine kXf h (fun e h => ⟨mkSt [] [], by cases h; rfl⟩) (fun σ h => .inr h) rfl rfl rfl rfl rfl trivial rfl fun x60 h => ?_
      refine st (v := .dat (.st _ _)) ?_
      refine dn (.inl ?_)
      exact ⟨⟨x60.2, x60.1⟩, h, sl⟩
    refine AWp.seq ?_
    refine AWp.regionN (fun o => writesB [42] o) rfl ?_
    refine pP rfl ?_
    obtain ⟨x61, hc62, h⟩ := h
    refine AOps.callB hc62 rfl rfl rfl rfl rfl rfl ⟨.inl rfl, trivial⟩ ?_
    refine pB rfl (dn (cB h (fun h => ?_) (fun h => ?_)))
    · refine AWp.bots ?_
      refine AWp.regionN (fun o => writesB [169] o) rfl ?_
      refine pP rfl ?_
      refine kXf h (fun e h => ⟨mkSt [] [], by cases h; rfl⟩) (fun σ h => .inr h) rfl rfl rfl rfl rfl trivial rfl fun x63 h => ?_
      refine st (v := .dat (.st _ _)) ?_
      refine dn (.inl ?_)
      exact ⟨⟨x63.2, x63.1⟩, h, sl⟩
    refine AWp.seq ?_
    refine AWp.bots ?_
    refine AWp.regionN (fun o => writesB [170] o) rfl ?_
    refine pP rfl ?_
    refine kXf h (fun e h => ⟨mkSt [] [], by cases h; rfl⟩) (fun σ h => .inr h) rfl rfl rfl rfl rfl trivial rfl fun x64 h => ?_
    refine st (v := .dat (.st _ _)) ?_
    refine dn (.inl ?_)
    subst h; exact AWp.ret ⟨_, rfl, rfl, rfl⟩
  obtain ⟨p33, t34⟩ := p
  replace h := hk69 p33 t34 hp
  refine AWp.seq ?_
  refine AWp.bots ?_
  refine AWp.regionN (fun o => writesB [45] o) rfl ?_
  refine pP rfl ?_
  refine AOps.lit tabOk (ys := [.v (.string (ByteArray.mk #[59]))]) rfl rfl rfl rfl rfl rfl ?_
  refine kXf h (fun e h => ⟨mkSt [] [], by cases h; rfl⟩) (fun σ h => .inr h) rfl rfl rfl rfl rfl ⟨.inl rfl, trivial⟩ rfl fun x67 h => ?_
  refine dn (.inl ?_)
  refine sW (pT rfl (st (v := .dat (.st _ _)) ?_))
  subst h; exact dn (AWp.ret ⟨_, rfl, rfl, rfl⟩)
def W_parse_parser_enter (p1 : Gparseparser) (s2 : ByteArray) (Q : Except Gparsestop (Gparseparser) → Prop) : Prop :=
 Join1 (fun j6 =>
  Call (Ev_parse_parser_is p1 s2) fun x7 =>
  Br x7 (j6 (decide (p1.open_ ≥ (60 : Int)))) (
   j6 false)
 ) (fun (x5 : Bool) =>
  Br x5 (
   Call (Ev_parse_parser_now p1) fun x11 =>
   Q (.error (Gparsestop.mk (132 : Int) x11.At))) (
   CallX (Ev_parse_parser_must p1 ([s2])) (fun e => Q (.error e)) fun x13 =>
   Let (IntKind.i64.wrap (x13.open_ + (1 : Int))) fun x14 =>
   Q (.ok ({ x13 with open_ := x14 }))))
theorem walk_parse_parser_enter {p1 : Gparseparser} {s2 : ByteArray} {r : Except Gparsestop (Gparseparser)} (h : W_parse_parser_enter p1 s2 (fun r' => r' = r)) : Ev_parse_parser_enter p1 s2 r := by
  unfold W_parse_parser_enter at h
  refine AFnB.intro' (L := [(1, .dat (.v (.string s2)))]) tabOk Tryz.func158 rfl rfl Tryz.ntmps158 rfl rfl rfl (fun b => ?_)
  refine AWp.seq (AWp.seq ?_)
  obtain ⟨J15, h, hk16⟩ := h
  refine AWp.cutK (I := fun p : Bool => mkSt [(0, .pt 1000000 [] 0), (1, .dat (.v (.string s2))), (13, .dat (.v (.bool p)))] [(1000000, .box 51 3 (.dat (Gparseparser.enc p1)))]) (Inv := fun p : Bool => J15 p) ?_ (fun p hp => ?_)
  · refine rN (pP rfl (pG rfl ?_))
    obtain ⟨x7, hc8, h⟩ := h
    refine AOps.callR hc8 rfl rfl rfl rfl rfl ⟨.inl rfl, trivial⟩ ?_
    refine pB rfl (sB 7 h (fun h => ?_) (fun h => ?_))
    · refine pP rfl (pP rfl (pP rfl (pI rfl (pB rfl (pB rfl (dn ?_))))))
      exact ⟨(decide (p1.open_ ≥ (60 : Int))), h, sl⟩
    refine fo 5 rfl (pB rfl (dn ?_))
    exact ⟨false, h, sl⟩
  replace h := hk16 p hp
  revert h; clear hp; generalize p = x5; intro h
  refine cB h (fun h => ?_) (fun h => ?_)
  · refine AWp.regionP _ (fun o => writes o) rfl rfl ?_
    refine pP rfl ?_
    obtain ⟨x11, hc12, h⟩ := h
    refine AOps.callR hc12 rfl rfl rfl rfl rfl trivial ?_
    refine pI rfl (pT rfl ?_)
    refine AOps.mkif2 rfl rfl rfl rfl rfl ?_
    refine dn ?_
    exact ⟨rfl, _, _, _, rfl, rfl, ⟨mkSt [] [], by cases h; rfl⟩⟩
  refine AWp.skip (AWp.seq ?_)
  refine AWp.bots ?_
  refine AWp.regionN (fun o => writesB [45] o) rfl ?_
  refine pP rfl (pG rfl ?_)
  refine AOps.lit tabOk (ys := [.v (.string s2)]) rfl rfl rfl rfl rfl rfl ?_
  refine kXf h (fun e h => ⟨mkSt [] [], by cases h; rfl⟩) (fun σ h => .inr h) rfl rfl rfl rfl rfl ⟨.inl rfl, trivial⟩ rfl fun x13 h => ?_
  refine dn (.inl ?_)
  refine rW (pP rfl (pP rfl (pP rfl (pI rfl ?_))))
  obtain ⟨x14, ex14, h⟩ := h.get
  refine ai ex14 rfl (pP rfl (pP rfl (st (v := .dat (.v (.int _ _))) ?_)))
  refine dn ?_
  subst h
  exact ⟨_, rfl, rfl, rfl⟩
def W_parse_parser_leave (p1 : Gparseparser) (l2 : List ByteArray) (Q : Except Gparsestop (Gparseparser) → Prop) : Prop :=
 CallX (Ev_parse_parser_must p1 l2) (fun e => Q (.error e)) fun x3 =>
 Let (IntKind.i64.wrap (x3.open_ - (1 : Int))) fun x4 =>
 Q (.ok ({ x3 with open_ := x4 }))
theorem walk_parse_parser_leave {p1 : Gparseparser} {l2 : List ByteArray} {r : Except Gparsestop (Gparseparser)} (h : W_parse_parser_leave p1 l2 (fun r' => r' = r)) : Ev_parse_parser_leave p1 l2 r := by
  unfold W_parse_parser_leave at h
  refine AFnB.intro' (L := [(1, .dat (.sl 9 1 (List.map eStr l2)))]) tabOk Tryz.func159 rfl rfl Tryz.ntmps159 rfl rfl rfl (fun b => ?_)
  refine AWp.seq ?_
  refine AWp.bots ?_
  refine AWp.regionN (fun o => writesB [45] o) rfl ?_
  refine pP rfl (pS rfl ?_)
  refine kXf h (fun e h => ⟨mkSt [] [], by cases h; rfl⟩) (fun σ h => .inr h) rfl rfl rfl rfl rfl ⟨.inl rfl, trivial⟩ rfl fun x3 h => ?_
  refine dn (.inl ?_)
  refine rW (pP rfl (pP rfl (pP rfl (pI rfl ?_))))
  obtain ⟨x4, ex4, h⟩ := h.get
  refine ai ex4 rfl (pP rfl (pP rfl (st (v := .dat (.v (.int _ _))) ?_)))
  refine dn ?_
  subst h
  exact ⟨_, rfl, rfl, rfl⟩
def W_parse_parser_number (p1 : Gparseparser) (so2 : DV) (Q : Except Gparsestop (GRat × Gparseparser) → Prop) : Prop :=
 Call (Ev_parse_parser_now p1) fun x3 =>
 Join1 (fun j7 =>
  Br (x3.Kind != (3 : Int)) (
   CallX (Ev_parse_parser_fail p1) (fun e => Q (.error e)) fun x8 =>
   j7 x8) (
   j7 p1)
 ) (fun (p6 : Gparseparser) =>
  Call (fun x9 : Bool => FVal prog so2 [GRat.enc x3.Num] (.v (.bool x9))) fun x9 =>
  Br (!x9) (Q (.error (Gparsestop.mk (110 : Int) x3.At))) (
   Let (IntKind.i64.wrap (p6.i_ + (1 : Int))) fun x11 =>
   Q (.ok (x3.Num, ({ p6 with i_ := x11 })))))
theorem walk_parse_parser_number {p1 : Gparseparser} {so2 : DV} {r : Except Gparsestop (GRat × Gparseparser)} (h : W_parse_parser_number p1 so2 (fun r' => r' = r)) : Ev_parse_parser_number p1 so2 r := by
  unfold W_parse_parser_number at h
  refine AFnB.intro' (L := [(1, .dat (so2))]) tabOk Tryz.func160 rfl rfl Tryz.ntmps160 rfl rfl rfl (fun b => ?_)
  refine sN (al0 ?_)
  refine dn (sW (pP rfl ?_))
  obtain ⟨x3, hc4, h⟩ := h
  refine AOps.callR hc4 rfl rfl rfl rfl rfl trivial ?_
  refine al0 ?_
  refine st (v := .dat (.st _ _)) ?_
  refine dn (AWp.seq (AWp.seq (rN (pP rfl (pI rfl (pB rfl (dn ?_)))))))
  obtain ⟨J12, h, hk13⟩ := h
  refine AWp.cutK (I := fun p : Gparseparser => mkSt [(0, .pt 1000000 [] 0), (1, .dat (so2)), (4, .pt 4 [] 0), (5, .pt 5 [] 0)] [(4, .box 23 2 (.dat (GRat.enc GRat.zero))), (5, .box 40 5 (.dat (GToken.enc x3))), (1000000, .box 51 3 (.dat (Gparseparser.enc p)))]) (Inv := fun p : Gparseparser => J12 p) ?_ (fun p hp => ?_)
  · refine cB h (fun h => ?_) (fun h => ?_)
    · refine AWp.bots ?_
      refine AWp.regionN (fun o => writesB [47] o) rfl ?_
      refine pP rfl ?_
      refine kXf h (fun e h => ⟨mkSt [] [], by cases h; rfl⟩) (fun σ h => .inr h) rfl rfl rfl rfl rfl trivial rfl fun x8 h => ?_
      refine dn (.inl ?_)
      exact ⟨x8, h, sl⟩
    refine AWp.skip ?_
    exact ⟨p1, h, sl⟩
  replace h := hk13 p hp
  revert h; clear hp; generalize p = p6; intro h
  refine AWp.seq (AWp.seq (rN ?_))
  refine AOps.mv rfl rfl (.inl rfl) rfl ?_
  refine pP rfl (pT rfl ?_)
  obtain ⟨x9, hc10, h⟩ := h
  refine AOps.callv hc10 rfl rfl rfl rfl ⟨.inl rfl, trivial⟩ ?_
  refine pB rfl (dn (cB h (fun h => ?_) (fun h => ?_)))
  · refine AWp.regionP _ (fun o => writes o) rfl rfl ?_
    refine pP rfl (pI rfl (pT rfl ?_))
    refine AOps.mkif2 rfl rfl rfl rfl rfl ?_
    refine dn ?_
    exact ⟨rfl, _, _, _, rfl, rfl, ⟨mkSt [] [], by cases h; rfl⟩⟩
  refine AWp.skip (AWp.seq (rW (pP rfl (pP rfl (pP rfl (pI rfl ?_))))))
  obtain ⟨x11, ex11, h⟩ := h.get
  refine ai ex11 rfl (pP rfl (pP rfl (st (v := .dat (.v (.int _ _))) ?_)))
  refine dn (sW (pP rfl (pT rfl (st (v := .dat (.st _ _)) ?_))))
  subst h; exact dn (AWp.ret ⟨_, rfl, rfl, rfl⟩)
def W_parse_parser_up_1 (a1 : GRat) (Q : Bool → Prop) : Prop :=
 Q (GRat.beq a1 (GRat.mk (1 : Int) (1 : Int)))
theorem walk_parse_parser_up_1 {a1 : GRat} {r : Bool} (h : W_parse_parser_up_1 a1 (fun r' => r' = r)) : Ev_parse_parser_up_1 a1 r := by
  unfold W_parse_parser_up_1 at h
  refine intr (L := [(0, .dat (GRat.enc a1))]) Tryz.func161 Tryz.ntmps161 ?_
  refine sN (bx (v := .dat (.st _ _)) ?_)
  refine pB rfl (dn (AWp.seq (rN (pT rfl (pT rfl ?_)))))
  refine AOps.eqs rfl rfl rfl rfl rfl rfl rfl (by decide +kernel) (GRat.eqok23 _ a1 (GRat.mk (1 : Int) (1 : Int))) ?_
  refine pB rfl (dn (AWp.ret ?_))
  subst h
  exact ⟨_, rfl, rfl⟩
def W_parse_parser_power (p1 : Gparseparser) (Q : Except Gparsestop (Int × Gparseparser) → Prop) : Prop :=
 Call (Ev_parse_parser_take p1 (ByteArray.mk #[45])) fun x2 =>
 CallX (Ev_parse_parser_number x2.2 Fn_parse_parser_power_1) (fun e => Q (.error e)) fun x4 =>
 Br x2.1 (
  Let (IntKind.i64.wrap (0 - x4.1.N)) fun x6 =>
  Q (.ok (x6, x4.2))) (
  Q (.ok (x4.1.N, x4.2)))
theorem walk_parse_parser_power {p1 : Gparseparser} {r : Except Gparsestop (Int × Gparseparser)} (h : W_parse_parser_power p1 (fun r' => r' = r)) : Ev_parse_parser_power p1 r := by
  unfold W_parse_parser_power at h
  refine AFnB.intro' (L := []) tabOk Tryz.func162 rfl rfl Tryz.ntmps162 rfl rfl rfl (fun b => ?_)
  refine sN (pI rfl (dn (AWp.seq ?_)))
  refine AWp.regionN (fun o => writesB [42] o) rfl ?_
  refine pP rfl ?_
  obtain ⟨x2, hc3, h⟩ := h
  refine AOps.callB hc3 rfl rfl rfl rfl rfl rfl ⟨.inl rfl, trivial⟩ ?_
  refine pB rfl (dn (AWp.seq ?_))
  refine AWp.bots ?_
  refine AWp.regionN (fun o => writesB [160] o) rfl ?_
  refine pP rfl ?_
  refine kXf h (fun e h => ⟨mkSt [] [], by cases h; rfl⟩) (fun σ h => .inr h) rfl rfl rfl rfl rfl ⟨.inl rfl, trivial⟩ rfl fun x4 h => ?_
  refine pI rfl (pI rfl (dn (.inl ?_)))
  refine AWp.seq (AWp.seq (rN (pB rfl (dn (cB h (fun h => ?_) (fun h => ?_))))))
  · refine sN (pI rfl ?_)
    obtain ⟨x6, ex6, h⟩ := h.get
    refine ai ex6 rfl (pI rfl (dn (AWp.ret ?_)))
    subst h
    exact ⟨_, rfl, rfl, rfl⟩
  refine AWp.skip (AWp.seq (rN (pI rfl (pI rfl (dn (AWp.ret ?_))))))
  subst h
  exact ⟨_, rfl, rfl, rfl⟩
def W_parse_parser_up_2 (a1 : GRat) (Q : Bool → Prop) : Prop :=
 Br (a1.D == (1 : Int)) (
  Br (decide (a1.N ≥ (1 : Int))) (Q (decide (a1.N ≤ (64 : Int)))) (
   Q false)) (
  Q false)
theorem walk_parse_parser_up_2 {a1 : GRat} {r : Bool} (h : W_parse_parser_up_2 a1 (fun r' => r' = r)) : Ev_parse_parser_up_2 a1 r := by
  unfold W_parse_parser_up_2 at h
  refine intr (L := [(0, .dat (GRat.enc a1))]) Tryz.func163 Tryz.ntmps163 ?_
  refine sN (bx (v := .dat (.st _ _)) ?_)
  refine pB rfl (dn (AWp.seq (rN (pP rfl (pI rfl (pB rfl (pB rfl (sB 6 h (fun h => ?_) (fun h => ?_)))))))))
  · refine pP rfl (pI rfl (pB rfl (pB rfl (pB rfl (sB 11 h (fun h => ?_) (fun h => ?_))))))
    · refine pP rfl (pI rfl (pB rfl (pB rfl (pB rfl (dn (AWp.ret ?_))))))
      subst h
      exact ⟨_, rfl, rfl⟩
    refine fo 3 rfl (pB rfl (pB rfl (dn (AWp.ret ?_))))
    subst h
    exact ⟨_, rfl, rfl⟩
  refine fo 3 rfl (pB rfl (pB rfl (fo 3 rfl (pB rfl (pB rfl (dn (AWp.ret ?_)))))))
  subst h
  exact ⟨_, rfl, rfl⟩
def W_parse_parser_kind (p1 : Gparseparser) (Q : Except Gparsestop (GTree × Gparseparser) → Prop) : Prop :=
 Call (Ev_parse_parser_take p1 (ByteArray.mk #[58])) fun x2 =>
 Br x2.1 (
  CallX (Ev_parse_parser_dim x2.2) (fun e => Q (.error e)) fun x5 =>
  Q (.ok (({ GTree.zero with Kind := (41 : Int), Kids := [x5.1] }), x5.2))) (
  Q (.ok (({ GTree.zero with Kind := (41 : Int) }), x2.2)))
theorem walk_parse_parser_kind {p1 : Gparseparser} {r : Except Gparsestop (GTree × Gparseparser)} (h : W_parse_parser_kind p1 (fun r' => r' = r)) : Ev_parse_parser_kind p1 r := by
  unfold W_parse_parser_kind at h
  refine AFnB.intro' (L := []) tabOk Tryz.func165 rfl rfl Tryz.ntmps165 rfl rfl rfl (fun b => ?_)
  refine sN (al0 ?_)
  refine dn (sW (pT rfl (al0 ?_)))
  refine st (v := .dat (.st _ _)) ?_
  refine dn (AWp.seq (AWp.seq ?_))
  refine AWp.regionN (fun o => writesB [42] o) rfl ?_
  refine pP rfl ?_
  obtain ⟨x2, hc3, h⟩ := h
  refine AOps.callB hc3 rfl rfl rfl rfl rfl rfl ⟨.inl rfl, trivial⟩ ?_
  refine dn (cB h (fun h => ?_) (fun h => ?_))
  · refine AWp.bots ?_
    refine AWp.regionN (fun o => writesB [44] o) rfl ?_
    refine pP rfl ?_
    refine kXf h (fun e h => ⟨mkSt [] [], by cases h; rfl⟩) (fun σ h => .inr h) rfl rfl rfl rfl rfl trivial rfl fun x5 h => ?_
    refine AOps.lit tabOk (ys := [GTree.out x5.1]) rfl rfl rfl rfl rfl rfl ?_
    rw [show [GTree.out x5.1] = List.map GTree.enc [x5.1] by simp [GTree.enc_out]]
    refine pP rfl (st (v := .dat (.sl _ _ _)) ?_)
    refine dn (.inl ?_)
    refine sW (pT rfl (st (v := .dat (.st _ _)) ?_))
    subst h; exact dn (AWp.ret ⟨_, rfl, rfl, rfl⟩)
  refine AWp.skip (AWp.seq (rW (pT rfl (st (v := .dat (.st _ _)) ?_))))
  subst h; exact dn (AWp.ret ⟨_, rfl, rfl, rfl⟩)
def W_parse_parser_expr (p1 : Gparseparser) (Q : Except Gparsestop (GTree × Gparseparser) → Prop) : Prop :=
 CallX (Ev_parse_parser_row p1 206 (ByteArray.mk #[43]) (8 : Int) (ByteArray.mk #[45]) (9 : Int)) (fun e => Q (.error e)) fun x2 =>
 Q (.ok (x2.1, x2.2))
theorem walk_parse_parser_expr {p1 : Gparseparser} {r : Except Gparsestop (GTree × Gparseparser)} (h : W_parse_parser_expr p1 (fun r' => r' = r)) : Ev_parse_parser_expr p1 r := by
  unfold W_parse_parser_expr at h
  refine AFnB.intro' (L := []) tabOk Tryz.func166 rfl rfl Tryz.ntmps166 rfl rfl rfl (fun b => ?_)
  refine sN (al0 ?_)
  refine dn (AWp.seq ?_)
  refine AWp.bots ?_
  refine AWp.regionN (fun o => writesB [113] o) rfl ?_
  refine pP rfl (pP rfl ?_)
  refine AOps.bound rfl rfl rfl rfl ?_
  refine kXm h (fun e h => ⟨mkSt [] [], by cases h; rfl⟩) (fun σ h => .inr h) rfl rfl rfl rfl rfl rfl ⟨.inl rfl, .inl rfl, .inl rfl, .inl rfl, trivial⟩ rfl fun x2 h => ?_
  refine st (v := .dat (.st _ _)) ?_
  refine dn (.inl ?_)
  subst h; exact AWp.ret ⟨_, rfl, rfl, rfl⟩
def W_parse_parser_array (p1 : Gparseparser) (Q : Except Gparsestop (Int × Gparseparser) → Prop) : Prop :=
 Call (Ev_parse_parser_take p1 (ByteArray.mk #[91])) fun x2 =>
 Br (!x2.1) (Q (.ok ((0 : Int), x2.2))) (
  CallX (Ev_parse_parser_int x2.2) (fun e => Q (.error e)) fun x4 =>
  CallX (Ev_parse_parser_must x4.2 ([(ByteArray.mk #[93])])) (fun e => Q (.error e)) fun x5 =>
  Q (.ok (x4.1, x5)))
theorem walk_parse_parser_array {p1 : Gparseparser} {r : Except Gparsestop (Int × Gparseparser)} (h : W_parse_parser_array p1 (fun r' => r' = r)) : Ev_parse_parser_array p1 r := by
  unfold W_parse_parser_array at h
  refine AFnB.intro' (L := []) tabOk Tryz.func167 rfl rfl Tryz.ntmps167 rfl rfl rfl (fun b => ?_)
  refine sN (pI rfl (dn (AWp.seq (AWp.seq ?_))))
  refine AWp.regionN (fun o => writesB [42] o) rfl ?_
  refine pP rfl ?_
  obtain ⟨x2, hc3, h⟩ := h
  refine AOps.callB hc3 rfl rfl rfl rfl rfl rfl ⟨.inl rfl, trivial⟩ ?_
  refine pB rfl (dn (cB h (fun h => ?_) (fun h => ?_)))
  · refine sN (pI rfl (dn (AWp.ret ?_)))
    subst h
    exact ⟨_, rfl, rfl, rfl⟩
  refine AWp.skip (AWp.seq ?_)
  refine AWp.bots ?_
  refine AWp.regionN (fun o => writesB [207] o) rfl ?_
  refine pP rfl ?_
  refine kXf h (fun e h => ⟨mkSt [] [], by cases h; rfl⟩) (fun σ h => .inr h) rfl rfl rfl rfl rfl trivial rfl fun x4 h => ?_
  refine pI rfl (dn (.inl ?_))
  refine AWp.seq ?_
  refine AWp.bots ?_
  refine AWp.regionN (fun o => writesB [45] o) rfl ?_
  refine pP rfl ?_
  refine AOps.lit tabOk (ys := [.v (.string (ByteArray.mk #[93]))]) rfl rfl rfl rfl rfl rfl ?_
  refine kXf h (fun e h => ⟨mkSt [] [], by cases h; rfl⟩) (fun σ h => .inr h) rfl rfl rfl rfl rfl ⟨.inl rfl, trivial⟩ rfl fun x5 h => ?_
  refine dn (.inl ?_)
  refine sN (pI rfl (pI rfl (dn (AWp.ret ?_))))
  subst h
  exact ⟨_, rfl, rfl, rfl⟩
def W_parse_parser_start (p1 : Gparseparser) (Q : Except Gparsestop (GTree × Gparseparser) → Prop) : Prop :=
 Call (Ev_parse_parser_is p1 (ByteArray.mk #[100, 101, 114])) fun x2 =>
 Join2 (fun j8 =>
  Br x2 (
   CallX (Ev_parse_parser_der p1) (fun e => Q (.error e)) fun x9 =>
   j8 x9.2 x9.1) (
   CallX (Ev_parse_parser_ref p1) (fun e => Q (.error e)) fun x10 =>
   j8 x10.2 x10.1)
 ) (fun (p6 : Gparseparser) (of7 : GTree) =>
  Call (Ev_parse_parser_take p6 (ByteArray.mk #[61])) fun x11 =>
  Br x11.1 (
   CallX (Ev_parse_parser_expr x11.2) (fun e => Q (.error e)) fun x14 =>
   Q (.ok (({ GTree.zero with Kind := (37 : Int), Kids := [of7, x14.1, x14.1] }), x14.2))) (
   CallX (Ev_parse_parser_must x11.2 ([(ByteArray.mk #[105, 110]), (ByteArray.mk #[91])])) (fun e => Q (.error e)) fun x15 =>
   CallX (Ev_parse_parser_expr x15) (fun e => Q (.error e)) fun x16 =>
   CallX (Ev_parse_parser_must x16.2 ([(ByteArray.mk #[44])])) (fun e => Q (.error e)) fun x17 =>
   CallX (Ev_parse_parser_expr x17) (fun e => Q (.error e)) fun x18 =>
   CallX (Ev_parse_parser_must x18.2 ([(ByteArray.mk #[93])])) (fun e => Q (.error e)) fun x19 =>
   Q (.ok (({ GTree.zero with Kind := (37 : Int), Kids := [of7, x16.1, x18.1] }), x19))))
theorem walk_parse_parser_start {p1 : Gparseparser} {r : Except Gparsestop (GTree × Gparseparser)} (h : W_parse_parser_start p1 (fun r' => r' = r)) : Ev_parse_parser_start p1 r := by
  unfold W_parse_parser_start at h
  refine AFnB.intro' (L := []) tabOk Tryz.func169 rfl rfl Tryz.ntmps169 rfl rfl rfl (fun b => ?_)
  refine sN (al0 ?_)
  refine dn (sN (al0 ?_))
  refine dn (AWp.seq (AWp.seq (rN (pP rfl ?_))))
  obtain ⟨x2, hc3, h⟩ := h
  refine AOps.callR hc3 rfl rfl rfl rfl rfl ⟨.inl rfl, trivial⟩ ?_
  refine dn ?_
  obtain ⟨J20, h, hk21⟩ := h
  refine AWp.cutK (I := fun p : Gparseparser × GTree => mkSt [(0, .pt 1000000 [] 0), (2, .pt 2 [] 0), (3, .pt 3 [] 0)] [(2, .box 26 9 (.dat (GTree.out GTree.zero))), (3, .box 26 9 (.dat (GTree.out p.2))), (1000000, .box 51 3 (.dat (Gparseparser.enc p.1)))]) (Inv := fun p : Gparseparser × GTree => J20 p.1 p.2) ?_ (fun p hp => ?_)
  · refine cB h (fun h => ?_) (fun h => ?_)
    · refine AWp.bots ?_
      refine AWp.regionN (fun o => writesB [208] o) rfl ?_
      refine pP rfl ?_
      refine kXf h (fun e h => ⟨mkSt [] [], by cases h; rfl⟩) (fun σ h => .inr h) rfl rfl rfl rfl rfl trivial rfl fun x9 h => ?_
      refine st (v := .dat (.st _ _)) ?_
      refine dn (.inl ?_)
      exact ⟨⟨x9.2, x9.1⟩, h, sl⟩
    refine AWp.bots ?_
    refine AWp.regionN (fun o => writesB [209] o) rfl ?_
    refine pP rfl ?_
    refine kXf h (fun e h => ⟨mkSt [] [], by cases h; rfl⟩) (fun σ h => .inr h) rfl rfl rfl rfl rfl trivial rfl fun x10 h => ?_
    refine st (v := .dat (.st _ _)) ?_
    refine dn (.inl ?_)
    exact ⟨⟨x10.2, x10.1⟩, h, sl⟩
  obtain ⟨p6, of7⟩ := p
  replace h := hk21 p6 of7 hp
  refine AWp.seq (AWp.seq ?_)
  refine AWp.regionN (fun o => writesB [42] o) rfl ?_
  refine pP rfl ?_
  obtain ⟨x11, hc12, h⟩ := h
  refine AOps.callB hc12 rfl rfl rfl rfl rfl rfl ⟨.inl rfl, trivial⟩ ?_
  refine dn (cB h (fun h => ?_) (fun h => ?_))
  · refine AWp.seq ?_
    refine AWp.bots ?_
    refine AWp.regionN (fun o => writesB [166] o) rfl ?_
    refine pP rfl ?_
    refine kXf h (fun e h => ⟨mkSt [] [], by cases h; rfl⟩) (fun σ h => .inr h) rfl rfl rfl rfl rfl trivial rfl fun x14 h => ?_
    refine al0 ?_
    refine st (v := .dat (.st _ _)) ?_
    refine dn (.inl ?_)
    refine sW (pT rfl (pT rfl (pT rfl ?_)))
    refine AOps.lit tabOk (ys := [GTree.out of7, GTree.out x14.1, GTree.out x14.1]) rfl rfl rfl rfl rfl rfl ?_
    rw [show [GTree.out of7, GTree.out x14.1, GTree.out x14.1] = List.map GTree.enc [of7, x14.1, x14.1] by simp [GTree.enc_out]]
    refine pT rfl (st (v := .dat (.st _ _)) ?_)
    subst h; exact dn (AWp.ret ⟨_, rfl, rfl, rfl⟩)
  refine AWp.skip (AWp.seq ?_)
  refine AWp.bots ?_
  refine AWp.regionN (fun o => writesB [45] o) rfl ?_
  refine pP rfl ?_
  refine AOps.lit tabOk (ys := [.v (.string (ByteArray.mk #[105, 110])), .v (.string (ByteArray.mk #[91]))]) rfl rfl rfl rfl rfl rfl ?_
  refine kXf h (fun e h => ⟨mkSt [] [], by cases h; rfl⟩) (fun σ h => .inr h) rfl rfl rfl rfl rfl ⟨.inl rfl, trivial⟩ rfl fun x15 h => ?_
  refine dn (.inl ?_)
  refine AWp.seq ?_
  refine AWp.bots ?_
  refine AWp.regionN (fun o => writesB [166] o) rfl ?_
  refine pP rfl ?_
  refine kXf h (fun e h => ⟨mkSt [] [], by cases h; rfl⟩) (fun σ h => .inr h) rfl rfl rfl rfl rfl trivial rfl fun x16 h => ?_
  refine al0 ?_
  refine st (v := .dat (.st _ _)) ?_
  refine dn (.inl ?_)
  refine AWp.seq ?_
  refine AWp.bots ?_
  refine AWp.regionN (fun o => writesB [45] o) rfl ?_
  refine pP rfl ?_
  refine AOps.lit tabOk (ys := [.v (.string (ByteArray.mk #[44]))]) rfl rfl rfl rfl rfl rfl ?_
  refine kXf h (fun e h => ⟨mkSt [] [], by cases h; rfl⟩) (fun σ h => .inr h) rfl rfl rfl rfl rfl ⟨.inl rfl, trivial⟩ rfl fun x17 h => ?_
  refine dn (.inl ?_)
  refine AWp.seq ?_
  refine AWp.bots ?_
  refine AWp.regionN (fun o => writesB [166] o) rfl ?_
  refine pP rfl ?_
  refine kXf h (fun e h => ⟨mkSt [] [], by cases h; rfl⟩) (fun σ h => .inr h) rfl rfl rfl rfl rfl trivial rfl fun x18 h => ?_
  refine al0 ?_
  refine st (v := .dat (.st _ _)) ?_
  refine dn (.inl ?_)
  refine AWp.seq ?_
  refine AWp.bots ?_
  refine AWp.regionN (fun o => writesB [45] o) rfl ?_
  refine pP rfl ?_
  refine AOps.lit tabOk (ys := [.v (.string (ByteArray.mk #[93]))]) rfl rfl rfl rfl rfl rfl ?_
  refine kXf h (fun e h => ⟨mkSt [] [], by cases h; rfl⟩) (fun σ h => .inr h) rfl rfl rfl rfl rfl ⟨.inl rfl, trivial⟩ rfl fun x19 h => ?_
  refine dn (.inl ?_)
  refine sW (pT rfl (pT rfl (pT rfl ?_)))
  refine AOps.lit tabOk (ys := [GTree.out of7, GTree.out x16.1, GTree.out x18.1]) rfl rfl rfl rfl rfl rfl ?_
  rw [show [GTree.out of7, GTree.out x16.1, GTree.out x18.1] = List.map GTree.enc [of7, x16.1, x18.1] by simp [GTree.enc_out]]
  refine pT rfl (st (v := .dat (.st _ _)) ?_)
  subst h; exact dn (AWp.ret ⟨_, rfl, rfl, rfl⟩)
def W_parse_parser_power_1 (a1 : GRat) (Q : Bool → Prop) : Prop :=
 Br (a1.D == (1 : Int)) (Q (decide (a1.N ≤ (64 : Int)))) (
  Q false)
theorem walk_parse_parser_power_1 {a1 : GRat} {r : Bool} (h : W_parse_parser_power_1 a1 (fun r' => r' = r)) : Ev_parse_parser_power_1 a1 r := by
  unfold W_parse_parser_power_1 at h
  refine intr (L := [(0, .dat (GRat.enc a1))]) Tryz.func204 Tryz.ntmps204 ?_
  refine sN (bx (v := .dat (.st _ _)) ?_)
  refine pB rfl (dn (AWp.seq (rN (pP rfl (pI rfl (pB rfl (pB rfl (sB 6 h (fun h => ?_) (fun h => ?_)))))))))
  · refine pP rfl (pI rfl (pB rfl (pB rfl (pB rfl (dn (AWp.ret ?_))))))
    subst h
    exact ⟨_, rfl, rfl⟩
  refine fo 3 rfl (pB rfl (pB rfl (dn (AWp.ret ?_))))
  subst h
  exact ⟨_, rfl, rfl⟩
def W_parse_parser_mul (p1 : Gparseparser) (Q : Except Gparsestop (GTree × Gparseparser) → Prop) : Prop :=
 CallX (Ev_parse_parser_row p1 244 (ByteArray.mk #[42]) (10 : Int) (ByteArray.mk #[47]) (11 : Int)) (fun e => Q (.error e)) fun x2 =>
 Q (.ok (x2.1, x2.2))
theorem walk_parse_parser_mul {p1 : Gparseparser} {r : Except Gparsestop (GTree × Gparseparser)} (h : W_parse_parser_mul p1 (fun r' => r' = r)) : Ev_parse_parser_mul p1 r := by
  unfold W_parse_parser_mul at h
  refine AFnB.intro' (L := []) tabOk Tryz.func206 rfl rfl Tryz.ntmps206 rfl rfl rfl (fun b => ?_)
  refine sN (al0 ?_)
  refine dn (AWp.seq ?_)
  refine AWp.bots ?_
  refine AWp.regionN (fun o => writesB [113] o) rfl ?_
  refine pP rfl (pP rfl ?_)
  refine AOps.bound rfl rfl rfl rfl ?_
  refine kXm h (fun e h => ⟨mkSt [] [], by cases h; rfl⟩) (fun σ h => .inr h) rfl rfl rfl rfl rfl rfl ⟨.inl rfl, .inl rfl, .inl rfl, .inl rfl, trivial⟩ rfl fun x2 h => ?_
  refine st (v := .dat (.st _ _)) ?_
  refine dn (.inl ?_)
  subst h; exact AWp.ret ⟨_, rfl, rfl, rfl⟩
def W_parse_parser_int (p1 : Gparseparser) (Q : Except Gparsestop (Int × Gparseparser) → Prop) : Prop :=
 CallX (Ev_parse_parser_number p1 Fn_parse_parser_int_1) (fun e => Q (.error e)) fun x2 =>
 Q (.ok (x2.1.N, x2.2))
theorem walk_parse_parser_int {p1 : Gparseparser} {r : Except Gparsestop (Int × Gparseparser)} (h : W_parse_parser_int p1 (fun r' => r' = r)) : Ev_parse_parser_int p1 r := by
  unfold W_parse_parser_int at h
  refine AFnB.intro' (L := []) tabOk Tryz.func207 rfl rfl Tryz.ntmps207 rfl rfl rfl (fun b => ?_)
  refine sN (pI rfl (dn (AWp.seq ?_)))
  refine AWp.bots ?_
  refine AWp.regionN (fun o => writesB [160] o) rfl ?_
  refine pP rfl ?_
  refine kXf h (fun e h => ⟨mkSt [] [], by cases h; rfl⟩) (fun σ h => .inr h) rfl rfl rfl rfl rfl ⟨.inl rfl, trivial⟩ rfl fun x2 h => ?_
  refine pI rfl (pI rfl (dn (.inl ?_)))
  subst h; exact AWp.ret ⟨_, rfl, rfl, rfl⟩
def W_parse_parser_der (p1 : Gparseparser) (Q : Except Gparsestop (GTree × Gparseparser) → Prop) : Prop :=
 CallX (Ev_parse_parser_must p1 ([(ByteArray.mk #[100, 101, 114])])) (fun e => Q (.error e)) fun x2 =>
 CallX (Ev_parse_parser_enter x2 (ByteArray.mk #[40])) (fun e => Q (.error e)) fun x3 =>
 CallX (Ev_parse_parser_ref x3) (fun e => Q (.error e)) fun x4 =>
 CallX (Ev_parse_parser_leave x4.2 ([(ByteArray.mk #[41])])) (fun e => Q (.error e)) fun x5 =>
 Q (.ok (({ GTree.zero with Kind := (4 : Int), Kids := [x4.1] }), x5))
theorem walk_parse_parser_der {p1 : Gparseparser} {r : Except Gparsestop (GTree × Gparseparser)} (h : W_parse_parser_der p1 (fun r' => r' = r)) : Ev_parse_parser_der p1 r := by
  unfold W_parse_parser_der at h
  refine AFnB.intro' (L := []) tabOk Tryz.func208 rfl rfl Tryz.ntmps208 rfl rfl rfl (fun b => ?_)
  refine sN (al0 ?_)
  refine dn (AWp.seq ?_)
  refine AWp.bots ?_
  refine AWp.regionN (fun o => writesB [45] o) rfl ?_
  refine pP rfl ?_
  refine AOps.lit tabOk (ys := [.v (.string (ByteArray.mk #[100, 101, 114]))]) rfl rfl rfl rfl rfl rfl ?_
  refine kXf h (fun e h => ⟨mkSt [] [], by cases h; rfl⟩) (fun σ h => .inr h) rfl rfl rfl rfl rfl ⟨.inl rfl, trivial⟩ rfl fun x2 h => ?_
  refine dn (.inl ?_)
  refine AWp.seq ?_
  refine AWp.bots ?_
  refine AWp.regionN (fun o => writesB [158] o) rfl ?_
  refine pP rfl ?_
  refine kXf h (fun e h => ⟨mkSt [] [], by cases h; rfl⟩) (fun σ h => .inr h) rfl rfl rfl rfl rfl ⟨.inl rfl, trivial⟩ rfl fun x3 h => ?_
  refine dn (.inl ?_)
  refine AWp.seq ?_
  refine AWp.bots ?_
  refine AWp.regionN (fun o => writesB [209] o) rfl ?_
  refine pP rfl ?_
  refine kXf h (fun e h => ⟨mkSt [] [], by cases h; rfl⟩) (fun σ h => .inr h) rfl rfl rfl rfl rfl trivial rfl fun x4 h => ?_
  refine AOps.lit tabOk (ys := [GTree.out x4.1]) rfl rfl rfl rfl rfl rfl ?_
  rw [show [GTree.out x4.1] = List.map GTree.enc [x4.1] by simp [GTree.enc_out]]
  refine pT rfl (al0 ?_)
  refine st (v := .dat (.st _ _)) ?_
  refine dn (.inl ?_)
  refine AWp.seq ?_
  refine AWp.bots ?_
  refine AWp.regionN (fun o => writesB [159] o) rfl ?_
  refine pP rfl ?_
  refine AOps.lit tabOk (ys := [.v (.string (ByteArray.mk #[41]))]) rfl rfl rfl rfl rfl rfl ?_
  refine kXf h (fun e h => ⟨mkSt [] [], by cases h; rfl⟩) (fun σ h => .inr h) rfl rfl rfl rfl rfl ⟨.inl rfl, trivial⟩ rfl fun x5 h => ?_
  refine dn (.inl ?_)
  refine sW (pT rfl (st (v := .dat (.st _ _)) ?_))
  subst h; exact dn (AWp.ret ⟨_, rfl, rfl, rfl⟩)
def W_parse_parser_neg (p1 : Gparseparser) (Q : Except Gparsestop (GTree × Gparseparser) → Prop) : Prop :=
 Call (Ev_parse_parser_is p1 (ByteArray.mk #[45])) fun x2 =>
 Br x2 (
  CallX (Ev_parse_parser_enter p1 (ByteArray.mk #[45])) (fun e => Q (.error e)) fun x7 =>
  CallX (Ev_parse_parser_neg x7) (fun e => Q (.error e)) fun x8 =>
  Let (IntKind.i64.wrap (x8.2.open_ - (1 : Int))) fun x9 =>
  Q (.ok (({ GTree.zero with Kind := (7 : Int), Kids := [x8.1] }), ({ x8.2 with open_ := x9 })))) (
  CallX (Ev_parse_parser_prime p1) (fun e => Q (.error e)) fun x10 =>
  Call (Ev_parse_parser_take x10.2 (ByteArray.mk #[94])) fun x11 =>
  Br x11.1 (
   CallX (Ev_parse_parser_power x11.2) (fun e => Q (.error e)) fun x14 =>
   Q (.ok (({ GTree.zero with Kind := (12 : Int), N := x14.1, Kids := [x10.1] }), x14.2))) (
   Q (.ok (x10.1, x11.2))))
theorem walk_parse_parser_neg {p1 : Gparseparser} {r : Except Gparsestop (GTree × Gparseparser)} (h : W_parse_parser_neg p1 (fun r' => r' = r)) : Ev_parse_parser_neg p1 r := by
  unfold W_parse_parser_neg at h
  refine AFnB.intro' (L := []) tabOk Tryz.func244 rfl rfl Tryz.ntmps244 rfl rfl rfl (fun b => ?_)
  refine sN (al0 ?_)
  refine dn (AWp.seq (AWp.seq (rN (pP rfl ?_))))
  obtain ⟨x2, hc3, h⟩ := h
  refine AOps.callR hc3 rfl rfl rfl rfl rfl ⟨.inl rfl, trivial⟩ ?_
  refine dn (cB h (fun h => ?_) (fun h => ?_))
  · refine AWp.seq ?_
    refine AWp.bots ?_
    refine AWp.regionN (fun o => writesB [158] o) rfl ?_
    refine pP rfl ?_
    refine kXf h (fun e h => ⟨mkSt [] [], by cases h; rfl⟩) (fun σ h => .inr h) rfl rfl rfl rfl rfl ⟨.inl rfl, trivial⟩ rfl fun x7 h => ?_
    refine dn (.inl ?_)
    refine AWp.seq ?_
    refine AWp.bots ?_
    refine AWp.regionN (fun o => writesB [244] o) rfl ?_
    refine pP rfl ?_
    refine kXf h (fun e h => ⟨mkSt [] [], by cases h; rfl⟩) (fun σ h => .inr h) rfl rfl rfl rfl rfl trivial rfl fun x8 h => ?_
    refine AOps.lit tabOk (ys := [GTree.out x8.1]) rfl rfl rfl rfl rfl rfl ?_
    rw [show [GTree.out x8.1] = List.map GTree.enc [x8.1] by simp [GTree.enc_out]]
    refine pT rfl (al0 ?_)
    refine st (v := .dat (.st _ _)) ?_
    refine dn (.inl ?_)
    refine sW (pP rfl (pP rfl (pP rfl (pI rfl ?_))))
    obtain ⟨x9, ex9, h⟩ := h.get
    refine ai ex9 rfl (pP rfl (pP rfl (st (v := .dat (.v (.int _ _))) ?_)))
    refine dn (sW (pT rfl (st (v := .dat (.st _ _)) ?_)))
    subst h; exact dn (AWp.ret ⟨_, rfl, rfl, rfl⟩)
  refine AWp.skip (AWp.seq ?_)
  refine AWp.bots ?_
  refine AWp.regionN (fun o => writesB [266] o) rfl ?_
  refine pP rfl ?_
  refine kXf h (fun e h => ⟨mkSt [] [], by cases h; rfl⟩) (fun σ h => .inr h) rfl rfl rfl rfl rfl trivial rfl fun x10 h => ?_
  refine al0 ?_
  refine st (v := .dat (.st _ _)) ?_
  refine dn (.inl ?_)
  refine AWp.seq (AWp.seq ?_)
  refine AWp.regionN (fun o => writesB [42] o) rfl ?_
  refine pP rfl ?_
  obtain ⟨x11, hc12, h⟩ := h
  refine AOps.callB hc12 rfl rfl rfl rfl rfl rfl ⟨.inl rfl, trivial⟩ ?_
  refine dn (cB h (fun h => ?_) (fun h => ?_))
  · refine AWp.bots ?_
    refine rF (fun o => writesB [162] o) [(0, [1000000]), (4, [4]), (25, [1000000])] (pP rfl ?_)
    refine kXf h (fun e h => ⟨mkSt [] [], by cases h; rfl⟩) (fun σ h => .inr h) rfl rfl rfl rfl rfl trivial rfl fun x14 h => ?_
    refine pT rfl ?_
    refine AOps.lit tabOk (ys := [GTree.out x10.1]) rfl rfl rfl rfl rfl rfl ?_
    rw [show [GTree.out x10.1] = List.map GTree.enc [x10.1] by simp [GTree.enc_out]]
    refine pT rfl (st (v := .dat (.st _ _)) ?_)
    refine dn (.inl ?_)
    refine sW (pT rfl (st (v := .dat (.st _ _)) ?_))
    subst h; exact dn (AWp.ret ⟨_, rfl, rfl, rfl⟩)
  refine AWp.skip (AWp.seq (rW (pT rfl (st (v := .dat (.st _ _)) ?_))))
  subst h; exact dn (AWp.ret ⟨_, rfl, rfl, rfl⟩)
def W_parse_parser_int_1 (a1 : GRat) (Q : Bool → Prop) : Prop :=
 Br (a1.D == (1 : Int)) (Q (decide (a1.N ≤ (1000000 : Int)))) (
  Q false)
theorem walk_parse_parser_int_1 {a1 : GRat} {r : Bool} (h : W_parse_parser_int_1 a1 (fun r' => r' = r)) : Ev_parse_parser_int_1 a1 r := by
  unfold W_parse_parser_int_1 at h
  refine intr (L := [(0, .dat (GRat.enc a1))]) Tryz.func245 Tryz.ntmps245 ?_
  refine sN (bx (v := .dat (.st _ _)) ?_)
  refine pB rfl (dn (AWp.seq (rN (pP rfl (pI rfl (pB rfl (pB rfl (sB 6 h (fun h => ?_) (fun h => ?_)))))))))
  · refine pP rfl (pI rfl (pB rfl (pB rfl (pB rfl (dn (AWp.ret ?_))))))
    subst h
    exact ⟨_, rfl, rfl⟩
  refine fo 3 rfl (pB rfl (pB rfl (dn (AWp.ret ?_))))
  subst h
  exact ⟨_, rfl, rfl⟩
def W_parse_parser_el (p1 : Gparseparser) (Q : Except Gparsestop (GTree × Gparseparser) → Prop) : Prop :=
 CallX (Ev_parse_parser_name p1) (fun e => Q (.error e)) fun x2 =>
 Call (Ev_parse_parser_take x2.2 (ByteArray.mk #[91])) fun x3 =>
 Br (!x3.1) (Q (.ok (({ GTree.zero with Kind := (3 : Int), Name := x2.1 }), x3.2))) (
  Call (Ev_parse_parser_now x3.2) fun x5 =>
  Join2 (fun j38 =>
   Br (x5.Kind == (3 : Int)) (
    CallX (Ev_parse_parser_int x3.2) (fun e => Q (.error e)) fun x39 =>
    Call (Ev_parse_whole x39.1) fun x40 =>
    j38 x39.2 ({ GTree.zero with Kind := (3 : Int), Name := x2.1, Kids := [x40] })) (
    CallX (Ev_parse_parser_name x3.2) (fun e => Q (.error e)) fun x42 =>
    Join2 (fun j55 =>
     Call (Ev_parse_parser_take x42.2 (ByteArray.mk #[43])) fun x56 =>
     Br x56.1 (
      CallX (Ev_parse_parser_int x56.2) (fun e => Q (.error e)) fun x58 =>
      Call (Ev_parse_whole x58.1) fun x59 =>
      j55 x58.2 ({ GTree.zero with Kind := (8 : Int), Kids := [({ GTree.zero with Kind := (2 : Int), Kids := [({ GTree.zero with Kind := (3 : Int), Name := x42.1 })] }), x59] })) (
      Call (Ev_parse_parser_take x56.2 (ByteArray.mk #[45])) fun x61 =>
      Br x61.1 (
       CallX (Ev_parse_parser_int x61.2) (fun e => Q (.error e)) fun x63 =>
       Call (Ev_parse_whole x63.1) fun x64 =>
       j55 x63.2 ({ GTree.zero with Kind := (9 : Int), Kids := [({ GTree.zero with Kind := (2 : Int), Kids := [({ GTree.zero with Kind := (3 : Int), Name := x42.1 })] }), x64] })) (
       j55 x61.2 ({ GTree.zero with Kind := (2 : Int), Kids := [({ GTree.zero with Kind := (3 : Int), Name := x42.1 })] })))
    ) (fun (p53 : Gparseparser) (i54 : GTree) =>
     j38 p53 ({ GTree.zero with Kind := (3 : Int), Name := x2.1, Kids := [i54] })))
  ) (fun (p36 : Gparseparser) (t37 : GTree) =>
   CallX (Ev_parse_parser_must p36 ([(ByteArray.mk #[93])])) (fun e => Q (.error e)) fun x68 =>
   Q (.ok (t37, x68))))
theorem walk_parse_parser_el {p1 : Gparseparser} {r : Except Gparsestop (GTree × Gparseparser)} (h : W_parse_parser_el p1 (fun r' => r' = r)) : Ev_parse_parser_el p1 r := by
  unfold W_parse_parser_el at h
  refine AFnB.intro' (L := []) tabOk Tryz.func246 rfl rfl Tryz.ntmps246 rfl rfl rfl (fun b => ?_)
  refine sN (al0 ?_)
  refine dn (AWp.seq ?_)
  refine AWp.bots ?_
  refine AWp.regionN (fun o => writesB [43] o) rfl ?_
  refine pP rfl ?_
  refine kXf h (fun e h => ⟨mkSt [] [], by cases h; rfl⟩) (fun σ h => .inr h) rfl rfl rfl rfl rfl trivial rfl fun x2 h => ?_
  refine pT rfl (al0 ?_)
  refine st (v := .dat (.st _ _)) ?_
  refine dn (.inl ?_)
  refine AWp.seq (AWp.seq ?_)
  refine AWp.regionN (fun o => writesB [42] o) rfl ?_
  refine pP rfl ?_
  obtain ⟨x3, hc4, h⟩ := h
  refine AOps.callB hc4 rfl rfl rfl rfl rfl rfl ⟨.inl rfl, trivial⟩ ?_
  refine pB rfl (dn (cB h (fun h => ?_) (fun h => ?_)))
  · refine sW (pT rfl (st (v := .dat (.st _ _)) ?_))
    subst h; exact dn (AWp.ret ⟨_, rfl, rfl, rfl⟩)
  refine AWp.skip (AWp.seq (AWp.seq (rN (pP rfl ?_))))
  obtain ⟨x5, hc6, h⟩ := h
  refine AOps.callR hc6 rfl rfl rfl rfl rfl trivial ?_
  refine pI rfl (pB rfl (dn ?_))
  obtain ⟨J69, h, hk70⟩ := h
  refine AWp.cutK (I := fun p : Gparseparser × GTree => mkSt [(0, .pt 1000000 [] 0), (2, .pt 2 [] 0), (3, .pt 3 [] 0)] [(2, .box 26 9 (.dat (GTree.out GTree.zero))), (3, .box 26 9 (.dat (GTree.out p.2))), (1000000, .box 51 3 (.dat (Gparseparser.enc p.1)))]) (Inv := fun p : Gparseparser × GTree => J69 p.1 p.2) ?_ (fun p hp => ?_)
  · refine cB h (fun h => ?_) (fun h => ?_)
    · refine AWp.bots ?_
      refine AWp.regionN (fun o => writesB [207] o) rfl ?_
      refine pP rfl ?_
      refine kXf h (fun e h => ⟨mkSt [] [], by cases h; rfl⟩) (fun σ h => .inr h) rfl rfl rfl rfl rfl trivial rfl fun x39 h => ?_
      refine kC h rfl ⟨.inl rfl, trivial⟩ rfl fun x40 h => ?_
      refine AOps.lit tabOk (ys := [GTree.out x40]) rfl rfl rfl rfl rfl rfl ?_
      rw [show [GTree.out x40] = List.map GTree.enc [x40] by simp [GTree.enc_out]]
      refine pP rfl (st (v := .dat (.sl _ _ _)) ?_)
      refine dn (.inl ?_)
      exact ⟨⟨x39.2, ({ GTree.zero with Kind := (3 : Int), Name := x2.1, Kids := [x40] })⟩, h, sl⟩
    refine AWp.seq ?_
    refine AWp.bots ?_
    refine AWp.regionN (fun o => writesB [43] o) rfl ?_
    refine pP rfl ?_
    refine kXf h (fun e h => ⟨mkSt [] [], by cases h; rfl⟩) (fun σ h => .inr h) rfl rfl rfl rfl rfl trivial rfl fun x42 h => ?_
    refine pT rfl ?_
    refine AOps.lit tabOk (ys := [GTree.out ({ GTree.zero with Kind := (3 : Int), Name := x42.1 })]) rfl rfl rfl rfl rfl rfl ?_
    rw [show [GTree.out ({ GTree.zero with Kind := (3 : Int), Name := x42.1 })] = List.map GTree.enc [({ GTree.zero with Kind := (3 : Int), Name := x42.1 })] by simp [GTree.enc_out]]
    refine pT rfl (al0 ?_)
    refine st (v := .dat (.st _ _)) ?_
    refine dn (.inl ?_)
    refine AWp.seq ?_
    obtain ⟨J66, h, hk67⟩ := h
    refine AWp.cutK (I := fun p : Gparseparser × GTree => mkSt [(0, .pt 1000000 [] 0), (2, .pt 2 [] 0), (3, .pt 3 [] 0), (4, .pt 4 [] 0)] [(2, .box 26 9 (.dat (GTree.out GTree.zero))), (3, .box 26 9 (.dat (GTree.out ({ GTree.zero with Kind := (3 : Int), Name := x2.1 })))), (4, .box 26 9 (.dat (GTree.out p.2))), (1000000, .box 51 3 (.dat (Gparseparser.enc p.1)))]) (Inv := fun p : Gparseparser × GTree => J66 p.1 p.2) ?_ (fun p hp => ?_)
    · refine AWp.block (AWp.seq ?_)
      refine AWp.regionN (fun o => writesB [42] o) rfl ?_
      refine pP rfl ?_
      obtain ⟨x56, hc57, h⟩ := h
      refine AOps.callB hc57 rfl rfl rfl rfl rfl rfl ⟨.inl rfl, trivial⟩ ?_
      refine pB rfl (dn (cB h (fun h => ?_) (fun h => ?_)))
      · refine AWp.bots ?_
        refine rF (fun o => writesB [207] o) [(0, [1000000]), (4, [4]), (30, [1000000])] (pT rfl (pP rfl ?_))
        refine kXf h (fun e h => ⟨mkSt [] [], by cases h; rfl⟩) (fun σ h => .inr h) rfl rfl rfl rfl rfl trivial rfl fun x58 h => ?_
        refine kC h rfl ⟨.inl rfl, trivial⟩ rfl fun x59 h => ?_
        refine AOps.lit tabOk (ys := [GTree.out ({ GTree.zero with Kind := (2 : Int), Kids := [({ GTree.zero with Kind := (3 : Int), Name := x42.1 })] }), GTree.out x59]) rfl rfl rfl rfl rfl rfl ?_
        rw [show [GTree.out ({ GTree.zero with Kind := (2 : Int), Kids := [({ GTree.zero with Kind := (3 : Int), Name := x42.1 })] }), GTree.out x59] = List.map GTree.enc [({ GTree.zero with Kind := (2 : Int), Kids := [({ GTree.zero with Kind := (3 : Int), Name := x42.1 })] }), x59] by simp [GTree.enc_out]]
        refine pT rfl (st (v := .dat (.st _ _)) ?_)
        refine dn (.inl ?_)
        exact ⟨⟨x58.2, ({ GTree.zero with Kind := (8 : Int), Kids := [({ GTree.zero with Kind := (2 : Int), Kids := [({ GTree.zero with Kind := (3 : Int), Name := x42.1 })] }), x59] })⟩, h, sl⟩
      refine AWp.seq ?_
      refine AWp.regionN (fun o => writesB [42] o) rfl ?_
      refine pP rfl ?_
      obtain ⟨x61, hc62, h⟩ := h
      refine AOps.callB hc62 rfl rfl rfl rfl rfl rfl ⟨.inl rfl, trivial⟩ ?_
      refine pB rfl (dn (cB h (fun h => ?_) (fun h => ?_)))
      · refine AWp.bots ?_
        refine rF (fun o => writesB [207] o) [(0, [1000000]), (4, [4]), (39, [1000000])] (pT rfl (pP rfl ?_))
        refine kXf h (fun e h => ⟨mkSt [] [], by cases h; rfl⟩) (fun σ h => .inr h) rfl rfl rfl rfl rfl trivial rfl fun x63 h => ?_
        refine kC h rfl ⟨.inl rfl, trivial⟩ rfl fun x64 h => ?_
        refine AOps.lit tabOk (ys := [GTree.out ({ GTree.zero with Kind := (2 : Int), Kids := [({ GTree.zero with Kind := (3 : Int), Name := x42.1 })] }), GTree.out x64]) rfl rfl rfl rfl rfl rfl ?_
        rw [show [GTree.out ({ GTree.zero with Kind := (2 : Int), Kids := [({ GTree.zero with Kind := (3 : Int), Name := x42.1 })] }), GTree.out x64] = List.map GTree.enc [({ GTree.zero with Kind := (2 : Int), Kids := [({ GTree.zero with Kind := (3 : Int), Name := x42.1 })] }), x64] by simp [GTree.enc_out]]
        refine pT rfl (st (v := .dat (.st _ _)) ?_)
        refine dn (.inl ?_)
        exact ⟨⟨x63.2, ({ GTree.zero with Kind := (9 : Int), Kids := [({ GTree.zero with Kind := (2 : Int), Kids := [({ GTree.zero with Kind := (3 : Int), Name := x42.1 })] }), x64] })⟩, h, sl⟩
      refine AWp.skip ?_
      exact ⟨⟨x61.2, ({ GTree.zero with Kind := (2 : Int), Kids := [({ GTree.zero with Kind := (3 : Int), Name := x42.1 })] })⟩, h, sl⟩
    obtain ⟨p53, i54⟩ := p
    replace h := hk67 p53 i54 hp
    refine rW (pT rfl ?_)
    refine AOps.lit tabOk (ys := [GTree.out i54]) rfl rfl rfl rfl rfl rfl ?_
    rw [show [GTree.out i54] = List.map GTree.enc [i54] by simp [GTree.enc_out]]
    refine pP rfl (st (v := .dat (.sl _ _ _)) ?_)
    refine dn ?_
    exact ⟨⟨p53, ({ GTree.zero with Kind := (3 : Int), Name := x2.1, Kids := [i54] })⟩, h, sl⟩
  obtain ⟨p36, t37⟩ := p
  replace h := hk70 p36 t37 hp
  refine AWp.seq ?_
  refine AWp.bots ?_
  refine AWp.regionN (fun o => writesB [45] o) rfl ?_
  refine pP rfl ?_
  refine AOps.lit tabOk (ys := [.v (.string (ByteArray.mk #[93]))]) rfl rfl rfl rfl rfl rfl ?_
  refine kXf h (fun e h => ⟨mkSt [] [], by cases h; rfl⟩) (fun σ h => .inr h) rfl rfl rfl rfl rfl ⟨.inl rfl, trivial⟩ rfl fun x68 h => ?_
  refine dn (.inl ?_)
  refine sW (pT rfl (st (v := .dat (.st _ _)) ?_))
  subst h; exact dn (AWp.ret ⟨_, rfl, rfl, rfl⟩)
def W_parse_parser_prime (x1 : Gparseparser) (Q : Except Gparsestop (GTree × Gparseparser) → Prop) : Prop :=
 Call (Ev_parse_parser_now x1) fun x33 =>
 Br (x33.Kind == (3 : Int)) (
  CallX (Ev_parse_parser_number x1 Fn_parse_decimal) (fun e => Q (.error e)) fun x35 =>
  Q (.ok (({ GTree.zero with Kind := (1 : Int), Num := x35.1 }), x35.2))) (
  Call (Ev_parse_parser_take x1 (ByteArray.mk #[116, 105, 109, 101])) fun x36 =>
  Br x36.1 (Q (.ok (({ GTree.zero with Kind := (5 : Int) }), x36.2))) (
   Call (Ev_parse_parser_is x36.2 (ByteArray.mk #[100, 101, 114])) fun x38 =>
   Br x38 (
    CallX (Ev_parse_parser_der x36.2) (fun e => Q (.error e)) fun x40 =>
    Q (.ok (x40.1, x40.2))) (
    Call (Ev_parse_parser_is x36.2 (ByteArray.mk #[40])) fun x41 =>
    Br x41 (
     CallX (Ev_parse_parser_enter x36.2 (ByteArray.mk #[40])) (fun e => Q (.error e)) fun x43 =>
     CallX (Ev_parse_parser_expr x43) (fun e => Q (.error e)) fun x44 =>
     CallX (Ev_parse_parser_leave x44.2 ([(ByteArray.mk #[41])])) (fun e => Q (.error e)) fun x45 =>
     Q (.ok (x44.1, x45))) (
     Call (Ev_parse_parser_now x36.2) fun x46 =>
     Br (x46.Kind == (2 : Int)) (
      Call (Ev_parse_functions) fun x48 =>
      Call (Ev_parse_parser_now x36.2) fun x50 =>
      Call (Ev_slices_Index_string x48 x50.S) fun x52 =>
      Join1 (fun j56 =>
       Br (decide (x52 < (0 : Int))) (
        CallX (Ev_parse_parser_fail x36.2) (fun e => Q (.error e)) fun x57 =>
        j56 x57) (
        j56 x36.2)
      ) (fun (x55 : Gparseparser) =>
       Let (IntKind.i64.wrap (x55.i_ + (1 : Int))) fun x58 =>
       CallX (Ev_parse_parser_enter ({ x55 with i_ := x58 }) (ByteArray.mk #[40])) (fun e => Q (.error e)) fun x59 =>
       CallX (Ev_parse_parser_expr x59) (fun e => Q (.error e)) fun x60 =>
       CallX (Ev_parse_parser_leave x60.2 ([(ByteArray.mk #[41])])) (fun e => Q (.error e)) fun x61 =>
       Q (.ok (({ GTree.zero with Kind := (6 : Int), N := x52, Kids := [x60.1] }), x61)))) (
      CallX (Ev_parse_parser_ref x36.2) (fun e => Q (.error e)) fun x64 =>
      Q (.ok (x64.1, x64.2)))))))
theorem walk_parse_parser_prime {x1 : Gparseparser} {r : Except Gparsestop (GTree × Gparseparser)} (h : W_parse_parser_prime x1 (fun r' => r' = r)) : Ev_parse_parser_prime x1 r := by
  unfold W_parse_parser_prime at h
  refine AFnB.intro' (L := []) tabOk Tryz.func266 rfl rfl Tryz.ntmps266 rfl rfl rfl (fun b => ?_)
  refine sN (al0 ?_)
  refine dn (AWp.seq (AWp.block (AWp.seq (rN (pP rfl ?_)))))
  obtain ⟨x33, hc34, h⟩ := h
  refine AOps.callR hc34 rfl rfl rfl rfl rfl trivial ?_
  refine pI rfl (pB rfl (pB rfl (dn (cB h (fun h => ?_) (fun h => ?_)))))
  · refine AWp.seq ?_
    refine AWp.bots ?_
    refine AWp.regionN (fun o => writesB [160] o) rfl ?_
    refine pP rfl ?_
    refine kXf h (fun e h => ⟨mkSt [] [], by cases h; rfl⟩) (fun σ h => .inr h) rfl rfl rfl rfl rfl ⟨.inl rfl, trivial⟩ rfl fun x35 h => ?_
    refine pT rfl (st (v := .dat (.st _ _)) ?_)
    refine dn (.inl ?_)
    subst h; exact AWp.ret ⟨_, rfl, rfl, rfl⟩
  refine AWp.seq ?_
  refine AWp.regionN (fun o => writesB [42] o) rfl ?_
  refine pP rfl ?_
  obtain ⟨x36, hc37, h⟩ := h
  refine AOps.callB hc37 rfl rfl rfl rfl rfl rfl ⟨.inl rfl, trivial⟩ ?_
  refine pB rfl (dn (cB h (fun h => ?_) (fun h => ?_)))
  · refine sW (pT rfl (st (v := .dat (.st _ _)) ?_))
    subst h; exact dn (AWp.ret ⟨_, rfl, rfl, rfl⟩)
  refine sN (pP rfl ?_)
  obtain ⟨x38, hc39, h⟩ := h
  refine AOps.callR hc39 rfl rfl rfl rfl rfl ⟨.inl rfl, trivial⟩ ?_
  refine pB rfl (dn (cB h (fun h => ?_) (fun h => ?_)))
  · refine AWp.seq ?_
    refine AWp.bots ?_
    refine AWp.regionN (fun o => writesB [208] o) rfl ?_
    refine pP rfl ?_
    refine kXf h (fun e h => ⟨mkSt [] [], by cases h; rfl⟩) (fun σ h => .inr h) rfl rfl rfl rfl rfl trivial rfl fun x40 h => ?_
    refine st (v := .dat (.st _ _)) ?_
    refine dn (.inl ?_)
    subst h; exact AWp.ret ⟨_, rfl, rfl, rfl⟩
  refine sN (pP rfl ?_)
  obtain ⟨x41, hc42, h⟩ := h
  refine AOps.callR hc42 rfl rfl rfl rfl rfl ⟨.inl rfl, trivial⟩ ?_
  refine pB rfl (dn (cB h (fun h => ?_) (fun h => ?_)))
  · refine AWp.seq ?_
    refine AWp.bots ?_
    refine AWp.regionN (fun o => writesB [158] o) rfl ?_
    refine pP rfl ?_
    refine kXf h (fun e h => ⟨mkSt [] [], by cases h; rfl⟩) (fun σ h => .inr h) rfl rfl rfl rfl rfl ⟨.inl rfl, trivial⟩ rfl fun x43 h => ?_
    refine dn (.inl ?_)
    refine AWp.seq ?_
    refine AWp.bots ?_
    refine AWp.regionN (fun o => writesB [166] o) rfl ?_
    refine pP rfl ?_
    refine kXf h (fun e h => ⟨mkSt [] [], by cases h; rfl⟩) (fun σ h => .inr h) rfl rfl rfl rfl rfl trivial rfl fun x44 h => ?_
    refine al0 ?_
    refine st (v := .dat (.st _ _)) ?_
    refine dn (.inl ?_)
    refine AWp.seq ?_
    refine AWp.bots ?_
    refine AWp.regionN (fun o => writesB [159] o) rfl ?_
    refine pP rfl ?_
    refine AOps.lit tabOk (ys := [.v (.string (ByteArray.mk #[41]))]) rfl rfl rfl rfl rfl rfl ?_
    refine kXf h (fun e h => ⟨mkSt [] [], by cases h; rfl⟩) (fun σ h => .inr h) rfl rfl rfl rfl rfl ⟨.inl rfl, trivial⟩ rfl fun x45 h => ?_
    refine dn (.inl ?_)
    refine sW (pT rfl (st (v := .dat (.st _ _)) ?_))
    subst h; exact dn (AWp.ret ⟨_, rfl, rfl, rfl⟩)
  refine sN (pP rfl ?_)
  obtain ⟨x46, hc47, h⟩ := h
  refine AOps.callR hc47 rfl rfl rfl rfl rfl trivial ?_
  refine pI rfl (pB rfl (pB rfl (dn (cB h (fun h => ?_) (fun h => ?_)))))
  · refine sN (kC h rfl trivial rfl fun x48 h => ?_)
    refine pP rfl ?_
    obtain ⟨x50, hc51, h⟩ := h
    refine AOps.callR hc51 rfl rfl rfl rfl rfl trivial ?_
    refine pG rfl (kC h rfl ⟨.inl rfl, .inl rfl, trivial⟩ rfl fun x52 h => ?_)
    refine pI rfl (dn (AWp.seq (AWp.seq (rN (pI rfl (pB rfl (dn ?_)))))))
    obtain ⟨J62, h, hk63⟩ := h
    refine AWp.cutK (I := fun p : Gparseparser => mkSt [(0, .pt 1000000 [] 0), (2, .pt 2 [] 0), (4, .dat (.v (.int .i64 x52)))] [(2, .box 26 9 (.dat (GTree.out GTree.zero))), (1000000, .box 51 3 (.dat (Gparseparser.enc p)))]) (Inv := fun p : Gparseparser => J62 p) ?_ (fun p hp => ?_)
    · refine cB h (fun h => ?_) (fun h => ?_)
      · refine AWp.bots ?_
        refine AWp.regionN (fun o => writesB [47] o) rfl ?_
        refine pP rfl ?_
        refine kXf h (fun e h => ⟨mkSt [] [], by cases h; rfl⟩) (fun σ h => .inr h) rfl rfl rfl rfl rfl trivial rfl fun x57 h => ?_
        refine dn (.inl ?_)
        exact ⟨x57, h, sl⟩
      refine AWp.skip ?_
      exact ⟨x36.2, h, sl⟩
    replace h := hk63 p hp
    revert h; clear hp; generalize p = x55; intro h
    refine sW (pP rfl (pP rfl (pP rfl (pI rfl ?_))))
    obtain ⟨x58, ex58, h⟩ := h.get
    refine ai ex58 rfl (pP rfl (pP rfl (st (v := .dat (.v (.int _ _))) ?_)))
    refine dn (AWp.seq ?_)
    refine AWp.bots ?_
    refine AWp.regionN (fun o => writesB [158] o) rfl ?_
    refine pP rfl ?_
    refine kXf h (fun e h => ⟨mkSt [] [], by cases h; rfl⟩) (fun σ h => .inr h) rfl rfl rfl rfl rfl ⟨.inl rfl, trivial⟩ rfl fun x59 h => ?_
    refine dn (.inl ?_)
    refine AWp.seq ?_
    refine AWp.bots ?_
    refine AWp.regionN (fun o => writesB [166] o) rfl ?_
    refine pI rfl (pP rfl ?_)
    refine kXf h (fun e h => ⟨mkSt [] [], by cases h; rfl⟩) (fun σ h => .inr h) rfl rfl rfl rfl rfl trivial rfl fun x60 h => ?_
    refine AOps.lit tabOk (ys := [GTree.out x60.1]) rfl rfl rfl rfl rfl rfl ?_
    rw [show [GTree.out x60.1] = List.map GTree.enc [x60.1] by simp [GTree.enc_out]]
    refine pT rfl (al0 ?_)
    refine st (v := .dat (.st _ _)) ?_
    refine dn (.inl ?_)
    refine AWp.seq ?_
    refine AWp.bots ?_
    refine AWp.regionN (fun o => writesB [159] o) rfl ?_
    refine pP rfl ?_
    refine AOps.lit tabOk (ys := [.v (.string (ByteArray.mk #[41]))]) rfl rfl rfl rfl rfl rfl ?_
    refine kXf h (fun e h => ⟨mkSt [] [], by cases h; rfl⟩) (fun σ h => .inr h) rfl rfl rfl rfl rfl ⟨.inl rfl, trivial⟩ rfl fun x61 h => ?_
    refine dn (.inl ?_)
    refine sW (pT rfl (st (v := .dat (.st _ _)) ?_))
    subst h; exact dn (AWp.ret ⟨_, rfl, rfl, rfl⟩)
  refine AWp.skip (AWp.seq ?_)
  refine AWp.bots ?_
  refine AWp.regionN (fun o => writesB [209] o) rfl ?_
  refine pP rfl ?_
  refine kXf h (fun e h => ⟨mkSt [] [], by cases h; rfl⟩) (fun σ h => .inr h) rfl rfl rfl rfl rfl trivial rfl fun x64 h => ?_
  refine st (v := .dat (.st _ _)) ?_
  refine dn (.inl ?_)
  subst h; exact AWp.ret ⟨_, rfl, rfl, rfl⟩
def W_parse_whole (n1 : Int) (Q : GTree → Prop) : Prop :=
 Q ({ GTree.zero with Kind := (1 : Int), Num := (GRat.mk n1 (1 : Int)) })
theorem walk_parse_whole {n1 : Int} {r : GTree} (h : W_parse_whole n1 (fun r' => r' = r)) : Ev_parse_whole n1 r := by
  unfold W_parse_whole at h
  refine intr (L := [(0, .dat (.v (.int .i64 n1)))]) Tryz.func267 Tryz.ntmps267 ?_
  refine sN (al0 ?_)
  refine dn (sW (pI rfl (pT rfl (pT rfl (st (v := .dat (.st _ _)) ?_)))))
  subst h; exact dn (AWp.ret ⟨_, rfl, rfl⟩)
end Go.Sim.YtnnfiohdkobkdaaGreatDoor
