/- What is proved: functions of the program compute what plain statements tell. -/
import Derived.Test.YtifjflhnfjhijaaGreatDoorZPSWE
import Derived.Test.YtifjflhnfjhijaaGreatDoorZPSSimR

namespace Go.Sim.YtifjflhnfjhijaaGreatDoor
open Go.RowKit Go.Proofs Go.Proofs.Tryz
set_option maxRecDepth 100000
def q6q (p1 : Gparseparser) (Q : Except Gparsestop (GTree × Gparseparser) -> Prop) : Prop :=
 CallX (q3q p1) (fun e => Q (.error e)) fun x2 =>
 Loop2 x2.2 ([x2.1]) (fun (p30 : Gparseparser) (t31 : List GTree) next32 =>
 Call (q02 p30 (ByteArray.mk #[46])) fun x33 =>
 Br x33.1 (
 CallX (q3q x33.2) (fun e => Q (.error e)) fun x35 =>
 App 104 t31 ([x35.1]) fun x36 =>
 next32 x35.2 x36) (
 Q (.ok (({ GTree.zero with Kind := (2 : Int), Kids := t31 }), x33.2))))
theorem qCd {p1 : Gparseparser} {r : Except Gparsestop (GTree × Gparseparser)} (h : q6q p1 (fun r' => r' = r)) : q18 p1 r := by
 unfold q6q at h
 refine AFnB.intro' (L := []) q01 Tryz.func119 rfl rfl Tryz.ntmps119 rfl rfl rfl (fun b => ?_)
 refine sN (al0 ?_)
 refine dn (AWp.seq ?_)
 refine AWp.bots ?_
 refine AWp.regionN (fun o => q00 [148] o) rfl ?_
 refine pP rfl (kXf h rfl trivial rfl fun x2 h => ?_)
 refine AOps.litown q01 (ys := [GTree.out x2.1]) rfl rfl rfl rfl rfl rfl rfl rfl ?_
 rw [show [GTree.out x2.1] = List.map GTree.enc [x2.1] by simp [GTree.enc_out]]
 refine pV rfl (al0 ?_)
 refine st (v := .st _ _) ?_
 refine dn (.inl ?_)
 refine AWp.seq (AWp.block ?_)
 obtain ⟨I37, x38, hz39, hr40⟩ := h
 refine AWp.loop (I := fun p : Gparseparser × (List GTree) => mkSt [(0, .pt 1000000 [] 0), (2, .pt 2 [] 0), (3, .pt 3 [] 0)] [(2, .box 26 9 (.dat (GTree.out GTree.zero))), (3, .box 26 9 (.st [1, 1, 1, 1, 1, 1, 2, 1] [.dat (.v (.int .i64 (2 : Int))), .dat (.v (.string (ByteArray.mk #[]))), .dat (.v (.string (ByteArray.mk #[]))), .dat (.v (.int .i64 (0 : Int))), .dat (.v (.int .i64 (0 : Int))), .dat (.v (.bool false)), .dat (GRat.enc GRat.zero), .oref 3003])), (3003, .row 26 9 (List.map GTree.enc p.2)), (1000000, .box 39 3 (.dat (Gparseparser.enc p.1)))]) (Inv := fun p => I37 p.1 p.2) (μ := fun p => x38 p.1 p.2) (x0 := ⟨x2.2, ([x2.1])⟩) hz39 (slf (fun i => (if Nat.beq i 3003 then 6 else i))) (fun p hp => ?_)
 obtain ⟨p30, t31⟩ := p
 have h := hr40 p30 t31 hp
 refine AWp.seq (AWp.seq ?_)
 refine AWp.regionN (fun o => q00 [20] o) rfl ?_
 refine pP rfl (kB h rfl ⟨.inl rfl, trivial⟩ fun x33 h => ?_)
 refine dn (cB h (fun h => ?_) (fun h => ?_))
 ·refine AWp.skip (AWp.block ?_)
  refine AWp.bots ?_
  refine rF (fun o => q00 [148] o) [(0, [1000000]), (3, [3]), (10, [3]), (12, [1000000]), (14, [14]), (15, [15]), (16, [3])] (pP rfl (pO rfl (pP rfl (kXf h rfl trivial rfl fun x35 h => ?_))))
  refine AOps.lit q01 (ys := [GTree.out x35.1]) rfl rfl rfl rfl rfl rfl ?_
  rw [show [GTree.out x35.1] = List.map GTree.enc [x35.1] by simp [GTree.enc_out]]
  obtain ⟨h1, h2, x36, ex36, h⟩ := h.get
  refine AOps.append q01 rfl rfl rfl rfl rfl rfl rfl rfl rfl rfl rfl (.inl ⟨_, rfl⟩) (app1 h1) (app2 h2) (app3 ex36) ?_
  refine pP rfl (st (v := .oref _) ?_)
  refine dn (.inl ?_)
  exact ⟨⟨x35.2, x36⟩, h.1, h.2, (slf (fun i => (if Nat.beq i 3003 then 15 else i)))⟩
 refine AWp.exit ?_
 refine AWp.seq ?_
 refine AWp.freezeB 3 3003 7 rfl rfl rfl rfl rfl ?_
 refine rW (pT rfl (st (v := .dat (.st _ _)) ?_))
 subst h; exact dn (AWp.ret ⟨_, rfl, rfl, rfl⟩)
def q6r (p1 : Gparseparser) (part2 : Nat) (one3 : ByteArray) (kind4 : Int) (other5 : ByteArray) (second6 : Int) (Q : Except Gparsestop (GTree × Gparseparser) -> Prop) : Prop :=
 CallX (fun r' : Except Gparsestop (GTree × Gparseparser) => AFnB prog part2 39 3 (Gparseparser.enc p1) [] (oX (fun r : GTree × Gparseparser => GTree.out r.1) stV r') (bX (fun r : GTree × Gparseparser => Gparseparser.enc r.2) (Gparseparser.enc p1) r')) (fun e => Q (.error e)) fun x7 =>
 Loop2 x7.2 x7.1 (fun (p25 : Gparseparser) (t26 : GTree) next27 =>
 q3r (fun j34 =>
 Call (q02 p25 one3) fun x35 =>
 Br x35.1 (j34 x35.2 kind4) (
 Call (q02 x35.2 other5) fun x37 =>
 Br x37.1 (j34 x37.2 second6) (
 Q (.ok (t26, x37.2))))
 ) (fun (p32 : Gparseparser) (k33 : Int) =>
 CallX (fun r' : Except Gparsestop (GTree × Gparseparser) => AFnB prog part2 39 3 (Gparseparser.enc p32) [] (oX (fun r : GTree × Gparseparser => GTree.out r.1) stV r') (bX (fun r : GTree × Gparseparser => Gparseparser.enc r.2) (Gparseparser.enc p32) r')) (fun e => Q (.error e)) fun x39 =>
 next27 x39.2 ({ GTree.zero with Kind := k33, Kids := [t26, x39.1] })))
theorem qCe {p1 : Gparseparser} {part2 : Nat} {one3 : ByteArray} {kind4 : Int} {other5 : ByteArray} {second6 : Int} {r : Except Gparsestop (GTree × Gparseparser)} (h : q6r p1 part2 one3 kind4 other5 second6 (fun r' => r' = r)) : q1u p1 part2 one3 kind4 other5 second6 r := by
 unfold q6r at h
 refine AFnM.intro' (L := [(2, .dat (.v (.string one3))), (3, .dat (.v (.int .i64 kind4))), (4, .dat (.v (.string other5))), (5, .dat (.v (.int .i64 second6)))]) q01 Tryz.func54 rfl rfl Tryz.ntmps54 rfl rfl rfl (fun b => ?_)
 refine sN (al0 ?_)
 refine dn (AWp.seq ?_)
 refine AWp.bots ?_
 refine AWp.regionN (fun o => qR3 [] o) rfl ?_
 refine pH rfl ?_
 refine kXv h (fun e h => ⟨mkSt [] [], by cases h; rfl⟩) (fun σ h => .inr h) rfl rfl rfl rfl rfl trivial rfl fun x7 h => ?_
 refine al0 ?_
 refine st (v := .dat (.st _ _)) ?_
 refine dn (.inl ?_)
 refine AWp.block ?_
 obtain ⟨I42, x43, hz44, hr45⟩ := h
 refine AWp.loop (I := fun p : Gparseparser × GTree => mkSt [(0, .pt 1000000 [] 0), (1, .fb part2 [1000000] []), (2, .dat (.v (.string one3))), (3, .dat (.v (.int .i64 kind4))), (4, .dat (.v (.string other5))), (5, .dat (.v (.int .i64 second6))), (12, .pt 12 [] 0), (13, .pt 13 [] 0)] [(12, .box 26 9 (.dat (GTree.out GTree.zero))), (13, .box 26 9 (.dat (GTree.out p.2))), (1000000, .box 39 3 (.dat (Gparseparser.enc p.1)))]) (Inv := fun p => I42 p.1 p.2) (μ := fun p => x43 p.1 p.2) (x0 := ⟨x7.2, x7.1⟩) hz44 sl (fun p hp => ?_)
 obtain ⟨p25, t26⟩ := p
 have h := hr45 p25 t26 hp
 refine AWp.block (AWp.seq (rN (pI rfl (dn (AWp.seq ?_)))))
 obtain ⟨J40, h, hk41⟩ := h
 refine AWp.cutK (I := fun p : Gparseparser × Int => mkSt [(0, .pt 1000000 [] 0), (1, .fb part2 [1000000] []), (2, .dat (.v (.string one3))), (3, .dat (.v (.int .i64 kind4))), (4, .dat (.v (.string other5))), (5, .dat (.v (.int .i64 second6))), (12, .pt 12 [] 0), (13, .pt 13 [] 0), (14, .dat (.v (.int .i64 p.2)))] [(12, .box 26 9 (.dat (GTree.out GTree.zero))), (13, .box 26 9 (.dat (GTree.out t26))), (1000000, .box 39 3 (.dat (Gparseparser.enc p.1)))]) (Inv := fun p : Gparseparser × Int => J40 p.1 p.2) ?_ (fun p hp => ?_)
 ·refine AWp.block (AWp.seq ?_)
  refine AWp.regionN (fun o => q00 [20] o) rfl ?_
  refine pP rfl (pG rfl (kB h rfl ⟨.inl rfl, trivial⟩ fun x35 h => ?_))
  refine pB rfl (dn (cB h (fun h => ?_) (fun h => ?_)))
  ·refine rN (pI rfl (pI rfl (dn ?_)))
   exact ⟨⟨x35.2, kind4⟩, h, sl⟩
  refine AWp.seq ?_
  refine AWp.regionN (fun o => q00 [20] o) rfl ?_
  refine pP rfl (pG rfl (kB h rfl ⟨.inl rfl, trivial⟩ fun x37 h => ?_))
  refine pB rfl (dn (cB h (fun h => ?_) (fun h => ?_)))
  ·refine rN (pI rfl (pI rfl (dn ?_)))
   exact ⟨⟨x37.2, second6⟩, h, sl⟩
  refine sW (pT rfl (st (v := .dat (.st _ _)) ?_))
  subst h; exact dn (AWp.ret ⟨_, rfl, rfl, rfl⟩)
 obtain ⟨p32, k33⟩ := p
 replace h := hk41 p32 k33 hp
 refine AWp.bots ?_
 refine rF (fun o => qR3 [] o) [(1, [1000000]), (13, [13]), (30, [1000000])] (pI rfl (pT rfl (pH rfl ?_)))
 refine kXv h (fun e h => ⟨mkSt [] [], by cases h; rfl⟩) (fun σ h => .inr h) rfl rfl rfl rfl rfl trivial rfl fun x39 h => ?_
 refine AOps.lit q01 (ys := [GTree.out t26, GTree.out x39.1]) rfl rfl rfl rfl rfl rfl ?_
 rw [show [GTree.out t26, GTree.out x39.1] = List.map GTree.enc [t26, x39.1] by simp [GTree.enc_out]]
 refine pT rfl (st (v := .dat (.st _ _)) ?_)
 refine dn (.inl ?_)
 exact ⟨⟨x39.2, ({ GTree.zero with Kind := k33, Kids := [t26, x39.1] })⟩, h.1, h.2, sl⟩
def q5k (p1 : Gparseparser) (Q : Except Gparsestop (GTree × Gparseparser) -> Prop) : Prop :=
 Loop2 p1 ([] : List GTree) (fun (p92 : Gparseparser) (f93 : List GTree) next94 =>
 Call (q0c p92) fun x95 =>
 Br (x95.Kind != (0 : Int)) (
 Call (q02 p92 (ByteArray.mk #[117, 110, 105, 116])) fun x97 =>
 Br x97.1 (
 CallX (q0d x97.2) (fun e => Q (.error e)) fun x99 =>
 Call (q02 x99.2 (ByteArray.mk #[61])) fun x100 =>
 q3r (fun j105 =>
 Br x100.1 (
 CallX (q1i x100.2) (fun e => Q (.error e)) fun x106 =>
 j105 x106.2 ({ GTree.zero with Kind := (31 : Int), Name := x99.1, Kids := [x106.1] })) (
 j105 x100.2 ({ GTree.zero with Kind := (31 : Int), Name := x99.1 }))
 ) (fun (p103 : Gparseparser) (u104 : GTree) =>
 CallX (q04 p103 ([(ByteArray.mk #[59])])) (fun e => Q (.error e)) fun x107 =>
 App 104 f93 ([u104]) fun x108 =>
 next94 x107 x108)) (
 Call (q02 x97.2 (ByteArray.mk #[109, 111, 100, 101, 108])) fun x111 =>
 Br x111.1 (
 CallX (q25 x111.2 (1 : Int)) (fun e => Q (.error e)) fun x113 =>
 App 104 f93 ([x113.1]) fun x114 =>
 next94 x113.2 x114) (
 Call (q02 x111.2 (ByteArray.mk #[99, 111, 110, 110, 101, 99, 116, 111, 114])) fun x115 =>
 Br x115.1 (
 CallX (q25 x115.2 (2 : Int)) (fun e => Q (.error e)) fun x117 =>
 App 104 f93 ([x117.1]) fun x118 =>
 next94 x117.2 x118) (
 CallX (q14 x115.2) (fun e => Q (.error e)) fun x119 =>
 next94 x119 f93)))) (
 Q (.ok (({ GTree.zero with Kind := (30 : Int), Kids := f93 }), p92))))
theorem qBl {p1 : Gparseparser} {r : Except Gparsestop (GTree × Gparseparser)} (h : q5k p1 (fun r' => r' = r)) : q88 p1 r := by
 unfold q5k at h
 refine AFnB.intro' (L := []) q01 Tryz.func9 rfl rfl Tryz.ntmps9 rfl rfl rfl (fun b => ?_)
 refine sN (al0 ?_)
 refine dn (sW ?_)
 refine AOps.buildnil q01 7 26 9 rfl rfl rfl rfl rfl rfl rfl rfl rfl rfl rfl rfl rfl ?_
 refine al0 ?_
 refine st (v := .st _ _) ?_
 refine dn (AWp.seq (AWp.block ?_))
 obtain ⟨I120, x121, hz122, hr123⟩ := h
 refine AWp.loop (I := fun p : Gparseparser × (List GTree) => mkSt [(0, .pt 1000000 [] 0), (2, .pt 2 [] 0), (3, .pt 3 [] 0)] [(2, .box 26 9 (.dat (GTree.out GTree.zero))), (3, .box 26 9 (.st [1, 1, 1, 1, 1, 1, 2, 1] [.dat (.v (.int .i64 (30 : Int))), .dat (.v (.string (ByteArray.mk #[]))), .dat (.v (.string (ByteArray.mk #[]))), .dat (.v (.int .i64 (0 : Int))), .dat (.v (.int .i64 (0 : Int))), .dat (.v (.bool false)), .dat (GRat.enc GRat.zero), .oref 3003])), (3003, .row 26 9 (List.map GTree.enc p.2)), (1000000, .box 39 3 (.dat (Gparseparser.enc p.1)))]) (Inv := fun p => I120 p.1 p.2) (μ := fun p => x121 p.1 p.2) (x0 := ⟨p1, ([] : List GTree)⟩) hz122 (slf (fun i => (if Nat.beq i 3003 then 5 else i))) (fun p hp => ?_)
 obtain ⟨p92, f93⟩ := p
 have h := hr123 p92 f93 hp
 refine AWp.seq (AWp.seq (rN (pP rfl (kR h rfl trivial fun x95 h => ?_))))
 refine pI rfl (pB rfl (dn (cB h (fun h => ?_) (fun h => ?_))))
 ·refine AWp.skip (AWp.block (AWp.block (AWp.seq ?_)))
  refine AWp.regionN (fun o => q00 [20] o) rfl ?_
  refine pP rfl (kB h rfl ⟨.inl rfl, trivial⟩ fun x97 h => ?_)
  refine pB rfl (dn (cB h (fun h => ?_) (fun h => ?_)))
  ·refine AWp.seq ?_
   refine AWp.bots ?_
   refine AWp.regionN (fun o => q00 [21] o) rfl ?_
   refine pP rfl (kXf h rfl trivial rfl fun x99 h => ?_)
   refine pT rfl (al0 ?_)
   refine st (v := .dat (.st _ _)) ?_
   refine dn (.inl ?_)
   refine AWp.seq (AWp.seq ?_)
   refine AWp.regionN (fun o => q00 [20] o) rfl ?_
   refine pP rfl (kB h rfl ⟨.inl rfl, trivial⟩ fun x100 h => ?_)
   refine dn ?_
   obtain ⟨J109, h, hk110⟩ := h
   refine AWp.cutK (I := fun p : Gparseparser × GTree => mkSt [(0, .pt 1000000 [] 0), (2, .pt 2 [] 0), (3, .pt 3 [] 0), (4, .pt 4 [] 0)] [(2, .box 26 9 (.dat (GTree.out GTree.zero))), (3, .box 26 9 (.st [1, 1, 1, 1, 1, 1, 2, 1] [.dat (.v (.int .i64 (30 : Int))), .dat (.v (.string (ByteArray.mk #[]))), .dat (.v (.string (ByteArray.mk #[]))), .dat (.v (.int .i64 (0 : Int))), .dat (.v (.int .i64 (0 : Int))), .dat (.v (.bool false)), .dat (GRat.enc GRat.zero), .oref 3003])), (4, .box 26 9 (.dat (GTree.out p.2))), (3003, .row 26 9 (List.map GTree.enc f93)), (1000000, .box 39 3 (.dat (Gparseparser.enc p.1)))]) (Inv := fun p : Gparseparser × GTree => J109 p.1 p.2) ?_ (fun p hp => ?_)
   ·refine cB h (fun h => ?_) (fun h => ?_)
    ·refine AWp.bots ?_
     refine AWp.regionN (fun o => q00 [22] o) rfl ?_
     refine pP rfl (kXf h rfl trivial rfl fun x106 h => ?_)
     refine AOps.lit q01 (ys := [GTree.out x106.1]) rfl rfl rfl rfl rfl rfl ?_
     rw [show [GTree.out x106.1] = List.map GTree.enc [x106.1] by simp [GTree.enc_out]]
     refine pP rfl (st (v := .dat (.sl _ _ _)) ?_)
     refine dn (.inl ?_)
     exact ⟨⟨x106.2, ({ GTree.zero with Kind := (31 : Int), Name := x99.1, Kids := [x106.1] })⟩, h, sl⟩
    refine AWp.skip ?_
    exact ⟨⟨x100.2, ({ GTree.zero with Kind := (31 : Int), Name := x99.1 })⟩, h, sl⟩
   obtain ⟨p103, u104⟩ := p
   replace h := hk110 p103 u104 hp
   refine AWp.seq ?_
   refine AWp.bots ?_
   refine AWp.regionN (fun o => q00 [23] o) rfl ?_
   refine pP rfl ?_
   refine AOps.lit q01 (ys := [.v (.string (ByteArray.mk #[59]))]) rfl rfl rfl rfl rfl rfl ?_
   refine kXf h rfl ⟨.inl rfl, trivial⟩ rfl fun x107 h => dn (.inl ?_)
   refine rW (pP rfl (pO rfl (pT rfl ?_)))
   refine AOps.lit q01 (ys := [GTree.out u104]) rfl rfl rfl rfl rfl rfl ?_
   rw [show [GTree.out u104] = List.map GTree.enc [u104] by simp [GTree.enc_out]]
   obtain ⟨h1, h2, x108, ex108, h⟩ := h.get
   refine AOps.append q01 rfl rfl rfl rfl rfl rfl rfl rfl rfl rfl rfl (.inl ⟨_, rfl⟩) (app1 h1) (app2 h2) (app3 ex108) ?_
   refine pP rfl (st (v := .oref _) ?_)
   refine dn ?_
   exact ⟨⟨x107, x108⟩, h.1, h.2, (slf (fun i => (if Nat.beq i 3003 then 31 else i)))⟩
  refine AWp.seq ?_
  refine AWp.regionN (fun o => q00 [20] o) rfl ?_
  refine pP rfl (kB h rfl ⟨.inl rfl, trivial⟩ fun x111 h => ?_)
  refine pB rfl (dn (cB h (fun h => ?_) (fun h => ?_)))
  ·refine AWp.bots ?_
   refine rF (fun o => q00 [24] o) [(0, [1000000]), (3, [3]), (36, [3]), (38, [1000000]), (40, [40]), (41, [41]), (42, [3])] (pP rfl (pO rfl (pP rfl (kXf h rfl ⟨.inl rfl, trivial⟩ rfl fun x113 h => ?_))))
   refine AOps.lit q01 (ys := [GTree.out x113.1]) rfl rfl rfl rfl rfl rfl ?_
   rw [show [GTree.out x113.1] = List.map GTree.enc [x113.1] by simp [GTree.enc_out]]
   obtain ⟨h1, h2, x114, ex114, h⟩ := h.get
   refine AOps.append q01 rfl rfl rfl rfl rfl rfl rfl rfl rfl rfl rfl (.inl ⟨_, rfl⟩) (app1 h1) (app2 h2) (app3 ex114) ?_
   refine pP rfl (st (v := .oref _) ?_)
   refine dn (.inl ?_)
   exact ⟨⟨x113.2, x114⟩, h.1, h.2, (slf (fun i => (if Nat.beq i 3003 then 41 else i)))⟩
  refine AWp.seq ?_
  refine AWp.regionN (fun o => q00 [20] o) rfl ?_
  refine pP rfl (kB h rfl ⟨.inl rfl, trivial⟩ fun x115 h => ?_)
  refine pB rfl (dn (cB h (fun h => ?_) (fun h => ?_)))
  ·refine AWp.bots ?_
   refine rF (fun o => q00 [24] o) [(0, [1000000]), (3, [3]), (46, [3]), (48, [1000000]), (50, [50]), (51, [51]), (52, [3])] (pP rfl (pO rfl (pP rfl (kXf h rfl ⟨.inl rfl, trivial⟩ rfl fun x117 h => ?_))))
   refine AOps.lit q01 (ys := [GTree.out x117.1]) rfl rfl rfl rfl rfl rfl ?_
   rw [show [GTree.out x117.1] = List.map GTree.enc [x117.1] by simp [GTree.enc_out]]
   obtain ⟨h1, h2, x118, ex118, h⟩ := h.get
   refine AOps.append q01 rfl rfl rfl rfl rfl rfl rfl rfl rfl rfl rfl (.inl ⟨_, rfl⟩) (app1 h1) (app2 h2) (app3 ex118) ?_
   refine pP rfl (st (v := .oref _) ?_)
   refine dn (.inl ?_)
   exact ⟨⟨x117.2, x118⟩, h.1, h.2, (slf (fun i => (if Nat.beq i 3003 then 51 else i)))⟩
  refine AWp.bots ?_
  refine AWp.regionN (fun o => q00 [25] o) rfl ?_
  refine pP rfl (kXf h rfl trivial rfl fun x119 h => ?_)
  refine dn (.inl ?_)
  exact ⟨⟨x119, f93⟩, h.1, h.2, sl⟩
 refine AWp.exit ?_
 refine AWp.seq ?_
 refine AWp.freezeB 3 3003 7 rfl rfl rfl rfl rfl ?_
 refine rW (pT rfl (st (v := .dat (.st _ _)) ?_))
 subst h; exact dn (AWp.ret ⟨_, rfl, rfl, rfl⟩)
def q4w (p1 : Gparseparser) (n2 : Int) (Q : Except Gparsestop (GTree × Gparseparser) -> Prop) : Prop :=
 CallX (q0d p1) (fun e => Q (.error e)) fun x3 =>
 Loop2 x3.2 ([] : List GTree) (fun (p31 : Gparseparser) (c32 : List GTree) next33 =>
 Call (q02 p31 (ByteArray.mk #[101, 110, 100])) fun x34 =>
 Br (!x34.1) (
 CallX (q4k x34.2) (fun e => Q (.error e)) fun x36 =>
 App 104 c32 ([x36.1]) fun x37 =>
 next33 x36.2 x37) (
 CallX (q04 x34.2 ([(ByteArray.mk #[59])])) (fun e => Q (.error e)) fun x38 =>
 Q (.ok (({ GTree.zero with Kind := (32 : Int), Name := x3.1, N := n2, Kids := c32 }), x38))))
theorem qAy {p1 : Gparseparser} {n2 : Int} {r : Except Gparsestop (GTree × Gparseparser)} (h : q4w p1 n2 (fun r' => r' = r)) : q25 p1 n2 r := by
 unfold q4w at h
 refine AFnB.intro' (L := [(1, .dat (.v (.int .i64 n2)))]) q01 Tryz.func24 rfl rfl Tryz.ntmps24 rfl rfl rfl (fun b => ?_)
 refine sN (al0 ?_)
 refine dn (AWp.seq ?_)
 refine AWp.bots ?_
 refine AWp.regionN (fun o => q00 [21] o) rfl ?_
 refine pI rfl (pP rfl (kXf h rfl trivial rfl fun x3 h => ?_))
 refine AOps.buildnil q01 7 26 9 rfl rfl rfl rfl rfl rfl rfl rfl rfl rfl rfl rfl rfl ?_
 refine al0 ?_
 refine st (v := .st _ _) ?_
 refine dn (.inl ?_)
 refine AWp.seq (AWp.block ?_)
 obtain ⟨I39, x40, hz41, hr42⟩ := h
 refine AWp.loop (I := fun p : Gparseparser × (List GTree) => mkSt [(0, .pt 1000000 [] 0), (4, .pt 4 [] 0), (5, .pt 5 [] 0)] [(4, .box 26 9 (.dat (GTree.out GTree.zero))), (5, .box 26 9 (.st [1, 1, 1, 1, 1, 1, 2, 1] [.dat (.v (.int .i64 (32 : Int))), .dat (.v (.string x3.1)), .dat (.v (.string (ByteArray.mk #[]))), .dat (.v (.int .i64 n2)), .dat (.v (.int .i64 (0 : Int))), .dat (.v (.bool false)), .dat (GRat.enc GRat.zero), .oref 3005])), (3005, .row 26 9 (List.map GTree.enc p.2)), (1000000, .box 39 3 (.dat (Gparseparser.enc p.1)))]) (Inv := fun p => I39 p.1 p.2) (μ := fun p => x40 p.1 p.2) (x0 := ⟨x3.2, ([] : List GTree)⟩) hz41 (slf (fun i => (if Nat.beq i 3005 then 9 else i))) (fun p hp => ?_)
 obtain ⟨p31, c32⟩ := p
 have h := hr42 p31 c32 hp
 refine AWp.seq (AWp.seq ?_)
 refine AWp.regionN (fun o => q00 [20] o) rfl ?_
 refine pP rfl (kB h rfl ⟨.inl rfl, trivial⟩ fun x34 h => ?_)
 refine pB rfl (dn (cB h (fun h => ?_) (fun h => ?_)))
 ·refine AWp.skip (AWp.block ?_)
  refine AWp.bots ?_
  refine rF (fun o => q00 [56] o) [(0, [1000000]), (5, [5]), (13, [5]), (15, [1000000]), (17, [17]), (18, [18]), (19, [5])] (pP rfl (pO rfl (pP rfl (kXf h rfl trivial rfl fun x36 h => ?_))))
  refine AOps.lit q01 (ys := [GTree.out x36.1]) rfl rfl rfl rfl rfl rfl ?_
  rw [show [GTree.out x36.1] = List.map GTree.enc [x36.1] by simp [GTree.enc_out]]
  obtain ⟨h1, h2, x37, ex37, h⟩ := h.get
  refine AOps.append q01 rfl rfl rfl rfl rfl rfl rfl rfl rfl rfl rfl (.inl ⟨_, rfl⟩) (app1 h1) (app2 h2) (app3 ex37) ?_
  refine pP rfl (st (v := .oref _) ?_)
  refine dn (.inl ?_)
  exact ⟨⟨x36.2, x37⟩, h.1, h.2, (slf (fun i => (if Nat.beq i 3005 then 18 else i)))⟩
 refine AWp.exit ?_
 refine AWp.seq ?_
 refine AWp.bots ?_
 refine AWp.regionN (fun o => q00 [23] o) rfl ?_
 refine pP rfl ?_
 refine AOps.lit q01 (ys := [.v (.string (ByteArray.mk #[59]))]) rfl rfl rfl rfl rfl rfl ?_
 refine kXf h rfl ⟨.inl rfl, trivial⟩ rfl fun x38 h => dn (.inl ?_)
 refine AWp.seq ?_
 refine AWp.freezeB 5 3005 7 rfl rfl rfl rfl rfl ?_
 refine rW (pT rfl (st (v := .dat (.st _ _)) ?_))
 subst h; exact dn (AWp.ret ⟨_, rfl, rfl, rfl⟩)
def q5l (p1 : Gparseparser) (Q : Except Gparsestop (GTree × Gparseparser) -> Prop) : Prop :=
 CallX (q0d p1) (fun e => Q (.error e)) fun x2 =>
 CallX (q27 x2.2) (fun e => Q (.error e)) fun x3 =>
 CallX (q04 x3.2 ([(ByteArray.mk #[58])])) (fun e => Q (.error e)) fun x4 =>
 CallX (q0d x4) (fun e => Q (.error e)) fun x5 =>
 Call (q0a x5.2 (ByteArray.mk #[40])) fun x6 =>
 Br (!x6) (Q (.ok (({ GTree.zero with Kind := (35 : Int), Name := x2.1, Alias := x5.1, N := x3.1, Kids := ([] : List GTree) }), x5.2))) (
 CallX (q0e x5.2 (ByteArray.mk #[40])) (fun e => Q (.error e)) fun x8 =>
 Loop2 x8 ([] : List GTree) (fun (p42 : Gparseparser) (t43 : List GTree) next44 =>
 CallX (q0d p42) (fun e => Q (.error e)) fun x45 =>
 CallX (q04 x45.2 ([(ByteArray.mk #[61])])) (fun e => Q (.error e)) fun x46 =>
 CallX (q0g x46) (fun e => Q (.error e)) fun x47 =>
 App 104 t43 ([({ GTree.zero with Kind := (36 : Int), Name := x45.1, Kids := [x47.1] })]) fun x48 =>
 Call (q02 x47.2 (ByteArray.mk #[44])) fun x49 =>
 Br (!x49.1) (
 CallX (q0h x49.2 ([(ByteArray.mk #[41])])) (fun e => Q (.error e)) fun x51 =>
 Q (.ok (({ GTree.zero with Kind := (35 : Int), Name := x2.1, Alias := x5.1, N := x3.1, Kids := x48 }), x51))) (
 next44 x49.2 x48)))
theorem qBm {p1 : Gparseparser} {r : Except Gparsestop (GTree × Gparseparser)} (h : q5l p1 (fun r' => r' = r)) : q4n p1 r := by
 unfold q5l at h
 refine AFnB.intro' (L := []) q01 Tryz.func90 rfl rfl Tryz.ntmps90 rfl rfl rfl (fun b => ?_)
 refine sN (al0 ?_)
 refine dn (AWp.seq ?_)
 refine AWp.bots ?_
 refine AWp.regionN (fun o => q00 [21] o) rfl ?_
 refine pP rfl (kXf h rfl trivial rfl fun x2 h => ?_)
 refine AOps.buildnil q01 7 26 9 rfl rfl rfl rfl rfl rfl rfl rfl rfl rfl rfl rfl rfl ?_
 refine al0 ?_
 refine st (v := .st _ _) ?_
 refine dn (.inl ?_)
 refine AWp.seq ?_
 refine AWp.bots ?_
 refine AWp.regionN (fun o => q00 [89] o) rfl ?_
 refine pP rfl (kXf h rfl trivial rfl fun x3 h => ?_)
 refine pP rfl (st (v := .dat (.v (.int _ _))) ?_)
 refine dn (.inl ?_)
 refine AWp.seq ?_
 refine AWp.bots ?_
 refine AWp.regionN (fun o => q00 [23] o) rfl ?_
 refine pP rfl ?_
 refine AOps.lit q01 (ys := [.v (.string (ByteArray.mk #[58]))]) rfl rfl rfl rfl rfl rfl ?_
 refine kXf h rfl ⟨.inl rfl, trivial⟩ rfl fun x4 h => dn (.inl ?_)
 refine AWp.seq ?_
 refine AWp.bots ?_
 refine AWp.regionN (fun o => q00 [21] o) rfl ?_
 refine pP rfl (kXf h rfl trivial rfl fun x5 h => ?_)
 refine pP rfl (st (v := .dat (.v (.string _))) ?_)
 refine dn (.inl ?_)
 refine AWp.seq (AWp.seq (rN (pP rfl (kR h rfl ⟨.inl rfl, trivial⟩ fun x6 h => ?_))))
 refine pB rfl (dn (cB h (fun h => ?_) (fun h => ?_)))
 ·refine AWp.seq ?_
  refine AWp.freezeB 3 7 7 rfl rfl rfl rfl rfl ?_
  refine rW (pT rfl (st (v := .dat (.st _ _)) ?_))
  subst h; exact dn (AWp.ret ⟨_, rfl, rfl, rfl⟩)
 refine AWp.skip (AWp.seq ?_)
 refine AWp.bots ?_
 refine AWp.regionN (fun o => q00 [80] o) rfl ?_
 refine pP rfl (kXf h rfl ⟨.inl rfl, trivial⟩ rfl fun x8 h => ?_)
 refine dn (.inl ?_)
 refine AWp.seq (AWp.block ?_)
 obtain ⟨I52, x53, hz54, hr55⟩ := h
 refine AWp.loop (I := fun p : Gparseparser × (List GTree) => mkSt [(0, .pt 1000000 [] 0), (2, .pt 2 [] 0), (3, .pt 3 [] 0)] [(2, .box 26 9 (.dat (GTree.out GTree.zero))), (3, .box 26 9 (.st [1, 1, 1, 1, 1, 1, 2, 1] [.dat (.v (.int .i64 (35 : Int))), .dat (.v (.string x2.1)), .dat (.v (.string x5.1)), .dat (.v (.int .i64 x3.1)), .dat (.v (.int .i64 (0 : Int))), .dat (.v (.bool false)), .dat (GRat.enc GRat.zero), .oref 3003])), (3003, .row 26 9 (List.map GTree.enc p.2)), (1000000, .box 39 3 (.dat (Gparseparser.enc p.1)))]) (Inv := fun p => I52 p.1 p.2) (μ := fun p => x53 p.1 p.2) (x0 := ⟨x8, ([] : List GTree)⟩) hz54 (slf (fun i => (if Nat.beq i 3003 then 7 else i))) (fun p hp => ?_)
 obtain ⟨p42, t43⟩ := p
 have h := hr55 p42 t43 hp
 refine AWp.block (AWp.seq ?_)
 refine AWp.bots ?_
 refine AWp.regionN (fun o => q00 [21] o) rfl ?_
 refine pP rfl (kXf h rfl trivial rfl fun x45 h => ?_)
 refine pT rfl (al0 ?_)
 refine st (v := .dat (.st _ _)) ?_
 refine dn (.inl ?_)
 refine AWp.seq ?_
 refine AWp.bots ?_
 refine AWp.regionN (fun o => q00 [23] o) rfl ?_
 refine pP rfl ?_
 refine AOps.lit q01 (ys := [.v (.string (ByteArray.mk #[61]))]) rfl rfl rfl rfl rfl rfl ?_
 refine kXf h rfl ⟨.inl rfl, trivial⟩ rfl fun x46 h => dn (.inl ?_)
 refine AWp.seq ?_
 refine AWp.bots ?_
 refine AWp.regionN (fun o => q00 [88] o) rfl ?_
 refine pP rfl (kXf h rfl trivial rfl fun x47 h => ?_)
 refine AOps.lit q01 (ys := [GTree.out x47.1]) rfl rfl rfl rfl rfl rfl ?_
 rw [show [GTree.out x47.1] = List.map GTree.enc [x47.1] by simp [GTree.enc_out]]
 refine pP rfl (st (v := .dat (.sl _ _ _)) ?_)
 refine dn (.inl ?_)
 refine sW (pP rfl (pO rfl (pT rfl ?_)))
 refine AOps.lit q01 (ys := [GTree.out ({ GTree.zero with Kind := (36 : Int), Name := x45.1, Kids := [x47.1] })]) rfl rfl rfl rfl rfl rfl ?_
 rw [show [GTree.out ({ GTree.zero with Kind := (36 : Int), Name := x45.1, Kids := [x47.1] })] = List.map GTree.enc [({ GTree.zero with Kind := (36 : Int), Name := x45.1, Kids := [x47.1] })] by simp [GTree.enc_out]]
 obtain ⟨h1, h2, x48, ex48, h⟩ := h.get
 refine AOps.append q01 rfl rfl rfl rfl rfl rfl rfl rfl rfl rfl rfl (.inl ⟨_, rfl⟩) (app1 h1) (app2 h2) (app3 ex48) ?_
 refine pP rfl (st (v := .oref _) ?_)
 refine dn (AWp.seq ?_)
 refine AWp.regionN (fun o => q00 [20] o) rfl ?_
 refine pP rfl (kB h rfl ⟨.inl rfl, trivial⟩ fun x49 h => ?_)
 refine pB rfl (dn (cB h (fun h => ?_) (fun h => ?_)))
 ·refine AWp.exit ?_
  refine AWp.seq ?_
  refine AWp.bots ?_
  refine AWp.regionN (fun o => q00 [81] o) rfl ?_
  refine pP rfl ?_
  refine AOps.lit q01 (ys := [.v (.string (ByteArray.mk #[41]))]) rfl rfl rfl rfl rfl rfl ?_
  refine kXf h rfl ⟨.inl rfl, trivial⟩ rfl fun x51 h => dn (.inl ?_)
  refine AWp.seq ?_
  refine AWp.freezeB 3 37 7 rfl rfl rfl rfl rfl ?_
  refine rW (pT rfl (st (v := .dat (.st _ _)) ?_))
  subst h; exact dn (AWp.ret ⟨_, rfl, rfl, rfl⟩)
 refine AWp.skip ?_
 exact ⟨⟨x49.2, x48⟩, h.1, h.2, (slf (fun i => (if Nat.beq i 3003 then 37 else i)))⟩
def q5m (x1 : Gparseparser) (Q : Except Gparsestop (GTree × Gparseparser) -> Prop) : Prop :=
 Call (q02 x1 (ByteArray.mk #[99, 111, 110, 110, 101, 99, 116])) fun x57 =>
 Br x57.1 (
 CallX (q0e x57.2 (ByteArray.mk #[40])) (fun e => Q (.error e)) fun x59 =>
 CallX (q18 x59) (fun e => Q (.error e)) fun x60 =>
 CallX (q04 x60.2 ([(ByteArray.mk #[44])])) (fun e => Q (.error e)) fun x61 =>
 CallX (q18 x61) (fun e => Q (.error e)) fun x62 =>
 CallX (q0h x62.2 ([(ByteArray.mk #[41]), (ByteArray.mk #[59])])) (fun e => Q (.error e)) fun x63 =>
 Q (.ok (({ GTree.zero with Kind := (38 : Int), Kids := [x60.1, x62.1] }), x63))) (
 Call (q0a x57.2 (ByteArray.mk #[102, 111, 114])) fun x64 =>
 Br x64 (
 CallX (q0e x57.2 (ByteArray.mk #[102, 111, 114])) (fun e => Q (.error e)) fun x66 =>
 CallX (q0d x66) (fun e => Q (.error e)) fun x67 =>
 CallX (q04 x67.2 ([(ByteArray.mk #[105, 110])])) (fun e => Q (.error e)) fun x68 =>
 CallX (q11 x68) (fun e => Q (.error e)) fun x69 =>
 CallX (q04 x69.2 ([(ByteArray.mk #[46, 46])])) (fun e => Q (.error e)) fun x70 =>
 CallX (q11 x70) (fun e => Q (.error e)) fun x71 =>
 CallX (q04 x71.2 ([(ByteArray.mk #[100, 111])])) (fun e => Q (.error e)) fun x72 =>
 Loop2 x72 ([] : List GTree) (fun (x100 : Gparseparser) (x101 : List GTree) next102 =>
 Call (q0a x100 (ByteArray.mk #[101, 110, 100])) fun x103 =>
 Br (!x103) (
 CallX (q2m x100) (fun e => Q (.error e)) fun x105 =>
 App 104 x101 ([x105.1]) fun x106 =>
 next102 x105.2 x106) (
 CallX (q0h x100 ([(ByteArray.mk #[101, 110, 100]), (ByteArray.mk #[59])])) (fun e => Q (.error e)) fun x107 =>
 Q (.ok (({ GTree.zero with Kind := (40 : Int), Name := x67.1, N := x69.1, M := x71.1, Kids := x101 }), x107))))) (
 CallX (q0g x57.2) (fun e => Q (.error e)) fun x112 =>
 CallX (q04 x112.2 ([(ByteArray.mk #[61])])) (fun e => Q (.error e)) fun x113 =>
 CallX (q0g x113) (fun e => Q (.error e)) fun x114 =>
 CallX (q04 x114.2 ([(ByteArray.mk #[59])])) (fun e => Q (.error e)) fun x115 =>
 Q (.ok (({ GTree.zero with Kind := (39 : Int), Kids := [x112.1, x114.1] }), x115))))
theorem qBn {x1 : Gparseparser} {r : Except Gparsestop (GTree × Gparseparser)} (h : q5m x1 (fun r' => r' = r)) : q2m x1 r := by
 unfold q5m at h
 refine AFnB.intro' (L := []) q01 Tryz.func92 rfl rfl Tryz.ntmps92 rfl rfl rfl (fun b => ?_)
 refine sN (al0 ?_)
 refine dn (AWp.seq (AWp.block (AWp.seq ?_)))
 refine AWp.regionN (fun o => q00 [20] o) rfl ?_
 refine pP rfl (kB h rfl ⟨.inl rfl, trivial⟩ fun x57 h => ?_)
 refine pB rfl (dn (cB h (fun h => ?_) (fun h => ?_)))
 ·refine AWp.seq ?_
  refine AWp.bots ?_
  refine AWp.regionN (fun o => q00 [80] o) rfl ?_
  refine pP rfl (kXf h rfl ⟨.inl rfl, trivial⟩ rfl fun x59 h => ?_)
  refine dn (.inl ?_)
  refine AWp.seq ?_
  refine AWp.bots ?_
  refine AWp.regionN (fun o => q00 [119] o) rfl ?_
  refine pP rfl (kXf h rfl trivial rfl fun x60 h => ?_)
  refine al0 ?_
  refine st (v := .dat (.st _ _)) ?_
  refine dn (.inl ?_)
  refine AWp.seq ?_
  refine AWp.bots ?_
  refine AWp.regionN (fun o => q00 [23] o) rfl ?_
  refine pP rfl ?_
  refine AOps.lit q01 (ys := [.v (.string (ByteArray.mk #[44]))]) rfl rfl rfl rfl rfl rfl ?_
  refine kXf h rfl ⟨.inl rfl, trivial⟩ rfl fun x61 h => dn (.inl ?_)
  refine AWp.seq ?_
  refine AWp.bots ?_
  refine AWp.regionN (fun o => q00 [119] o) rfl ?_
  refine pP rfl (kXf h rfl trivial rfl fun x62 h => ?_)
  refine al0 ?_
  refine st (v := .dat (.st _ _)) ?_
  refine dn (.inl ?_)
  refine AWp.seq ?_
  refine AWp.bots ?_
  refine AWp.regionN (fun o => q00 [81] o) rfl ?_
  refine pP rfl ?_
  refine AOps.lit q01 (ys := [.v (.string (ByteArray.mk #[41])), .v (.string (ByteArray.mk #[59]))]) rfl rfl rfl rfl rfl rfl ?_
  refine kXf h rfl ⟨.inl rfl, trivial⟩ rfl fun x63 h => dn (.inl ?_)
  refine sW (pT rfl (pT rfl ?_))
  refine AOps.lit q01 (ys := [GTree.out x60.1, GTree.out x62.1]) rfl rfl rfl rfl rfl rfl ?_
  rw [show [GTree.out x60.1, GTree.out x62.1] = List.map GTree.enc [x60.1, x62.1] by simp [GTree.enc_out]]
  refine pT rfl (st (v := .dat (.st _ _)) ?_)
  subst h; exact dn (AWp.ret ⟨_, rfl, rfl, rfl⟩)
 refine sN (pP rfl (kR h rfl ⟨.inl rfl, trivial⟩ fun x64 h => ?_))
 refine pB rfl (dn (cB h (fun h => ?_) (fun h => ?_)))
 ·refine AWp.seq ?_
  refine AWp.bots ?_
  refine AWp.regionN (fun o => q00 [80] o) rfl ?_
  refine pP rfl (kXf h rfl ⟨.inl rfl, trivial⟩ rfl fun x66 h => ?_)
  refine dn (.inl ?_)
  refine AWp.seq ?_
  refine AWp.bots ?_
  refine AWp.regionN (fun o => q00 [21] o) rfl ?_
  refine pP rfl (kXf h rfl trivial rfl fun x67 h => ?_)
  refine AOps.buildnil q01 7 26 9 rfl rfl rfl rfl rfl rfl rfl rfl rfl rfl rfl rfl rfl ?_
  refine al0 ?_
  refine st (v := .st _ _) ?_
  refine dn (.inl ?_)
  refine AWp.seq ?_
  refine AWp.bots ?_
  refine AWp.regionN (fun o => q00 [23] o) rfl ?_
  refine pP rfl ?_
  refine AOps.lit q01 (ys := [.v (.string (ByteArray.mk #[105, 110]))]) rfl rfl rfl rfl rfl rfl ?_
  refine kXf h rfl ⟨.inl rfl, trivial⟩ rfl fun x68 h => dn (.inl ?_)
  refine AWp.seq ?_
  refine AWp.bots ?_
  refine AWp.regionN (fun o => q00 [117] o) rfl ?_
  refine pP rfl (kXf h rfl trivial rfl fun x69 h => ?_)
  refine pP rfl (st (v := .dat (.v (.int _ _))) ?_)
  refine dn (.inl ?_)
  refine AWp.seq ?_
  refine AWp.bots ?_
  refine AWp.regionN (fun o => q00 [23] o) rfl ?_
  refine pP rfl ?_
  refine AOps.lit q01 (ys := [.v (.string (ByteArray.mk #[46, 46]))]) rfl rfl rfl rfl rfl rfl ?_
  refine kXf h rfl ⟨.inl rfl, trivial⟩ rfl fun x70 h => dn (.inl ?_)
  refine AWp.seq ?_
  refine AWp.bots ?_
  refine AWp.regionN (fun o => q00 [117] o) rfl ?_
  refine pP rfl (kXf h rfl trivial rfl fun x71 h => ?_)
  refine pP rfl (st (v := .dat (.v (.int _ _))) ?_)
  refine dn (.inl ?_)
  refine AWp.seq ?_
  refine AWp.bots ?_
  refine AWp.regionN (fun o => q00 [23] o) rfl ?_
  refine pP rfl ?_
  refine AOps.lit q01 (ys := [.v (.string (ByteArray.mk #[100, 111]))]) rfl rfl rfl rfl rfl rfl ?_
  refine kXf h rfl ⟨.inl rfl, trivial⟩ rfl fun x72 h => dn (.inl ?_)
  refine AWp.seq (AWp.block ?_)
  obtain ⟨I108, x109, hz110, hr111⟩ := h
  refine AWp.loop (I := fun p : Gparseparser × (List GTree) => mkSt [(0, .pt 1000000 [] 0), (2, .pt 2 [] 0), (5, .pt 5 [] 0)] [(2, .box 26 9 (.dat (GTree.out GTree.zero))), (5, .box 26 9 (.st [1, 1, 1, 1, 1, 1, 2, 1] [.dat (.v (.int .i64 (40 : Int))), .dat (.v (.string x67.1)), .dat (.v (.string (ByteArray.mk #[]))), .dat (.v (.int .i64 x69.1)), .dat (.v (.int .i64 x71.1)), .dat (.v (.bool false)), .dat (GRat.enc GRat.zero), .oref 3005])), (3005, .row 26 9 (List.map GTree.enc p.2)), (1000000, .box 39 3 (.dat (Gparseparser.enc p.1)))]) (Inv := fun p => I108 p.1 p.2) (μ := fun p => x109 p.1 p.2) (x0 := ⟨x72, ([] : List GTree)⟩) hz110 (slf (fun i => (if Nat.beq i 3005 then 34 else i))) (fun p hp => ?_)
  obtain ⟨x100, x101⟩ := p
  have h := hr111 x100 x101 hp
  refine AWp.seq (AWp.seq (rN (pP rfl (kR h rfl ⟨.inl rfl, trivial⟩ fun x103 h => ?_))))
  refine pB rfl (dn (cB h (fun h => ?_) (fun h => ?_)))
  ·refine AWp.skip (AWp.block ?_)
   refine AWp.bots ?_
   refine rF (fun o => q00 [92] o) [(0, [1000000]), (5, [5]), (53, [5]), (55, [1000000]), (57, [57]), (58, [58]), (59, [5])] (pP rfl (pO rfl (pP rfl (kXf h rfl trivial rfl fun x105 h => ?_))))
   refine AOps.lit q01 (ys := [GTree.out x105.1]) rfl rfl rfl rfl rfl rfl ?_
   rw [show [GTree.out x105.1] = List.map GTree.enc [x105.1] by simp [GTree.enc_out]]
   obtain ⟨h1, h2, x106, ex106, h⟩ := h.get
   refine AOps.append q01 rfl rfl rfl rfl rfl rfl rfl rfl rfl rfl rfl (.inl ⟨_, rfl⟩) (app1 h1) (app2 h2) (app3 ex106) ?_
   refine pP rfl (st (v := .oref _) ?_)
   refine dn (.inl ?_)
   exact ⟨⟨x105.2, x106⟩, h.1, h.2, (slf (fun i => (if Nat.beq i 3005 then 58 else i)))⟩
  refine AWp.exit ?_
  refine AWp.seq ?_
  refine AWp.bots ?_
  refine AWp.regionN (fun o => q00 [81] o) rfl ?_
  refine pP rfl ?_
  refine AOps.lit q01 (ys := [.v (.string (ByteArray.mk #[101, 110, 100])), .v (.string (ByteArray.mk #[59]))]) rfl rfl rfl rfl rfl rfl ?_
  refine kXf h rfl ⟨.inl rfl, trivial⟩ rfl fun x107 h => dn (.inl ?_)
  refine AWp.seq ?_
  refine AWp.freezeB 5 3005 7 rfl rfl rfl rfl rfl ?_
  refine rW (pT rfl (st (v := .dat (.st _ _)) ?_))
  subst h; exact dn (AWp.ret ⟨_, rfl, rfl, rfl⟩)
 refine AWp.skip (AWp.seq ?_)
 refine AWp.bots ?_
 refine AWp.regionN (fun o => q00 [88] o) rfl ?_
 refine pP rfl (kXf h rfl trivial rfl fun x112 h => ?_)
 refine al0 ?_
 refine st (v := .dat (.st _ _)) ?_
 refine dn (.inl ?_)
 refine AWp.seq ?_
 refine AWp.bots ?_
 refine AWp.regionN (fun o => q00 [23] o) rfl ?_
 refine pP rfl ?_
 refine AOps.lit q01 (ys := [.v (.string (ByteArray.mk #[61]))]) rfl rfl rfl rfl rfl rfl ?_
 refine kXf h rfl ⟨.inl rfl, trivial⟩ rfl fun x113 h => dn (.inl ?_)
 refine AWp.seq ?_
 refine AWp.bots ?_
 refine AWp.regionN (fun o => q00 [88] o) rfl ?_
 refine pP rfl (kXf h rfl trivial rfl fun x114 h => ?_)
 refine al0 ?_
 refine st (v := .dat (.st _ _)) ?_
 refine dn (.inl ?_)
 refine AWp.seq ?_
 refine AWp.bots ?_
 refine AWp.regionN (fun o => q00 [23] o) rfl ?_
 refine pP rfl ?_
 refine AOps.lit q01 (ys := [.v (.string (ByteArray.mk #[59]))]) rfl rfl rfl rfl rfl rfl ?_
 refine kXf h rfl ⟨.inl rfl, trivial⟩ rfl fun x115 h => dn (.inl ?_)
 refine sW (pT rfl (pT rfl ?_))
 refine AOps.lit q01 (ys := [GTree.out x112.1, GTree.out x114.1]) rfl rfl rfl rfl rfl rfl ?_
 rw [show [GTree.out x112.1, GTree.out x114.1] = List.map GTree.enc [x112.1, x114.1] by simp [GTree.enc_out]]
 refine pT rfl (st (v := .dat (.st _ _)) ?_)
 subst h; exact dn (AWp.ret ⟨_, rfl, rfl, rfl⟩)
end Go.Sim.YtifjflhnfjhijaaGreatDoor
