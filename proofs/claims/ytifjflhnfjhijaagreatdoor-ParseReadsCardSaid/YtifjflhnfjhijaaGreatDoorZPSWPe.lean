/- What is proved: functions of the program compute what plain statements tell. -/
import Derived.Test.YtifjflhnfjhijaaGreatDoorZPSWE
import Derived.Test.YtifjflhnfjhijaaGreatDoorZPSSimR

namespace Go.Sim.YtifjflhnfjhijaaGreatDoor
open Go.RowKit Go.Proofs Go.Proofs.Tryz
set_option maxRecDepth 100000
def q3g (x1 : Gref13P) (Q : GTree × Gref13P -> Prop) : Prop :=
 Loop2 x1 ([] : List GTree) (fun (x386 : Gref13P) (x387 : List GTree) next388 =>
 Br (x386.Bad == (0 : Int)) (
 Call (q12 x386) fun x391 =>
 Br (x391.Kind != (0 : Int)) (
 Call (q08 x386 (ByteArray.mk #[117, 110, 105, 116])) fun x393 =>
 Br x393.1 (
 Call (q0l x393.2) fun x413 =>
 Call (q08 x413.2 (ByteArray.mk #[61])) fun x415 =>
 q3r (fun j422 =>
 Br x415.1 (
 Call (q2d x415.2) fun x423 =>
 App 104 ([] : List GTree) ([x423.1]) fun x425 =>
 j422 x423.2 x425) (
 j422 x415.2 ([] : List GTree))
 ) (fun (x420 : Gref13P) (x421 : List GTree) =>
 Call (q03 x420 (ByteArray.mk #[59])) fun x426 =>
 App 104 x387 ([({ GTree.zero with Kind := (31 : Int), Name := x413.1, Kids := x421 })]) fun x428 =>
 next388 x426 x428)) (
 Call (q08 x393.2 (ByteArray.mk #[99, 111, 110, 110, 101, 99, 116, 111, 114])) fun x431 =>
 q3r (fun j439 =>
 Br x431.1 (j439 x431.2 (2 : Int)) (
 Call (q08 x431.2 (ByteArray.mk #[109, 111, 100, 101, 108])) fun x440 =>
 Br (!x440.1) (
 Call (q1t x440.2) fun x442 =>
 Q (({ GTree.zero with Kind := (30 : Int), Kids := x387 }), x442)) (
 j439 x440.2 (1 : Int)))
 ) (fun (x437 : Gref13P) (x438 : Int) =>
 Call (q0l x437) fun x444 =>
 q3r (fun j475 =>
 Loop2 x444.2 ([] : List GTree) (fun (x489 : Gref13P) (x490 : List GTree) next491 =>
 Br (x489.Bad == (0 : Int)) (
 Call (q07 x489 (ByteArray.mk #[101, 110, 100])) fun x494 =>
 Br (!x494) (
 Call (q3v x489) fun x496 =>
 App 104 x490 ([x496.1]) fun x498 =>
 next491 x496.2 x498) (
 j475 x489 x490)) (
 j475 x489 x490))
 ) (fun (x473 : Gref13P) (x474 : List GTree) =>
 Call (q03 x473 (ByteArray.mk #[101, 110, 100])) fun x503 =>
 Call (q03 x503 (ByteArray.mk #[59])) fun x505 =>
 App 104 x387 ([({ GTree.zero with Kind := (32 : Int), Name := x444.1, N := x438, Kids := x474 })]) fun x507 =>
 next388 x505 x507)))) (
 Q (({ GTree.zero with Kind := (30 : Int), Kids := x387 }), x386))) (
 Q (({ GTree.zero with Kind := (30 : Int), Kids := x387 }), x386)))
theorem qFw {x1 : Gref13P} {r : GTree × Gref13P} (h : q3g x1 (fun r' => r' = r)) : q5x x1 r := by
 unfold q3g at h
 refine AFnB.intro' (L := []) q01 Tryz.func13 rfl rfl Tryz.ntmps13 rfl rfl rfl (fun b => ?_)
 refine sN (al0 ?_)
 refine dn (sW ?_)
 refine AOps.buildnil q01 7 26 9 rfl rfl rfl rfl rfl rfl rfl rfl rfl rfl rfl rfl rfl ?_
 refine al0 ?_
 refine st (v := .st _ _) ?_
 refine dn (AWp.seq (AWp.block ?_))
 obtain ⟨I512, x513, hz514, hr515⟩ := h
 refine AWp.loop (I := fun p : Gref13P × (List GTree) => mkSt [(0, .pt 1000000 [] 0), (2, .pt 2 [] 0), (3, .pt 3 [] 0)] [(2, .box 26 9 (.dat (GTree.out GTree.zero))), (3, .box 26 9 (.st [1, 1, 1, 1, 1, 1, 2, 1] [.dat (.v (.int .i64 (30 : Int))), .dat (.v (.string (ByteArray.mk #[]))), .dat (.v (.string (ByteArray.mk #[]))), .dat (.v (.int .i64 (0 : Int))), .dat (.v (.int .i64 (0 : Int))), .dat (.v (.bool false)), .dat (GRat.enc GRat.zero), .oref 3003])), (3003, .row 26 9 (List.map GTree.enc p.2)), (1000000, .box 45 5 (.dat (Gref13P.enc p.1)))]) (Inv := fun p => I512 p.1 p.2) (μ := fun p => x513 p.1 p.2) (x0 := ⟨x1, ([] : List GTree)⟩) hz514 (slf (fun i => (if Nat.beq i 3003 then 9 else i))) (fun p hp => ?_)
 obtain ⟨x386, x387⟩ := p
 have h := hr515 x386 x387 hp
 refine AWp.seq (AWp.seq (rN (pP rfl (pP rfl (pP rfl (pI rfl (pB rfl (pB rfl (sB 15 h (fun h => ?_) (fun h => ?_))))))))))
 ·refine pP rfl (kR h rfl trivial fun x391 h => ?_)
  refine pI rfl (pB rfl (pB rfl (dn (cB h (fun h => ?_) (fun h => ?_)))))
  ·refine AWp.skip (AWp.block (AWp.seq (AWp.seq ?_)))
   refine AWp.regionN (fun o => q00 [36] o) rfl ?_
   refine pP rfl (kB h rfl ⟨.inl rfl, trivial⟩ fun x393 h => ?_)
   refine dn (cB h (fun h => ?_) (fun h => ?_))
   ·refine AWp.seq ?_
    refine AWp.regionN (fun o => q00 [37] o) rfl ?_
    refine pP rfl (kB h rfl trivial fun x413 h => ?_)
    refine AOps.buildnil q01 7 26 9 rfl rfl rfl rfl rfl rfl rfl rfl rfl rfl rfl rfl rfl ?_
    refine al0 ?_
    refine st (v := .st _ _) ?_
    refine dn (AWp.seq (AWp.seq ?_))
    refine AWp.regionN (fun o => q00 [36] o) rfl ?_
    refine pP rfl (kB h rfl ⟨.inl rfl, trivial⟩ fun x415 h => ?_)
    refine dn ?_
    obtain ⟨J429, h, hk430⟩ := h
    refine AWp.cutK (I := fun p : Gref13P × (List GTree) => mkSt [(0, .pt 1000000 [] 0), (2, .pt 2 [] 0), (3, .pt 3 [] 0), (4, .pt 4 [] 0)] [(2, .box 26 9 (.dat (GTree.out GTree.zero))), (3, .box 26 9 (.st [1, 1, 1, 1, 1, 1, 2, 1] [.dat (.v (.int .i64 (30 : Int))), .dat (.v (.string (ByteArray.mk #[]))), .dat (.v (.string (ByteArray.mk #[]))), .dat (.v (.int .i64 (0 : Int))), .dat (.v (.int .i64 (0 : Int))), .dat (.v (.bool false)), .dat (GRat.enc GRat.zero), .oref 3003])), (4, .box 26 9 (.st [1, 1, 1, 1, 1, 1, 2, 1] [.dat (.v (.int .i64 (31 : Int))), .dat (.v (.string x413.1)), .dat (.v (.string (ByteArray.mk #[]))), .dat (.v (.int .i64 (0 : Int))), .dat (.v (.int .i64 (0 : Int))), .dat (.v (.bool false)), .dat (GRat.enc GRat.zero), .oref 3004])), (3003, .row 26 9 (List.map GTree.enc x387)), (3004, .row 26 9 (List.map GTree.enc p.2)), (1000000, .box 45 5 (.dat (Gref13P.enc p.1)))]) (Inv := fun p : Gref13P × (List GTree) => J429 p.1 p.2) ?_ (fun p hp => ?_)
    ·refine cB h (fun h => ?_) (fun h => ?_)
     ·refine AWp.seq ?_
      refine AWp.regionN (fun o => q00 [38] o) rfl ?_
      refine pP rfl (kB h rfl trivial fun x423 h => ?_)
      refine al0 ?_
      refine st (v := .dat (.st _ _)) ?_
      refine dn (rW (pP rfl (pO rfl (pT rfl ?_))))
      refine AOps.lit q01 (ys := [GTree.out x423.1]) rfl rfl rfl rfl rfl rfl ?_
      rw [show [GTree.out x423.1] = List.map GTree.enc [x423.1] by simp [GTree.enc_out]]
      obtain ⟨h1, h2, x425, ex425, h⟩ := h.get
      refine AOps.append q01 rfl rfl rfl rfl rfl rfl rfl rfl rfl rfl rfl (.inl ⟨_, rfl⟩) (app1 h1) (app2 h2) (app3 ex425) ?_
      refine pP rfl (st (v := .oref _) ?_)
      refine dn ?_
      exact ⟨⟨x423.2, x425⟩, h, (slf (fun i => (if Nat.beq i 3004 then 34 else i)))⟩
     refine AWp.skip ?_
     exact ⟨⟨x415.2, ([] : List GTree)⟩, h, (slf (fun i => (if Nat.beq i 3004 then 25 else i)))⟩
    obtain ⟨x420, x421⟩ := p
    replace h := hk430 x420 x421 hp
    refine AWp.seq ?_
    refine AWp.regionN (fun o => q00 [39] o) rfl ?_
    refine pP rfl (kB h rfl ⟨.inl rfl, trivial⟩ fun x426 h => ?_)
    refine dn (AWp.seq ?_)
    refine AWp.freezeB 4 3004 7 rfl rfl rfl rfl rfl ?_
    refine rW (pP rfl (pO rfl (pT rfl ?_)))
    refine AOps.lit q01 (ys := [GTree.out ({ GTree.zero with Kind := (31 : Int), Name := x413.1, Kids := x421 })]) rfl rfl rfl rfl rfl rfl ?_
    rw [show [GTree.out ({ GTree.zero with Kind := (31 : Int), Name := x413.1, Kids := x421 })] = List.map GTree.enc [({ GTree.zero with Kind := (31 : Int), Name := x413.1, Kids := x421 })] by simp [GTree.enc_out]]
    obtain ⟨h1, h2, x428, ex428, h⟩ := h.get
    refine AOps.append q01 rfl rfl rfl rfl rfl rfl rfl rfl rfl rfl rfl (.inl ⟨_, rfl⟩) (app1 h1) (app2 h2) (app3 ex428) ?_
    refine pP rfl (st (v := .oref _) ?_)
    refine dn (AWp.exit ?_)
    exact ⟨⟨x426, x428⟩, h.1, h.2, (slf (fun i => (if Nat.beq i 3003 then 42 else i)))⟩
   refine AWp.skip (AWp.seq (rN (pI rfl (dn (AWp.seq (AWp.seq ?_))))))
   refine AWp.regionN (fun o => q00 [36] o) rfl ?_
   refine pP rfl (kB h rfl ⟨.inl rfl, trivial⟩ fun x431 h => ?_)
   refine dn ?_
   obtain ⟨J510, h, hk511⟩ := h
   refine AWp.cutK (I := fun p : Gref13P × Int => mkSt [(0, .pt 1000000 [] 0), (2, .pt 2 [] 0), (3, .pt 3 [] 0), (6, .dat (.v (.int .i64 p.2)))] [(2, .box 26 9 (.dat (GTree.out GTree.zero))), (3, .box 26 9 (.st [1, 1, 1, 1, 1, 1, 2, 1] [.dat (.v (.int .i64 (30 : Int))), .dat (.v (.string (ByteArray.mk #[]))), .dat (.v (.string (ByteArray.mk #[]))), .dat (.v (.int .i64 (0 : Int))), .dat (.v (.int .i64 (0 : Int))), .dat (.v (.bool false)), .dat (GRat.enc GRat.zero), .oref 3003])), (3003, .row 26 9 (List.map GTree.enc x387)), (1000000, .box 45 5 (.dat (Gref13P.enc p.1)))]) (Inv := fun p : Gref13P × Int => J510 p.1 p.2) ?_ (fun p hp => ?_)
   ·refine cB h (fun h => ?_) (fun h => ?_)
    ·refine rN (pI rfl (dn ?_))
     exact ⟨⟨x431.2, (2 : Int)⟩, h, sl⟩
    refine AWp.seq ?_
    refine AWp.regionN (fun o => q00 [36] o) rfl ?_
    refine pP rfl (kB h rfl ⟨.inl rfl, trivial⟩ fun x440 h => ?_)
    refine pB rfl (dn (cB h (fun h => ?_) (fun h => ?_)))
    ·refine AWp.seq ?_
     refine AWp.regionN (fun o => q00 [40] o) rfl ?_
     refine pP rfl (kB h rfl trivial fun x442 h => ?_)
     refine dn (AWp.seq ?_)
     refine AWp.freezeB 3 3003 7 rfl rfl rfl rfl rfl ?_
     refine rW (pT rfl (st (v := .dat (.st _ _)) ?_))
     subst h; exact dn (AWp.ret ⟨_, rfl, rfl, rfl⟩)
    refine AWp.skip ?_
    exact ⟨⟨x440.2, (1 : Int)⟩, h, sl⟩
   obtain ⟨x437, x438⟩ := p
   replace h := hk511 x437 x438 hp
   refine AWp.seq ?_
   refine AWp.regionN (fun o => q00 [37] o) rfl ?_
   refine pI rfl (pP rfl (kB h rfl trivial fun x444 h => ?_))
   refine AOps.buildnil q01 7 26 9 rfl rfl rfl rfl rfl rfl rfl rfl rfl rfl rfl rfl rfl ?_
   refine al0 ?_
   refine st (v := .st _ _) ?_
   refine dn (AWp.seq ?_)
   obtain ⟨J508, h, hk509⟩ := h
   refine AWp.cutK (I := fun p : Gref13P × (List GTree) => mkSt [(0, .pt 1000000 [] 0), (2, .pt 2 [] 0), (3, .pt 3 [] 0), (7, .pt 7 [] 0)] [(2, .box 26 9 (.dat (GTree.out GTree.zero))), (3, .box 26 9 (.st [1, 1, 1, 1, 1, 1, 2, 1] [.dat (.v (.int .i64 (30 : Int))), .dat (.v (.string (ByteArray.mk #[]))), .dat (.v (.string (ByteArray.mk #[]))), .dat (.v (.int .i64 (0 : Int))), .dat (.v (.int .i64 (0 : Int))), .dat (.v (.bool false)), .dat (GRat.enc GRat.zero), .oref 3003])), (7, .box 26 9 (.st [1, 1, 1, 1, 1, 1, 2, 1] [.dat (.v (.int .i64 (32 : Int))), .dat (.v (.string x444.1)), .dat (.v (.string (ByteArray.mk #[]))), .dat (.v (.int .i64 x438)), .dat (.v (.int .i64 (0 : Int))), .dat (.v (.bool false)), .dat (GRat.enc GRat.zero), .oref 3007])), (3003, .row 26 9 (List.map GTree.enc x387)), (3007, .row 26 9 (List.map GTree.enc p.2)), (1000000, .box 45 5 (.dat (Gref13P.enc p.1)))]) (Inv := fun p : Gref13P × (List GTree) => J508 p.1 p.2) ?_ (fun p hp => ?_)
   ·refine AWp.block ?_
    obtain ⟨I499, x500, hz501, hr502⟩ := h
    refine AWp.loop (I := fun p : Gref13P × (List GTree) => mkSt [(0, .pt 1000000 [] 0), (2, .pt 2 [] 0), (3, .pt 3 [] 0), (7, .pt 7 [] 0)] [(2, .box 26 9 (.dat (GTree.out GTree.zero))), (3, .box 26 9 (.st [1, 1, 1, 1, 1, 1, 2, 1] [.dat (.v (.int .i64 (30 : Int))), .dat (.v (.string (ByteArray.mk #[]))), .dat (.v (.string (ByteArray.mk #[]))), .dat (.v (.int .i64 (0 : Int))), .dat (.v (.int .i64 (0 : Int))), .dat (.v (.bool false)), .dat (GRat.enc GRat.zero), .oref 3003])), (7, .box 26 9 (.st [1, 1, 1, 1, 1, 1, 2, 1] [.dat (.v (.int .i64 (32 : Int))), .dat (.v (.string x444.1)), .dat (.v (.string (ByteArray.mk #[]))), .dat (.v (.int .i64 x438)), .dat (.v (.int .i64 (0 : Int))), .dat (.v (.bool false)), .dat (GRat.enc GRat.zero), .oref 3007])), (3003, .row 26 9 (List.map GTree.enc x387)), (3007, .row 26 9 (List.map GTree.enc p.2)), (1000000, .box 45 5 (.dat (Gref13P.enc p.1)))]) (Inv := fun p => I499 p.1 p.2) (μ := fun p => x500 p.1 p.2) (x0 := ⟨x444.2, ([] : List GTree)⟩) hz501 (slf (fun i => (if Nat.beq i 3007 then 55 else i))) (fun p hp => ?_)
    obtain ⟨x489, x490⟩ := p
    have h := hr502 x489 x490 hp
    refine AWp.seq (AWp.seq (rN (pP rfl (pP rfl (pP rfl (pI rfl (pB rfl (pB rfl (sB 61 h (fun h => ?_) (fun h => ?_))))))))))
    ·refine pP rfl (kR h rfl ⟨.inl rfl, trivial⟩ fun x494 h => ?_)
     refine pB rfl (pB rfl (dn (cB h (fun h => ?_) (fun h => ?_))))
     ·refine AWp.skip (AWp.block (AWp.seq ?_))
      refine AWp.regionN (fun o => q00 [42] o) rfl ?_
      refine pP rfl (kB h rfl trivial fun x496 h => ?_)
      refine al0 ?_
      refine st (v := .dat (.st _ _)) ?_
      refine dn (rW (pP rfl (pO rfl (pT rfl ?_))))
      refine AOps.lit q01 (ys := [GTree.out x496.1]) rfl rfl rfl rfl rfl rfl ?_
      rw [show [GTree.out x496.1] = List.map GTree.enc [x496.1] by simp [GTree.enc_out]]
      obtain ⟨h1, h2, x498, ex498, h⟩ := h.get
      refine AOps.append q01 rfl rfl rfl rfl rfl rfl rfl rfl rfl rfl rfl (.inl ⟨_, rfl⟩) (app1 h1) (app2 h2) (app3 ex498) ?_
      refine pP rfl (st (v := .oref _) ?_)
      refine dn ?_
      exact ⟨⟨x496.2, x498⟩, h.1, h.2, (slf (fun i => (if Nat.beq i 3007 then 72 else i)))⟩
     refine AWp.exit ?_
     exact ⟨⟨x489, x490⟩, h, sl⟩
    refine fo 3 rfl (pB rfl (dn ?_))
    refine AWp.condF rfl ?_
    refine AWp.exit ?_
    exact ⟨⟨x489, x490⟩, h, sl⟩
   obtain ⟨x473, x474⟩ := p
   replace h := hk509 x473 x474 hp
   refine AWp.seq ?_
   refine AWp.regionN (fun o => q00 [39] o) rfl ?_
   refine pP rfl (kB h rfl ⟨.inl rfl, trivial⟩ fun x503 h => ?_)
   refine dn (AWp.seq ?_)
   refine AWp.regionN (fun o => q00 [39] o) rfl ?_
   refine pP rfl (kB h rfl ⟨.inl rfl, trivial⟩ fun x505 h => ?_)
   refine dn (AWp.freezeB 7 3007 7 rfl rfl rfl rfl rfl ?_)
   refine rW (pP rfl (pO rfl (pT rfl ?_)))
   refine AOps.lit q01 (ys := [GTree.out ({ GTree.zero with Kind := (32 : Int), Name := x444.1, N := x438, Kids := x474 })]) rfl rfl rfl rfl rfl rfl ?_
   rw [show [GTree.out ({ GTree.zero with Kind := (32 : Int), Name := x444.1, N := x438, Kids := x474 })] = List.map GTree.enc [({ GTree.zero with Kind := (32 : Int), Name := x444.1, N := x438, Kids := x474 })] by simp [GTree.enc_out]]
   obtain ⟨h1, h2, x507, ex507, h⟩ := h.get
   refine AOps.append q01 rfl rfl rfl rfl rfl rfl rfl rfl rfl rfl rfl (.inl ⟨_, rfl⟩) (app1 h1) (app2 h2) (app3 ex507) ?_
   refine pP rfl (st (v := .oref _) ?_)
   refine dn ?_
   exact ⟨⟨x505, x507⟩, h.1, h.2, (slf (fun i => (if Nat.beq i 3003 then 82 else i)))⟩
  refine AWp.exit ?_
  refine AWp.seq ?_
  refine AWp.freezeB 3 3003 7 rfl rfl rfl rfl rfl ?_
  refine rW (pT rfl (st (v := .dat (.st _ _)) ?_))
  subst h; exact dn (AWp.ret ⟨_, rfl, rfl, rfl⟩)
 refine fo 4 rfl (pB rfl (dn ?_))
 refine AWp.condF rfl ?_
 refine AWp.exit ?_
 refine AWp.seq ?_
 refine AWp.freezeB 3 3003 7 rfl rfl rfl rfl rfl ?_
 refine rW (pT rfl (st (v := .dat (.st _ _)) ?_))
 subst h; exact dn (AWp.ret ⟨_, rfl, rfl, rfl⟩)
def q3h (x1 : Gref13P) (Q : GTree × Gref13P -> Prop) : Prop :=
 Call (q08 x1 (ByteArray.mk #[112, 97, 114, 97, 109])) fun x2 =>
 q3r (fun j53 =>
 Br x2.1 (
 Call (q0l x2.2) fun x54 =>
 Call (q40 x54.2) fun x56 =>
 Call (q03 x56.2 (ByteArray.mk #[61])) fun x58 =>
 Call (q0m x58) fun x60 =>
 j53 x60.2 ({ GTree.zero with Kind := (33 : Int), Name := x54.1, Kids := [x56.1, x60.1] })) (
 q16 (fun j67 =>
 Call (q07 x2.2 (ByteArray.mk #[118, 97, 114])) fun x68 =>
 Br x68 (j67 true) (
 Call (q07 x2.2 (ByteArray.mk #[102, 108, 111, 119])) fun x70 =>
 j67 x70)
 ) (fun (x66 : Bool) =>
 Br x66 (
 Call (q07 x2.2 (ByteArray.mk #[102, 108, 111, 119])) fun x72 =>
 Let (IntKind.i64.wrap (x2.2.I + (1 : Int))) fun x74 =>
 Call (q0l ({ x2.2 with I := x74 })) fun x75 =>
 Call (q41 x75.2) fun x77 =>
 Call (q40 x77.2) fun x79 =>
 j53 x79.2 ({ GTree.zero with Kind := (34 : Int), Name := x75.1, N := x77.1, Flag := x72, Kids := [x79.1] })) (
 Call (q08 x2.2 (ByteArray.mk #[112, 97, 114, 116])) fun x81 =>
 Br x81.1 (
 Call (q0l x81.2) fun x83 =>
 Call (q41 x83.2) fun x85 =>
 Call (q03 x85.2 (ByteArray.mk #[58])) fun x87 =>
 Call (q0l x87) fun x89 =>
 Call (q64 x89.2) fun x91 =>
 j53 x91.2 ({ GTree.zero with Kind := (35 : Int), Name := x83.1, Alias := x89.1, N := x85.1, Kids := x91.1 })) (
 Call (q08 x81.2 (ByteArray.mk #[115, 116, 97, 114, 116])) fun x93 =>
 Br x93.1 (
 Call (q56 x93.2) fun x95 =>
 j53 x95.2 x95.1) (
 Call (q42 x93.2) fun x97 =>
 Q (x97.1, x97.2))))))
 ) (fun (x51 : Gref13P) (x52 : GTree) =>
 Call (q03 x51 (ByteArray.mk #[59])) fun x101 =>
 Q (x52, x101))
theorem qFx {x1 : Gref13P} {r : GTree × Gref13P} (h : q3h x1 (fun r' => r' = r)) : q3v x1 r := by
 unfold q3h at h
 refine AFnB.intro' (L := []) q01 Tryz.func42 rfl rfl Tryz.ntmps42 rfl rfl rfl (fun b => ?_)
 refine sN (al0 ?_)
 refine dn (sW (pT rfl (al0 ?_)))
 refine st (v := .dat (.st _ _)) ?_
 refine dn (AWp.seq (AWp.seq ?_))
 refine AWp.regionN (fun o => q00 [36] o) rfl ?_
 refine pP rfl (kB h rfl ⟨.inl rfl, trivial⟩ fun x2 h => ?_)
 refine dn ?_
 obtain ⟨J103, h, hk104⟩ := h
 refine AWp.cutK (I := fun p : Gref13P × GTree => mkSt [(0, .pt 1000000 [] 0), (2, .pt 2 [] 0), (3, .pt 3 [] 0)] [(2, .box 26 9 (.dat (GTree.out GTree.zero))), (3, .box 26 9 (.dat (GTree.out p.2))), (1000000, .box 45 5 (.dat (Gref13P.enc p.1)))]) (Inv := fun p : Gref13P × GTree => J103 p.1 p.2) ?_ (fun p hp => ?_)
 ·refine cB h (fun h => ?_) (fun h => ?_)
  ·refine sW (pP rfl (st (v := .dat (.v (.int _ _))) ?_))
   refine dn (AWp.seq ?_)
   refine AWp.regionN (fun o => q00 [37] o) rfl ?_
   refine pP rfl (kB h rfl trivial fun x54 h => ?_)
   refine pP rfl (st (v := .dat (.v (.string _))) ?_)
   refine dn (AWp.seq ?_)
   refine AWp.regionN (fun o => q00 [69] o) rfl ?_
   refine pP rfl (kB h rfl trivial fun x56 h => ?_)
   refine al0 ?_
   refine st (v := .dat (.st _ _)) ?_
   refine dn (AWp.seq ?_)
   refine AWp.regionN (fun o => q00 [39] o) rfl ?_
   refine pP rfl (kB h rfl ⟨.inl rfl, trivial⟩ fun x58 h => ?_)
   refine dn (AWp.seq ?_)
   refine AWp.regionN (fun o => q00 [70] o) rfl ?_
   refine pP rfl (kB h rfl trivial fun x60 h => ?_)
   refine al0 ?_
   refine st (v := .dat (.st _ _)) ?_
   refine dn (rW (pT rfl (pT rfl ?_)))
   refine AOps.lit q01 (ys := [GTree.out x56.1, GTree.out x60.1]) rfl rfl rfl rfl rfl rfl ?_
   rw [show [GTree.out x56.1, GTree.out x60.1] = List.map GTree.enc [x56.1, x60.1] by simp [GTree.enc_out]]
   refine pP rfl (st (v := .dat (.sl _ _ _)) ?_)
   refine dn ?_
   exact ⟨⟨x60.2, ({ GTree.zero with Kind := (33 : Int), Name := x54.1, Kids := [x56.1, x60.1] })⟩, h, sl⟩
  refine AWp.seq ?_
  obtain ⟨J99, h, hk100⟩ := h
  refine AWp.cutK (I := fun p : Bool => mkSt [(0, .pt 1000000 [] 0), (2, .pt 2 [] 0), (3, .pt 3 [] 0), (28, .dat (.v (.bool p)))] [(2, .box 26 9 (.dat (GTree.out GTree.zero))), (3, .box 26 9 (.dat (GTree.out GTree.zero))), (1000000, .box 45 5 (.dat (Gref13P.enc x2.2)))]) (Inv := fun p : Bool => J99 p) ?_ (fun p hp => ?_)
  ·refine rN (pP rfl (kR h rfl ⟨.inl rfl, trivial⟩ fun x68 h => ?_))
   refine pB rfl (sB 25 h (fun h => ?_) (fun h => ?_))
   ·refine ff rfl (ff rfl (pB rfl (dn ?_)))
    exact ⟨true, h, sl⟩
   refine pP rfl (kR h rfl ⟨.inl rfl, trivial⟩ fun x70 h => ?_)
   refine pB rfl (dn ?_)
   exact ⟨x70, h, sl⟩
  replace h := hk100 p hp
  revert h; clear hp; generalize p = x66; intro h
  refine cB h (fun h => ?_) (fun h => ?_)
  ·refine sW (pP rfl (st (v := .dat (.v (.int _ _))) ?_))
   refine dn (sW (pP rfl (kR h rfl ⟨.inl rfl, trivial⟩ fun x72 h => ?_)))
   refine pP rfl (st (v := .dat (.v (.bool _))) ?_)
   refine dn (sW (pP rfl (pP rfl (pP rfl (pP rfl (pI rfl ?_))))))
   obtain ⟨x74, ex74, h⟩ := h.get
   refine ai ex74 rfl (pP rfl (pP rfl (st (v := .dat (.v (.int _ _))) ?_)))
   refine dn (AWp.seq ?_)
   refine AWp.regionN (fun o => q00 [37] o) rfl ?_
   refine pP rfl (kB h rfl trivial fun x75 h => ?_)
   refine pP rfl (st (v := .dat (.v (.string _))) ?_)
   refine dn (AWp.seq ?_)
   refine AWp.regionN (fun o => q00 [71] o) rfl ?_
   refine pP rfl (kB h rfl trivial fun x77 h => ?_)
   refine pP rfl (st (v := .dat (.v (.int _ _))) ?_)
   refine dn ?_
   refine AWp.regionN (fun o => q00 [69] o) rfl ?_
   refine pP rfl (kB h rfl trivial fun x79 h => ?_)
   refine AOps.lit q01 (ys := [GTree.out x79.1]) rfl rfl rfl rfl rfl rfl ?_
   rw [show [GTree.out x79.1] = List.map GTree.enc [x79.1] by simp [GTree.enc_out]]
   refine pP rfl (st (v := .dat (.sl _ _ _)) ?_)
   refine dn ?_
   exact ⟨⟨x79.2, ({ GTree.zero with Kind := (34 : Int), Name := x75.1, N := x77.1, Flag := x72, Kids := [x79.1] })⟩, h, sl⟩
  refine AWp.seq ?_
  refine AWp.regionN (fun o => q00 [36] o) rfl ?_
  refine pP rfl (kB h rfl ⟨.inl rfl, trivial⟩ fun x81 h => ?_)
  refine dn (cB h (fun h => ?_) (fun h => ?_))
  ·refine sW (pP rfl (st (v := .dat (.v (.int _ _))) ?_))
   refine dn (AWp.seq ?_)
   refine AWp.regionN (fun o => q00 [37] o) rfl ?_
   refine pP rfl (kB h rfl trivial fun x83 h => ?_)
   refine pP rfl (st (v := .dat (.v (.string _))) ?_)
   refine dn (AWp.seq ?_)
   refine AWp.regionN (fun o => q00 [71] o) rfl ?_
   refine pP rfl (kB h rfl trivial fun x85 h => ?_)
   refine pP rfl (st (v := .dat (.v (.int _ _))) ?_)
   refine dn (AWp.seq ?_)
   refine AWp.regionN (fun o => q00 [39] o) rfl ?_
   refine pP rfl (kB h rfl ⟨.inl rfl, trivial⟩ fun x87 h => ?_)
   refine dn (AWp.seq ?_)
   refine AWp.regionN (fun o => q00 [37] o) rfl ?_
   refine pP rfl (kB h rfl trivial fun x89 h => ?_)
   refine pP rfl (st (v := .dat (.v (.string _))) ?_)
   refine dn ?_
   refine AWp.regionN (fun o => q00 [72] o) rfl ?_
   refine pP rfl (kB h rfl trivial fun x91 h => ?_)
   refine pP rfl (st (v := .dat (.sl _ _ _)) ?_)
   refine dn ?_
   exact ⟨⟨x91.2, ({ GTree.zero with Kind := (35 : Int), Name := x83.1, Alias := x89.1, N := x85.1, Kids := x91.1 })⟩, h, sl⟩
  refine AWp.seq ?_
  refine AWp.regionN (fun o => q00 [36] o) rfl ?_
  refine pP rfl (kB h rfl ⟨.inl rfl, trivial⟩ fun x93 h => ?_)
  refine dn (cB h (fun h => ?_) (fun h => ?_))
  ·refine AWp.regionN (fun o => q00 [73] o) rfl ?_
   refine pP rfl (kB h rfl trivial fun x95 h => ?_)
   refine st (v := .dat (.st _ _)) ?_
   refine dn ?_
   exact ⟨⟨x95.2, x95.1⟩, h, sl⟩
  refine AWp.seq ?_
  refine AWp.regionN (fun o => q00 [74] o) rfl ?_
  refine pP rfl (kB h rfl trivial fun x97 h => ?_)
  refine st (v := .dat (.st _ _)) ?_
  subst h; exact dn (AWp.ret ⟨_, rfl, rfl, rfl⟩)
 obtain ⟨x51, x52⟩ := p
 replace h := hk104 x51 x52 hp
 refine AWp.seq ?_
 refine AWp.regionN (fun o => q00 [39] o) rfl ?_
 refine pP rfl (kB h rfl ⟨.inl rfl, trivial⟩ fun x101 h => ?_)
 refine dn (sW (pT rfl (st (v := .dat (.st _ _)) ?_)))
 subst h; exact dn (AWp.ret ⟨_, rfl, rfl, rfl⟩)
def q3i (p1 : Gref13P) (Q : GTree × Gref13P -> Prop) : Prop :=
 Call (q08 p1 (ByteArray.mk #[58])) fun x2 =>
 Br x2.1 (
 Call (q2d x2.2) fun x7 =>
 App 104 ([] : List GTree) ([x7.1]) fun x9 =>
 Q (({ GTree.zero with Kind := (41 : Int), Kids := x9 }), x7.2)) (
 Q (({ GTree.zero with Kind := (41 : Int), Kids := ([] : List GTree) }), x2.2))
theorem qFy {p1 : Gref13P} {r : GTree × Gref13P} (h : q3i p1 (fun r' => r' = r)) : q40 p1 r := by
 unfold q3i at h
 refine AFnB.intro' (L := []) q01 Tryz.func69 rfl rfl Tryz.ntmps69 rfl rfl rfl (fun b => ?_)
 refine sN (al0 ?_)
 refine dn (sW ?_)
 refine AOps.buildnil q01 7 26 9 rfl rfl rfl rfl rfl rfl rfl rfl rfl rfl rfl rfl rfl ?_
 refine al0 ?_
 refine st (v := .st _ _) ?_
 refine dn (AWp.seq (AWp.seq ?_))
 refine AWp.regionN (fun o => q00 [36] o) rfl ?_
 refine pP rfl (kB h rfl ⟨.inl rfl, trivial⟩ fun x2 h => ?_)
 refine dn (cB h (fun h => ?_) (fun h => ?_))
 ·refine AWp.seq ?_
  refine AWp.regionN (fun o => q00 [38] o) rfl ?_
  refine pP rfl (kB h rfl trivial fun x7 h => ?_)
  refine al0 ?_
  refine st (v := .dat (.st _ _)) ?_
  refine dn (rW (pP rfl (pO rfl (pT rfl ?_))))
  refine AOps.lit q01 (ys := [GTree.out x7.1]) rfl rfl rfl rfl rfl rfl ?_
  rw [show [GTree.out x7.1] = List.map GTree.enc [x7.1] by simp [GTree.enc_out]]
  obtain ⟨h1, h2, x9, ex9, h⟩ := h.get
  refine AOps.append q01 rfl rfl rfl rfl rfl rfl rfl rfl rfl rfl rfl (.inl ⟨_, rfl⟩) (app1 h1) (app2 h2) (app3 ex9) ?_
  refine pP rfl (st (v := .oref _) ?_)
  refine dn (AWp.seq ?_)
  refine AWp.freezeB 3 14 7 rfl rfl rfl rfl rfl ?_
  refine rW (pT rfl (st (v := .dat (.st _ _)) ?_))
  subst h; exact dn (AWp.ret ⟨_, rfl, rfl, rfl⟩)
 refine AWp.skip (AWp.seq ?_)
 refine AWp.freezeB 3 5 7 rfl rfl rfl rfl rfl ?_
 refine rW (pT rfl (st (v := .dat (.st _ _)) ?_))
 subst h; exact dn (AWp.ret ⟨_, rfl, rfl, rfl⟩)
def q3j (p1 : Gref13P) (Q : (List GTree) × Gref13P -> Prop) : Prop :=
 Call (q07 p1 (ByteArray.mk #[40])) fun x2 =>
 Br (!x2) (Q (([] : List GTree), p1)) (
 Call (q0o p1 (ByteArray.mk #[40])) fun x4 =>
 qKr x4 ([] : List GTree) true (fun (p47 : Gref13P) (l48 : List GTree) (more49 : Bool) next50 =>
 Br more49 (
 Call (q0l p47) fun x51 =>
 Call (q03 x51.2 (ByteArray.mk #[61])) fun x53 =>
 Call (q0m x53) fun x55 =>
 App 104 l48 ([({ GTree.zero with Kind := (36 : Int), Name := x51.1, Kids := [x55.1] })]) fun x57 =>
 Call (q08 x55.2 (ByteArray.mk #[44])) fun x58 =>
 next50 x58.2 x57 x58.1) (
 Call (q03 p47 (ByteArray.mk #[41])) fun x60 =>
 Call (q0t x60) fun x62 =>
 Q (l48, x62))))
theorem qFz {p1 : Gref13P} {r : (List GTree) × Gref13P} (h : q3j p1 (fun r' => r' = r)) : q64 p1 r := by
 unfold q3j at h
 refine AFnB.intro' (L := []) q01 Tryz.func72 rfl rfl Tryz.ntmps72 rfl rfl rfl (fun b => ?_)
 refine sN (pS rfl (dn (AWp.seq (rN ?_))))
 refine AOps.litown q01 (ys := []) rfl rfl rfl rfl rfl rfl rfl rfl ?_
 refine pO rfl (dn (AWp.seq (AWp.seq (rN (pP rfl (kR h rfl ⟨.inl rfl, trivial⟩ fun x2 h => ?_))))))
 refine pB rfl (dn (cB h (fun h => ?_) (fun h => ?_)))
 ·refine sN (pO rfl (pO rfl (dn (AWp.ret ?_))))
  subst h
  exact ⟨_, rfl, rfl, rfl⟩
 refine AWp.skip (AWp.seq ?_)
 refine AWp.regionN (fun o => q00 [100] o) rfl ?_
 refine pP rfl (kB h rfl ⟨.inl rfl, trivial⟩ fun x4 h => ?_)
 refine dn (sN (pB rfl (dn (AWp.seq (AWp.block ?_)))))
 obtain ⟨I64, x65, hz66, hr67⟩ := h
 refine AWp.loop (I := fun p : Gref13P × (List GTree) × Bool => mkSt [(0, .pt 1000000 [] 0), (3, .oref 1003), (4, .dat (.v (.bool p.2.2)))] [(1003, .row 26 9 (List.map GTree.enc p.2.1)), (1000000, .box 45 5 (.dat (Gref13P.enc p.1)))]) (Inv := fun p => I64 p.1 p.2.1 p.2.2) (μ := fun p => x65 p.1 p.2.1 p.2.2) (x0 := ⟨x4, ([] : List GTree), true⟩) hz66 (slf (fun i => (if Nat.beq i 1003 then 7 else i))) (fun p hp => ?_)
 obtain ⟨p47, l48, more49⟩ := p
 have h := hr67 p47 l48 more49 hp
 refine AWp.seq (AWp.seq (rN (pB rfl (dn (cB h (fun h => ?_) (fun h => ?_))))))
 ·refine AWp.skip (AWp.block (AWp.seq ?_))
  refine AWp.regionN (fun o => q00 [37] o) rfl ?_
  refine pP rfl (kB h rfl trivial fun x51 h => ?_)
  refine pT rfl (al0 ?_)
  refine st (v := .dat (.st _ _)) ?_
  refine dn (AWp.seq ?_)
  refine AWp.regionN (fun o => q00 [39] o) rfl ?_
  refine pP rfl (kB h rfl ⟨.inl rfl, trivial⟩ fun x53 h => ?_)
  refine dn (AWp.seq ?_)
  refine AWp.regionN (fun o => q00 [70] o) rfl ?_
  refine pP rfl (kB h rfl trivial fun x55 h => ?_)
  refine al0 ?_
  refine st (v := .dat (.st _ _)) ?_
  refine dn (sW (pT rfl ?_))
  refine AOps.lit q01 (ys := [GTree.out x55.1]) rfl rfl rfl rfl rfl rfl ?_
  rw [show [GTree.out x55.1] = List.map GTree.enc [x55.1] by simp [GTree.enc_out]]
  refine pP rfl (st (v := .dat (.sl _ _ _)) ?_)
  refine dn (sW (pO rfl (pT rfl ?_)))
  refine AOps.lit q01 (ys := [GTree.out ({ GTree.zero with Kind := (36 : Int), Name := x51.1, Kids := [x55.1] })]) rfl rfl rfl rfl rfl rfl ?_
  rw [show [GTree.out ({ GTree.zero with Kind := (36 : Int), Name := x51.1, Kids := [x55.1] })] = List.map GTree.enc [({ GTree.zero with Kind := (36 : Int), Name := x51.1, Kids := [x55.1] })] by simp [GTree.enc_out]]
  obtain ⟨h1, h2, x57, ex57, h⟩ := h.get
  refine AOps.append q01 rfl rfl rfl rfl rfl rfl rfl rfl rfl rfl rfl (.inl ⟨_, rfl⟩) (app1 h1) (app2 h2) (app3 ex57) ?_
  refine pO rfl (dn ?_)
  refine AWp.regionN (fun o => q00 [36] o) rfl ?_
  refine pP rfl (kB h rfl ⟨.inl rfl, trivial⟩ fun x58 h => ?_)
  refine pB rfl (dn ?_)
  exact ⟨⟨x58.2, x57, x58.1⟩, h.1, h.2, (slf (fun i => (if Nat.beq i 1003 then 28 else i)))⟩
 refine AWp.exit ?_
 refine AWp.seq ?_
 refine AWp.regionN (fun o => q00 [39] o) rfl ?_
 refine pP rfl (kB h rfl ⟨.inl rfl, trivial⟩ fun x60 h => ?_)
 refine dn (AWp.seq ?_)
 refine AWp.regionN (fun o => q00 [101] o) rfl ?_
 refine pP rfl (kB h rfl trivial fun x62 h => ?_)
 refine dn (sN (pO rfl (pO rfl (dn (AWp.ret ?_)))))
 subst h
 exact ⟨_, rfl, rfl, rfl⟩
def q2j (x1 : Gref13P) (Q : GTree × Gref13P -> Prop) : Prop :=
 Call (q08 x1 (ByteArray.mk #[99, 111, 110, 110, 101, 99, 116])) fun x2 =>
 Br x2.1 (
 Call (q0o x2.2 (ByteArray.mk #[40])) fun x18 =>
 Call (q2g x18) fun x20 =>
 Call (q03 x20.2 (ByteArray.mk #[44])) fun x22 =>
 Call (q2g x22) fun x24 =>
 Call (q03 x24.2 (ByteArray.mk #[41])) fun x26 =>
 Call (q03 x26 (ByteArray.mk #[59])) fun x28 =>
 Call (q0t x28) fun x30 =>
 Q (({ GTree.zero with Kind := (38 : Int), Kids := [x20.1, x24.1] }), x30)) (
 Call (q07 x2.2 (ByteArray.mk #[102, 111, 114])) fun x32 =>
 Br x32 (
 Call (q0o x2.2 (ByteArray.mk #[102, 111, 114])) fun x109 =>
 Call (q0l x109) fun x111 =>
 Call (q03 x111.2 (ByteArray.mk #[105, 110])) fun x113 =>
 Call (q0p x113 (0 : Int) (1000000 : Int)) fun x115 =>
 Call (q03 x115.2 (ByteArray.mk #[46, 46])) fun x117 =>
 Call (q0p x117 (0 : Int) (1000000 : Int)) fun x119 =>
 Call (q03 x119.2 (ByteArray.mk #[100, 111])) fun x121 =>
 q3r (fun j150 =>
 Loop2 x121 ([] : List GTree) (fun (x162 : Gref13P) (x163 : List GTree) next164 =>
 Br (x162.Bad == (0 : Int)) (
 Call (q07 x162 (ByteArray.mk #[101, 110, 100])) fun x167 =>
 Br (!x167) (
 Call (q42 x162) fun x169 =>
 App 104 x163 ([x169.1]) fun x171 =>
 next164 x169.2 x171) (
 j150 x162 x163)) (
 j150 x162 x163))
 ) (fun (x148 : Gref13P) (x149 : List GTree) =>
 Call (q03 x148 (ByteArray.mk #[101, 110, 100])) fun x176 =>
 Call (q03 x176 (ByteArray.mk #[59])) fun x178 =>
 Call (q0t x178) fun x180 =>
 Q (({ GTree.zero with Kind := (40 : Int), Name := x111.1, N := x115.1, M := x119.1, Kids := x149 }), x180))) (
 Call (q0m x2.2) fun x184 =>
 Call (q03 x184.2 (ByteArray.mk #[61])) fun x186 =>
 Call (q0m x186) fun x188 =>
 Call (q03 x188.2 (ByteArray.mk #[59])) fun x190 =>
 Q (({ GTree.zero with Kind := (39 : Int), Kids := [x184.1, x188.1] }), x190)))
theorem qG0 {x1 : Gref13P} {r : GTree × Gref13P} (h : q2j x1 (fun r' => r' = r)) : q42 x1 r := by
 unfold q2j at h
 refine AFnB.intro' (L := []) q01 Tryz.func74 rfl rfl Tryz.ntmps74 rfl rfl rfl (fun b => ?_)
 refine sN (al0 ?_)
 refine dn (AWp.seq (AWp.seq ?_))
 refine AWp.regionN (fun o => q00 [36] o) rfl ?_
 refine pP rfl (kB h rfl ⟨.inl rfl, trivial⟩ fun x2 h => ?_)
 refine dn (cB h (fun h => ?_) (fun h => ?_))
 ·refine AWp.seq ?_
  refine AWp.regionN (fun o => q00 [100] o) rfl ?_
  refine pP rfl (kB h rfl ⟨.inl rfl, trivial⟩ fun x18 h => ?_)
  refine dn (AWp.seq ?_)
  refine AWp.regionN (fun o => q00 [107] o) rfl ?_
  refine pP rfl (kB h rfl trivial fun x20 h => ?_)
  refine al0 ?_
  refine st (v := .dat (.st _ _)) ?_
  refine dn (AWp.seq ?_)
  refine AWp.regionN (fun o => q00 [39] o) rfl ?_
  refine pP rfl (kB h rfl ⟨.inl rfl, trivial⟩ fun x22 h => ?_)
  refine dn (AWp.seq ?_)
  refine AWp.regionN (fun o => q00 [107] o) rfl ?_
  refine pP rfl (kB h rfl trivial fun x24 h => ?_)
  refine al0 ?_
  refine st (v := .dat (.st _ _)) ?_
  refine dn (AWp.seq ?_)
  refine AWp.regionN (fun o => q00 [39] o) rfl ?_
  refine pP rfl (kB h rfl ⟨.inl rfl, trivial⟩ fun x26 h => ?_)
  refine dn (AWp.seq ?_)
  refine AWp.regionN (fun o => q00 [39] o) rfl ?_
  refine pP rfl (kB h rfl ⟨.inl rfl, trivial⟩ fun x28 h => ?_)
  refine dn (AWp.seq ?_)
  refine AWp.regionN (fun o => q00 [101] o) rfl ?_
  refine pP rfl (kB h rfl trivial fun x30 h => ?_)
  refine dn (sW (pT rfl (pT rfl ?_)))
  refine AOps.lit q01 (ys := [GTree.out x20.1, GTree.out x24.1]) rfl rfl rfl rfl rfl rfl ?_
  rw [show [GTree.out x20.1, GTree.out x24.1] = List.map GTree.enc [x20.1, x24.1] by simp [GTree.enc_out]]
  refine pT rfl (st (v := .dat (.st _ _)) ?_)
  subst h; exact dn (AWp.ret ⟨_, rfl, rfl, rfl⟩)
 refine AWp.skip (AWp.seq (AWp.seq (rN (pP rfl (kR h rfl ⟨.inl rfl, trivial⟩ fun x32 h => ?_)))))
 refine dn (cB h (fun h => ?_) (fun h => ?_))
 ·refine AWp.seq ?_
  refine AWp.regionN (fun o => q00 [100] o) rfl ?_
  refine pP rfl (kB h rfl ⟨.inl rfl, trivial⟩ fun x109 h => ?_)
  refine dn (AWp.seq ?_)
  refine AWp.regionN (fun o => q00 [37] o) rfl ?_
  refine pP rfl (kB h rfl trivial fun x111 h => ?_)
  refine AOps.buildnil q01 7 26 9 rfl rfl rfl rfl rfl rfl rfl rfl rfl rfl rfl rfl rfl ?_
  refine al0 ?_
  refine st (v := .st _ _) ?_
  refine dn (AWp.seq ?_)
  refine AWp.regionN (fun o => q00 [39] o) rfl ?_
  refine pP rfl (kB h rfl ⟨.inl rfl, trivial⟩ fun x113 h => ?_)
  refine dn (AWp.seq ?_)
  refine AWp.regionN (fun o => q00 [102] o) rfl ?_
  refine pP rfl (kB h rfl ⟨.inl rfl, .inl rfl, trivial⟩ fun x115 h => ?_)
  refine pP rfl (st (v := .dat (.v (.int _ _))) ?_)
  refine dn (AWp.seq ?_)
  refine AWp.regionN (fun o => q00 [39] o) rfl ?_
  refine pP rfl (kB h rfl ⟨.inl rfl, trivial⟩ fun x117 h => ?_)
  refine dn (AWp.seq ?_)
  refine AWp.regionN (fun o => q00 [102] o) rfl ?_
  refine pP rfl (kB h rfl ⟨.inl rfl, .inl rfl, trivial⟩ fun x119 h => ?_)
  refine pP rfl (st (v := .dat (.v (.int _ _))) ?_)
  refine dn (AWp.seq ?_)
  refine AWp.regionN (fun o => q00 [39] o) rfl ?_
  refine pP rfl (kB h rfl ⟨.inl rfl, trivial⟩ fun x121 h => ?_)
  refine dn (AWp.seq ?_)
  obtain ⟨J182, h, hk183⟩ := h
  refine AWp.cutK (I := fun p : Gref13P × (List GTree) => mkSt [(0, .pt 1000000 [] 0), (2, .pt 2 [] 0), (5, .pt 5 [] 0)] [(2, .box 26 9 (.dat (GTree.out GTree.zero))), (5, .box 26 9 (.st [1, 1, 1, 1, 1, 1, 2, 1] [.dat (.v (.int .i64 (40 : Int))), .dat (.v (.string x111.1)), .dat (.v (.string (ByteArray.mk #[]))), .dat (.v (.int .i64 x115.1)), .dat (.v (.int .i64 x119.1)), .dat (.v (.bool false)), .dat (GRat.enc GRat.zero), .oref 3005])), (3005, .row 26 9 (List.map GTree.enc p.2)), (1000000, .box 45 5 (.dat (Gref13P.enc p.1)))]) (Inv := fun p : Gref13P × (List GTree) => J182 p.1 p.2) ?_ (fun p hp => ?_)
  ·refine AWp.block ?_
   obtain ⟨I172, x173, hz174, hr175⟩ := h
   refine AWp.loop (I := fun p : Gref13P × (List GTree) => mkSt [(0, .pt 1000000 [] 0), (2, .pt 2 [] 0), (5, .pt 5 [] 0)] [(2, .box 26 9 (.dat (GTree.out GTree.zero))), (5, .box 26 9 (.st [1, 1, 1, 1, 1, 1, 2, 1] [.dat (.v (.int .i64 (40 : Int))), .dat (.v (.string x111.1)), .dat (.v (.string (ByteArray.mk #[]))), .dat (.v (.int .i64 x115.1)), .dat (.v (.int .i64 x119.1)), .dat (.v (.bool false)), .dat (GRat.enc GRat.zero), .oref 3005])), (3005, .row 26 9 (List.map GTree.enc p.2)), (1000000, .box 45 5 (.dat (Gref13P.enc p.1)))]) (Inv := fun p => I172 p.1 p.2) (μ := fun p => x173 p.1 p.2) (x0 := ⟨x121, ([] : List GTree)⟩) hz174 (slf (fun i => (if Nat.beq i 3005 then 35 else i))) (fun p hp => ?_)
   obtain ⟨x162, x163⟩ := p
   have h := hr175 x162 x163 hp
   refine AWp.seq (AWp.seq (rN (pP rfl (pP rfl (pP rfl (pI rfl (pB rfl (pB rfl (sB 53 h (fun h => ?_) (fun h => ?_))))))))))
   ·refine pP rfl (kR h rfl ⟨.inl rfl, trivial⟩ fun x167 h => ?_)
    refine pB rfl (pB rfl (dn (cB h (fun h => ?_) (fun h => ?_))))
    ·refine AWp.skip (AWp.block (AWp.seq ?_))
     refine AWp.regionN (fun o => q00 [74] o) rfl ?_
     refine pP rfl (kB h rfl trivial fun x169 h => ?_)
     refine al0 ?_
     refine st (v := .dat (.st _ _)) ?_
     refine dn (rW (pP rfl (pO rfl (pT rfl ?_))))
     refine AOps.lit q01 (ys := [GTree.out x169.1]) rfl rfl rfl rfl rfl rfl ?_
     rw [show [GTree.out x169.1] = List.map GTree.enc [x169.1] by simp [GTree.enc_out]]
     obtain ⟨h1, h2, x171, ex171, h⟩ := h.get
     refine AOps.append q01 rfl rfl rfl rfl rfl rfl rfl rfl rfl rfl rfl (.inl ⟨_, rfl⟩) (app1 h1) (app2 h2) (app3 ex171) ?_
     refine pP rfl (st (v := .oref _) ?_)
     refine dn ?_
     exact ⟨⟨x169.2, x171⟩, h.1, h.2, (slf (fun i => (if Nat.beq i 3005 then 64 else i)))⟩
    refine AWp.exit ?_
    exact ⟨⟨x162, x163⟩, h, sl⟩
   refine fo 3 rfl (pB rfl (dn ?_))
   refine AWp.condF rfl ?_
   refine AWp.exit ?_
   exact ⟨⟨x162, x163⟩, h, sl⟩
  obtain ⟨x148, x149⟩ := p
  replace h := hk183 x148 x149 hp
  refine AWp.seq ?_
  refine AWp.regionN (fun o => q00 [39] o) rfl ?_
  refine pP rfl (kB h rfl ⟨.inl rfl, trivial⟩ fun x176 h => ?_)
  refine dn (AWp.seq ?_)
  refine AWp.regionN (fun o => q00 [39] o) rfl ?_
  refine pP rfl (kB h rfl ⟨.inl rfl, trivial⟩ fun x178 h => ?_)
  refine dn (AWp.seq ?_)
  refine AWp.regionN (fun o => q00 [101] o) rfl ?_
  refine pP rfl (kB h rfl trivial fun x180 h => ?_)
  refine dn (AWp.seq ?_)
  refine AWp.freezeB 5 3005 7 rfl rfl rfl rfl rfl ?_
  refine rW (pT rfl (st (v := .dat (.st _ _)) ?_))
  subst h; exact dn (AWp.ret ⟨_, rfl, rfl, rfl⟩)
 refine AWp.skip (AWp.seq ?_)
 refine AWp.regionN (fun o => q00 [70] o) rfl ?_
 refine pP rfl (kB h rfl trivial fun x184 h => ?_)
 refine al0 ?_
 refine st (v := .dat (.st _ _)) ?_
 refine dn (AWp.seq ?_)
 refine AWp.regionN (fun o => q00 [39] o) rfl ?_
 refine pP rfl (kB h rfl ⟨.inl rfl, trivial⟩ fun x186 h => ?_)
 refine dn (AWp.seq ?_)
 refine AWp.regionN (fun o => q00 [70] o) rfl ?_
 refine pP rfl (kB h rfl trivial fun x188 h => ?_)
 refine al0 ?_
 refine st (v := .dat (.st _ _)) ?_
 refine dn (AWp.seq ?_)
 refine AWp.regionN (fun o => q00 [39] o) rfl ?_
 refine pP rfl (kB h rfl ⟨.inl rfl, trivial⟩ fun x190 h => ?_)
 refine dn (sW (pT rfl (pT rfl ?_)))
 refine AOps.lit q01 (ys := [GTree.out x184.1, GTree.out x188.1]) rfl rfl rfl rfl rfl rfl ?_
 rw [show [GTree.out x184.1, GTree.out x188.1] = List.map GTree.enc [x184.1, x188.1] by simp [GTree.enc_out]]
 refine pT rfl (st (v := .dat (.st _ _)) ?_)
 subst h; exact dn (AWp.ret ⟨_, rfl, rfl, rfl⟩)
def q4h (p1 : Gref13P) (Q : GTree × Gref13P -> Prop) : Prop :=
 Call (q6a p1) fun x2 =>
 Loop2 x2.2 ([x2.1]) (fun (p34 : Gref13P) (t35 : List GTree) next36 =>
 Call (q08 p34 (ByteArray.mk #[46])) fun x37 =>
 Br x37.1 (
 Call (q6a x37.2) fun x39 =>
 App 104 t35 ([x39.1]) fun x41 =>
 next36 x39.2 x41) (
 Q (({ GTree.zero with Kind := (2 : Int), Kids := t35 }), x37.2)))
theorem qH1 {p1 : Gref13P} {r : GTree × Gref13P} (h : q4h p1 (fun r' => r' = r)) : q2g p1 r := by
 unfold q4h at h
 refine AFnB.intro' (L := []) q01 Tryz.func107 rfl rfl Tryz.ntmps107 rfl rfl rfl (fun b => ?_)
 refine sN (al0 ?_)
 refine dn (AWp.seq ?_)
 refine AWp.regionN (fun o => q00 [132] o) rfl ?_
 refine pP rfl (kB h rfl trivial fun x2 h => ?_)
 refine al0 ?_
 refine st (v := .dat (.st _ _)) ?_
 refine dn (sW (pT rfl ?_))
 refine AOps.litown q01 (ys := [GTree.out x2.1]) rfl rfl rfl rfl rfl rfl rfl rfl ?_
 rw [show [GTree.out x2.1] = List.map GTree.enc [x2.1] by simp [GTree.enc_out]]
 refine pV rfl (al0 ?_)
 refine st (v := .st _ _) ?_
 refine dn (AWp.seq (AWp.block ?_))
 obtain ⟨I42, x43, hz44, hr45⟩ := h
 refine AWp.loop (I := fun p : Gref13P × (List GTree) => mkSt [(0, .pt 1000000 [] 0), (2, .pt 2 [] 0), (4, .pt 4 [] 0)] [(2, .box 26 9 (.dat (GTree.out GTree.zero))), (4, .box 26 9 (.st [1, 1, 1, 1, 1, 1, 2, 1] [.dat (.v (.int .i64 (2 : Int))), .dat (.v (.string (ByteArray.mk #[]))), .dat (.v (.string (ByteArray.mk #[]))), .dat (.v (.int .i64 (0 : Int))), .dat (.v (.int .i64 (0 : Int))), .dat (.v (.bool false)), .dat (GRat.enc GRat.zero), .oref 3004])), (3004, .row 26 9 (List.map GTree.enc p.2)), (1000000, .box 45 5 (.dat (Gref13P.enc p.1)))]) (Inv := fun p => I42 p.1 p.2) (μ := fun p => x43 p.1 p.2) (x0 := ⟨x2.2, ([x2.1])⟩) hz44 (slf (fun i => (if Nat.beq i 3004 then 9 else i))) (fun p hp => ?_)
 obtain ⟨p34, t35⟩ := p
 have h := hr45 p34 t35 hp
 refine AWp.seq (AWp.seq ?_)
 refine AWp.regionN (fun o => q00 [36] o) rfl ?_
 refine pP rfl (kB h rfl ⟨.inl rfl, trivial⟩ fun x37 h => ?_)
 refine dn (cB h (fun h => ?_) (fun h => ?_))
 ·refine AWp.skip (AWp.block (AWp.seq ?_))
  refine AWp.regionN (fun o => q00 [132] o) rfl ?_
  refine pP rfl (kB h rfl trivial fun x39 h => ?_)
  refine al0 ?_
  refine st (v := .dat (.st _ _)) ?_
  refine dn (rW (pP rfl (pO rfl (pT rfl ?_))))
  refine AOps.lit q01 (ys := [GTree.out x39.1]) rfl rfl rfl rfl rfl rfl ?_
  rw [show [GTree.out x39.1] = List.map GTree.enc [x39.1] by simp [GTree.enc_out]]
  obtain ⟨h1, h2, x41, ex41, h⟩ := h.get
  refine AOps.append q01 rfl rfl rfl rfl rfl rfl rfl rfl rfl rfl rfl (.inl ⟨_, rfl⟩) (app1 h1) (app2 h2) (app3 ex41) ?_
  refine pP rfl (st (v := .oref _) ?_)
  refine dn ?_
  exact ⟨⟨x39.2, x41⟩, h.1, h.2, (slf (fun i => (if Nat.beq i 3004 then 19 else i)))⟩
 refine AWp.exit ?_
 refine AWp.seq ?_
 refine AWp.freezeB 4 3004 7 rfl rfl rfl rfl rfl ?_
 refine rW (pT rfl (st (v := .dat (.st _ _)) ?_))
 subst h; exact dn (AWp.ret ⟨_, rfl, rfl, rfl⟩)
end Go.Sim.YtifjflhnfjhijaaGreatDoor
